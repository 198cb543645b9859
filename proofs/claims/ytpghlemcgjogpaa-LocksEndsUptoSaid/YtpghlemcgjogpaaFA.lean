import Derived.Test.YtpghlemcgjogpaaProg
import Derived.Test.YtpghlemcgjogpaaSx
import Derived.Test.YtpghlemcgjogpaaT
set_option linter.unusedVariables false
set_option maxRecDepth 100000
set_option maxHeartbeats 400000
namespace Go.Proofs.Ytpghlemcgjogpaa
open Go.Sx
/-! ### hasp/modes.Right -/
noncomputable def F22_b : Code := bodyOf Try.f22
def F22_dc : Nat → List (Nat × Bool)
  | _ => []
def F22_s1_t (R : Ending → World → Prop) (v0 : Value) (w : World) : Prop :=
  uv Try.prog R (binS Go.BinOp.geq 3 (.tmp 3) (.const (Go.Value.int Go.IntKind.i64 1)) v0 (Go.Value.int Go.IntKind.i64 1)) w (fun v4 w => -- modes.go:10
  Gk v4 true (fun k => k v0 w) w (fun v6 w => -- modes.go:10
  Gk v4 true (fun k => uv Try.prog R (binS Go.BinOp.leq 3 (.tmp 6) (.const (Go.Value.int Go.IntKind.i64 6)) v6 (Go.Value.int Go.IntKind.i64 6)) w k) w (fun v7 w => -- modes.go:10
  uv Try.prog R (pickS v4 v7 (Go.Value.bool false)) w (fun v8 w => -- modes.go:10
  R (.returned v8) w))))
theorem F22_s1_st (R : Ending → World → Prop) (X : Nat → Fr → World → Prop) (f : Fr) (w : World) (h : F22_s1_t R (f 0) w) : wpE Try.prog F22_dc (resK Try.prog [.tmp 2] R) (panK R) (.seq (cL F22_b) (cL (cR F22_b))) (resK Try.prog [.tmp 2] R) X f w := Eq.mp (by kernel_rfl) h
def F22_s1 (R : Ending → World → Prop) (v0 : Value) (w : World) : Prop :=
  F22_s1_t R v0 w
noncomputable def F22_s1_c : Code := (.seq (.seq (cL F22_b) (cL (cR F22_b))) .ret)
theorem F22_s1_ok (R : Ending → World → Prop) : ∀ f w, ((fun f w => F22_s1 R (f 0) w)) f w → wpE Try.prog F22_dc (resK Try.prog [.tmp 2] R) (panK R) F22_s1_c (resK Try.prog [.tmp 2] R) noX f w :=
  fun f w h => cut (.seq (cL F22_b) (cL (cR F22_b))) .ret (K := (resK Try.prog [.tmp 2] R)) (fun f w h => ret_ok h) f w (F22_s1_st R _ f w h)
theorem F22_all_e (R : Ending → World → Prop) (K : Fr → World → Prop) (X : Nat → Fr → World → Prop) (f : Fr) (w : World) (h : wpE Try.prog F22_dc (resK Try.prog [.tmp 2] R) (panK R) F22_s1_c K X f w) : wpE Try.prog F22_dc (resK Try.prog [.tmp 2] R) (panK R) F22_b K X f w := Eq.mp (by kernel_rfl) h
theorem F22_calls (R : Ending → World → Prop) (v0 : Value) (w : World) (h : F22_s1 R v0 w) : Calls Try.prog 22 #[v0] w R :=
  calls_of_wpE (dc := F22_dc) (args := [v0]) hmixed Try.func22 (c := F22_b) rfl (rs := [.tmp 2]) rfl (by kernel_rfl) (Nat.le_of_ble_eq_true (by kernel_rfl)) (F22_all_e R _ _ _ w ((F22_s1_ok R) (initFr [v0]) w h))

/-! ### hasp/modes.Join -/
noncomputable def F23_b : Code := bodyOf Try.f23
def F23_dc : Nat → List (Nat × Bool)
  | _ => []
def F23_s3_t (R : Ending → World → Prop) (v0 : Value) (v1 : Value) (w : World) : Prop :=
  un Try.prog R (callFunc 46 #[v0]) w (fun v14 w => -- modes.go:61
  un Try.prog R (callFunc 46 #[v1]) w (fun v16 w => -- modes.go:61
  uv Try.prog R (binS Go.BinOp.or 3 (.tmp 14) (.tmp 16) v14 v16) w (fun v17 w => -- modes.go:61
  un Try.prog R (callFunc 45 #[v17]) w (fun v18 w => -- modes.go:61
  R (.returned v18) w))))
theorem F23_s3_st (R : Ending → World → Prop) (X : Nat → Fr → World → Prop) (f : Fr) (w : World) (h : F23_s3_t R (f 0) (f 1) w) : wpE Try.prog F23_dc (resK Try.prog [.tmp 4] R) (panK R) (cL (cR (cR F23_b))) (resK Try.prog [.tmp 4] R) X f w := Eq.mp (by kernel_rfl) h
def F23_s3 (R : Ending → World → Prop) (v0 : Value) (v1 : Value) (w : World) : Prop :=
  F23_s3_t R v0 v1 w
noncomputable def F23_s3_c : Code := (.seq (cL (cR (cR F23_b))) .ret)
theorem F23_s3_ok (R : Ending → World → Prop) : ∀ f w, ((fun f w => F23_s3 R (f 0) (f 1) w)) f w → wpE Try.prog F23_dc (resK Try.prog [.tmp 4] R) (panK R) F23_s3_c (resK Try.prog [.tmp 4] R) noX f w :=
  fun f w h => cut (cL (cR (cR F23_b))) .ret (K := (resK Try.prog [.tmp 4] R)) (fun f w h => ret_ok h) f w (F23_s3_st R _ f w h)
def F23_s4_t (R : Ending → World → Prop) (w : World) : Prop :=
  R (.returned (Go.Value.int Go.IntKind.i64 0)) w
theorem F23_s4_st (R : Ending → World → Prop) (X : Nat → Fr → World → Prop) (f : Fr) (w : World) (h : F23_s4_t R w) : wpE Try.prog F23_dc (resK Try.prog [.tmp 4] R) (panK R) (cL (cT (cR (cL (cR F23_b))))) (resK Try.prog [.tmp 4] R) X f w := Eq.mp (by kernel_rfl) h
def F23_s4 (R : Ending → World → Prop) (w : World) : Prop :=
  F23_s4_t R w
noncomputable def F23_s4_c : Code := (.seq (cL (cT (cR (cL (cR F23_b))))) .ret)
theorem F23_s4_ok (R : Ending → World → Prop) : ∀ f w, ((fun f w => F23_s4 R w)) f w → wpE Try.prog F23_dc (resK Try.prog [.tmp 4] R) (panK R) F23_s4_c (fun f w => F23_s3 R (f 0) (f 1) w) noX f w :=
  fun f w h => cut (cL (cT (cR (cL (cR F23_b))))) .ret (K := (resK Try.prog [.tmp 4] R)) (fun f w h => ret_ok h) f w (F23_s4_st R _ f w h)
def F23_s2 (R : Ending → World → Prop) (v0 : Value) (v1 : Value) (v12 : Value) (w : World) : Prop :=
  Bc v12
    (F23_s4 R w)
    (F23_s3 R v0 v1 w)
noncomputable def F23_s2_c : Code := (.seq (cR (cL (cR F23_b))) F23_s3_c)
theorem F23_s2_e (R : Ending → World → Prop) (K : Fr → World → Prop) (X : Nat → Fr → World → Prop) (f : Fr) (w : World) (h : Bc (f 12) (wpE Try.prog F23_dc (resK Try.prog [.tmp 4] R) (panK R) F23_s4_c K X f w) (wpE Try.prog F23_dc (resK Try.prog [.tmp 4] R) (panK R) .skip K X f w)) : (wpE Try.prog F23_dc (resK Try.prog [.tmp 4] R) (panK R) (cR (cL (cR F23_b))) K X f w) := Eq.mp (by kernel_rfl) h
theorem F23_s2_ok (R : Ending → World → Prop) : ∀ f w, ((fun f w => F23_s2 R (f 0) (f 1) (f 12) w)) f w → wpE Try.prog F23_dc (resK Try.prog [.tmp 4] R) (panK R) F23_s2_c (resK Try.prog [.tmp 4] R) noX f w :=
  fun f w h => cut (cR (cL (cR F23_b))) F23_s3_c (K := (fun f w => F23_s3 R (f 0) (f 1) w)) (F23_s3_ok R) f w (F23_s2_e R _ _ f w (Bc_imp (x' := (wpE Try.prog F23_dc (resK Try.prog [.tmp 4] R) (panK R) F23_s4_c (fun f w => F23_s3 R (f 0) (f 1) w) noX f w)) (y' := (wpE Try.prog F23_dc (resK Try.prog [.tmp 4] R) (panK R) .skip (fun f w => F23_s3 R (f 0) (f 1) w) noX f w)) ((F23_s4_ok R) f w) ((fun f w h => skip_ok h) f w) h))
def F23_s1_t (R : Ending → World → Prop) (K : Value → Value → Value → World → Prop) (v0 : Value) (v1 : Value) (w : World) : Prop :=
  un Try.prog R (callFunc 44 #[v0]) w (fun v6 w => -- modes.go:58
  uv Try.prog R (Op.unary Go.UnOp.not v6) w (fun v7 w => -- modes.go:58
  Gk v7 false (fun k => k v1 w) w (fun v9 w => -- modes.go:58
  Gk v7 false (fun k => un Try.prog R (callFunc 44 #[v9]) w k) w (fun v10 w => -- modes.go:58
  Gk v7 false (fun k => uv Try.prog R (Op.unary Go.UnOp.not v10) w k) w (fun v11 w => -- modes.go:58
  uv Try.prog R (pickS v7 (Go.Value.bool true) v11) w (fun v12 w => -- modes.go:58
  K v0 v1 v12 w))))))
theorem F23_s1_st (R : Ending → World → Prop) (K : Value → Value → Value → World → Prop) (X : Nat → Fr → World → Prop) (f : Fr) (w : World) (h : F23_s1_t R K (f 0) (f 1) w) : wpE Try.prog F23_dc (resK Try.prog [.tmp 4] R) (panK R) (.seq (cL F23_b) (cL (cL (cR F23_b)))) (fun f w => K (f 0) (f 1) (f 12) w) X f w := Eq.mp (by kernel_rfl) h
def F23_s1 (R : Ending → World → Prop) (v0 : Value) (v1 : Value) (w : World) : Prop :=
  F23_s1_t R (F23_s2 R) v0 v1 w
noncomputable def F23_s1_c : Code := (.seq (.seq (cL F23_b) (cL (cL (cR F23_b)))) F23_s2_c)
theorem F23_s1_ok (R : Ending → World → Prop) : ∀ f w, ((fun f w => F23_s1 R (f 0) (f 1) w)) f w → wpE Try.prog F23_dc (resK Try.prog [.tmp 4] R) (panK R) F23_s1_c (resK Try.prog [.tmp 4] R) noX f w :=
  fun f w h => cut (.seq (cL F23_b) (cL (cL (cR F23_b)))) F23_s2_c (K := (fun f w => F23_s2 R (f 0) (f 1) (f 12) w)) (F23_s2_ok R) f w (F23_s1_st R (F23_s2 R) _ f w h)
theorem F23_all_e (R : Ending → World → Prop) (K : Fr → World → Prop) (X : Nat → Fr → World → Prop) (f : Fr) (w : World) (h : wpE Try.prog F23_dc (resK Try.prog [.tmp 4] R) (panK R) F23_s1_c K X f w) : wpE Try.prog F23_dc (resK Try.prog [.tmp 4] R) (panK R) F23_b K X f w := Eq.mp (by kernel_rfl) h
theorem F23_calls (R : Ending → World → Prop) (v0 : Value) (v1 : Value) (w : World) (h : F23_s1 R v0 v1 w) : Calls Try.prog 23 #[v0, v1] w R :=
  calls_of_wpE (dc := F23_dc) (args := [v0, v1]) hmixed Try.func23 (c := F23_b) rfl (rs := [.tmp 4]) rfl (by kernel_rfl) (Nat.le_of_ble_eq_true (by kernel_rfl)) (F23_all_e R _ _ _ w ((F23_s1_ok R) (initFr [v0, v1]) w h))

/-! ### slices.rotateRight[hasp/locks.wish] -/
noncomputable def F48_b : Code := bodyOf Try.f48
def F48_dc : Nat → List (Nat × Bool)
  | _ => []
def F48_s1_t (R : Ending → World → Prop) (v0 : Value) (v1 : Value) (w : World) : Prop :=
  un Try.prog R (builtin Go.Builtin.len #[57] 3 #[false] #[v0]) w (fun v6 w => -- slices.go:451
  uv Try.prog R (binS Go.BinOp.sub 3 (.tmp 6) (.tmp 7) v6 v1) w (fun v8 w => -- slices.go:451
  un Try.prog R (callFunc 59 #[v0, v8]) w (fun v9 w => -- slices.go:451
  R (.returned (.tuple #[])) w)))
theorem F48_s1_st (R : Ending → World → Prop) (X : Nat → Fr → World → Prop) (f : Fr) (w : World) (h : F48_s1_t R (f 0) (f 1) w) : wpE Try.prog F48_dc (resK Try.prog [] R) (panK R) F48_b (resK Try.prog [] R) X f w := Eq.mp (by kernel_rfl) h
def F48_s1 (R : Ending → World → Prop) (v0 : Value) (v1 : Value) (w : World) : Prop :=
  F48_s1_t R v0 v1 w
noncomputable def F48_s1_c : Code := (.seq F48_b .skip)
theorem F48_s1_ok (R : Ending → World → Prop) : ∀ f w, ((fun f w => F48_s1 R (f 0) (f 1) w)) f w → wpE Try.prog F48_dc (resK Try.prog [] R) (panK R) F48_s1_c (resK Try.prog [] R) noX f w :=
  fun f w h => cut F48_b .skip (K := (resK Try.prog [] R)) (fun f w h => skip_ok h) f w (F48_s1_st R _ f w h)
theorem F48_all_e (R : Ending → World → Prop) (K : Fr → World → Prop) (X : Nat → Fr → World → Prop) (f : Fr) (w : World) (h : wpE Try.prog F48_dc (resK Try.prog [] R) (panK R) F48_s1_c K X f w) : wpE Try.prog F48_dc (resK Try.prog [] R) (panK R) F48_b K X f w := Eq.mp (by kernel_rfl) h
theorem F48_calls (R : Ending → World → Prop) (v0 : Value) (v1 : Value) (w : World) (h : F48_s1 R v0 v1 w) : Calls Try.prog 48 #[v0, v1] w R :=
  calls_of_wpE (dc := F48_dc) (args := [v0, v1]) hmixed Try.func48 (c := F48_b) rfl (rs := []) rfl (by kernel_rfl) (Nat.le_of_ble_eq_true (by kernel_rfl)) (F48_all_e R _ _ _ w ((F48_s1_ok R) (initFr [v0, v1]) w h))

/-! ### hasp/modes.known -/
noncomputable def F44_b : Code := bodyOf Try.f44
def F44_dc : Nat → List (Nat × Bool)
  | _ => []
def F44_s1_t (R : Ending → World → Prop) (v0 : Value) (w : World) : Prop :=
  uv Try.prog R (binS Go.BinOp.eql 3 (.tmp 3) (.const (Go.Value.int Go.IntKind.i64 0)) v0 (Go.Value.int Go.IntKind.i64 0)) w (fun v4 w => -- modes.go:12
  Gk v4 false (fun k => k v0 w) w (fun v6 w => -- modes.go:12
  Gk v4 false (fun k => un Try.prog R (callFunc 22 #[v6]) w k) w (fun v7 w => -- modes.go:12
  uv Try.prog R (pickS v4 (Go.Value.bool true) v7) w (fun v8 w => -- modes.go:12
  R (.returned v8) w))))
theorem F44_s1_st (R : Ending → World → Prop) (X : Nat → Fr → World → Prop) (f : Fr) (w : World) (h : F44_s1_t R (f 0) w) : wpE Try.prog F44_dc (resK Try.prog [.tmp 2] R) (panK R) (.seq (cL F44_b) (cL (cR F44_b))) (resK Try.prog [.tmp 2] R) X f w := Eq.mp (by kernel_rfl) h
def F44_s1 (R : Ending → World → Prop) (v0 : Value) (w : World) : Prop :=
  F44_s1_t R v0 w
noncomputable def F44_s1_c : Code := (.seq (.seq (cL F44_b) (cL (cR F44_b))) .ret)
theorem F44_s1_ok (R : Ending → World → Prop) : ∀ f w, ((fun f w => F44_s1 R (f 0) w)) f w → wpE Try.prog F44_dc (resK Try.prog [.tmp 2] R) (panK R) F44_s1_c (resK Try.prog [.tmp 2] R) noX f w :=
  fun f w h => cut (.seq (cL F44_b) (cL (cR F44_b))) .ret (K := (resK Try.prog [.tmp 2] R)) (fun f w h => ret_ok h) f w (F44_s1_st R _ f w h)
theorem F44_all_e (R : Ending → World → Prop) (K : Fr → World → Prop) (X : Nat → Fr → World → Prop) (f : Fr) (w : World) (h : wpE Try.prog F44_dc (resK Try.prog [.tmp 2] R) (panK R) F44_s1_c K X f w) : wpE Try.prog F44_dc (resK Try.prog [.tmp 2] R) (panK R) F44_b K X f w := Eq.mp (by kernel_rfl) h
theorem F44_calls (R : Ending → World → Prop) (v0 : Value) (w : World) (h : F44_s1 R v0 w) : Calls Try.prog 44 #[v0] w R :=
  calls_of_wpE (dc := F44_dc) (args := [v0]) hmixed Try.func44 (c := F44_b) rfl (rs := [.tmp 2]) rfl (by kernel_rfl) (Nat.le_of_ble_eq_true (by kernel_rfl)) (F44_all_e R _ _ _ w ((F44_s1_ok R) (initFr [v0]) w h))

/-! ### hasp/modes.weakest -/
noncomputable def F45_b : Code := bodyOf Try.f45
def F45_dc : Nat → List (Nat × Bool)
  | _ => []
def F45_s3_t (R : Ending → World → Prop) (w : World) : Prop :=
  R (.returned (Go.Value.int Go.IntKind.i64 6)) w
theorem F45_s3_st (R : Ending → World → Prop) (X : Nat → Fr → World → Prop) (f : Fr) (w : World) (h : F45_s3_t R w) : wpE Try.prog F45_dc (resK Try.prog [.tmp 2] R) (panK R) (cL (cR (cR F45_b))) (resK Try.prog [.tmp 2] R) X f w := Eq.mp (by kernel_rfl) h
def F45_s3 (R : Ending → World → Prop) (w : World) : Prop :=
  F45_s3_t R w
noncomputable def F45_s3_c : Code := (.seq (cL (cR (cR F45_b))) .ret)
theorem F45_s3_ok (R : Ending → World → Prop) : ∀ f w, ((fun f w => F45_s3 R w)) f w → wpE Try.prog F45_dc (resK Try.prog [.tmp 2] R) (panK R) F45_s3_c (resK Try.prog [.tmp 2] R) noX f w :=
  fun f w h => cut (cL (cR (cR F45_b))) .ret (K := (resK Try.prog [.tmp 2] R)) (fun f w h => ret_ok h) f w (F45_s3_st R _ f w h)
def F45_s8_t (R : Ending → World → Prop) (K : Value → World → Prop) (v0 : Value) (v5 : Value) (v6 : Value) (w : World) : Prop :=
  uv Try.prog R (binS Go.BinOp.add 3 (.tmp 6) (.const (Go.Value.int Go.IntKind.i64 1)) v6 (Go.Value.int Go.IntKind.i64 1)) w (fun v16 w => -- modes.go:35
  K v16 w)
theorem F45_s8_st (R : Ending → World → Prop) (K : Value → World → Prop) (X : Nat → Fr → World → Prop) (f : Fr) (w : World) (h : F45_s8_t R K (f 0) (f 5) (f 6) w) : wpE Try.prog F45_dc (resK Try.prog [.tmp 2] R) (panK R) (cR (cR (cR (cI (cI (cR (cL (cR F45_b)))))))) (fun f w => K (f 6) w) X f w := Eq.mp (by kernel_rfl) h
def F45_s8 (R : Ending → World → Prop) (rec4 : Value → World → Prop) (v0 : Value) (v5 : Value) (v6 : Value) (w : World) : Prop :=
  F45_s8_t R (rec4) v0 v5 v6 w
noncomputable def F45_s8_c : Code := (.seq (cR (cR (cR (cI (cI (cR (cL (cR F45_b)))))))) .skip)
theorem F45_s8_ok (R : Ending → World → Prop) (rec4 : Value → World → Prop) : ∀ f w, ((fun f w => F45_s8 R rec4 (f 0) (f 5) (f 6) w)) f w → wpE Try.prog F45_dc (resK Try.prog [.tmp 2] R) (panK R) F45_s8_c (fun f w => rec4 (f 6) w) (kxB 0 ((fun f w => F45_s3 R w)) noX) f w :=
  fun f w h => cut (cR (cR (cR (cI (cI (cR (cL (cR F45_b)))))))) .skip (K := (fun f w => rec4 (f 6) w)) (fun f w h => skip_ok h) f w (F45_s8_st R (rec4) _ f w h)
def F45_s11_t (R : Ending → World → Prop) (v4 : Value) (w : World) : Prop :=
  R (.returned v4) w
theorem F45_s11_st (R : Ending → World → Prop) (X : Nat → Fr → World → Prop) (f : Fr) (w : World) (h : F45_s11_t R (f 4) w) : wpE Try.prog F45_dc (resK Try.prog [.tmp 2] R) (panK R) (cL (cT (cR (cR (cI (cL (cR (cR (cI (cI (cR (cL (cR F45_b))))))))))))) (resK Try.prog [.tmp 2] R) X f w := Eq.mp (by kernel_rfl) h
def F45_s11 (R : Ending → World → Prop) (rec4 : Value → World → Prop) (v4 : Value) (w : World) : Prop :=
  F45_s11_t R v4 w
noncomputable def F45_s11_c : Code := (.seq (cL (cT (cR (cR (cI (cL (cR (cR (cI (cI (cR (cL (cR F45_b))))))))))))) .ret)
theorem F45_s11_ok (R : Ending → World → Prop) (rec4 : Value → World → Prop) : ∀ f w, ((fun f w => F45_s11 R rec4 (f 4) w)) f w → wpE Try.prog F45_dc (resK Try.prog [.tmp 2] R) (panK R) F45_s11_c (fun f w => F45_s8 R rec4 (f 0) (f 5) (f 6) w) (kxB 1 ((fun f w => F45_s8 R rec4 (f 0) (f 5) (f 6) w)) (kxB 0 ((fun f w => F45_s3 R w)) noX)) f w :=
  fun f w h => cut (cL (cT (cR (cR (cI (cL (cR (cR (cI (cI (cR (cL (cR F45_b))))))))))))) .ret (K := (resK Try.prog [.tmp 2] R)) (fun f w h => ret_ok h) f w (F45_s11_st R _ f w h)
def F45_s10 (R : Ending → World → Prop) (rec4 : Value → World → Prop) (v0 : Value) (v4 : Value) (v5 : Value) (v6 : Value) (v14 : Value) (w : World) : Prop :=
  Bc v14
    (F45_s11 R rec4 v4 w)
    (F45_s8 R rec4 v0 v5 v6 w)
noncomputable def F45_s10_c : Code := (.seq (cR (cR (cI (cL (cR (cR (cI (cI (cR (cL (cR F45_b))))))))))) .skip)
theorem F45_s10_e (R : Ending → World → Prop) (K : Fr → World → Prop) (X : Nat → Fr → World → Prop) (f : Fr) (w : World) (h : Bc (f 14) (wpE Try.prog F45_dc (resK Try.prog [.tmp 2] R) (panK R) F45_s11_c K X f w) (wpE Try.prog F45_dc (resK Try.prog [.tmp 2] R) (panK R) .skip K X f w)) : (wpE Try.prog F45_dc (resK Try.prog [.tmp 2] R) (panK R) (cR (cR (cI (cL (cR (cR (cI (cI (cR (cL (cR F45_b))))))))))) K X f w) := Eq.mp (by kernel_rfl) h
theorem F45_s10_ok (R : Ending → World → Prop) (rec4 : Value → World → Prop) : ∀ f w, ((fun f w => F45_s10 R rec4 (f 0) (f 4) (f 5) (f 6) (f 14) w)) f w → wpE Try.prog F45_dc (resK Try.prog [.tmp 2] R) (panK R) F45_s10_c (fun f w => F45_s8 R rec4 (f 0) (f 5) (f 6) w) (kxB 1 ((fun f w => F45_s8 R rec4 (f 0) (f 5) (f 6) w)) (kxB 0 ((fun f w => F45_s3 R w)) noX)) f w :=
  fun f w h => cut (cR (cR (cI (cL (cR (cR (cI (cI (cR (cL (cR F45_b))))))))))) .skip (K := (fun f w => F45_s8 R rec4 (f 0) (f 5) (f 6) w)) (fun f w h => skip_ok h) f w (F45_s10_e R _ _ f w (Bc_imp (x' := (wpE Try.prog F45_dc (resK Try.prog [.tmp 2] R) (panK R) F45_s11_c (fun f w => F45_s8 R rec4 (f 0) (f 5) (f 6) w) (kxB 1 ((fun f w => F45_s8 R rec4 (f 0) (f 5) (f 6) w)) (kxB 0 ((fun f w => F45_s3 R w)) noX)) f w)) (y' := (wpE Try.prog F45_dc (resK Try.prog [.tmp 2] R) (panK R) .skip (fun f w => F45_s8 R rec4 (f 0) (f 5) (f 6) w) (kxB 1 ((fun f w => F45_s8 R rec4 (f 0) (f 5) (f 6) w)) (kxB 0 ((fun f w => F45_s3 R w)) noX)) f w)) ((F45_s11_ok R rec4) f w) ((fun f w h => skip_ok h) f w) h))
def F45_s9_t (R : Ending → World → Prop) (K : Value → Value → Value → Value → Value → World → Prop) (v0 : Value) (v5 : Value) (v6 : Value) (w : World) : Prop :=
  uv Try.prog R (Instr.index 96 v5 v6) w (fun v8 w => -- modes.go:35
  un Try.prog R (callFunc 46 #[v8]) w (fun v10 w => -- modes.go:36
  uv Try.prog R (binS Go.BinOp.and 3 (.tmp 10) (.tmp 11) v10 v0) w (fun v12 w => -- modes.go:36
  uv Try.prog R (binS Go.BinOp.eql 3 (.tmp 12) (.tmp 13) v12 v0) w (fun v14 w => -- modes.go:36
  K v0 v8 v5 v6 v14 w))))
theorem F45_s9_st (R : Ending → World → Prop) (K : Value → Value → Value → Value → Value → World → Prop) (X : Nat → Fr → World → Prop) (f : Fr) (w : World) (h : F45_s9_t R K (f 0) (f 5) (f 6) w) : wpE Try.prog F45_dc (resK Try.prog [.tmp 2] R) (panK R) (.seq (cL (cI (cL (cR (cR (cI (cI (cR (cL (cR F45_b)))))))))) (cL (cR (cI (cL (cR (cR (cI (cI (cR (cL (cR F45_b)))))))))))) (fun f w => K (f 0) (f 4) (f 5) (f 6) (f 14) w) X f w := Eq.mp (by kernel_rfl) h
def F45_s9 (R : Ending → World → Prop) (rec4 : Value → World → Prop) (v0 : Value) (v5 : Value) (v6 : Value) (w : World) : Prop :=
  F45_s9_t R (F45_s10 R rec4) v0 v5 v6 w
noncomputable def F45_s9_c : Code := (.seq (.seq (cL (cI (cL (cR (cR (cI (cI (cR (cL (cR F45_b)))))))))) (cL (cR (cI (cL (cR (cR (cI (cI (cR (cL (cR F45_b)))))))))))) F45_s10_c)
theorem F45_s9_ok (R : Ending → World → Prop) (rec4 : Value → World → Prop) : ∀ f w, ((fun f w => F45_s9 R rec4 (f 0) (f 5) (f 6) w)) f w → wpE Try.prog F45_dc (resK Try.prog [.tmp 2] R) (panK R) F45_s9_c (fun f w => F45_s8 R rec4 (f 0) (f 5) (f 6) w) (kxB 1 ((fun f w => F45_s8 R rec4 (f 0) (f 5) (f 6) w)) (kxB 0 ((fun f w => F45_s3 R w)) noX)) f w :=
  fun f w h => cut (.seq (cL (cI (cL (cR (cR (cI (cI (cR (cL (cR F45_b)))))))))) (cL (cR (cI (cL (cR (cR (cI (cI (cR (cL (cR F45_b)))))))))))) F45_s10_c (K := (fun f w => F45_s10 R rec4 (f 0) (f 4) (f 5) (f 6) (f 14) w)) (F45_s10_ok R rec4) f w (F45_s9_st R (F45_s10 R rec4) _ f w h)
noncomputable def F45_s7_c : Code := (.seq (cL (cR (cR (cI (cI (cR (cL (cR F45_b)))))))) F45_s8_c)
theorem F45_s7_e (R : Ending → World → Prop) (K : Fr → World → Prop) (X : Nat → Fr → World → Prop) (f : Fr) (w : World) (h : wpE Try.prog F45_dc (resK Try.prog [.tmp 2] R) (panK R) F45_s9_c K (kxB 1 K X) f w) : wpE Try.prog F45_dc (resK Try.prog [.tmp 2] R) (panK R) (cL (cR (cR (cI (cI (cR (cL (cR F45_b)))))))) K X f w := Eq.mp (by kernel_rfl) h
theorem F45_s7_ok (R : Ending → World → Prop) (rec4 : Value → World → Prop) : ∀ f w, ((fun f w => F45_s9 R rec4 (f 0) (f 5) (f 6) w)) f w → wpE Try.prog F45_dc (resK Try.prog [.tmp 2] R) (panK R) F45_s7_c (fun f w => rec4 (f 6) w) (kxB 0 ((fun f w => F45_s3 R w)) noX) f w :=
  fun f w h => cut (cL (cR (cR (cI (cI (cR (cL (cR F45_b)))))))) F45_s8_c (K := (fun f w => F45_s8 R rec4 (f 0) (f 5) (f 6) w)) (F45_s8_ok R rec4) f w (F45_s7_e R _ _ f w ((F45_s9_ok R rec4) f w h))
def F45_s6 (R : Ending → World → Prop) (rec4 : Value → World → Prop) (v0 : Value) (v5 : Value) (v6 : Value) (v7 : Value) (w : World) : Prop :=
  Bc v7
    (F45_s9 R rec4 v0 v5 v6 w)
    (F45_s3 R w)
noncomputable def F45_s6_c : Code := (.seq (cL (cR (cI (cI (cR (cL (cR F45_b))))))) F45_s7_c)
theorem F45_s6_e (R : Ending → World → Prop) (K : Fr → World → Prop) (X : Nat → Fr → World → Prop) (f : Fr) (w : World) (h : Bc (f 7) (wpE Try.prog F45_dc (resK Try.prog [.tmp 2] R) (panK R) .skip K X f w) (wpE Try.prog F45_dc (resK Try.prog [.tmp 2] R) (panK R) (.exit 0) K X f w)) : (wpE Try.prog F45_dc (resK Try.prog [.tmp 2] R) (panK R) (cL (cR (cI (cI (cR (cL (cR F45_b))))))) K X f w) := Eq.mp (by kernel_rfl) h
theorem F45_s6_ok (R : Ending → World → Prop) (rec4 : Value → World → Prop) : ∀ f w, ((fun f w => F45_s6 R rec4 (f 0) (f 5) (f 6) (f 7) w)) f w → wpE Try.prog F45_dc (resK Try.prog [.tmp 2] R) (panK R) F45_s6_c (fun f w => rec4 (f 6) w) (kxB 0 ((fun f w => F45_s3 R w)) noX) f w :=
  fun f w h => cut (cL (cR (cI (cI (cR (cL (cR F45_b))))))) F45_s7_c (K := (fun f w => F45_s9 R rec4 (f 0) (f 5) (f 6) w)) (F45_s7_ok R rec4) f w (F45_s6_e R _ _ f w (Bc_imp (x' := (wpE Try.prog F45_dc (resK Try.prog [.tmp 2] R) (panK R) .skip (fun f w => F45_s9 R rec4 (f 0) (f 5) (f 6) w) (kxB 0 ((fun f w => F45_s3 R w)) noX) f w)) (y' := (wpE Try.prog F45_dc (resK Try.prog [.tmp 2] R) (panK R) (.exit 0) (fun f w => F45_s9 R rec4 (f 0) (f 5) (f 6) w) (kxB 0 ((fun f w => F45_s3 R w)) noX) f w)) ((fun f w h => skip_ok h) f w) ((fun f w h => exit_hit h) f w) h))
def F45_s5_t (R : Ending → World → Prop) (K : Value → Value → Value → Value → World → Prop) (v0 : Value) (v5 : Value) (v6 : Value) (w : World) : Prop :=
  uv Try.prog R (binS Go.BinOp.lss 3 (.tmp 6) (.const (Go.Value.int Go.IntKind.i64 7)) v6 (Go.Value.int Go.IntKind.i64 7)) w (fun v7 w => -- modes.go:35
  K v0 v5 v6 v7 w)
theorem F45_s5_st (R : Ending → World → Prop) (K : Value → Value → Value → Value → World → Prop) (X : Nat → Fr → World → Prop) (f : Fr) (w : World) (h : F45_s5_t R K (f 0) (f 5) (f 6) w) : wpE Try.prog F45_dc (resK Try.prog [.tmp 2] R) (panK R) (cL (cI (cI (cR (cL (cR F45_b)))))) (fun f w => K (f 0) (f 5) (f 6) (f 7) w) X f w := Eq.mp (by kernel_rfl) h
def F45_s5 (R : Ending → World → Prop) (rec4 : Value → World → Prop) (v0 : Value) (v5 : Value) (v6 : Value) (w : World) : Prop :=
  F45_s5_t R (F45_s6 R rec4) v0 v5 v6 w
noncomputable def F45_s5_c : Code := (.seq (cL (cI (cI (cR (cL (cR F45_b)))))) F45_s6_c)
theorem F45_s5_ok (R : Ending → World → Prop) (rec4 : Value → World → Prop) : ∀ f w, ((fun f w => F45_s5 R rec4 (f 0) (f 5) (f 6) w)) f w → wpE Try.prog F45_dc (resK Try.prog [.tmp 2] R) (panK R) F45_s5_c (fun f w => rec4 (f 6) w) (kxB 0 ((fun f w => F45_s3 R w)) noX) f w :=
  fun f w h => cut (cL (cI (cI (cR (cL (cR F45_b)))))) F45_s6_c (K := (fun f w => F45_s6 R rec4 (f 0) (f 5) (f 6) (f 7) w)) (F45_s6_ok R rec4) f w (F45_s5_st R (F45_s6 R rec4) _ f w h)
def F45_s4 (R : Ending → World → Prop) (v0 : Value) (v5 : Value) (v6 : Value) (w : World) : Prop :=
  Lp1 (fun rec4 v6 w => F45_s5 R rec4 v0 v5 v6 w) v6 w
theorem F45_s4_e (R : Ending → World → Prop) (K : Fr → World → Prop) (X : Nat → Fr → World → Prop) (f : Fr) (w : World) (h : wpE Try.prog F45_dc (resK Try.prog [.tmp 2] R) (panK R) (.loop (cI (cI (cR (cL (cR F45_b)))))) K X f w) : wpE Try.prog F45_dc (resK Try.prog [.tmp 2] R) (panK R) (cI (cR (cL (cR F45_b)))) K X f w := Eq.mp (by kernel_rfl) h
theorem F45_s4b_e (R : Ending → World → Prop) (K : Fr → World → Prop) (X : Nat → Fr → World → Prop) (f : Fr) (w : World) (h : wpE Try.prog F45_dc (resK Try.prog [.tmp 2] R) (panK R) F45_s5_c K X f w) : wpE Try.prog F45_dc (resK Try.prog [.tmp 2] R) (panK R) (cI (cI (cR (cL (cR F45_b))))) K X f w := Eq.mp (by kernel_rfl) h
theorem F45_s4_ok (R : Ending → World → Prop) : ∀ f w, ((fun f w => F45_s4 R (f 0) (f 5) (f 6) w)) f w → wpE Try.prog F45_dc (resK Try.prog [.tmp 2] R) (panK R) (cI (cR (cL (cR F45_b)))) (fun f w => F45_s3 R w) (kxB 0 ((fun f w => F45_s3 R w)) noX) f w :=
  fun f w h => F45_s4_e R _ _ f w (loop1_ok (P := Try.prog) (dc := F45_dc) (kr := (resK Try.prog [.tmp 2] R)) (pan := panK R) (cI (cI (cR (cL (cR F45_b))))) (kn := (fun f w => F45_s3 R w)) (kx := (kxB 0 ((fun f w => F45_s3 R w)) noX)) (s0 := 6) (fun rec4 v6 w => F45_s5 R rec4 (f 0) (f 5) v6 w) f (fun rec4 f' w' hf h' => F45_s4b_e R _ _ f' w' ((F45_s5_ok R rec4) f' w' (by simp only [hf 0 (by kernel_rfl), hf 5 (by kernel_rfl)]; exact h'))) w h)
noncomputable def F45_s2_c : Code := (.seq (cR (cL (cR F45_b))) F45_s3_c)
theorem F45_s2_e (R : Ending → World → Prop) (K : Fr → World → Prop) (X : Nat → Fr → World → Prop) (f : Fr) (w : World) (h : wpE Try.prog F45_dc (resK Try.prog [.tmp 2] R) (panK R) (cI (cR (cL (cR F45_b)))) K (kxB 0 K X) f w) : wpE Try.prog F45_dc (resK Try.prog [.tmp 2] R) (panK R) (cR (cL (cR F45_b))) K X f w := Eq.mp (by kernel_rfl) h
theorem F45_s2_ok (R : Ending → World → Prop) : ∀ f w, ((fun f w => F45_s4 R (f 0) (f 5) (f 6) w)) f w → wpE Try.prog F45_dc (resK Try.prog [.tmp 2] R) (panK R) F45_s2_c (resK Try.prog [.tmp 2] R) noX f w :=
  fun f w h => cut (cR (cL (cR F45_b))) F45_s3_c (K := (fun f w => F45_s3 R w)) (F45_s3_ok R) f w (F45_s2_e R _ _ f w ((F45_s4_ok R) f w h))
def F45_s1_t (R : Ending → World → Prop) (K : Value → Value → Value → World → Prop) (v0 : Value) (w : World) : Prop :=
  uv Try.prog R (Instr.build 96 #[(0, (Go.Value.int Go.IntKind.i64 0)), (1, (Go.Value.int Go.IntKind.i64 1)), (2, (Go.Value.int Go.IntKind.i64 2)), (3, (Go.Value.int Go.IntKind.i64 3)), (4, (Go.Value.int Go.IntKind.i64 4)), (5, (Go.Value.int Go.IntKind.i64 5)), (6, (Go.Value.int Go.IntKind.i64 6))]) w (fun v5 w => -- modes.go:35
  K v0 v5 (Go.Value.int Go.IntKind.i64 0) w)
theorem F45_s1_st (R : Ending → World → Prop) (K : Value → Value → Value → World → Prop) (X : Nat → Fr → World → Prop) (f : Fr) (w : World) (h : F45_s1_t R K (f 0) w) : wpE Try.prog F45_dc (resK Try.prog [.tmp 2] R) (panK R) (.seq (cL F45_b) (cL (cL (cR F45_b)))) (fun f w => K (f 0) (f 5) (f 6) w) X f w := Eq.mp (by kernel_rfl) h
def F45_s1 (R : Ending → World → Prop) (v0 : Value) (w : World) : Prop :=
  F45_s1_t R (F45_s4 R) v0 w
noncomputable def F45_s1_c : Code := (.seq (.seq (cL F45_b) (cL (cL (cR F45_b)))) F45_s2_c)
theorem F45_s1_ok (R : Ending → World → Prop) : ∀ f w, ((fun f w => F45_s1 R (f 0) w)) f w → wpE Try.prog F45_dc (resK Try.prog [.tmp 2] R) (panK R) F45_s1_c (resK Try.prog [.tmp 2] R) noX f w :=
  fun f w h => cut (.seq (cL F45_b) (cL (cL (cR F45_b)))) F45_s2_c (K := (fun f w => F45_s4 R (f 0) (f 5) (f 6) w)) (F45_s2_ok R) f w (F45_s1_st R (F45_s4 R) _ f w h)
theorem F45_all_e (R : Ending → World → Prop) (K : Fr → World → Prop) (X : Nat → Fr → World → Prop) (f : Fr) (w : World) (h : wpE Try.prog F45_dc (resK Try.prog [.tmp 2] R) (panK R) F45_s1_c K X f w) : wpE Try.prog F45_dc (resK Try.prog [.tmp 2] R) (panK R) F45_b K X f w := Eq.mp (by kernel_rfl) h
theorem F45_calls (R : Ending → World → Prop) (v0 : Value) (w : World) (h : F45_s1 R v0 w) : Calls Try.prog 45 #[v0] w R :=
  calls_of_wpE (dc := F45_dc) (args := [v0]) hmixed Try.func45 (c := F45_b) rfl (rs := [.tmp 2]) rfl (by kernel_rfl) (Nat.le_of_ble_eq_true (by kernel_rfl)) (F45_all_e R _ _ _ w ((F45_s1_ok R) (initFr [v0]) w h))

/-! ### hasp/modes.rights -/
noncomputable def F46_b : Code := bodyOf Try.f46
def F46_dc : Nat → List (Nat × Bool)
  | _ => []
def F46_s3_t (R : Ending → World → Prop) (w : World) : Prop :=
  R (.returned (Go.Value.int Go.IntKind.i64 0)) w
theorem F46_s3_st (R : Ending → World → Prop) (X : Nat → Fr → World → Prop) (f : Fr) (w : World) (h : F46_s3_t R w) : wpE Try.prog F46_dc (resK Try.prog [.tmp 2] R) (panK R) (cL (cR (cR F46_b))) (resK Try.prog [.tmp 2] R) X f w := Eq.mp (by kernel_rfl) h
def F46_s3 (R : Ending → World → Prop) (w : World) : Prop :=
  F46_s3_t R w
noncomputable def F46_s3_c : Code := (.seq (cL (cR (cR F46_b))) .ret)
theorem F46_s3_ok (R : Ending → World → Prop) : ∀ f w, ((fun f w => F46_s3 R w)) f w → wpE Try.prog F46_dc (resK Try.prog [.tmp 2] R) (panK R) F46_s3_c (resK Try.prog [.tmp 2] R) noX f w :=
  fun f w h => cut (cL (cR (cR F46_b))) .ret (K := (resK Try.prog [.tmp 2] R)) (fun f w h => ret_ok h) f w (F46_s3_st R _ f w h)
def F46_s6_t (R : Ending → World → Prop) (w : World) : Prop :=
  R (.returned (Go.Value.int Go.IntKind.i64 1)) w
theorem F46_s6_st (R : Ending → World → Prop) (X : Nat → Fr → World → Prop) (f : Fr) (w : World) (h : F46_s6_t R w) : wpE Try.prog F46_dc (resK Try.prog [.tmp 2] R) (panK R) (cL (cT (cR (cI (cR (cL (cR F46_b))))))) (resK Try.prog [.tmp 2] R) X f w := Eq.mp (by kernel_rfl) h
def F46_s6 (R : Ending → World → Prop) (w : World) : Prop :=
  F46_s6_t R w
noncomputable def F46_s6_c : Code := (.seq (cL (cT (cR (cI (cR (cL (cR F46_b))))))) .ret)
theorem F46_s6_ok (R : Ending → World → Prop) : ∀ f w, ((fun f w => F46_s6 R w)) f w → wpE Try.prog F46_dc (resK Try.prog [.tmp 2] R) (panK R) F46_s6_c (fun f w => F46_s3 R w) (kxB 0 ((fun f w => F46_s3 R w)) noX) f w :=
  fun f w h => cut (cL (cT (cR (cI (cR (cL (cR F46_b))))))) .ret (K := (resK Try.prog [.tmp 2] R)) (fun f w h => ret_ok h) f w (F46_s6_st R _ f w h)
def F46_s9_t (R : Ending → World → Prop) (w : World) : Prop :=
  R (.returned (Go.Value.int Go.IntKind.i64 3)) w
theorem F46_s9_st (R : Ending → World → Prop) (X : Nat → Fr → World → Prop) (f : Fr) (w : World) (h : F46_s9_t R w) : wpE Try.prog F46_dc (resK Try.prog [.tmp 2] R) (panK R) (cL (cT (cR (cF (cR (cI (cR (cL (cR F46_b))))))))) (resK Try.prog [.tmp 2] R) X f w := Eq.mp (by kernel_rfl) h
def F46_s9 (R : Ending → World → Prop) (w : World) : Prop :=
  F46_s9_t R w
noncomputable def F46_s9_c : Code := (.seq (cL (cT (cR (cF (cR (cI (cR (cL (cR F46_b))))))))) .ret)
theorem F46_s9_ok (R : Ending → World → Prop) : ∀ f w, ((fun f w => F46_s9 R w)) f w → wpE Try.prog F46_dc (resK Try.prog [.tmp 2] R) (panK R) F46_s9_c (fun f w => F46_s3 R w) (kxB 0 ((fun f w => F46_s3 R w)) noX) f w :=
  fun f w h => cut (cL (cT (cR (cF (cR (cI (cR (cL (cR F46_b))))))))) .ret (K := (resK Try.prog [.tmp 2] R)) (fun f w h => ret_ok h) f w (F46_s9_st R _ f w h)
def F46_s12_t (R : Ending → World → Prop) (w : World) : Prop :=
  R (.returned (Go.Value.int Go.IntKind.i64 5)) w
theorem F46_s12_st (R : Ending → World → Prop) (X : Nat → Fr → World → Prop) (f : Fr) (w : World) (h : F46_s12_t R w) : wpE Try.prog F46_dc (resK Try.prog [.tmp 2] R) (panK R) (cL (cT (cR (cF (cR (cF (cR (cI (cR (cL (cR F46_b))))))))))) (resK Try.prog [.tmp 2] R) X f w := Eq.mp (by kernel_rfl) h
def F46_s12 (R : Ending → World → Prop) (w : World) : Prop :=
  F46_s12_t R w
noncomputable def F46_s12_c : Code := (.seq (cL (cT (cR (cF (cR (cF (cR (cI (cR (cL (cR F46_b))))))))))) .ret)
theorem F46_s12_ok (R : Ending → World → Prop) : ∀ f w, ((fun f w => F46_s12 R w)) f w → wpE Try.prog F46_dc (resK Try.prog [.tmp 2] R) (panK R) F46_s12_c (fun f w => F46_s3 R w) (kxB 0 ((fun f w => F46_s3 R w)) noX) f w :=
  fun f w h => cut (cL (cT (cR (cF (cR (cF (cR (cI (cR (cL (cR F46_b))))))))))) .ret (K := (resK Try.prog [.tmp 2] R)) (fun f w h => ret_ok h) f w (F46_s12_st R _ f w h)
def F46_s15_t (R : Ending → World → Prop) (w : World) : Prop :=
  R (.returned (Go.Value.int Go.IntKind.i64 7)) w
theorem F46_s15_st (R : Ending → World → Prop) (X : Nat → Fr → World → Prop) (f : Fr) (w : World) (h : F46_s15_t R w) : wpE Try.prog F46_dc (resK Try.prog [.tmp 2] R) (panK R) (cL (cT (cR (cF (cR (cF (cR (cF (cR (cI (cR (cL (cR F46_b))))))))))))) (resK Try.prog [.tmp 2] R) X f w := Eq.mp (by kernel_rfl) h
def F46_s15 (R : Ending → World → Prop) (w : World) : Prop :=
  F46_s15_t R w
noncomputable def F46_s15_c : Code := (.seq (cL (cT (cR (cF (cR (cF (cR (cF (cR (cI (cR (cL (cR F46_b))))))))))))) .ret)
theorem F46_s15_ok (R : Ending → World → Prop) : ∀ f w, ((fun f w => F46_s15 R w)) f w → wpE Try.prog F46_dc (resK Try.prog [.tmp 2] R) (panK R) F46_s15_c (fun f w => F46_s3 R w) (kxB 0 ((fun f w => F46_s3 R w)) noX) f w :=
  fun f w h => cut (cL (cT (cR (cF (cR (cF (cR (cF (cR (cI (cR (cL (cR F46_b))))))))))))) .ret (K := (resK Try.prog [.tmp 2] R)) (fun f w h => ret_ok h) f w (F46_s15_st R _ f w h)
def F46_s18_t (R : Ending → World → Prop) (w : World) : Prop :=
  R (.returned (Go.Value.int Go.IntKind.i64 13)) w
theorem F46_s18_st (R : Ending → World → Prop) (X : Nat → Fr → World → Prop) (f : Fr) (w : World) (h : F46_s18_t R w) : wpE Try.prog F46_dc (resK Try.prog [.tmp 2] R) (panK R) (cL (cT (cR (cF (cR (cF (cR (cF (cR (cF (cR (cI (cR (cL (cR F46_b))))))))))))))) (resK Try.prog [.tmp 2] R) X f w := Eq.mp (by kernel_rfl) h
def F46_s18 (R : Ending → World → Prop) (w : World) : Prop :=
  F46_s18_t R w
noncomputable def F46_s18_c : Code := (.seq (cL (cT (cR (cF (cR (cF (cR (cF (cR (cF (cR (cI (cR (cL (cR F46_b))))))))))))))) .ret)
theorem F46_s18_ok (R : Ending → World → Prop) : ∀ f w, ((fun f w => F46_s18 R w)) f w → wpE Try.prog F46_dc (resK Try.prog [.tmp 2] R) (panK R) F46_s18_c (fun f w => F46_s3 R w) (kxB 0 ((fun f w => F46_s3 R w)) noX) f w :=
  fun f w h => cut (cL (cT (cR (cF (cR (cF (cR (cF (cR (cF (cR (cI (cR (cL (cR F46_b))))))))))))))) .ret (K := (resK Try.prog [.tmp 2] R)) (fun f w h => ret_ok h) f w (F46_s18_st R _ f w h)
def F46_s21_t (R : Ending → World → Prop) (w : World) : Prop :=
  R (.returned (Go.Value.int Go.IntKind.i64 31)) w
theorem F46_s21_st (R : Ending → World → Prop) (X : Nat → Fr → World → Prop) (f : Fr) (w : World) (h : F46_s21_t R w) : wpE Try.prog F46_dc (resK Try.prog [.tmp 2] R) (panK R) (cL (cT (cR (cF (cR (cF (cR (cF (cR (cF (cR (cF (cR (cI (cR (cL (cR F46_b))))))))))))))))) (resK Try.prog [.tmp 2] R) X f w := Eq.mp (by kernel_rfl) h
def F46_s21 (R : Ending → World → Prop) (w : World) : Prop :=
  F46_s21_t R w
noncomputable def F46_s21_c : Code := (.seq (cL (cT (cR (cF (cR (cF (cR (cF (cR (cF (cR (cF (cR (cI (cR (cL (cR F46_b))))))))))))))))) .ret)
theorem F46_s21_ok (R : Ending → World → Prop) : ∀ f w, ((fun f w => F46_s21 R w)) f w → wpE Try.prog F46_dc (resK Try.prog [.tmp 2] R) (panK R) F46_s21_c (fun f w => F46_s3 R w) (kxB 0 ((fun f w => F46_s3 R w)) noX) f w :=
  fun f w h => cut (cL (cT (cR (cF (cR (cF (cR (cF (cR (cF (cR (cF (cR (cI (cR (cL (cR F46_b))))))))))))))))) .ret (K := (resK Try.prog [.tmp 2] R)) (fun f w h => ret_ok h) f w (F46_s21_st R _ f w h)
def F46_s20 (R : Ending → World → Prop) (v14 : Value) (w : World) : Prop :=
  Bc v14
    (F46_s21 R w)
    (F46_s3 R w)
noncomputable def F46_s20_c : Code := (.seq (cR (cF (cR (cF (cR (cF (cR (cF (cR (cF (cR (cI (cR (cL (cR F46_b))))))))))))))) .skip)
theorem F46_s20_e (R : Ending → World → Prop) (K : Fr → World → Prop) (X : Nat → Fr → World → Prop) (f : Fr) (w : World) (h : Bc (f 14) (wpE Try.prog F46_dc (resK Try.prog [.tmp 2] R) (panK R) F46_s21_c K X f w) (wpE Try.prog F46_dc (resK Try.prog [.tmp 2] R) (panK R) .skip K X f w)) : (wpE Try.prog F46_dc (resK Try.prog [.tmp 2] R) (panK R) (cR (cF (cR (cF (cR (cF (cR (cF (cR (cF (cR (cI (cR (cL (cR F46_b))))))))))))))) K X f w) := Eq.mp (by kernel_rfl) h
theorem F46_s20_ok (R : Ending → World → Prop) : ∀ f w, ((fun f w => F46_s20 R (f 14) w)) f w → wpE Try.prog F46_dc (resK Try.prog [.tmp 2] R) (panK R) F46_s20_c (fun f w => F46_s3 R w) (kxB 0 ((fun f w => F46_s3 R w)) noX) f w :=
  fun f w h => cut (cR (cF (cR (cF (cR (cF (cR (cF (cR (cF (cR (cI (cR (cL (cR F46_b))))))))))))))) .skip (K := (fun f w => F46_s3 R w)) (fun f w h => skip_ok h) f w (F46_s20_e R _ _ f w (Bc_imp (x' := (wpE Try.prog F46_dc (resK Try.prog [.tmp 2] R) (panK R) F46_s21_c (fun f w => F46_s3 R w) (kxB 0 ((fun f w => F46_s3 R w)) noX) f w)) (y' := (wpE Try.prog F46_dc (resK Try.prog [.tmp 2] R) (panK R) .skip (fun f w => F46_s3 R w) (kxB 0 ((fun f w => F46_s3 R w)) noX) f w)) ((F46_s21_ok R) f w) ((fun f w h => skip_ok h) f w) h))
def F46_s19_t (R : Ending → World → Prop) (K : Value → World → Prop) (v3 : Value) (w : World) : Prop :=
  uv Try.prog R (binS Go.BinOp.eql 3 (.tmp 3) (.const (Go.Value.int Go.IntKind.i64 6)) v3 (Go.Value.int Go.IntKind.i64 6)) w (fun v15 w => -- modes.go:27
  K v15 w)
theorem F46_s19_st (R : Ending → World → Prop) (K : Value → World → Prop) (X : Nat → Fr → World → Prop) (f : Fr) (w : World) (h : F46_s19_t R K (f 3) w) : wpE Try.prog F46_dc (resK Try.prog [.tmp 2] R) (panK R) (cL (cF (cR (cF (cR (cF (cR (cF (cR (cF (cR (cI (cR (cL (cR F46_b))))))))))))))) (fun f w => K (f 14) w) X f w := Eq.mp (by kernel_rfl) h
def F46_s19 (R : Ending → World → Prop) (v3 : Value) (w : World) : Prop :=
  F46_s19_t R (F46_s20 R) v3 w
noncomputable def F46_s19_c : Code := (.seq (cL (cF (cR (cF (cR (cF (cR (cF (cR (cF (cR (cI (cR (cL (cR F46_b))))))))))))))) F46_s20_c)
theorem F46_s19_ok (R : Ending → World → Prop) : ∀ f w, ((fun f w => F46_s19 R (f 3) w)) f w → wpE Try.prog F46_dc (resK Try.prog [.tmp 2] R) (panK R) F46_s19_c (fun f w => F46_s3 R w) (kxB 0 ((fun f w => F46_s3 R w)) noX) f w :=
  fun f w h => cut (cL (cF (cR (cF (cR (cF (cR (cF (cR (cF (cR (cI (cR (cL (cR F46_b))))))))))))))) F46_s20_c (K := (fun f w => F46_s20 R (f 14) w)) (F46_s20_ok R) f w (F46_s19_st R (F46_s20 R) _ f w h)
def F46_s17 (R : Ending → World → Prop) (v3 : Value) (v12 : Value) (w : World) : Prop :=
  Bc v12
    (F46_s18 R w)
    (F46_s19 R v3 w)
noncomputable def F46_s17_c : Code := (.seq (cR (cF (cR (cF (cR (cF (cR (cF (cR (cI (cR (cL (cR F46_b))))))))))))) .skip)
theorem F46_s17_e (R : Ending → World → Prop) (K : Fr → World → Prop) (X : Nat → Fr → World → Prop) (f : Fr) (w : World) (h : Bc (f 12) (wpE Try.prog F46_dc (resK Try.prog [.tmp 2] R) (panK R) F46_s18_c K X f w) (wpE Try.prog F46_dc (resK Try.prog [.tmp 2] R) (panK R) F46_s19_c K X f w)) : (wpE Try.prog F46_dc (resK Try.prog [.tmp 2] R) (panK R) (cR (cF (cR (cF (cR (cF (cR (cF (cR (cI (cR (cL (cR F46_b))))))))))))) K X f w) := Eq.mp (by kernel_rfl) h
theorem F46_s17_ok (R : Ending → World → Prop) : ∀ f w, ((fun f w => F46_s17 R (f 3) (f 12) w)) f w → wpE Try.prog F46_dc (resK Try.prog [.tmp 2] R) (panK R) F46_s17_c (fun f w => F46_s3 R w) (kxB 0 ((fun f w => F46_s3 R w)) noX) f w :=
  fun f w h => cut (cR (cF (cR (cF (cR (cF (cR (cF (cR (cI (cR (cL (cR F46_b))))))))))))) .skip (K := (fun f w => F46_s3 R w)) (fun f w h => skip_ok h) f w (F46_s17_e R _ _ f w (Bc_imp (x' := (wpE Try.prog F46_dc (resK Try.prog [.tmp 2] R) (panK R) F46_s18_c (fun f w => F46_s3 R w) (kxB 0 ((fun f w => F46_s3 R w)) noX) f w)) (y' := (wpE Try.prog F46_dc (resK Try.prog [.tmp 2] R) (panK R) F46_s19_c (fun f w => F46_s3 R w) (kxB 0 ((fun f w => F46_s3 R w)) noX) f w)) ((F46_s18_ok R) f w) ((F46_s19_ok R) f w) h))
def F46_s16_t (R : Ending → World → Prop) (K : Value → Value → World → Prop) (v3 : Value) (w : World) : Prop :=
  uv Try.prog R (binS Go.BinOp.eql 3 (.tmp 3) (.const (Go.Value.int Go.IntKind.i64 5)) v3 (Go.Value.int Go.IntKind.i64 5)) w (fun v13 w => -- modes.go:25
  K v3 v13 w)
theorem F46_s16_st (R : Ending → World → Prop) (K : Value → Value → World → Prop) (X : Nat → Fr → World → Prop) (f : Fr) (w : World) (h : F46_s16_t R K (f 3) w) : wpE Try.prog F46_dc (resK Try.prog [.tmp 2] R) (panK R) (cL (cF (cR (cF (cR (cF (cR (cF (cR (cI (cR (cL (cR F46_b))))))))))))) (fun f w => K (f 3) (f 12) w) X f w := Eq.mp (by kernel_rfl) h
def F46_s16 (R : Ending → World → Prop) (v3 : Value) (w : World) : Prop :=
  F46_s16_t R (F46_s17 R) v3 w
noncomputable def F46_s16_c : Code := (.seq (cL (cF (cR (cF (cR (cF (cR (cF (cR (cI (cR (cL (cR F46_b))))))))))))) F46_s17_c)
theorem F46_s16_ok (R : Ending → World → Prop) : ∀ f w, ((fun f w => F46_s16 R (f 3) w)) f w → wpE Try.prog F46_dc (resK Try.prog [.tmp 2] R) (panK R) F46_s16_c (fun f w => F46_s3 R w) (kxB 0 ((fun f w => F46_s3 R w)) noX) f w :=
  fun f w h => cut (cL (cF (cR (cF (cR (cF (cR (cF (cR (cI (cR (cL (cR F46_b))))))))))))) F46_s17_c (K := (fun f w => F46_s17 R (f 3) (f 12) w)) (F46_s17_ok R) f w (F46_s16_st R (F46_s17 R) _ f w h)
def F46_s14 (R : Ending → World → Prop) (v3 : Value) (v10 : Value) (w : World) : Prop :=
  Bc v10
    (F46_s15 R w)
    (F46_s16 R v3 w)
noncomputable def F46_s14_c : Code := (.seq (cR (cF (cR (cF (cR (cF (cR (cI (cR (cL (cR F46_b))))))))))) .skip)
theorem F46_s14_e (R : Ending → World → Prop) (K : Fr → World → Prop) (X : Nat → Fr → World → Prop) (f : Fr) (w : World) (h : Bc (f 10) (wpE Try.prog F46_dc (resK Try.prog [.tmp 2] R) (panK R) F46_s15_c K X f w) (wpE Try.prog F46_dc (resK Try.prog [.tmp 2] R) (panK R) F46_s16_c K X f w)) : (wpE Try.prog F46_dc (resK Try.prog [.tmp 2] R) (panK R) (cR (cF (cR (cF (cR (cF (cR (cI (cR (cL (cR F46_b))))))))))) K X f w) := Eq.mp (by kernel_rfl) h
theorem F46_s14_ok (R : Ending → World → Prop) : ∀ f w, ((fun f w => F46_s14 R (f 3) (f 10) w)) f w → wpE Try.prog F46_dc (resK Try.prog [.tmp 2] R) (panK R) F46_s14_c (fun f w => F46_s3 R w) (kxB 0 ((fun f w => F46_s3 R w)) noX) f w :=
  fun f w h => cut (cR (cF (cR (cF (cR (cF (cR (cI (cR (cL (cR F46_b))))))))))) .skip (K := (fun f w => F46_s3 R w)) (fun f w h => skip_ok h) f w (F46_s14_e R _ _ f w (Bc_imp (x' := (wpE Try.prog F46_dc (resK Try.prog [.tmp 2] R) (panK R) F46_s15_c (fun f w => F46_s3 R w) (kxB 0 ((fun f w => F46_s3 R w)) noX) f w)) (y' := (wpE Try.prog F46_dc (resK Try.prog [.tmp 2] R) (panK R) F46_s16_c (fun f w => F46_s3 R w) (kxB 0 ((fun f w => F46_s3 R w)) noX) f w)) ((F46_s15_ok R) f w) ((F46_s16_ok R) f w) h))
def F46_s13_t (R : Ending → World → Prop) (K : Value → Value → World → Prop) (v3 : Value) (w : World) : Prop :=
  uv Try.prog R (binS Go.BinOp.eql 3 (.tmp 3) (.const (Go.Value.int Go.IntKind.i64 4)) v3 (Go.Value.int Go.IntKind.i64 4)) w (fun v11 w => -- modes.go:23
  K v3 v11 w)
theorem F46_s13_st (R : Ending → World → Prop) (K : Value → Value → World → Prop) (X : Nat → Fr → World → Prop) (f : Fr) (w : World) (h : F46_s13_t R K (f 3) w) : wpE Try.prog F46_dc (resK Try.prog [.tmp 2] R) (panK R) (cL (cF (cR (cF (cR (cF (cR (cI (cR (cL (cR F46_b))))))))))) (fun f w => K (f 3) (f 10) w) X f w := Eq.mp (by kernel_rfl) h
def F46_s13 (R : Ending → World → Prop) (v3 : Value) (w : World) : Prop :=
  F46_s13_t R (F46_s14 R) v3 w
noncomputable def F46_s13_c : Code := (.seq (cL (cF (cR (cF (cR (cF (cR (cI (cR (cL (cR F46_b))))))))))) F46_s14_c)
theorem F46_s13_ok (R : Ending → World → Prop) : ∀ f w, ((fun f w => F46_s13 R (f 3) w)) f w → wpE Try.prog F46_dc (resK Try.prog [.tmp 2] R) (panK R) F46_s13_c (fun f w => F46_s3 R w) (kxB 0 ((fun f w => F46_s3 R w)) noX) f w :=
  fun f w h => cut (cL (cF (cR (cF (cR (cF (cR (cI (cR (cL (cR F46_b))))))))))) F46_s14_c (K := (fun f w => F46_s14 R (f 3) (f 10) w)) (F46_s14_ok R) f w (F46_s13_st R (F46_s14 R) _ f w h)
def F46_s11 (R : Ending → World → Prop) (v3 : Value) (v8 : Value) (w : World) : Prop :=
  Bc v8
    (F46_s12 R w)
    (F46_s13 R v3 w)
noncomputable def F46_s11_c : Code := (.seq (cR (cF (cR (cF (cR (cI (cR (cL (cR F46_b))))))))) .skip)
theorem F46_s11_e (R : Ending → World → Prop) (K : Fr → World → Prop) (X : Nat → Fr → World → Prop) (f : Fr) (w : World) (h : Bc (f 8) (wpE Try.prog F46_dc (resK Try.prog [.tmp 2] R) (panK R) F46_s12_c K X f w) (wpE Try.prog F46_dc (resK Try.prog [.tmp 2] R) (panK R) F46_s13_c K X f w)) : (wpE Try.prog F46_dc (resK Try.prog [.tmp 2] R) (panK R) (cR (cF (cR (cF (cR (cI (cR (cL (cR F46_b))))))))) K X f w) := Eq.mp (by kernel_rfl) h
theorem F46_s11_ok (R : Ending → World → Prop) : ∀ f w, ((fun f w => F46_s11 R (f 3) (f 8) w)) f w → wpE Try.prog F46_dc (resK Try.prog [.tmp 2] R) (panK R) F46_s11_c (fun f w => F46_s3 R w) (kxB 0 ((fun f w => F46_s3 R w)) noX) f w :=
  fun f w h => cut (cR (cF (cR (cF (cR (cI (cR (cL (cR F46_b))))))))) .skip (K := (fun f w => F46_s3 R w)) (fun f w h => skip_ok h) f w (F46_s11_e R _ _ f w (Bc_imp (x' := (wpE Try.prog F46_dc (resK Try.prog [.tmp 2] R) (panK R) F46_s12_c (fun f w => F46_s3 R w) (kxB 0 ((fun f w => F46_s3 R w)) noX) f w)) (y' := (wpE Try.prog F46_dc (resK Try.prog [.tmp 2] R) (panK R) F46_s13_c (fun f w => F46_s3 R w) (kxB 0 ((fun f w => F46_s3 R w)) noX) f w)) ((F46_s12_ok R) f w) ((F46_s13_ok R) f w) h))
def F46_s10_t (R : Ending → World → Prop) (K : Value → Value → World → Prop) (v3 : Value) (w : World) : Prop :=
  uv Try.prog R (binS Go.BinOp.eql 3 (.tmp 3) (.const (Go.Value.int Go.IntKind.i64 3)) v3 (Go.Value.int Go.IntKind.i64 3)) w (fun v9 w => -- modes.go:21
  K v3 v9 w)
theorem F46_s10_st (R : Ending → World → Prop) (K : Value → Value → World → Prop) (X : Nat → Fr → World → Prop) (f : Fr) (w : World) (h : F46_s10_t R K (f 3) w) : wpE Try.prog F46_dc (resK Try.prog [.tmp 2] R) (panK R) (cL (cF (cR (cF (cR (cI (cR (cL (cR F46_b))))))))) (fun f w => K (f 3) (f 8) w) X f w := Eq.mp (by kernel_rfl) h
def F46_s10 (R : Ending → World → Prop) (v3 : Value) (w : World) : Prop :=
  F46_s10_t R (F46_s11 R) v3 w
noncomputable def F46_s10_c : Code := (.seq (cL (cF (cR (cF (cR (cI (cR (cL (cR F46_b))))))))) F46_s11_c)
theorem F46_s10_ok (R : Ending → World → Prop) : ∀ f w, ((fun f w => F46_s10 R (f 3) w)) f w → wpE Try.prog F46_dc (resK Try.prog [.tmp 2] R) (panK R) F46_s10_c (fun f w => F46_s3 R w) (kxB 0 ((fun f w => F46_s3 R w)) noX) f w :=
  fun f w h => cut (cL (cF (cR (cF (cR (cI (cR (cL (cR F46_b))))))))) F46_s11_c (K := (fun f w => F46_s11 R (f 3) (f 8) w)) (F46_s11_ok R) f w (F46_s10_st R (F46_s11 R) _ f w h)
def F46_s8 (R : Ending → World → Prop) (v3 : Value) (v6 : Value) (w : World) : Prop :=
  Bc v6
    (F46_s9 R w)
    (F46_s10 R v3 w)
noncomputable def F46_s8_c : Code := (.seq (cR (cF (cR (cI (cR (cL (cR F46_b))))))) .skip)
theorem F46_s8_e (R : Ending → World → Prop) (K : Fr → World → Prop) (X : Nat → Fr → World → Prop) (f : Fr) (w : World) (h : Bc (f 6) (wpE Try.prog F46_dc (resK Try.prog [.tmp 2] R) (panK R) F46_s9_c K X f w) (wpE Try.prog F46_dc (resK Try.prog [.tmp 2] R) (panK R) F46_s10_c K X f w)) : (wpE Try.prog F46_dc (resK Try.prog [.tmp 2] R) (panK R) (cR (cF (cR (cI (cR (cL (cR F46_b))))))) K X f w) := Eq.mp (by kernel_rfl) h
theorem F46_s8_ok (R : Ending → World → Prop) : ∀ f w, ((fun f w => F46_s8 R (f 3) (f 6) w)) f w → wpE Try.prog F46_dc (resK Try.prog [.tmp 2] R) (panK R) F46_s8_c (fun f w => F46_s3 R w) (kxB 0 ((fun f w => F46_s3 R w)) noX) f w :=
  fun f w h => cut (cR (cF (cR (cI (cR (cL (cR F46_b))))))) .skip (K := (fun f w => F46_s3 R w)) (fun f w h => skip_ok h) f w (F46_s8_e R _ _ f w (Bc_imp (x' := (wpE Try.prog F46_dc (resK Try.prog [.tmp 2] R) (panK R) F46_s9_c (fun f w => F46_s3 R w) (kxB 0 ((fun f w => F46_s3 R w)) noX) f w)) (y' := (wpE Try.prog F46_dc (resK Try.prog [.tmp 2] R) (panK R) F46_s10_c (fun f w => F46_s3 R w) (kxB 0 ((fun f w => F46_s3 R w)) noX) f w)) ((F46_s9_ok R) f w) ((F46_s10_ok R) f w) h))
def F46_s7_t (R : Ending → World → Prop) (K : Value → Value → World → Prop) (v3 : Value) (w : World) : Prop :=
  uv Try.prog R (binS Go.BinOp.eql 3 (.tmp 3) (.const (Go.Value.int Go.IntKind.i64 2)) v3 (Go.Value.int Go.IntKind.i64 2)) w (fun v7 w => -- modes.go:19
  K v3 v7 w)
theorem F46_s7_st (R : Ending → World → Prop) (K : Value → Value → World → Prop) (X : Nat → Fr → World → Prop) (f : Fr) (w : World) (h : F46_s7_t R K (f 3) w) : wpE Try.prog F46_dc (resK Try.prog [.tmp 2] R) (panK R) (cL (cF (cR (cI (cR (cL (cR F46_b))))))) (fun f w => K (f 3) (f 6) w) X f w := Eq.mp (by kernel_rfl) h
def F46_s7 (R : Ending → World → Prop) (v3 : Value) (w : World) : Prop :=
  F46_s7_t R (F46_s8 R) v3 w
noncomputable def F46_s7_c : Code := (.seq (cL (cF (cR (cI (cR (cL (cR F46_b))))))) F46_s8_c)
theorem F46_s7_ok (R : Ending → World → Prop) : ∀ f w, ((fun f w => F46_s7 R (f 3) w)) f w → wpE Try.prog F46_dc (resK Try.prog [.tmp 2] R) (panK R) F46_s7_c (fun f w => F46_s3 R w) (kxB 0 ((fun f w => F46_s3 R w)) noX) f w :=
  fun f w h => cut (cL (cF (cR (cI (cR (cL (cR F46_b))))))) F46_s8_c (K := (fun f w => F46_s8 R (f 3) (f 6) w)) (F46_s8_ok R) f w (F46_s7_st R (F46_s8 R) _ f w h)
def F46_s5 (R : Ending → World → Prop) (v3 : Value) (v4 : Value) (w : World) : Prop :=
  Bc v4
    (F46_s6 R w)
    (F46_s7 R v3 w)
noncomputable def F46_s5_c : Code := (.seq (cR (cI (cR (cL (cR F46_b))))) .skip)
theorem F46_s5_e (R : Ending → World → Prop) (K : Fr → World → Prop) (X : Nat → Fr → World → Prop) (f : Fr) (w : World) (h : Bc (f 4) (wpE Try.prog F46_dc (resK Try.prog [.tmp 2] R) (panK R) F46_s6_c K X f w) (wpE Try.prog F46_dc (resK Try.prog [.tmp 2] R) (panK R) F46_s7_c K X f w)) : (wpE Try.prog F46_dc (resK Try.prog [.tmp 2] R) (panK R) (cR (cI (cR (cL (cR F46_b))))) K X f w) := Eq.mp (by kernel_rfl) h
theorem F46_s5_ok (R : Ending → World → Prop) : ∀ f w, ((fun f w => F46_s5 R (f 3) (f 4) w)) f w → wpE Try.prog F46_dc (resK Try.prog [.tmp 2] R) (panK R) F46_s5_c (fun f w => F46_s3 R w) (kxB 0 ((fun f w => F46_s3 R w)) noX) f w :=
  fun f w h => cut (cR (cI (cR (cL (cR F46_b))))) .skip (K := (fun f w => F46_s3 R w)) (fun f w h => skip_ok h) f w (F46_s5_e R _ _ f w (Bc_imp (x' := (wpE Try.prog F46_dc (resK Try.prog [.tmp 2] R) (panK R) F46_s6_c (fun f w => F46_s3 R w) (kxB 0 ((fun f w => F46_s3 R w)) noX) f w)) (y' := (wpE Try.prog F46_dc (resK Try.prog [.tmp 2] R) (panK R) F46_s7_c (fun f w => F46_s3 R w) (kxB 0 ((fun f w => F46_s3 R w)) noX) f w)) ((F46_s6_ok R) f w) ((F46_s7_ok R) f w) h))
def F46_s4_t (R : Ending → World → Prop) (K : Value → Value → World → Prop) (v3 : Value) (w : World) : Prop :=
  uv Try.prog R (binS Go.BinOp.eql 3 (.tmp 3) (.const (Go.Value.int Go.IntKind.i64 1)) v3 (Go.Value.int Go.IntKind.i64 1)) w (fun v5 w => -- modes.go:17
  K v3 v5 w)
theorem F46_s4_st (R : Ending → World → Prop) (K : Value → Value → World → Prop) (X : Nat → Fr → World → Prop) (f : Fr) (w : World) (h : F46_s4_t R K (f 3) w) : wpE Try.prog F46_dc (resK Try.prog [.tmp 2] R) (panK R) (cL (cI (cR (cL (cR F46_b))))) (fun f w => K (f 3) (f 4) w) X f w := Eq.mp (by kernel_rfl) h
def F46_s4 (R : Ending → World → Prop) (v3 : Value) (w : World) : Prop :=
  F46_s4_t R (F46_s5 R) v3 w
noncomputable def F46_s4_c : Code := (.seq (cL (cI (cR (cL (cR F46_b))))) F46_s5_c)
theorem F46_s4_ok (R : Ending → World → Prop) : ∀ f w, ((fun f w => F46_s4 R (f 3) w)) f w → wpE Try.prog F46_dc (resK Try.prog [.tmp 2] R) (panK R) F46_s4_c (fun f w => F46_s3 R w) (kxB 0 ((fun f w => F46_s3 R w)) noX) f w :=
  fun f w h => cut (cL (cI (cR (cL (cR F46_b))))) F46_s5_c (K := (fun f w => F46_s5 R (f 3) (f 4) w)) (F46_s5_ok R) f w (F46_s4_st R (F46_s5 R) _ f w h)
noncomputable def F46_s2_c : Code := (.seq (cR (cL (cR F46_b))) F46_s3_c)
theorem F46_s2_e (R : Ending → World → Prop) (K : Fr → World → Prop) (X : Nat → Fr → World → Prop) (f : Fr) (w : World) (h : wpE Try.prog F46_dc (resK Try.prog [.tmp 2] R) (panK R) F46_s4_c K (kxB 0 K X) f w) : wpE Try.prog F46_dc (resK Try.prog [.tmp 2] R) (panK R) (cR (cL (cR F46_b))) K X f w := Eq.mp (by kernel_rfl) h
theorem F46_s2_ok (R : Ending → World → Prop) : ∀ f w, ((fun f w => F46_s4 R (f 3) w)) f w → wpE Try.prog F46_dc (resK Try.prog [.tmp 2] R) (panK R) F46_s2_c (resK Try.prog [.tmp 2] R) noX f w :=
  fun f w h => cut (cR (cL (cR F46_b))) F46_s3_c (K := (fun f w => F46_s3 R w)) (F46_s3_ok R) f w (F46_s2_e R _ _ f w ((F46_s4_ok R) f w h))
def F46_s1_t (R : Ending → World → Prop) (K : Value → World → Prop) (v0 : Value) (w : World) : Prop :=
  K v0 w
theorem F46_s1_st (R : Ending → World → Prop) (K : Value → World → Prop) (X : Nat → Fr → World → Prop) (f : Fr) (w : World) (h : F46_s1_t R K (f 0) w) : wpE Try.prog F46_dc (resK Try.prog [.tmp 2] R) (panK R) (.seq (cL F46_b) (cL (cL (cR F46_b)))) (fun f w => K (f 3) w) X f w := Eq.mp (by kernel_rfl) h
def F46_s1 (R : Ending → World → Prop) (v0 : Value) (w : World) : Prop :=
  F46_s1_t R (F46_s4 R) v0 w
noncomputable def F46_s1_c : Code := (.seq (.seq (cL F46_b) (cL (cL (cR F46_b)))) F46_s2_c)
theorem F46_s1_ok (R : Ending → World → Prop) : ∀ f w, ((fun f w => F46_s1 R (f 0) w)) f w → wpE Try.prog F46_dc (resK Try.prog [.tmp 2] R) (panK R) F46_s1_c (resK Try.prog [.tmp 2] R) noX f w :=
  fun f w h => cut (.seq (cL F46_b) (cL (cL (cR F46_b)))) F46_s2_c (K := (fun f w => F46_s4 R (f 3) w)) (F46_s2_ok R) f w (F46_s1_st R (F46_s4 R) _ f w h)
theorem F46_all_e (R : Ending → World → Prop) (K : Fr → World → Prop) (X : Nat → Fr → World → Prop) (f : Fr) (w : World) (h : wpE Try.prog F46_dc (resK Try.prog [.tmp 2] R) (panK R) F46_s1_c K X f w) : wpE Try.prog F46_dc (resK Try.prog [.tmp 2] R) (panK R) F46_b K X f w := Eq.mp (by kernel_rfl) h
theorem F46_calls (R : Ending → World → Prop) (v0 : Value) (w : World) (h : F46_s1 R v0 w) : Calls Try.prog 46 #[v0] w R :=
  calls_of_wpE (dc := F46_dc) (args := [v0]) hmixed Try.func46 (c := F46_b) rfl (rs := [.tmp 2]) rfl (by kernel_rfl) (Nat.le_of_ble_eq_true (by kernel_rfl)) (F46_all_e R _ _ _ w ((F46_s1_ok R) (initFr [v0]) w h))

/-! ### hasp/modes.Together -/
noncomputable def F37_b : Code := bodyOf Try.f37
def F37_dc : Nat → List (Nat × Bool)
  | _ => []
def F37_s5_t (R : Ending → World → Prop) (v5 : Value) (v6 : Value) (w : World) : Prop :=
  un Try.prog R (callV (.func (.func 55) #[] #[]) #[v5, v6]) w (fun v29 w => -- modes.go:53
  uv Try.prog R (Op.unary Go.UnOp.not v29) w (fun v30 w => -- modes.go:53
  Gk v30 true (fun k => k (.func (.func 55) #[] #[]) w) w (fun v32 w => -- modes.go:53
  Gk v30 true (fun k => k v6 w) w (fun v33 w => -- modes.go:53
  Gk v30 true (fun k => k v5 w) w (fun v34 w => -- modes.go:53
  Gk v30 true (fun k => un Try.prog R (callV v32 #[v33, v34]) w k) w (fun v35 w => -- modes.go:53
  Gk v30 true (fun k => uv Try.prog R (Op.unary Go.UnOp.not v35) w k) w (fun v36 w => -- modes.go:53
  uv Try.prog R (pickS v30 v36 (Go.Value.bool false)) w (fun v37 w => -- modes.go:53
  Gk v37 true (fun k => k v5 w) w (fun v39 w => -- modes.go:53
  Gk v37 true (fun k => k v6 w) w (fun v40 w => -- modes.go:53
  Gk v37 true (fun k => uv Try.prog R (binS Go.BinOp.and 3 (.tmp 39) (.tmp 40) v39 v40) w k) w (fun v41 w => -- modes.go:53
  Gk v37 true (fun k => uv Try.prog R (binS Go.BinOp.and 3 (.tmp 41) (.const (Go.Value.int Go.IntKind.i64 8)) v41 (Go.Value.int Go.IntKind.i64 8)) w k) w (fun v42 w => -- modes.go:53
  Gk v37 true (fun k => uv Try.prog R (binS Go.BinOp.eql 3 (.tmp 42) (.const (Go.Value.int Go.IntKind.i64 0)) v42 (Go.Value.int Go.IntKind.i64 0)) w k) w (fun v43 w => -- modes.go:53
  uv Try.prog R (pickS v37 v43 (Go.Value.bool false)) w (fun v44 w => -- modes.go:53
  R (.returned v44) w))))))))))))))
theorem F37_s5_st (R : Ending → World → Prop) (X : Nat → Fr → World → Prop) (f : Fr) (w : World) (h : F37_s5_t R (f 5) (f 6) w) : wpE Try.prog F37_dc (resK Try.prog [.tmp 4] R) (panK R) (.seq (cL (cR (cR (cR (cR F37_b))))) (cL (cR (cR (cR (cR (cR F37_b))))))) (resK Try.prog [.tmp 4] R) X f w := Eq.mp (by kernel_rfl) h
def F37_s5 (R : Ending → World → Prop) (v5 : Value) (v6 : Value) (w : World) : Prop :=
  F37_s5_t R v5 v6 w
noncomputable def F37_s5_c : Code := (.seq (.seq (cL (cR (cR (cR (cR F37_b))))) (cL (cR (cR (cR (cR (cR F37_b))))))) .ret)
theorem F37_s5_ok (R : Ending → World → Prop) : ∀ f w, ((fun f w => F37_s5 R (f 5) (f 6) w)) f w → wpE Try.prog F37_dc (resK Try.prog [.tmp 4] R) (panK R) F37_s5_c (resK Try.prog [.tmp 4] R) noX f w :=
  fun f w h => cut (.seq (cL (cR (cR (cR (cR F37_b))))) (cL (cR (cR (cR (cR (cR F37_b))))))) .ret (K := (resK Try.prog [.tmp 4] R)) (fun f w h => ret_ok h) f w (F37_s5_st R _ f w h)
def F37_s6_t (R : Ending → World → Prop) (w : World) : Prop :=
  R (.returned (Go.Value.bool true)) w
theorem F37_s6_st (R : Ending → World → Prop) (X : Nat → Fr → World → Prop) (f : Fr) (w : World) (h : F37_s6_t R w) : wpE Try.prog F37_dc (resK Try.prog [.tmp 4] R) (panK R) (cL (cT (cR (cL (cR (cR (cR F37_b))))))) (resK Try.prog [.tmp 4] R) X f w := Eq.mp (by kernel_rfl) h
def F37_s6 (R : Ending → World → Prop) (w : World) : Prop :=
  F37_s6_t R w
noncomputable def F37_s6_c : Code := (.seq (cL (cT (cR (cL (cR (cR (cR F37_b))))))) .ret)
theorem F37_s6_ok (R : Ending → World → Prop) : ∀ f w, ((fun f w => F37_s6 R w)) f w → wpE Try.prog F37_dc (resK Try.prog [.tmp 4] R) (panK R) F37_s6_c (fun f w => F37_s5 R (f 5) (f 6) w) noX f w :=
  fun f w h => cut (cL (cT (cR (cL (cR (cR (cR F37_b))))))) .ret (K := (resK Try.prog [.tmp 4] R)) (fun f w h => ret_ok h) f w (F37_s6_st R _ f w h)
def F37_s4 (R : Ending → World → Prop) (v5 : Value) (v6 : Value) (v25 : Value) (w : World) : Prop :=
  Bc v25
    (F37_s6 R w)
    (F37_s5 R v5 v6 w)
noncomputable def F37_s4_c : Code := (.seq (cR (cL (cR (cR (cR F37_b))))) F37_s5_c)
theorem F37_s4_e (R : Ending → World → Prop) (K : Fr → World → Prop) (X : Nat → Fr → World → Prop) (f : Fr) (w : World) (h : Bc (f 25) (wpE Try.prog F37_dc (resK Try.prog [.tmp 4] R) (panK R) F37_s6_c K X f w) (wpE Try.prog F37_dc (resK Try.prog [.tmp 4] R) (panK R) .skip K X f w)) : (wpE Try.prog F37_dc (resK Try.prog [.tmp 4] R) (panK R) (cR (cL (cR (cR (cR F37_b))))) K X f w) := Eq.mp (by kernel_rfl) h
theorem F37_s4_ok (R : Ending → World → Prop) : ∀ f w, ((fun f w => F37_s4 R (f 5) (f 6) (f 25) w)) f w → wpE Try.prog F37_dc (resK Try.prog [.tmp 4] R) (panK R) F37_s4_c (resK Try.prog [.tmp 4] R) noX f w :=
  fun f w h => cut (cR (cL (cR (cR (cR F37_b))))) F37_s5_c (K := (fun f w => F37_s5 R (f 5) (f 6) w)) (F37_s5_ok R) f w (F37_s4_e R _ _ f w (Bc_imp (x' := (wpE Try.prog F37_dc (resK Try.prog [.tmp 4] R) (panK R) F37_s6_c (fun f w => F37_s5 R (f 5) (f 6) w) noX f w)) (y' := (wpE Try.prog F37_dc (resK Try.prog [.tmp 4] R) (panK R) .skip (fun f w => F37_s5 R (f 5) (f 6) w) noX f w)) ((F37_s6_ok R) f w) ((fun f w h => skip_ok h) f w) h))
def F37_s3_t (R : Ending → World → Prop) (K : Value → Value → Value → World → Prop) (v0 : Value) (v1 : Value) (w : World) : Prop :=
  un Try.prog R (callFunc 46 #[v0]) w (fun v17 w => -- modes.go:48
  un Try.prog R (callFunc 46 #[v1]) w (fun v19 w => -- modes.go:48
  uv Try.prog R (binS Go.BinOp.eql 3 (.tmp 20) (.const (Go.Value.int Go.IntKind.i64 0)) v17 (Go.Value.int Go.IntKind.i64 0)) w (fun v21 w => -- modes.go:49
  Gk v21 false (fun k => k v19 w) w (fun v23 w => -- modes.go:49
  Gk v21 false (fun k => uv Try.prog R (binS Go.BinOp.eql 3 (.tmp 23) (.const (Go.Value.int Go.IntKind.i64 0)) v23 (Go.Value.int Go.IntKind.i64 0)) w k) w (fun v24 w => -- modes.go:49
  uv Try.prog R (pickS v21 (Go.Value.bool true) v24) w (fun v25 w => -- modes.go:49
  K v17 v19 v25 w))))))
theorem F37_s3_st (R : Ending → World → Prop) (K : Value → Value → Value → World → Prop) (X : Nat → Fr → World → Prop) (f : Fr) (w : World) (h : F37_s3_t R K (f 0) (f 1) w) : wpE Try.prog F37_dc (resK Try.prog [.tmp 4] R) (panK R) (.seq (cL (cR (cR F37_b))) (cL (cL (cR (cR (cR F37_b)))))) (fun f w => K (f 5) (f 6) (f 25) w) X f w := Eq.mp (by kernel_rfl) h
def F37_s3 (R : Ending → World → Prop) (v0 : Value) (v1 : Value) (w : World) : Prop :=
  F37_s3_t R (F37_s4 R) v0 v1 w
noncomputable def F37_s3_c : Code := (.seq (.seq (cL (cR (cR F37_b))) (cL (cL (cR (cR (cR F37_b)))))) F37_s4_c)
theorem F37_s3_ok (R : Ending → World → Prop) : ∀ f w, ((fun f w => F37_s3 R (f 0) (f 1) w)) f w → wpE Try.prog F37_dc (resK Try.prog [.tmp 4] R) (panK R) F37_s3_c (resK Try.prog [.tmp 4] R) noX f w :=
  fun f w h => cut (.seq (cL (cR (cR F37_b))) (cL (cL (cR (cR (cR F37_b)))))) F37_s4_c (K := (fun f w => F37_s4 R (f 5) (f 6) (f 25) w)) (F37_s4_ok R) f w (F37_s3_st R (F37_s4 R) _ f w h)
def F37_s7_t (R : Ending → World → Prop) (w : World) : Prop :=
  R (.returned (Go.Value.bool false)) w
theorem F37_s7_st (R : Ending → World → Prop) (X : Nat → Fr → World → Prop) (f : Fr) (w : World) (h : F37_s7_t R w) : wpE Try.prog F37_dc (resK Try.prog [.tmp 4] R) (panK R) (cL (cT (cR (cL (cR F37_b))))) (resK Try.prog [.tmp 4] R) X f w := Eq.mp (by kernel_rfl) h
def F37_s7 (R : Ending → World → Prop) (w : World) : Prop :=
  F37_s7_t R w
noncomputable def F37_s7_c : Code := (.seq (cL (cT (cR (cL (cR F37_b))))) .ret)
theorem F37_s7_ok (R : Ending → World → Prop) : ∀ f w, ((fun f w => F37_s7 R w)) f w → wpE Try.prog F37_dc (resK Try.prog [.tmp 4] R) (panK R) F37_s7_c (fun f w => F37_s3 R (f 0) (f 1) w) noX f w :=
  fun f w h => cut (cL (cT (cR (cL (cR F37_b))))) .ret (K := (resK Try.prog [.tmp 4] R)) (fun f w h => ret_ok h) f w (F37_s7_st R _ f w h)
def F37_s2 (R : Ending → World → Prop) (v0 : Value) (v1 : Value) (v15 : Value) (w : World) : Prop :=
  Bc v15
    (F37_s7 R w)
    (F37_s3 R v0 v1 w)
noncomputable def F37_s2_c : Code := (.seq (cR (cL (cR F37_b))) F37_s3_c)
theorem F37_s2_e (R : Ending → World → Prop) (K : Fr → World → Prop) (X : Nat → Fr → World → Prop) (f : Fr) (w : World) (h : Bc (f 15) (wpE Try.prog F37_dc (resK Try.prog [.tmp 4] R) (panK R) F37_s7_c K X f w) (wpE Try.prog F37_dc (resK Try.prog [.tmp 4] R) (panK R) .skip K X f w)) : (wpE Try.prog F37_dc (resK Try.prog [.tmp 4] R) (panK R) (cR (cL (cR F37_b))) K X f w) := Eq.mp (by kernel_rfl) h
theorem F37_s2_ok (R : Ending → World → Prop) : ∀ f w, ((fun f w => F37_s2 R (f 0) (f 1) (f 15) w)) f w → wpE Try.prog F37_dc (resK Try.prog [.tmp 4] R) (panK R) F37_s2_c (resK Try.prog [.tmp 4] R) noX f w :=
  fun f w h => cut (cR (cL (cR F37_b))) F37_s3_c (K := (fun f w => F37_s3 R (f 0) (f 1) w)) (F37_s3_ok R) f w (F37_s2_e R _ _ f w (Bc_imp (x' := (wpE Try.prog F37_dc (resK Try.prog [.tmp 4] R) (panK R) F37_s7_c (fun f w => F37_s3 R (f 0) (f 1) w) noX f w)) (y' := (wpE Try.prog F37_dc (resK Try.prog [.tmp 4] R) (panK R) .skip (fun f w => F37_s3 R (f 0) (f 1) w) noX f w)) ((F37_s7_ok R) f w) ((fun f w h => skip_ok h) f w) h))
def F37_s1_t (R : Ending → World → Prop) (K : Value → Value → Value → World → Prop) (v0 : Value) (v1 : Value) (w : World) : Prop :=
  un Try.prog R (callFunc 44 #[v0]) w (fun v9 w => -- modes.go:45
  uv Try.prog R (Op.unary Go.UnOp.not v9) w (fun v10 w => -- modes.go:45
  Gk v10 false (fun k => k v1 w) w (fun v12 w => -- modes.go:45
  Gk v10 false (fun k => un Try.prog R (callFunc 44 #[v12]) w k) w (fun v13 w => -- modes.go:45
  Gk v10 false (fun k => uv Try.prog R (Op.unary Go.UnOp.not v13) w k) w (fun v14 w => -- modes.go:45
  uv Try.prog R (pickS v10 (Go.Value.bool true) v14) w (fun v15 w => -- modes.go:45
  K v0 v1 v15 w))))))
theorem F37_s1_st (R : Ending → World → Prop) (K : Value → Value → Value → World → Prop) (X : Nat → Fr → World → Prop) (f : Fr) (w : World) (h : F37_s1_t R K (f 0) (f 1) w) : wpE Try.prog F37_dc (resK Try.prog [.tmp 4] R) (panK R) (.seq (cL F37_b) (cL (cL (cR F37_b)))) (fun f w => K (f 0) (f 1) (f 15) w) X f w := Eq.mp (by kernel_rfl) h
def F37_s1 (R : Ending → World → Prop) (v0 : Value) (v1 : Value) (w : World) : Prop :=
  F37_s1_t R (F37_s2 R) v0 v1 w
noncomputable def F37_s1_c : Code := (.seq (.seq (cL F37_b) (cL (cL (cR F37_b)))) F37_s2_c)
theorem F37_s1_ok (R : Ending → World → Prop) : ∀ f w, ((fun f w => F37_s1 R (f 0) (f 1) w)) f w → wpE Try.prog F37_dc (resK Try.prog [.tmp 4] R) (panK R) F37_s1_c (resK Try.prog [.tmp 4] R) noX f w :=
  fun f w h => cut (.seq (cL F37_b) (cL (cL (cR F37_b)))) F37_s2_c (K := (fun f w => F37_s2 R (f 0) (f 1) (f 15) w)) (F37_s2_ok R) f w (F37_s1_st R (F37_s2 R) _ f w h)
theorem F37_all_e (R : Ending → World → Prop) (K : Fr → World → Prop) (X : Nat → Fr → World → Prop) (f : Fr) (w : World) (h : wpE Try.prog F37_dc (resK Try.prog [.tmp 4] R) (panK R) F37_s1_c K X f w) : wpE Try.prog F37_dc (resK Try.prog [.tmp 4] R) (panK R) F37_b K X f w := Eq.mp (by kernel_rfl) h
theorem F37_calls (R : Ending → World → Prop) (v0 : Value) (v1 : Value) (w : World) (h : F37_s1 R v0 v1 w) : Calls Try.prog 37 #[v0, v1] w R :=
  calls_of_wpE (dc := F37_dc) (args := [v0, v1]) hmixed Try.func37 (c := F37_b) rfl (rs := [.tmp 4]) rfl (by kernel_rfl) (Nat.le_of_ble_eq_true (by kernel_rfl)) (F37_all_e R _ _ _ w ((F37_s1_ok R) (initFr [v0, v1]) w h))

/-! ### hasp/modes.Together$1 -/
noncomputable def F55_b : Code := bodyOf Try.f55
def F55_dc : Nat → List (Nat × Bool)
  | _ => []
def F55_s1_t (R : Ending → World → Prop) (v0 : Value) (v1 : Value) (w : World) : Prop :=
  uv Try.prog R (binS Go.BinOp.and 3 (.tmp 5) (.const (Go.Value.int Go.IntKind.i64 2)) v0 (Go.Value.int Go.IntKind.i64 2)) w (fun v6 w => -- modes.go:52
  uv Try.prog R (binS Go.BinOp.neq 3 (.tmp 6) (.const (Go.Value.int Go.IntKind.i64 0)) v6 (Go.Value.int Go.IntKind.i64 0)) w (fun v7 w => -- modes.go:52
  Gk v7 true (fun k => k v1 w) w (fun v9 w => -- modes.go:52
  Gk v7 true (fun k => uv Try.prog R (binS Go.BinOp.and 3 (.tmp 9) (.const (Go.Value.int Go.IntKind.i64 12)) v9 (Go.Value.int Go.IntKind.i64 12)) w k) w (fun v10 w => -- modes.go:52
  Gk v7 true (fun k => uv Try.prog R (binS Go.BinOp.neq 3 (.tmp 10) (.const (Go.Value.int Go.IntKind.i64 0)) v10 (Go.Value.int Go.IntKind.i64 0)) w k) w (fun v11 w => -- modes.go:52
  uv Try.prog R (pickS v7 v11 (Go.Value.bool false)) w (fun v12 w => -- modes.go:52
  Gk v12 false (fun k => k v0 w) w (fun v14 w => -- modes.go:52
  Gk v12 false (fun k => uv Try.prog R (binS Go.BinOp.and 3 (.tmp 14) (.const (Go.Value.int Go.IntKind.i64 16)) v14 (Go.Value.int Go.IntKind.i64 16)) w k) w (fun v15 w => -- modes.go:52
  Gk v12 false (fun k => uv Try.prog R (binS Go.BinOp.neq 3 (.tmp 15) (.const (Go.Value.int Go.IntKind.i64 0)) v15 (Go.Value.int Go.IntKind.i64 0)) w k) w (fun v16 w => -- modes.go:52
  uv Try.prog R (pickS v12 (Go.Value.bool true) v16) w (fun v17 w => -- modes.go:52
  R (.returned v17) w))))))))))
theorem F55_s1_st (R : Ending → World → Prop) (X : Nat → Fr → World → Prop) (f : Fr) (w : World) (h : F55_s1_t R (f 0) (f 1) w) : wpE Try.prog F55_dc (resK Try.prog [.tmp 4] R) (panK R) (.seq (cL F55_b) (cL (cR F55_b))) (resK Try.prog [.tmp 4] R) X f w := Eq.mp (by kernel_rfl) h
def F55_s1 (R : Ending → World → Prop) (v0 : Value) (v1 : Value) (w : World) : Prop :=
  F55_s1_t R v0 v1 w
noncomputable def F55_s1_c : Code := (.seq (.seq (cL F55_b) (cL (cR F55_b))) .ret)
theorem F55_s1_ok (R : Ending → World → Prop) : ∀ f w, ((fun f w => F55_s1 R (f 0) (f 1) w)) f w → wpE Try.prog F55_dc (resK Try.prog [.tmp 4] R) (panK R) F55_s1_c (resK Try.prog [.tmp 4] R) noX f w :=
  fun f w h => cut (.seq (cL F55_b) (cL (cR F55_b))) .ret (K := (resK Try.prog [.tmp 4] R)) (fun f w h => ret_ok h) f w (F55_s1_st R _ f w h)
theorem F55_all_e (R : Ending → World → Prop) (K : Fr → World → Prop) (X : Nat → Fr → World → Prop) (f : Fr) (w : World) (h : wpE Try.prog F55_dc (resK Try.prog [.tmp 4] R) (panK R) F55_s1_c K X f w) : wpE Try.prog F55_dc (resK Try.prog [.tmp 4] R) (panK R) F55_b K X f w := Eq.mp (by kernel_rfl) h
theorem F55_calls (R : Ending → World → Prop) (v0 : Value) (v1 : Value) (w : World) (h : F55_s1 R v0 v1 w) : Calls Try.prog 55 #[v0, v1] w R :=
  calls_of_wpE (dc := F55_dc) (args := [v0, v1]) hmixed Try.func55 (c := F55_b) rfl (rs := [.tmp 4]) rfl (by kernel_rfl) (Nat.le_of_ble_eq_true (by kernel_rfl)) (F55_all_e R _ _ _ w ((F55_s1_ok R) (initFr [v0, v1]) w h))

/-! ### hasp/haspref09.Together -/
noncomputable def F33_b : Code := bodyOf Try.f33
def F33_dc : Nat → List (Nat × Bool)
  | _ => []
def F33_s3_t (R : Ending → World → Prop) (v0 : Value) (v1 : Value) (v5 : Value) (w : World) : Prop :=
  uv Try.prog R (Instr.indexAt 91 v5 v0) w (fun v22 w => -- ref.go:13
  uv Try.prog R (Instr.loadAt 9 v22) w (fun v23 w => -- ref.go:13
  uv Try.prog R (Instr.index 9 v23 v1) w (fun v25 w => -- ref.go:13
  uv Try.prog R (binS Go.BinOp.eql 5 (.tmp 25) (.const (Go.Value.int Go.IntKind.u8 121)) v25 (Go.Value.int Go.IntKind.u8 121)) w (fun v26 w => -- ref.go:13
  R (.returned v26) w))))
theorem F33_s3_st (R : Ending → World → Prop) (X : Nat → Fr → World → Prop) (f : Fr) (w : World) (h : F33_s3_t R (f 0) (f 1) (f 5) w) : wpE Try.prog F33_dc (resK Try.prog [.tmp 4] R) (panK R) (cL (cR (cR (cR F33_b)))) (resK Try.prog [.tmp 4] R) X f w := Eq.mp (by kernel_rfl) h
def F33_s3 (R : Ending → World → Prop) (v0 : Value) (v1 : Value) (v5 : Value) (w : World) : Prop :=
  F33_s3_t R v0 v1 v5 w
noncomputable def F33_s3_c : Code := (.seq (cL (cR (cR (cR F33_b)))) .ret)
theorem F33_s3_ok (R : Ending → World → Prop) : ∀ f w, ((fun f w => F33_s3 R (f 0) (f 1) (f 5) w)) f w → wpE Try.prog F33_dc (resK Try.prog [.tmp 4] R) (panK R) F33_s3_c (resK Try.prog [.tmp 4] R) noX f w :=
  fun f w h => cut (cL (cR (cR (cR F33_b)))) .ret (K := (resK Try.prog [.tmp 4] R)) (fun f w h => ret_ok h) f w (F33_s3_st R _ f w h)
def F33_s4_t (R : Ending → World → Prop) (w : World) : Prop :=
  R (.returned (Go.Value.bool false)) w
theorem F33_s4_st (R : Ending → World → Prop) (X : Nat → Fr → World → Prop) (f : Fr) (w : World) (h : F33_s4_t R w) : wpE Try.prog F33_dc (resK Try.prog [.tmp 4] R) (panK R) (cL (cT (cR (cL (cR (cR F33_b)))))) (resK Try.prog [.tmp 4] R) X f w := Eq.mp (by kernel_rfl) h
def F33_s4 (R : Ending → World → Prop) (w : World) : Prop :=
  F33_s4_t R w
noncomputable def F33_s4_c : Code := (.seq (cL (cT (cR (cL (cR (cR F33_b)))))) .ret)
theorem F33_s4_ok (R : Ending → World → Prop) : ∀ f w, ((fun f w => F33_s4 R w)) f w → wpE Try.prog F33_dc (resK Try.prog [.tmp 4] R) (panK R) F33_s4_c (fun f w => F33_s3 R (f 0) (f 1) (f 5) w) noX f w :=
  fun f w h => cut (cL (cT (cR (cL (cR (cR F33_b)))))) .ret (K := (resK Try.prog [.tmp 4] R)) (fun f w h => ret_ok h) f w (F33_s4_st R _ f w h)
def F33_s2 (R : Ending → World → Prop) (v0 : Value) (v1 : Value) (v5 : Value) (v20 : Value) (w : World) : Prop :=
  Bc v20
    (F33_s4 R w)
    (F33_s3 R v0 v1 v5 w)
noncomputable def F33_s2_c : Code := (.seq (cR (cL (cR (cR F33_b)))) F33_s3_c)
theorem F33_s2_e (R : Ending → World → Prop) (K : Fr → World → Prop) (X : Nat → Fr → World → Prop) (f : Fr) (w : World) (h : Bc (f 20) (wpE Try.prog F33_dc (resK Try.prog [.tmp 4] R) (panK R) F33_s4_c K X f w) (wpE Try.prog F33_dc (resK Try.prog [.tmp 4] R) (panK R) .skip K X f w)) : (wpE Try.prog F33_dc (resK Try.prog [.tmp 4] R) (panK R) (cR (cL (cR (cR F33_b)))) K X f w) := Eq.mp (by kernel_rfl) h
theorem F33_s2_ok (R : Ending → World → Prop) : ∀ f w, ((fun f w => F33_s2 R (f 0) (f 1) (f 5) (f 20) w)) f w → wpE Try.prog F33_dc (resK Try.prog [.tmp 4] R) (panK R) F33_s2_c (resK Try.prog [.tmp 4] R) noX f w :=
  fun f w h => cut (cR (cL (cR (cR F33_b)))) F33_s3_c (K := (fun f w => F33_s3 R (f 0) (f 1) (f 5) w)) (F33_s3_ok R) f w (F33_s2_e R _ _ f w (Bc_imp (x' := (wpE Try.prog F33_dc (resK Try.prog [.tmp 4] R) (panK R) F33_s4_c (fun f w => F33_s3 R (f 0) (f 1) (f 5) w) noX f w)) (y' := (wpE Try.prog F33_dc (resK Try.prog [.tmp 4] R) (panK R) .skip (fun f w => F33_s3 R (f 0) (f 1) (f 5) w) noX f w)) ((F33_s4_ok R) f w) ((fun f w h => skip_ok h) f w) h))
def F33_s1_t (R : Ending → World → Prop) (K : Value → Value → Value → Value → World → Prop) (v0 : Value) (v1 : Value) (w : World) : Prop :=
  uv Try.prog R (Instr.build 91 #[(0, (Go.Value.string { data := #[121, 121, 121, 121, 121, 121, 121] })), (1, (Go.Value.string { data := #[121, 121, 121, 121, 121, 121, 110] })), (2, (Go.Value.string { data := #[121, 121, 121, 110, 110, 110, 110] })), (3, (Go.Value.string { data := #[121, 121, 110, 121, 110, 121, 110] })), (4, (Go.Value.string { data := #[121, 121, 110, 110, 110, 110, 110] })), (5, (Go.Value.string { data := #[121, 121, 110, 121, 110, 110, 110] })), (6, (Go.Value.string { data := #[121, 110, 110, 110, 110, 110, 110] }))]) w (fun v6 w => -- ref.go:9
  uv Try.prog R (Instr.alloc 91 true (.tuple #[])) w (fun v5 w => -- ref.go:9
  uu Try.prog R (Instr.storeAt 91 v5 v6) w (fun w => -- ref.go:9
  uv Try.prog R (binS Go.BinOp.lss 3 (.tmp 7) (.const (Go.Value.int Go.IntKind.i64 0)) v0 (Go.Value.int Go.IntKind.i64 0)) w (fun v8 w => -- ref.go:10
  Gk v8 false (fun k => k v0 w) w (fun v10 w => -- ref.go:10
  Gk v8 false (fun k => uv Try.prog R (binS Go.BinOp.gtr 3 (.tmp 10) (.const (Go.Value.int Go.IntKind.i64 6)) v10 (Go.Value.int Go.IntKind.i64 6)) w k) w (fun v11 w => -- ref.go:10
  uv Try.prog R (pickS v8 (Go.Value.bool true) v11) w (fun v12 w => -- ref.go:10
  Gk v12 false (fun k => k v1 w) w (fun v14 w => -- ref.go:10
  Gk v12 false (fun k => uv Try.prog R (binS Go.BinOp.lss 3 (.tmp 14) (.const (Go.Value.int Go.IntKind.i64 0)) v14 (Go.Value.int Go.IntKind.i64 0)) w k) w (fun v15 w => -- ref.go:10
  uv Try.prog R (pickS v12 (Go.Value.bool true) v15) w (fun v16 w => -- ref.go:10
  Gk v16 false (fun k => k v1 w) w (fun v18 w => -- ref.go:10
  Gk v16 false (fun k => uv Try.prog R (binS Go.BinOp.gtr 3 (.tmp 18) (.const (Go.Value.int Go.IntKind.i64 6)) v18 (Go.Value.int Go.IntKind.i64 6)) w k) w (fun v19 w => -- ref.go:10
  uv Try.prog R (pickS v16 (Go.Value.bool true) v19) w (fun v20 w => -- ref.go:10
  K v0 v1 v5 v20 w)))))))))))))
theorem F33_s1_st (R : Ending → World → Prop) (K : Value → Value → Value → Value → World → Prop) (X : Nat → Fr → World → Prop) (f : Fr) (w : World) (h : F33_s1_t R K (f 0) (f 1) w) : wpE Try.prog F33_dc (resK Try.prog [.tmp 4] R) (panK R) (.seq (cL F33_b) (.seq (cL (cR F33_b)) (cL (cL (cR (cR F33_b)))))) (fun f w => K (f 0) (f 1) (f 5) (f 20) w) X f w := Eq.mp (by kernel_rfl) h
def F33_s1 (R : Ending → World → Prop) (v0 : Value) (v1 : Value) (w : World) : Prop :=
  F33_s1_t R (F33_s2 R) v0 v1 w
noncomputable def F33_s1_c : Code := (.seq (.seq (cL F33_b) (.seq (cL (cR F33_b)) (cL (cL (cR (cR F33_b)))))) F33_s2_c)
theorem F33_s1_ok (R : Ending → World → Prop) : ∀ f w, ((fun f w => F33_s1 R (f 0) (f 1) w)) f w → wpE Try.prog F33_dc (resK Try.prog [.tmp 4] R) (panK R) F33_s1_c (resK Try.prog [.tmp 4] R) noX f w :=
  fun f w h => cut (.seq (cL F33_b) (.seq (cL (cR F33_b)) (cL (cL (cR (cR F33_b)))))) F33_s2_c (K := (fun f w => F33_s2 R (f 0) (f 1) (f 5) (f 20) w)) (F33_s2_ok R) f w (F33_s1_st R (F33_s2 R) _ f w h)
theorem F33_all_e (R : Ending → World → Prop) (K : Fr → World → Prop) (X : Nat → Fr → World → Prop) (f : Fr) (w : World) (h : wpE Try.prog F33_dc (resK Try.prog [.tmp 4] R) (panK R) F33_s1_c K X f w) : wpE Try.prog F33_dc (resK Try.prog [.tmp 4] R) (panK R) F33_b K X f w := Eq.mp (by kernel_rfl) h
theorem F33_calls (R : Ending → World → Prop) (v0 : Value) (v1 : Value) (w : World) (h : F33_s1 R v0 v1 w) : Calls Try.prog 33 #[v0, v1] w R :=
  calls_of_wpE (dc := F33_dc) (args := [v0, v1]) hmixed Try.func33 (c := F33_b) rfl (rs := [.tmp 4]) rfl (by kernel_rfl) (Nat.le_of_ble_eq_true (by kernel_rfl)) (F33_all_e R _ _ _ w ((F33_s1_ok R) (initFr [v0, v1]) w h))

/-! ### hasp/haspref09.Covers -/
noncomputable def F15_b : Code := bodyOf Try.f15
def F15_dc : Nat → List (Nat × Bool)
  | _ => []
def F15_s3_t (R : Ending → World → Prop) (v0 : Value) (v1 : Value) (w : World) : Prop :=
  un Try.prog R (callFunc 43 #[v0, v1]) w (fun v21 w => -- ref.go:30
  uv Try.prog R (binS Go.BinOp.eql 3 (.tmp 21) (.tmp 22) v21 v0) w (fun v23 w => -- ref.go:30
  R (.returned v23) w))
theorem F15_s3_st (R : Ending → World → Prop) (X : Nat → Fr → World → Prop) (f : Fr) (w : World) (h : F15_s3_t R (f 0) (f 1) w) : wpE Try.prog F15_dc (resK Try.prog [.tmp 4] R) (panK R) (cL (cR (cR F15_b))) (resK Try.prog [.tmp 4] R) X f w := Eq.mp (by kernel_rfl) h
def F15_s3 (R : Ending → World → Prop) (v0 : Value) (v1 : Value) (w : World) : Prop :=
  F15_s3_t R v0 v1 w
noncomputable def F15_s3_c : Code := (.seq (cL (cR (cR F15_b))) .ret)
theorem F15_s3_ok (R : Ending → World → Prop) : ∀ f w, ((fun f w => F15_s3 R (f 0) (f 1) w)) f w → wpE Try.prog F15_dc (resK Try.prog [.tmp 4] R) (panK R) F15_s3_c (resK Try.prog [.tmp 4] R) noX f w :=
  fun f w h => cut (cL (cR (cR F15_b))) .ret (K := (resK Try.prog [.tmp 4] R)) (fun f w h => ret_ok h) f w (F15_s3_st R _ f w h)
def F15_s4_t (R : Ending → World → Prop) (w : World) : Prop :=
  R (.returned (Go.Value.bool false)) w
theorem F15_s4_st (R : Ending → World → Prop) (X : Nat → Fr → World → Prop) (f : Fr) (w : World) (h : F15_s4_t R w) : wpE Try.prog F15_dc (resK Try.prog [.tmp 4] R) (panK R) (cL (cT (cR (cL (cR F15_b))))) (resK Try.prog [.tmp 4] R) X f w := Eq.mp (by kernel_rfl) h
def F15_s4 (R : Ending → World → Prop) (w : World) : Prop :=
  F15_s4_t R w
noncomputable def F15_s4_c : Code := (.seq (cL (cT (cR (cL (cR F15_b))))) .ret)
theorem F15_s4_ok (R : Ending → World → Prop) : ∀ f w, ((fun f w => F15_s4 R w)) f w → wpE Try.prog F15_dc (resK Try.prog [.tmp 4] R) (panK R) F15_s4_c (fun f w => F15_s3 R (f 0) (f 1) w) noX f w :=
  fun f w h => cut (cL (cT (cR (cL (cR F15_b))))) .ret (K := (resK Try.prog [.tmp 4] R)) (fun f w h => ret_ok h) f w (F15_s4_st R _ f w h)
def F15_s2 (R : Ending → World → Prop) (v0 : Value) (v1 : Value) (v18 : Value) (w : World) : Prop :=
  Bc v18
    (F15_s4 R w)
    (F15_s3 R v0 v1 w)
noncomputable def F15_s2_c : Code := (.seq (cR (cL (cR F15_b))) F15_s3_c)
theorem F15_s2_e (R : Ending → World → Prop) (K : Fr → World → Prop) (X : Nat → Fr → World → Prop) (f : Fr) (w : World) (h : Bc (f 18) (wpE Try.prog F15_dc (resK Try.prog [.tmp 4] R) (panK R) F15_s4_c K X f w) (wpE Try.prog F15_dc (resK Try.prog [.tmp 4] R) (panK R) .skip K X f w)) : (wpE Try.prog F15_dc (resK Try.prog [.tmp 4] R) (panK R) (cR (cL (cR F15_b))) K X f w) := Eq.mp (by kernel_rfl) h
theorem F15_s2_ok (R : Ending → World → Prop) : ∀ f w, ((fun f w => F15_s2 R (f 0) (f 1) (f 18) w)) f w → wpE Try.prog F15_dc (resK Try.prog [.tmp 4] R) (panK R) F15_s2_c (resK Try.prog [.tmp 4] R) noX f w :=
  fun f w h => cut (cR (cL (cR F15_b))) F15_s3_c (K := (fun f w => F15_s3 R (f 0) (f 1) w)) (F15_s3_ok R) f w (F15_s2_e R _ _ f w (Bc_imp (x' := (wpE Try.prog F15_dc (resK Try.prog [.tmp 4] R) (panK R) F15_s4_c (fun f w => F15_s3 R (f 0) (f 1) w) noX f w)) (y' := (wpE Try.prog F15_dc (resK Try.prog [.tmp 4] R) (panK R) .skip (fun f w => F15_s3 R (f 0) (f 1) w) noX f w)) ((F15_s4_ok R) f w) ((fun f w h => skip_ok h) f w) h))
def F15_s1_t (R : Ending → World → Prop) (K : Value → Value → Value → World → Prop) (v0 : Value) (v1 : Value) (w : World) : Prop :=
  uv Try.prog R (binS Go.BinOp.lss 3 (.tmp 5) (.const (Go.Value.int Go.IntKind.i64 0)) v0 (Go.Value.int Go.IntKind.i64 0)) w (fun v6 w => -- ref.go:27
  Gk v6 false (fun k => k v0 w) w (fun v8 w => -- ref.go:27
  Gk v6 false (fun k => uv Try.prog R (binS Go.BinOp.gtr 3 (.tmp 8) (.const (Go.Value.int Go.IntKind.i64 6)) v8 (Go.Value.int Go.IntKind.i64 6)) w k) w (fun v9 w => -- ref.go:27
  uv Try.prog R (pickS v6 (Go.Value.bool true) v9) w (fun v10 w => -- ref.go:27
  Gk v10 false (fun k => k v1 w) w (fun v12 w => -- ref.go:27
  Gk v10 false (fun k => uv Try.prog R (binS Go.BinOp.lss 3 (.tmp 12) (.const (Go.Value.int Go.IntKind.i64 0)) v12 (Go.Value.int Go.IntKind.i64 0)) w k) w (fun v13 w => -- ref.go:27
  uv Try.prog R (pickS v10 (Go.Value.bool true) v13) w (fun v14 w => -- ref.go:27
  Gk v14 false (fun k => k v1 w) w (fun v16 w => -- ref.go:27
  Gk v14 false (fun k => uv Try.prog R (binS Go.BinOp.gtr 3 (.tmp 16) (.const (Go.Value.int Go.IntKind.i64 6)) v16 (Go.Value.int Go.IntKind.i64 6)) w k) w (fun v17 w => -- ref.go:27
  uv Try.prog R (pickS v14 (Go.Value.bool true) v17) w (fun v18 w => -- ref.go:27
  K v0 v1 v18 w))))))))))
theorem F15_s1_st (R : Ending → World → Prop) (K : Value → Value → Value → World → Prop) (X : Nat → Fr → World → Prop) (f : Fr) (w : World) (h : F15_s1_t R K (f 0) (f 1) w) : wpE Try.prog F15_dc (resK Try.prog [.tmp 4] R) (panK R) (.seq (cL F15_b) (cL (cL (cR F15_b)))) (fun f w => K (f 0) (f 1) (f 18) w) X f w := Eq.mp (by kernel_rfl) h
def F15_s1 (R : Ending → World → Prop) (v0 : Value) (v1 : Value) (w : World) : Prop :=
  F15_s1_t R (F15_s2 R) v0 v1 w
noncomputable def F15_s1_c : Code := (.seq (.seq (cL F15_b) (cL (cL (cR F15_b)))) F15_s2_c)
theorem F15_s1_ok (R : Ending → World → Prop) : ∀ f w, ((fun f w => F15_s1 R (f 0) (f 1) w)) f w → wpE Try.prog F15_dc (resK Try.prog [.tmp 4] R) (panK R) F15_s1_c (resK Try.prog [.tmp 4] R) noX f w :=
  fun f w h => cut (.seq (cL F15_b) (cL (cL (cR F15_b)))) F15_s2_c (K := (fun f w => F15_s2 R (f 0) (f 1) (f 18) w)) (F15_s2_ok R) f w (F15_s1_st R (F15_s2 R) _ f w h)
theorem F15_all_e (R : Ending → World → Prop) (K : Fr → World → Prop) (X : Nat → Fr → World → Prop) (f : Fr) (w : World) (h : wpE Try.prog F15_dc (resK Try.prog [.tmp 4] R) (panK R) F15_s1_c K X f w) : wpE Try.prog F15_dc (resK Try.prog [.tmp 4] R) (panK R) F15_b K X f w := Eq.mp (by kernel_rfl) h
theorem F15_calls (R : Ending → World → Prop) (v0 : Value) (v1 : Value) (w : World) (h : F15_s1 R v0 v1 w) : Calls Try.prog 15 #[v0, v1] w R :=
  calls_of_wpE (dc := F15_dc) (args := [v0, v1]) hmixed Try.func15 (c := F15_b) rfl (rs := [.tmp 4]) rfl (by kernel_rfl) (Nat.le_of_ble_eq_true (by kernel_rfl)) (F15_all_e R _ _ _ w ((F15_s1_ok R) (initFr [v0, v1]) w h))

/-! ### hasp/haspref09.Join -/
noncomputable def F43_b : Code := bodyOf Try.f43
def F43_dc : Nat → List (Nat × Bool)
  | _ => []
def F43_s3_t (R : Ending → World → Prop) (v0 : Value) (v1 : Value) (v5 : Value) (w : World) : Prop :=
  uv Try.prog R (Instr.indexAt 91 v5 v0) w (fun v22 w => -- ref.go:22
  uv Try.prog R (Instr.loadAt 9 v22) w (fun v23 w => -- ref.go:22
  uv Try.prog R (Instr.index 9 v23 v1) w (fun v25 w => -- ref.go:22
  uv Try.prog R (binS Go.BinOp.sub 5 (.tmp 25) (.const (Go.Value.int Go.IntKind.u8 48)) v25 (Go.Value.int Go.IntKind.u8 48)) w (fun v26 w => -- ref.go:22
  uv Try.prog R (convert 5 3 v26) w (fun v27 w => -- ref.go:22
  R (.returned v27) w)))))
theorem F43_s3_st (R : Ending → World → Prop) (X : Nat → Fr → World → Prop) (f : Fr) (w : World) (h : F43_s3_t R (f 0) (f 1) (f 5) w) : wpE Try.prog F43_dc (resK Try.prog [.tmp 4] R) (panK R) (cL (cR (cR (cR F43_b)))) (resK Try.prog [.tmp 4] R) X f w := Eq.mp (by kernel_rfl) h
def F43_s3 (R : Ending → World → Prop) (v0 : Value) (v1 : Value) (v5 : Value) (w : World) : Prop :=
  F43_s3_t R v0 v1 v5 w
noncomputable def F43_s3_c : Code := (.seq (cL (cR (cR (cR F43_b)))) .ret)
theorem F43_s3_ok (R : Ending → World → Prop) : ∀ f w, ((fun f w => F43_s3 R (f 0) (f 1) (f 5) w)) f w → wpE Try.prog F43_dc (resK Try.prog [.tmp 4] R) (panK R) F43_s3_c (resK Try.prog [.tmp 4] R) noX f w :=
  fun f w h => cut (cL (cR (cR (cR F43_b)))) .ret (K := (resK Try.prog [.tmp 4] R)) (fun f w h => ret_ok h) f w (F43_s3_st R _ f w h)
def F43_s4_t (R : Ending → World → Prop) (w : World) : Prop :=
  R (.returned (Go.Value.int Go.IntKind.i64 0)) w
theorem F43_s4_st (R : Ending → World → Prop) (X : Nat → Fr → World → Prop) (f : Fr) (w : World) (h : F43_s4_t R w) : wpE Try.prog F43_dc (resK Try.prog [.tmp 4] R) (panK R) (cL (cT (cR (cL (cR (cR F43_b)))))) (resK Try.prog [.tmp 4] R) X f w := Eq.mp (by kernel_rfl) h
def F43_s4 (R : Ending → World → Prop) (w : World) : Prop :=
  F43_s4_t R w
noncomputable def F43_s4_c : Code := (.seq (cL (cT (cR (cL (cR (cR F43_b)))))) .ret)
theorem F43_s4_ok (R : Ending → World → Prop) : ∀ f w, ((fun f w => F43_s4 R w)) f w → wpE Try.prog F43_dc (resK Try.prog [.tmp 4] R) (panK R) F43_s4_c (fun f w => F43_s3 R (f 0) (f 1) (f 5) w) noX f w :=
  fun f w h => cut (cL (cT (cR (cL (cR (cR F43_b)))))) .ret (K := (resK Try.prog [.tmp 4] R)) (fun f w h => ret_ok h) f w (F43_s4_st R _ f w h)
def F43_s2 (R : Ending → World → Prop) (v0 : Value) (v1 : Value) (v5 : Value) (v20 : Value) (w : World) : Prop :=
  Bc v20
    (F43_s4 R w)
    (F43_s3 R v0 v1 v5 w)
noncomputable def F43_s2_c : Code := (.seq (cR (cL (cR (cR F43_b)))) F43_s3_c)
theorem F43_s2_e (R : Ending → World → Prop) (K : Fr → World → Prop) (X : Nat → Fr → World → Prop) (f : Fr) (w : World) (h : Bc (f 20) (wpE Try.prog F43_dc (resK Try.prog [.tmp 4] R) (panK R) F43_s4_c K X f w) (wpE Try.prog F43_dc (resK Try.prog [.tmp 4] R) (panK R) .skip K X f w)) : (wpE Try.prog F43_dc (resK Try.prog [.tmp 4] R) (panK R) (cR (cL (cR (cR F43_b)))) K X f w) := Eq.mp (by kernel_rfl) h
theorem F43_s2_ok (R : Ending → World → Prop) : ∀ f w, ((fun f w => F43_s2 R (f 0) (f 1) (f 5) (f 20) w)) f w → wpE Try.prog F43_dc (resK Try.prog [.tmp 4] R) (panK R) F43_s2_c (resK Try.prog [.tmp 4] R) noX f w :=
  fun f w h => cut (cR (cL (cR (cR F43_b)))) F43_s3_c (K := (fun f w => F43_s3 R (f 0) (f 1) (f 5) w)) (F43_s3_ok R) f w (F43_s2_e R _ _ f w (Bc_imp (x' := (wpE Try.prog F43_dc (resK Try.prog [.tmp 4] R) (panK R) F43_s4_c (fun f w => F43_s3 R (f 0) (f 1) (f 5) w) noX f w)) (y' := (wpE Try.prog F43_dc (resK Try.prog [.tmp 4] R) (panK R) .skip (fun f w => F43_s3 R (f 0) (f 1) (f 5) w) noX f w)) ((F43_s4_ok R) f w) ((fun f w h => skip_ok h) f w) h))
def F43_s1_t (R : Ending → World → Prop) (K : Value → Value → Value → Value → World → Prop) (v0 : Value) (v1 : Value) (w : World) : Prop :=
  uv Try.prog R (Instr.build 91 #[(0, (Go.Value.string { data := #[48, 49, 50, 51, 52, 53, 54] })), (1, (Go.Value.string { data := #[49, 49, 50, 51, 52, 53, 54] })), (2, (Go.Value.string { data := #[50, 50, 50, 52, 52, 54, 54] })), (3, (Go.Value.string { data := #[51, 51, 52, 51, 52, 53, 54] })), (4, (Go.Value.string { data := #[52, 52, 52, 52, 52, 54, 54] })), (5, (Go.Value.string { data := #[53, 53, 54, 53, 54, 53, 54] })), (6, (Go.Value.string { data := #[54, 54, 54, 54, 54, 54, 54] }))]) w (fun v6 w => -- ref.go:18
  uv Try.prog R (Instr.alloc 91 true (.tuple #[])) w (fun v5 w => -- ref.go:18
  uu Try.prog R (Instr.storeAt 91 v5 v6) w (fun w => -- ref.go:18
  uv Try.prog R (binS Go.BinOp.lss 3 (.tmp 7) (.const (Go.Value.int Go.IntKind.i64 0)) v0 (Go.Value.int Go.IntKind.i64 0)) w (fun v8 w => -- ref.go:19
  Gk v8 false (fun k => k v0 w) w (fun v10 w => -- ref.go:19
  Gk v8 false (fun k => uv Try.prog R (binS Go.BinOp.gtr 3 (.tmp 10) (.const (Go.Value.int Go.IntKind.i64 6)) v10 (Go.Value.int Go.IntKind.i64 6)) w k) w (fun v11 w => -- ref.go:19
  uv Try.prog R (pickS v8 (Go.Value.bool true) v11) w (fun v12 w => -- ref.go:19
  Gk v12 false (fun k => k v1 w) w (fun v14 w => -- ref.go:19
  Gk v12 false (fun k => uv Try.prog R (binS Go.BinOp.lss 3 (.tmp 14) (.const (Go.Value.int Go.IntKind.i64 0)) v14 (Go.Value.int Go.IntKind.i64 0)) w k) w (fun v15 w => -- ref.go:19
  uv Try.prog R (pickS v12 (Go.Value.bool true) v15) w (fun v16 w => -- ref.go:19
  Gk v16 false (fun k => k v1 w) w (fun v18 w => -- ref.go:19
  Gk v16 false (fun k => uv Try.prog R (binS Go.BinOp.gtr 3 (.tmp 18) (.const (Go.Value.int Go.IntKind.i64 6)) v18 (Go.Value.int Go.IntKind.i64 6)) w k) w (fun v19 w => -- ref.go:19
  uv Try.prog R (pickS v16 (Go.Value.bool true) v19) w (fun v20 w => -- ref.go:19
  K v0 v1 v5 v20 w)))))))))))))
theorem F43_s1_st (R : Ending → World → Prop) (K : Value → Value → Value → Value → World → Prop) (X : Nat → Fr → World → Prop) (f : Fr) (w : World) (h : F43_s1_t R K (f 0) (f 1) w) : wpE Try.prog F43_dc (resK Try.prog [.tmp 4] R) (panK R) (.seq (cL F43_b) (.seq (cL (cR F43_b)) (cL (cL (cR (cR F43_b)))))) (fun f w => K (f 0) (f 1) (f 5) (f 20) w) X f w := Eq.mp (by kernel_rfl) h
def F43_s1 (R : Ending → World → Prop) (v0 : Value) (v1 : Value) (w : World) : Prop :=
  F43_s1_t R (F43_s2 R) v0 v1 w
noncomputable def F43_s1_c : Code := (.seq (.seq (cL F43_b) (.seq (cL (cR F43_b)) (cL (cL (cR (cR F43_b)))))) F43_s2_c)
theorem F43_s1_ok (R : Ending → World → Prop) : ∀ f w, ((fun f w => F43_s1 R (f 0) (f 1) w)) f w → wpE Try.prog F43_dc (resK Try.prog [.tmp 4] R) (panK R) F43_s1_c (resK Try.prog [.tmp 4] R) noX f w :=
  fun f w h => cut (.seq (cL F43_b) (.seq (cL (cR F43_b)) (cL (cL (cR (cR F43_b)))))) F43_s2_c (K := (fun f w => F43_s2 R (f 0) (f 1) (f 5) (f 20) w)) (F43_s2_ok R) f w (F43_s1_st R (F43_s2 R) _ f w h)
theorem F43_all_e (R : Ending → World → Prop) (K : Fr → World → Prop) (X : Nat → Fr → World → Prop) (f : Fr) (w : World) (h : wpE Try.prog F43_dc (resK Try.prog [.tmp 4] R) (panK R) F43_s1_c K X f w) : wpE Try.prog F43_dc (resK Try.prog [.tmp 4] R) (panK R) F43_b K X f w := Eq.mp (by kernel_rfl) h
theorem F43_calls (R : Ending → World → Prop) (v0 : Value) (v1 : Value) (w : World) (h : F43_s1 R v0 v1 w) : Calls Try.prog 43 #[v0, v1] w R :=
  calls_of_wpE (dc := F43_dc) (args := [v0, v1]) hmixed Try.func43 (c := F43_b) rfl (rs := [.tmp 4]) rfl (by kernel_rfl) (Nat.le_of_ble_eq_true (by kernel_rfl)) (F43_all_e R _ _ _ w ((F43_s1_ok R) (initFr [v0, v1]) w h))

/-! ### cmp.Compare[int] -/
noncomputable def F41_b : Code := bodyOf Try.f41
def F41_dc : Nat → List (Nat × Bool)
  | _ => []
def F41_s9_t (R : Ending → World → Prop) (w : World) : Prop :=
  R (.returned (Go.Value.int Go.IntKind.i64 0)) w
theorem F41_s9_st (R : Ending → World → Prop) (X : Nat → Fr → World → Prop) (f : Fr) (w : World) (h : F41_s9_t R w) : wpE Try.prog F41_dc (resK Try.prog [.tmp 4] R) (panK R) (cL (cR (cR (cR (cR (cR (cR (cR F41_b)))))))) (resK Try.prog [.tmp 4] R) X f w := Eq.mp (by kernel_rfl) h
def F41_s9 (R : Ending → World → Prop) (w : World) : Prop :=
  F41_s9_t R w
noncomputable def F41_s9_c : Code := (.seq (cL (cR (cR (cR (cR (cR (cR (cR F41_b)))))))) .ret)
theorem F41_s9_ok (R : Ending → World → Prop) : ∀ f w, ((fun f w => F41_s9 R w)) f w → wpE Try.prog F41_dc (resK Try.prog [.tmp 4] R) (panK R) F41_s9_c (resK Try.prog [.tmp 4] R) noX f w :=
  fun f w h => cut (cL (cR (cR (cR (cR (cR (cR (cR F41_b)))))))) .ret (K := (resK Try.prog [.tmp 4] R)) (fun f w h => ret_ok h) f w (F41_s9_st R _ f w h)
def F41_s10_t (R : Ending → World → Prop) (w : World) : Prop :=
  R (.returned (Go.Value.int Go.IntKind.i64 1)) w
theorem F41_s10_st (R : Ending → World → Prop) (X : Nat → Fr → World → Prop) (f : Fr) (w : World) (h : F41_s10_t R w) : wpE Try.prog F41_dc (resK Try.prog [.tmp 4] R) (panK R) (cL (cT (cR (cL (cR (cR (cR (cR (cR (cR F41_b)))))))))) (resK Try.prog [.tmp 4] R) X f w := Eq.mp (by kernel_rfl) h
def F41_s10 (R : Ending → World → Prop) (w : World) : Prop :=
  F41_s10_t R w
noncomputable def F41_s10_c : Code := (.seq (cL (cT (cR (cL (cR (cR (cR (cR (cR (cR F41_b)))))))))) .ret)
theorem F41_s10_ok (R : Ending → World → Prop) : ∀ f w, ((fun f w => F41_s10 R w)) f w → wpE Try.prog F41_dc (resK Try.prog [.tmp 4] R) (panK R) F41_s10_c (fun f w => F41_s9 R w) noX f w :=
  fun f w h => cut (cL (cT (cR (cL (cR (cR (cR (cR (cR (cR F41_b)))))))))) .ret (K := (resK Try.prog [.tmp 4] R)) (fun f w h => ret_ok h) f w (F41_s10_st R _ f w h)
def F41_s8 (R : Ending → World → Prop) (v19 : Value) (w : World) : Prop :=
  Bc v19
    (F41_s10 R w)
    (F41_s9 R w)
noncomputable def F41_s8_c : Code := (.seq (cR (cL (cR (cR (cR (cR (cR (cR F41_b)))))))) F41_s9_c)
theorem F41_s8_e (R : Ending → World → Prop) (K : Fr → World → Prop) (X : Nat → Fr → World → Prop) (f : Fr) (w : World) (h : Bc (f 19) (wpE Try.prog F41_dc (resK Try.prog [.tmp 4] R) (panK R) F41_s10_c K X f w) (wpE Try.prog F41_dc (resK Try.prog [.tmp 4] R) (panK R) .skip K X f w)) : (wpE Try.prog F41_dc (resK Try.prog [.tmp 4] R) (panK R) (cR (cL (cR (cR (cR (cR (cR (cR F41_b)))))))) K X f w) := Eq.mp (by kernel_rfl) h
theorem F41_s8_ok (R : Ending → World → Prop) : ∀ f w, ((fun f w => F41_s8 R (f 19) w)) f w → wpE Try.prog F41_dc (resK Try.prog [.tmp 4] R) (panK R) F41_s8_c (resK Try.prog [.tmp 4] R) noX f w :=
  fun f w h => cut (cR (cL (cR (cR (cR (cR (cR (cR F41_b)))))))) F41_s9_c (K := (fun f w => F41_s9 R w)) (F41_s9_ok R) f w (F41_s8_e R _ _ f w (Bc_imp (x' := (wpE Try.prog F41_dc (resK Try.prog [.tmp 4] R) (panK R) F41_s10_c (fun f w => F41_s9 R w) noX f w)) (y' := (wpE Try.prog F41_dc (resK Try.prog [.tmp 4] R) (panK R) .skip (fun f w => F41_s9 R w) noX f w)) ((F41_s10_ok R) f w) ((fun f w h => skip_ok h) f w) h))
def F41_s7_t (R : Ending → World → Prop) (K : Value → World → Prop) (v0 : Value) (v1 : Value) (w : World) : Prop :=
  uv Try.prog R (binS Go.BinOp.gtr 3 (.tmp 17) (.tmp 18) v0 v1) w (fun v19 w => -- cmp.go:55
  K v19 w)
theorem F41_s7_st (R : Ending → World → Prop) (K : Value → World → Prop) (X : Nat → Fr → World → Prop) (f : Fr) (w : World) (h : F41_s7_t R K (f 0) (f 1) w) : wpE Try.prog F41_dc (resK Try.prog [.tmp 4] R) (panK R) (cL (cL (cR (cR (cR (cR (cR (cR F41_b)))))))) (fun f w => K (f 19) w) X f w := Eq.mp (by kernel_rfl) h
def F41_s7 (R : Ending → World → Prop) (v0 : Value) (v1 : Value) (w : World) : Prop :=
  F41_s7_t R (F41_s8 R) v0 v1 w
noncomputable def F41_s7_c : Code := (.seq (cL (cL (cR (cR (cR (cR (cR (cR F41_b)))))))) F41_s8_c)
theorem F41_s7_ok (R : Ending → World → Prop) : ∀ f w, ((fun f w => F41_s7 R (f 0) (f 1) w)) f w → wpE Try.prog F41_dc (resK Try.prog [.tmp 4] R) (panK R) F41_s7_c (resK Try.prog [.tmp 4] R) noX f w :=
  fun f w h => cut (cL (cL (cR (cR (cR (cR (cR (cR F41_b)))))))) F41_s8_c (K := (fun f w => F41_s8 R (f 19) w)) (F41_s8_ok R) f w (F41_s7_st R (F41_s8 R) _ f w h)
def F41_s11_t (R : Ending → World → Prop) (w : World) : Prop :=
  R (.returned (Go.Value.int Go.IntKind.i64 (-1))) w
theorem F41_s11_st (R : Ending → World → Prop) (X : Nat → Fr → World → Prop) (f : Fr) (w : World) (h : F41_s11_t R w) : wpE Try.prog F41_dc (resK Try.prog [.tmp 4] R) (panK R) (cL (cT (cR (cL (cR (cR (cR (cR (cR F41_b))))))))) (resK Try.prog [.tmp 4] R) X f w := Eq.mp (by kernel_rfl) h
def F41_s11 (R : Ending → World → Prop) (w : World) : Prop :=
  F41_s11_t R w
noncomputable def F41_s11_c : Code := (.seq (cL (cT (cR (cL (cR (cR (cR (cR (cR F41_b))))))))) .ret)
theorem F41_s11_ok (R : Ending → World → Prop) : ∀ f w, ((fun f w => F41_s11 R w)) f w → wpE Try.prog F41_dc (resK Try.prog [.tmp 4] R) (panK R) F41_s11_c (fun f w => F41_s7 R (f 0) (f 1) w) noX f w :=
  fun f w h => cut (cL (cT (cR (cL (cR (cR (cR (cR (cR F41_b))))))))) .ret (K := (resK Try.prog [.tmp 4] R)) (fun f w h => ret_ok h) f w (F41_s11_st R _ f w h)
def F41_s6 (R : Ending → World → Prop) (v0 : Value) (v1 : Value) (v16 : Value) (w : World) : Prop :=
  Bc v16
    (F41_s11 R w)
    (F41_s7 R v0 v1 w)
noncomputable def F41_s6_c : Code := (.seq (cR (cL (cR (cR (cR (cR (cR F41_b))))))) F41_s7_c)
theorem F41_s6_e (R : Ending → World → Prop) (K : Fr → World → Prop) (X : Nat → Fr → World → Prop) (f : Fr) (w : World) (h : Bc (f 16) (wpE Try.prog F41_dc (resK Try.prog [.tmp 4] R) (panK R) F41_s11_c K X f w) (wpE Try.prog F41_dc (resK Try.prog [.tmp 4] R) (panK R) .skip K X f w)) : (wpE Try.prog F41_dc (resK Try.prog [.tmp 4] R) (panK R) (cR (cL (cR (cR (cR (cR (cR F41_b))))))) K X f w) := Eq.mp (by kernel_rfl) h
theorem F41_s6_ok (R : Ending → World → Prop) : ∀ f w, ((fun f w => F41_s6 R (f 0) (f 1) (f 16) w)) f w → wpE Try.prog F41_dc (resK Try.prog [.tmp 4] R) (panK R) F41_s6_c (resK Try.prog [.tmp 4] R) noX f w :=
  fun f w h => cut (cR (cL (cR (cR (cR (cR (cR F41_b))))))) F41_s7_c (K := (fun f w => F41_s7 R (f 0) (f 1) w)) (F41_s7_ok R) f w (F41_s6_e R _ _ f w (Bc_imp (x' := (wpE Try.prog F41_dc (resK Try.prog [.tmp 4] R) (panK R) F41_s11_c (fun f w => F41_s7 R (f 0) (f 1) w) noX f w)) (y' := (wpE Try.prog F41_dc (resK Try.prog [.tmp 4] R) (panK R) .skip (fun f w => F41_s7 R (f 0) (f 1) w) noX f w)) ((F41_s11_ok R) f w) ((fun f w h => skip_ok h) f w) h))
def F41_s5_t (R : Ending → World → Prop) (K : Value → Value → Value → World → Prop) (v0 : Value) (v1 : Value) (w : World) : Prop :=
  uv Try.prog R (binS Go.BinOp.lss 3 (.tmp 14) (.tmp 15) v0 v1) w (fun v16 w => -- cmp.go:52
  K v0 v1 v16 w)
theorem F41_s5_st (R : Ending → World → Prop) (K : Value → Value → Value → World → Prop) (X : Nat → Fr → World → Prop) (f : Fr) (w : World) (h : F41_s5_t R K (f 0) (f 1) w) : wpE Try.prog F41_dc (resK Try.prog [.tmp 4] R) (panK R) (cL (cL (cR (cR (cR (cR (cR F41_b))))))) (fun f w => K (f 0) (f 1) (f 16) w) X f w := Eq.mp (by kernel_rfl) h
def F41_s5 (R : Ending → World → Prop) (v0 : Value) (v1 : Value) (w : World) : Prop :=
  F41_s5_t R (F41_s6 R) v0 v1 w
noncomputable def F41_s5_c : Code := (.seq (cL (cL (cR (cR (cR (cR (cR F41_b))))))) F41_s6_c)
theorem F41_s5_ok (R : Ending → World → Prop) : ∀ f w, ((fun f w => F41_s5 R (f 0) (f 1) w)) f w → wpE Try.prog F41_dc (resK Try.prog [.tmp 4] R) (panK R) F41_s5_c (resK Try.prog [.tmp 4] R) noX f w :=
  fun f w h => cut (cL (cL (cR (cR (cR (cR (cR F41_b))))))) F41_s6_c (K := (fun f w => F41_s6 R (f 0) (f 1) (f 16) w)) (F41_s6_ok R) f w (F41_s5_st R (F41_s6 R) _ f w h)
def F41_s12_t (R : Ending → World → Prop) (w : World) : Prop :=
  R (.returned (Go.Value.int Go.IntKind.i64 1)) w
theorem F41_s12_st (R : Ending → World → Prop) (X : Nat → Fr → World → Prop) (f : Fr) (w : World) (h : F41_s12_t R w) : wpE Try.prog F41_dc (resK Try.prog [.tmp 4] R) (panK R) (cL (cT (cR (cL (cR (cR (cR (cR F41_b)))))))) (resK Try.prog [.tmp 4] R) X f w := Eq.mp (by kernel_rfl) h
def F41_s12 (R : Ending → World → Prop) (w : World) : Prop :=
  F41_s12_t R w
noncomputable def F41_s12_c : Code := (.seq (cL (cT (cR (cL (cR (cR (cR (cR F41_b)))))))) .ret)
theorem F41_s12_ok (R : Ending → World → Prop) : ∀ f w, ((fun f w => F41_s12 R w)) f w → wpE Try.prog F41_dc (resK Try.prog [.tmp 4] R) (panK R) F41_s12_c (fun f w => F41_s5 R (f 0) (f 1) w) noX f w :=
  fun f w h => cut (cL (cT (cR (cL (cR (cR (cR (cR F41_b)))))))) .ret (K := (resK Try.prog [.tmp 4] R)) (fun f w h => ret_ok h) f w (F41_s12_st R _ f w h)
def F41_s4 (R : Ending → World → Prop) (v0 : Value) (v1 : Value) (v13 : Value) (w : World) : Prop :=
  Bc v13
    (F41_s12 R w)
    (F41_s5 R v0 v1 w)
noncomputable def F41_s4_c : Code := (.seq (cR (cL (cR (cR (cR (cR F41_b)))))) F41_s5_c)
theorem F41_s4_e (R : Ending → World → Prop) (K : Fr → World → Prop) (X : Nat → Fr → World → Prop) (f : Fr) (w : World) (h : Bc (f 13) (wpE Try.prog F41_dc (resK Try.prog [.tmp 4] R) (panK R) F41_s12_c K X f w) (wpE Try.prog F41_dc (resK Try.prog [.tmp 4] R) (panK R) .skip K X f w)) : (wpE Try.prog F41_dc (resK Try.prog [.tmp 4] R) (panK R) (cR (cL (cR (cR (cR (cR F41_b)))))) K X f w) := Eq.mp (by kernel_rfl) h
theorem F41_s4_ok (R : Ending → World → Prop) : ∀ f w, ((fun f w => F41_s4 R (f 0) (f 1) (f 13) w)) f w → wpE Try.prog F41_dc (resK Try.prog [.tmp 4] R) (panK R) F41_s4_c (resK Try.prog [.tmp 4] R) noX f w :=
  fun f w h => cut (cR (cL (cR (cR (cR (cR F41_b)))))) F41_s5_c (K := (fun f w => F41_s5 R (f 0) (f 1) w)) (F41_s5_ok R) f w (F41_s4_e R _ _ f w (Bc_imp (x' := (wpE Try.prog F41_dc (resK Try.prog [.tmp 4] R) (panK R) F41_s12_c (fun f w => F41_s5 R (f 0) (f 1) w) noX f w)) (y' := (wpE Try.prog F41_dc (resK Try.prog [.tmp 4] R) (panK R) .skip (fun f w => F41_s5 R (f 0) (f 1) w) noX f w)) ((F41_s12_ok R) f w) ((fun f w h => skip_ok h) f w) h))
def F41_s3_t (R : Ending → World → Prop) (K : Value → Value → Value → World → Prop) (v0 : Value) (v1 : Value) (v6 : Value) (w : World) : Prop :=
  K v0 v1 v6 w
theorem F41_s3_st (R : Ending → World → Prop) (K : Value → Value → Value → World → Prop) (X : Nat → Fr → World → Prop) (f : Fr) (w : World) (h : F41_s3_t R K (f 0) (f 1) (f 6) w) : wpE Try.prog F41_dc (resK Try.prog [.tmp 4] R) (panK R) (cL (cL (cR (cR (cR (cR F41_b)))))) (fun f w => K (f 0) (f 1) (f 13) w) X f w := Eq.mp (by kernel_rfl) h
def F41_s3 (R : Ending → World → Prop) (v0 : Value) (v1 : Value) (v6 : Value) (w : World) : Prop :=
  F41_s3_t R (F41_s4 R) v0 v1 v6 w
noncomputable def F41_s3_c : Code := (.seq (cL (cL (cR (cR (cR (cR F41_b)))))) F41_s4_c)
theorem F41_s3_ok (R : Ending → World → Prop) : ∀ f w, ((fun f w => F41_s3 R (f 0) (f 1) (f 6) w)) f w → wpE Try.prog F41_dc (resK Try.prog [.tmp 4] R) (panK R) F41_s3_c (resK Try.prog [.tmp 4] R) noX f w :=
  fun f w h => cut (cL (cL (cR (cR (cR (cR F41_b)))))) F41_s4_c (K := (fun f w => F41_s4 R (f 0) (f 1) (f 13) w)) (F41_s4_ok R) f w (F41_s3_st R (F41_s4 R) _ f w h)
def F41_s15_t (R : Ending → World → Prop) (w : World) : Prop :=
  R (.returned (Go.Value.int Go.IntKind.i64 (-1))) w
theorem F41_s15_st (R : Ending → World → Prop) (X : Nat → Fr → World → Prop) (f : Fr) (w : World) (h : F41_s15_t R w) : wpE Try.prog F41_dc (resK Try.prog [.tmp 4] R) (panK R) (cL (cR (cT (cR (cL (cR (cR (cR F41_b)))))))) (resK Try.prog [.tmp 4] R) X f w := Eq.mp (by kernel_rfl) h
def F41_s15 (R : Ending → World → Prop) (w : World) : Prop :=
  F41_s15_t R w
noncomputable def F41_s15_c : Code := (.seq (cL (cR (cT (cR (cL (cR (cR (cR F41_b)))))))) .ret)
theorem F41_s15_ok (R : Ending → World → Prop) : ∀ f w, ((fun f w => F41_s15 R w)) f w → wpE Try.prog F41_dc (resK Try.prog [.tmp 4] R) (panK R) F41_s15_c (fun f w => F41_s3 R (f 0) (f 1) (f 6) w) noX f w :=
  fun f w h => cut (cL (cR (cT (cR (cL (cR (cR (cR F41_b)))))))) .ret (K := (resK Try.prog [.tmp 4] R)) (fun f w h => ret_ok h) f w (F41_s15_st R _ f w h)
def F41_s16_t (R : Ending → World → Prop) (w : World) : Prop :=
  R (.returned (Go.Value.int Go.IntKind.i64 0)) w
theorem F41_s16_st (R : Ending → World → Prop) (X : Nat → Fr → World → Prop) (f : Fr) (w : World) (h : F41_s16_t R w) : wpE Try.prog F41_dc (resK Try.prog [.tmp 4] R) (panK R) (cL (cT (cR (cL (cT (cR (cL (cR (cR (cR F41_b)))))))))) (resK Try.prog [.tmp 4] R) X f w := Eq.mp (by kernel_rfl) h
def F41_s16 (R : Ending → World → Prop) (w : World) : Prop :=
  F41_s16_t R w
noncomputable def F41_s16_c : Code := (.seq (cL (cT (cR (cL (cT (cR (cL (cR (cR (cR F41_b)))))))))) .ret)
theorem F41_s16_ok (R : Ending → World → Prop) : ∀ f w, ((fun f w => F41_s16 R w)) f w → wpE Try.prog F41_dc (resK Try.prog [.tmp 4] R) (panK R) F41_s16_c (fun f w => F41_s15 R w) noX f w :=
  fun f w h => cut (cL (cT (cR (cL (cT (cR (cL (cR (cR (cR F41_b)))))))))) .ret (K := (resK Try.prog [.tmp 4] R)) (fun f w h => ret_ok h) f w (F41_s16_st R _ f w h)
def F41_s14 (R : Ending → World → Prop) (v12 : Value) (w : World) : Prop :=
  Bc v12
    (F41_s16 R w)
    (F41_s15 R w)
noncomputable def F41_s14_c : Code := (.seq (cR (cL (cT (cR (cL (cR (cR (cR F41_b)))))))) F41_s15_c)
theorem F41_s14_e (R : Ending → World → Prop) (K : Fr → World → Prop) (X : Nat → Fr → World → Prop) (f : Fr) (w : World) (h : Bc (f 12) (wpE Try.prog F41_dc (resK Try.prog [.tmp 4] R) (panK R) F41_s16_c K X f w) (wpE Try.prog F41_dc (resK Try.prog [.tmp 4] R) (panK R) .skip K X f w)) : (wpE Try.prog F41_dc (resK Try.prog [.tmp 4] R) (panK R) (cR (cL (cT (cR (cL (cR (cR (cR F41_b)))))))) K X f w) := Eq.mp (by kernel_rfl) h
theorem F41_s14_ok (R : Ending → World → Prop) : ∀ f w, ((fun f w => F41_s14 R (f 12) w)) f w → wpE Try.prog F41_dc (resK Try.prog [.tmp 4] R) (panK R) F41_s14_c (fun f w => F41_s3 R (f 0) (f 1) (f 6) w) noX f w :=
  fun f w h => cut (cR (cL (cT (cR (cL (cR (cR (cR F41_b)))))))) F41_s15_c (K := (fun f w => F41_s15 R w)) (F41_s15_ok R) f w (F41_s14_e R _ _ f w (Bc_imp (x' := (wpE Try.prog F41_dc (resK Try.prog [.tmp 4] R) (panK R) F41_s16_c (fun f w => F41_s15 R w) noX f w)) (y' := (wpE Try.prog F41_dc (resK Try.prog [.tmp 4] R) (panK R) .skip (fun f w => F41_s15 R w) noX f w)) ((F41_s16_ok R) f w) ((fun f w h => skip_ok h) f w) h))
def F41_s13_t (R : Ending → World → Prop) (K : Value → World → Prop) (v6 : Value) (w : World) : Prop :=
  K v6 w
theorem F41_s13_st (R : Ending → World → Prop) (K : Value → World → Prop) (X : Nat → Fr → World → Prop) (f : Fr) (w : World) (h : F41_s13_t R K (f 6) w) : wpE Try.prog F41_dc (resK Try.prog [.tmp 4] R) (panK R) (cL (cL (cT (cR (cL (cR (cR (cR F41_b)))))))) (fun f w => K (f 12) w) X f w := Eq.mp (by kernel_rfl) h
def F41_s13 (R : Ending → World → Prop) (v6 : Value) (w : World) : Prop :=
  F41_s13_t R (F41_s14 R) v6 w
noncomputable def F41_s13_c : Code := (.seq (cL (cL (cT (cR (cL (cR (cR (cR F41_b)))))))) F41_s14_c)
theorem F41_s13_ok (R : Ending → World → Prop) : ∀ f w, ((fun f w => F41_s13 R (f 6) w)) f w → wpE Try.prog F41_dc (resK Try.prog [.tmp 4] R) (panK R) F41_s13_c (fun f w => F41_s3 R (f 0) (f 1) (f 6) w) noX f w :=
  fun f w h => cut (cL (cL (cT (cR (cL (cR (cR (cR F41_b)))))))) F41_s14_c (K := (fun f w => F41_s14 R (f 12) w)) (F41_s14_ok R) f w (F41_s13_st R (F41_s14 R) _ f w h)
def F41_s2 (R : Ending → World → Prop) (v0 : Value) (v1 : Value) (v6 : Value) (v11 : Value) (w : World) : Prop :=
  Bc v11
    (F41_s13 R v6 w)
    (F41_s3 R v0 v1 v6 w)
noncomputable def F41_s2_c : Code := (.seq (cR (cL (cR (cR (cR F41_b))))) F41_s3_c)
theorem F41_s2_e (R : Ending → World → Prop) (K : Fr → World → Prop) (X : Nat → Fr → World → Prop) (f : Fr) (w : World) (h : Bc (f 11) (wpE Try.prog F41_dc (resK Try.prog [.tmp 4] R) (panK R) F41_s13_c K X f w) (wpE Try.prog F41_dc (resK Try.prog [.tmp 4] R) (panK R) .skip K X f w)) : (wpE Try.prog F41_dc (resK Try.prog [.tmp 4] R) (panK R) (cR (cL (cR (cR (cR F41_b))))) K X f w) := Eq.mp (by kernel_rfl) h
theorem F41_s2_ok (R : Ending → World → Prop) : ∀ f w, ((fun f w => F41_s2 R (f 0) (f 1) (f 6) (f 11) w)) f w → wpE Try.prog F41_dc (resK Try.prog [.tmp 4] R) (panK R) F41_s2_c (resK Try.prog [.tmp 4] R) noX f w :=
  fun f w h => cut (cR (cL (cR (cR (cR F41_b))))) F41_s3_c (K := (fun f w => F41_s3 R (f 0) (f 1) (f 6) w)) (F41_s3_ok R) f w (F41_s2_e R _ _ f w (Bc_imp (x' := (wpE Try.prog F41_dc (resK Try.prog [.tmp 4] R) (panK R) F41_s13_c (fun f w => F41_s3 R (f 0) (f 1) (f 6) w) noX f w)) (y' := (wpE Try.prog F41_dc (resK Try.prog [.tmp 4] R) (panK R) .skip (fun f w => F41_s3 R (f 0) (f 1) (f 6) w) noX f w)) ((F41_s13_ok R) f w) ((fun f w h => skip_ok h) f w) h))
def F41_s1_t (R : Ending → World → Prop) (K : Value → Value → Value → Value → World → Prop) (v0 : Value) (v1 : Value) (w : World) : Prop :=
  un Try.prog R (callFunc 58 #[v0]) w (fun v8 w => -- cmp.go:41
  un Try.prog R (callFunc 58 #[v1]) w (fun v10 w => -- cmp.go:42
  K v0 v1 v10 v8 w))
theorem F41_s1_st (R : Ending → World → Prop) (K : Value → Value → Value → Value → World → Prop) (X : Nat → Fr → World → Prop) (f : Fr) (w : World) (h : F41_s1_t R K (f 0) (f 1) w) : wpE Try.prog F41_dc (resK Try.prog [.tmp 4] R) (panK R) (.seq (cL F41_b) (.seq (cL (cR F41_b)) (.seq (cL (cR (cR F41_b))) (cL (cL (cR (cR (cR F41_b)))))))) (fun f w => K (f 0) (f 1) (f 6) (f 11) w) X f w := Eq.mp (by kernel_rfl) h
def F41_s1 (R : Ending → World → Prop) (v0 : Value) (v1 : Value) (w : World) : Prop :=
  F41_s1_t R (F41_s2 R) v0 v1 w
noncomputable def F41_s1_c : Code := (.seq (.seq (cL F41_b) (.seq (cL (cR F41_b)) (.seq (cL (cR (cR F41_b))) (cL (cL (cR (cR (cR F41_b)))))))) F41_s2_c)
theorem F41_s1_ok (R : Ending → World → Prop) : ∀ f w, ((fun f w => F41_s1 R (f 0) (f 1) w)) f w → wpE Try.prog F41_dc (resK Try.prog [.tmp 4] R) (panK R) F41_s1_c (resK Try.prog [.tmp 4] R) noX f w :=
  fun f w h => cut (.seq (cL F41_b) (.seq (cL (cR F41_b)) (.seq (cL (cR (cR F41_b))) (cL (cL (cR (cR (cR F41_b)))))))) F41_s2_c (K := (fun f w => F41_s2 R (f 0) (f 1) (f 6) (f 11) w)) (F41_s2_ok R) f w (F41_s1_st R (F41_s2 R) _ f w h)
theorem F41_all_e (R : Ending → World → Prop) (K : Fr → World → Prop) (X : Nat → Fr → World → Prop) (f : Fr) (w : World) (h : wpE Try.prog F41_dc (resK Try.prog [.tmp 4] R) (panK R) F41_s1_c K X f w) : wpE Try.prog F41_dc (resK Try.prog [.tmp 4] R) (panK R) F41_b K X f w := Eq.mp (by kernel_rfl) h
theorem F41_calls (R : Ending → World → Prop) (v0 : Value) (v1 : Value) (w : World) (h : F41_s1 R v0 v1 w) : Calls Try.prog 41 #[v0, v1] w R :=
  calls_of_wpE (dc := F41_dc) (args := [v0, v1]) hmixed Try.func41 (c := F41_b) rfl (rs := [.tmp 4]) rfl (by kernel_rfl) (Nat.le_of_ble_eq_true (by kernel_rfl)) (F41_all_e R _ _ _ w ((F41_s1_ok R) (initFr [v0, v1]) w h))

/-! ### cmp.Or[int] -/
noncomputable def F40_b : Code := bodyOf Try.f40
def F40_dc : Nat → List (Nat × Bool)
  | _ => []
def F40_s3_t (R : Ending → World → Prop) (v3 : Value) (w : World) : Prop :=
  R (.returned v3) w
theorem F40_s3_st (R : Ending → World → Prop) (X : Nat → Fr → World → Prop) (f : Fr) (w : World) (h : F40_s3_t R (f 3) w) : wpE Try.prog F40_dc (resK Try.prog [.tmp 2] R) (panK R) (cL (cR (cR (cR F40_b)))) (resK Try.prog [.tmp 2] R) X f w := Eq.mp (by kernel_rfl) h
def F40_s3 (R : Ending → World → Prop) (v3 : Value) (w : World) : Prop :=
  F40_s3_t R v3 w
noncomputable def F40_s3_c : Code := (.seq (cL (cR (cR (cR F40_b)))) .ret)
theorem F40_s3_ok (R : Ending → World → Prop) : ∀ f w, ((fun f w => F40_s3 R (f 3) w)) f w → wpE Try.prog F40_dc (resK Try.prog [.tmp 2] R) (panK R) F40_s3_c (resK Try.prog [.tmp 2] R) noX f w :=
  fun f w h => cut (cL (cR (cR (cR F40_b)))) .ret (K := (resK Try.prog [.tmp 2] R)) (fun f w h => ret_ok h) f w (F40_s3_st R _ f w h)
def F40_s8_t (R : Ending → World → Prop) (K : Value → World → Prop) (v3 : Value) (v6 : Value) (v7 : Value) (v8 : Value) (w : World) : Prop :=
  uv Try.prog R (binS Go.BinOp.add 3 (.tmp 8) (.const (Go.Value.int Go.IntKind.i64 1)) v8 (Go.Value.int Go.IntKind.i64 1)) w (fun v16 w => -- cmp.go:71
  K v16 w)
theorem F40_s8_st (R : Ending → World → Prop) (K : Value → World → Prop) (X : Nat → Fr → World → Prop) (f : Fr) (w : World) (h : F40_s8_t R K (f 3) (f 6) (f 7) (f 8) w) : wpE Try.prog F40_dc (resK Try.prog [.tmp 2] R) (panK R) (cR (cR (cR (cI (cI (cR (cL (cR (cR F40_b))))))))) (fun f w => K (f 8) w) X f w := Eq.mp (by kernel_rfl) h
def F40_s8 (R : Ending → World → Prop) (rec4 : Value → World → Prop) (v3 : Value) (v6 : Value) (v7 : Value) (v8 : Value) (w : World) : Prop :=
  F40_s8_t R (rec4) v3 v6 v7 v8 w
noncomputable def F40_s8_c : Code := (.seq (cR (cR (cR (cI (cI (cR (cL (cR (cR F40_b))))))))) .skip)
theorem F40_s8_ok (R : Ending → World → Prop) (rec4 : Value → World → Prop) : ∀ f w, ((fun f w => F40_s8 R rec4 (f 3) (f 6) (f 7) (f 8) w)) f w → wpE Try.prog F40_dc (resK Try.prog [.tmp 2] R) (panK R) F40_s8_c (fun f w => rec4 (f 8) w) (kxB 0 ((fun f w => F40_s3 R (f 3) w)) noX) f w :=
  fun f w h => cut (cR (cR (cR (cI (cI (cR (cL (cR (cR F40_b))))))))) .skip (K := (fun f w => rec4 (f 8) w)) (fun f w h => skip_ok h) f w (F40_s8_st R (rec4) _ f w h)
def F40_s11_t (R : Ending → World → Prop) (v5 : Value) (w : World) : Prop :=
  R (.returned v5) w
theorem F40_s11_st (R : Ending → World → Prop) (X : Nat → Fr → World → Prop) (f : Fr) (w : World) (h : F40_s11_t R (f 5) w) : wpE Try.prog F40_dc (resK Try.prog [.tmp 2] R) (panK R) (cL (cT (cR (cR (cI (cL (cR (cR (cI (cI (cR (cL (cR (cR F40_b)))))))))))))) (resK Try.prog [.tmp 2] R) X f w := Eq.mp (by kernel_rfl) h
def F40_s11 (R : Ending → World → Prop) (rec4 : Value → World → Prop) (v5 : Value) (w : World) : Prop :=
  F40_s11_t R v5 w
noncomputable def F40_s11_c : Code := (.seq (cL (cT (cR (cR (cI (cL (cR (cR (cI (cI (cR (cL (cR (cR F40_b)))))))))))))) .ret)
theorem F40_s11_ok (R : Ending → World → Prop) (rec4 : Value → World → Prop) : ∀ f w, ((fun f w => F40_s11 R rec4 (f 5) w)) f w → wpE Try.prog F40_dc (resK Try.prog [.tmp 2] R) (panK R) F40_s11_c (fun f w => F40_s8 R rec4 (f 3) (f 6) (f 7) (f 8) w) (kxB 1 ((fun f w => F40_s8 R rec4 (f 3) (f 6) (f 7) (f 8) w)) (kxB 0 ((fun f w => F40_s3 R (f 3) w)) noX)) f w :=
  fun f w h => cut (cL (cT (cR (cR (cI (cL (cR (cR (cI (cI (cR (cL (cR (cR F40_b)))))))))))))) .ret (K := (resK Try.prog [.tmp 2] R)) (fun f w h => ret_ok h) f w (F40_s11_st R _ f w h)
def F40_s10 (R : Ending → World → Prop) (rec4 : Value → World → Prop) (v3 : Value) (v5 : Value) (v6 : Value) (v7 : Value) (v8 : Value) (v14 : Value) (w : World) : Prop :=
  Bc v14
    (F40_s11 R rec4 v5 w)
    (F40_s8 R rec4 v3 v6 v7 v8 w)
noncomputable def F40_s10_c : Code := (.seq (cR (cR (cI (cL (cR (cR (cI (cI (cR (cL (cR (cR F40_b)))))))))))) .skip)
theorem F40_s10_e (R : Ending → World → Prop) (K : Fr → World → Prop) (X : Nat → Fr → World → Prop) (f : Fr) (w : World) (h : Bc (f 14) (wpE Try.prog F40_dc (resK Try.prog [.tmp 2] R) (panK R) F40_s11_c K X f w) (wpE Try.prog F40_dc (resK Try.prog [.tmp 2] R) (panK R) .skip K X f w)) : (wpE Try.prog F40_dc (resK Try.prog [.tmp 2] R) (panK R) (cR (cR (cI (cL (cR (cR (cI (cI (cR (cL (cR (cR F40_b)))))))))))) K X f w) := Eq.mp (by kernel_rfl) h
theorem F40_s10_ok (R : Ending → World → Prop) (rec4 : Value → World → Prop) : ∀ f w, ((fun f w => F40_s10 R rec4 (f 3) (f 5) (f 6) (f 7) (f 8) (f 14) w)) f w → wpE Try.prog F40_dc (resK Try.prog [.tmp 2] R) (panK R) F40_s10_c (fun f w => F40_s8 R rec4 (f 3) (f 6) (f 7) (f 8) w) (kxB 1 ((fun f w => F40_s8 R rec4 (f 3) (f 6) (f 7) (f 8) w)) (kxB 0 ((fun f w => F40_s3 R (f 3) w)) noX)) f w :=
  fun f w h => cut (cR (cR (cI (cL (cR (cR (cI (cI (cR (cL (cR (cR F40_b)))))))))))) .skip (K := (fun f w => F40_s8 R rec4 (f 3) (f 6) (f 7) (f 8) w)) (fun f w h => skip_ok h) f w (F40_s10_e R _ _ f w (Bc_imp (x' := (wpE Try.prog F40_dc (resK Try.prog [.tmp 2] R) (panK R) F40_s11_c (fun f w => F40_s8 R rec4 (f 3) (f 6) (f 7) (f 8) w) (kxB 1 ((fun f w => F40_s8 R rec4 (f 3) (f 6) (f 7) (f 8) w)) (kxB 0 ((fun f w => F40_s3 R (f 3) w)) noX)) f w)) (y' := (wpE Try.prog F40_dc (resK Try.prog [.tmp 2] R) (panK R) .skip (fun f w => F40_s8 R rec4 (f 3) (f 6) (f 7) (f 8) w) (kxB 1 ((fun f w => F40_s8 R rec4 (f 3) (f 6) (f 7) (f 8) w)) (kxB 0 ((fun f w => F40_s3 R (f 3) w)) noX)) f w)) ((F40_s11_ok R rec4) f w) ((fun f w h => skip_ok h) f w) h))
def F40_s9_t (R : Ending → World → Prop) (K : Value → Value → Value → Value → Value → Value → World → Prop) (v3 : Value) (v6 : Value) (v7 : Value) (v8 : Value) (w : World) : Prop :=
  uv Try.prog R (Instr.indexAt 29 v6 v8) w (fun v10 w => -- cmp.go:71
  uv Try.prog R (Instr.loadAt 3 v10) w (fun v11 w => -- cmp.go:71
  uv Try.prog R (binS Go.BinOp.neq 3 (.tmp 12) (.tmp 13) v11 v3) w (fun v14 w => -- cmp.go:72
  K v3 v11 v6 v7 v8 v14 w)))
theorem F40_s9_st (R : Ending → World → Prop) (K : Value → Value → Value → Value → Value → Value → World → Prop) (X : Nat → Fr → World → Prop) (f : Fr) (w : World) (h : F40_s9_t R K (f 3) (f 6) (f 7) (f 8) w) : wpE Try.prog F40_dc (resK Try.prog [.tmp 2] R) (panK R) (.seq (cL (cI (cL (cR (cR (cI (cI (cR (cL (cR (cR F40_b))))))))))) (cL (cR (cI (cL (cR (cR (cI (cI (cR (cL (cR (cR F40_b))))))))))))) (fun f w => K (f 3) (f 5) (f 6) (f 7) (f 8) (f 14) w) X f w := Eq.mp (by kernel_rfl) h
def F40_s9 (R : Ending → World → Prop) (rec4 : Value → World → Prop) (v3 : Value) (v6 : Value) (v7 : Value) (v8 : Value) (w : World) : Prop :=
  F40_s9_t R (F40_s10 R rec4) v3 v6 v7 v8 w
noncomputable def F40_s9_c : Code := (.seq (.seq (cL (cI (cL (cR (cR (cI (cI (cR (cL (cR (cR F40_b))))))))))) (cL (cR (cI (cL (cR (cR (cI (cI (cR (cL (cR (cR F40_b))))))))))))) F40_s10_c)
theorem F40_s9_ok (R : Ending → World → Prop) (rec4 : Value → World → Prop) : ∀ f w, ((fun f w => F40_s9 R rec4 (f 3) (f 6) (f 7) (f 8) w)) f w → wpE Try.prog F40_dc (resK Try.prog [.tmp 2] R) (panK R) F40_s9_c (fun f w => F40_s8 R rec4 (f 3) (f 6) (f 7) (f 8) w) (kxB 1 ((fun f w => F40_s8 R rec4 (f 3) (f 6) (f 7) (f 8) w)) (kxB 0 ((fun f w => F40_s3 R (f 3) w)) noX)) f w :=
  fun f w h => cut (.seq (cL (cI (cL (cR (cR (cI (cI (cR (cL (cR (cR F40_b))))))))))) (cL (cR (cI (cL (cR (cR (cI (cI (cR (cL (cR (cR F40_b))))))))))))) F40_s10_c (K := (fun f w => F40_s10 R rec4 (f 3) (f 5) (f 6) (f 7) (f 8) (f 14) w)) (F40_s10_ok R rec4) f w (F40_s9_st R (F40_s10 R rec4) _ f w h)
noncomputable def F40_s7_c : Code := (.seq (cL (cR (cR (cI (cI (cR (cL (cR (cR F40_b))))))))) F40_s8_c)
theorem F40_s7_e (R : Ending → World → Prop) (K : Fr → World → Prop) (X : Nat → Fr → World → Prop) (f : Fr) (w : World) (h : wpE Try.prog F40_dc (resK Try.prog [.tmp 2] R) (panK R) F40_s9_c K (kxB 1 K X) f w) : wpE Try.prog F40_dc (resK Try.prog [.tmp 2] R) (panK R) (cL (cR (cR (cI (cI (cR (cL (cR (cR F40_b))))))))) K X f w := Eq.mp (by kernel_rfl) h
theorem F40_s7_ok (R : Ending → World → Prop) (rec4 : Value → World → Prop) : ∀ f w, ((fun f w => F40_s9 R rec4 (f 3) (f 6) (f 7) (f 8) w)) f w → wpE Try.prog F40_dc (resK Try.prog [.tmp 2] R) (panK R) F40_s7_c (fun f w => rec4 (f 8) w) (kxB 0 ((fun f w => F40_s3 R (f 3) w)) noX) f w :=
  fun f w h => cut (cL (cR (cR (cI (cI (cR (cL (cR (cR F40_b))))))))) F40_s8_c (K := (fun f w => F40_s8 R rec4 (f 3) (f 6) (f 7) (f 8) w)) (F40_s8_ok R rec4) f w (F40_s7_e R _ _ f w ((F40_s9_ok R rec4) f w h))
def F40_s6 (R : Ending → World → Prop) (rec4 : Value → World → Prop) (v3 : Value) (v6 : Value) (v7 : Value) (v8 : Value) (v9 : Value) (w : World) : Prop :=
  Bc v9
    (F40_s9 R rec4 v3 v6 v7 v8 w)
    (F40_s3 R v3 w)
noncomputable def F40_s6_c : Code := (.seq (cL (cR (cI (cI (cR (cL (cR (cR F40_b)))))))) F40_s7_c)
theorem F40_s6_e (R : Ending → World → Prop) (K : Fr → World → Prop) (X : Nat → Fr → World → Prop) (f : Fr) (w : World) (h : Bc (f 9) (wpE Try.prog F40_dc (resK Try.prog [.tmp 2] R) (panK R) .skip K X f w) (wpE Try.prog F40_dc (resK Try.prog [.tmp 2] R) (panK R) (.exit 0) K X f w)) : (wpE Try.prog F40_dc (resK Try.prog [.tmp 2] R) (panK R) (cL (cR (cI (cI (cR (cL (cR (cR F40_b)))))))) K X f w) := Eq.mp (by kernel_rfl) h
theorem F40_s6_ok (R : Ending → World → Prop) (rec4 : Value → World → Prop) : ∀ f w, ((fun f w => F40_s6 R rec4 (f 3) (f 6) (f 7) (f 8) (f 9) w)) f w → wpE Try.prog F40_dc (resK Try.prog [.tmp 2] R) (panK R) F40_s6_c (fun f w => rec4 (f 8) w) (kxB 0 ((fun f w => F40_s3 R (f 3) w)) noX) f w :=
  fun f w h => cut (cL (cR (cI (cI (cR (cL (cR (cR F40_b)))))))) F40_s7_c (K := (fun f w => F40_s9 R rec4 (f 3) (f 6) (f 7) (f 8) w)) (F40_s7_ok R rec4) f w (F40_s6_e R _ _ f w (Bc_imp (x' := (wpE Try.prog F40_dc (resK Try.prog [.tmp 2] R) (panK R) .skip (fun f w => F40_s9 R rec4 (f 3) (f 6) (f 7) (f 8) w) (kxB 0 ((fun f w => F40_s3 R (f 3) w)) noX) f w)) (y' := (wpE Try.prog F40_dc (resK Try.prog [.tmp 2] R) (panK R) (.exit 0) (fun f w => F40_s9 R rec4 (f 3) (f 6) (f 7) (f 8) w) (kxB 0 ((fun f w => F40_s3 R (f 3) w)) noX) f w)) ((fun f w h => skip_ok h) f w) ((fun f w h => exit_hit h) f w) h))
def F40_s5_t (R : Ending → World → Prop) (K : Value → Value → Value → Value → Value → World → Prop) (v3 : Value) (v6 : Value) (v7 : Value) (v8 : Value) (w : World) : Prop :=
  uv Try.prog R (binS Go.BinOp.lss 3 (.tmp 8) (.tmp 7) v8 v7) w (fun v9 w => -- cmp.go:71
  K v3 v6 v7 v8 v9 w)
theorem F40_s5_st (R : Ending → World → Prop) (K : Value → Value → Value → Value → Value → World → Prop) (X : Nat → Fr → World → Prop) (f : Fr) (w : World) (h : F40_s5_t R K (f 3) (f 6) (f 7) (f 8) w) : wpE Try.prog F40_dc (resK Try.prog [.tmp 2] R) (panK R) (cL (cI (cI (cR (cL (cR (cR F40_b))))))) (fun f w => K (f 3) (f 6) (f 7) (f 8) (f 9) w) X f w := Eq.mp (by kernel_rfl) h
def F40_s5 (R : Ending → World → Prop) (rec4 : Value → World → Prop) (v3 : Value) (v6 : Value) (v7 : Value) (v8 : Value) (w : World) : Prop :=
  F40_s5_t R (F40_s6 R rec4) v3 v6 v7 v8 w
noncomputable def F40_s5_c : Code := (.seq (cL (cI (cI (cR (cL (cR (cR F40_b))))))) F40_s6_c)
theorem F40_s5_ok (R : Ending → World → Prop) (rec4 : Value → World → Prop) : ∀ f w, ((fun f w => F40_s5 R rec4 (f 3) (f 6) (f 7) (f 8) w)) f w → wpE Try.prog F40_dc (resK Try.prog [.tmp 2] R) (panK R) F40_s5_c (fun f w => rec4 (f 8) w) (kxB 0 ((fun f w => F40_s3 R (f 3) w)) noX) f w :=
  fun f w h => cut (cL (cI (cI (cR (cL (cR (cR F40_b))))))) F40_s6_c (K := (fun f w => F40_s6 R rec4 (f 3) (f 6) (f 7) (f 8) (f 9) w)) (F40_s6_ok R rec4) f w (F40_s5_st R (F40_s6 R rec4) _ f w h)
def F40_s4 (R : Ending → World → Prop) (v3 : Value) (v6 : Value) (v7 : Value) (v8 : Value) (w : World) : Prop :=
  Lp1 (fun rec4 v8 w => F40_s5 R rec4 v3 v6 v7 v8 w) v8 w
theorem F40_s4_e (R : Ending → World → Prop) (K : Fr → World → Prop) (X : Nat → Fr → World → Prop) (f : Fr) (w : World) (h : wpE Try.prog F40_dc (resK Try.prog [.tmp 2] R) (panK R) (.loop (cI (cI (cR (cL (cR (cR F40_b))))))) K X f w) : wpE Try.prog F40_dc (resK Try.prog [.tmp 2] R) (panK R) (cI (cR (cL (cR (cR F40_b))))) K X f w := Eq.mp (by kernel_rfl) h
theorem F40_s4b_e (R : Ending → World → Prop) (K : Fr → World → Prop) (X : Nat → Fr → World → Prop) (f : Fr) (w : World) (h : wpE Try.prog F40_dc (resK Try.prog [.tmp 2] R) (panK R) F40_s5_c K X f w) : wpE Try.prog F40_dc (resK Try.prog [.tmp 2] R) (panK R) (cI (cI (cR (cL (cR (cR F40_b)))))) K X f w := Eq.mp (by kernel_rfl) h
theorem F40_s4_ok (R : Ending → World → Prop) : ∀ f w, ((fun f w => F40_s4 R (f 3) (f 6) (f 7) (f 8) w)) f w → wpE Try.prog F40_dc (resK Try.prog [.tmp 2] R) (panK R) (cI (cR (cL (cR (cR F40_b))))) (fun f w => F40_s3 R (f 3) w) (kxB 0 ((fun f w => F40_s3 R (f 3) w)) noX) f w :=
  fun f w h => F40_s4_e R _ _ f w (loop1_ok (P := Try.prog) (dc := F40_dc) (kr := (resK Try.prog [.tmp 2] R)) (pan := panK R) (cI (cI (cR (cL (cR (cR F40_b)))))) (kn := (fun f w => F40_s3 R (f 3) w)) (kx := (kxB 0 ((fun f w => F40_s3 R (f 3) w)) noX)) (s0 := 8) (fun rec4 v8 w => F40_s5 R rec4 (f 3) (f 6) (f 7) v8 w) f (fun rec4 f' w' hf h' => F40_s4b_e R _ _ f' w' ((F40_s5_ok R rec4) f' w' (by simp only [hf 3 (by kernel_rfl), hf 6 (by kernel_rfl), hf 7 (by kernel_rfl)]; exact h'))) w h)
noncomputable def F40_s2_c : Code := (.seq (cR (cL (cR (cR F40_b)))) F40_s3_c)
theorem F40_s2_e (R : Ending → World → Prop) (K : Fr → World → Prop) (X : Nat → Fr → World → Prop) (f : Fr) (w : World) (h : wpE Try.prog F40_dc (resK Try.prog [.tmp 2] R) (panK R) (cI (cR (cL (cR (cR F40_b))))) K (kxB 0 K X) f w) : wpE Try.prog F40_dc (resK Try.prog [.tmp 2] R) (panK R) (cR (cL (cR (cR F40_b)))) K X f w := Eq.mp (by kernel_rfl) h
theorem F40_s2_ok (R : Ending → World → Prop) : ∀ f w, ((fun f w => F40_s4 R (f 3) (f 6) (f 7) (f 8) w)) f w → wpE Try.prog F40_dc (resK Try.prog [.tmp 2] R) (panK R) F40_s2_c (resK Try.prog [.tmp 2] R) noX f w :=
  fun f w h => cut (cR (cL (cR (cR F40_b)))) F40_s3_c (K := (fun f w => F40_s3 R (f 3) w)) (F40_s3_ok R) f w (F40_s2_e R _ _ f w ((F40_s4_ok R) f w h))
def F40_s1_t (R : Ending → World → Prop) (K : Value → Value → Value → Value → World → Prop) (v0 : Value) (w : World) : Prop :=
  un Try.prog R (builtin Go.Builtin.len #[29] 3 #[false] #[v0]) w (fun v7 w => -- cmp.go:71
  K (Go.Value.int Go.IntKind.i64 0) v0 v7 (Go.Value.int Go.IntKind.i64 0) w)
theorem F40_s1_st (R : Ending → World → Prop) (K : Value → Value → Value → Value → World → Prop) (X : Nat → Fr → World → Prop) (f : Fr) (w : World) (h : F40_s1_t R K (f 0) w) : wpE Try.prog F40_dc (resK Try.prog [.tmp 2] R) (panK R) (.seq (cL F40_b) (.seq (cL (cR F40_b)) (cL (cL (cR (cR F40_b)))))) (fun f w => K (f 3) (f 6) (f 7) (f 8) w) X f w := Eq.mp (by kernel_rfl) h
def F40_s1 (R : Ending → World → Prop) (v0 : Value) (w : World) : Prop :=
  F40_s1_t R (F40_s4 R) v0 w
noncomputable def F40_s1_c : Code := (.seq (.seq (cL F40_b) (.seq (cL (cR F40_b)) (cL (cL (cR (cR F40_b)))))) F40_s2_c)
theorem F40_s1_ok (R : Ending → World → Prop) : ∀ f w, ((fun f w => F40_s1 R (f 0) w)) f w → wpE Try.prog F40_dc (resK Try.prog [.tmp 2] R) (panK R) F40_s1_c (resK Try.prog [.tmp 2] R) noX f w :=
  fun f w h => cut (.seq (cL F40_b) (.seq (cL (cR F40_b)) (cL (cL (cR (cR F40_b)))))) F40_s2_c (K := (fun f w => F40_s4 R (f 3) (f 6) (f 7) (f 8) w)) (F40_s2_ok R) f w (F40_s1_st R (F40_s4 R) _ f w h)
theorem F40_all_e (R : Ending → World → Prop) (K : Fr → World → Prop) (X : Nat → Fr → World → Prop) (f : Fr) (w : World) (h : wpE Try.prog F40_dc (resK Try.prog [.tmp 2] R) (panK R) F40_s1_c K X f w) : wpE Try.prog F40_dc (resK Try.prog [.tmp 2] R) (panK R) F40_b K X f w := Eq.mp (by kernel_rfl) h
theorem F40_calls (R : Ending → World → Prop) (v0 : Value) (w : World) (h : F40_s1 R v0 w) : Calls Try.prog 40 #[v0] w R :=
  calls_of_wpE (dc := F40_dc) (args := [v0]) hmixed Try.func40 (c := F40_b) rfl (rs := [.tmp 2]) rfl (by kernel_rfl) (Nat.le_of_ble_eq_true (by kernel_rfl)) (F40_all_e R _ _ _ w ((F40_s1_ok R) (initFr [v0]) w h))

/-! ### cmp.isNaN[int] -/
noncomputable def F58_b : Code := bodyOf Try.f58
def F58_dc : Nat → List (Nat × Bool)
  | _ => []
def F58_s1_t (R : Ending → World → Prop) (v0 : Value) (w : World) : Prop :=
  uv Try.prog R (binS Go.BinOp.neq 3 (.tmp 3) (.tmp 4) v0 v0) w (fun v5 w => -- cmp.go:64
  R (.returned v5) w)
theorem F58_s1_st (R : Ending → World → Prop) (X : Nat → Fr → World → Prop) (f : Fr) (w : World) (h : F58_s1_t R (f 0) w) : wpE Try.prog F58_dc (resK Try.prog [.tmp 2] R) (panK R) (.seq (cL F58_b) (cL (cR F58_b))) (resK Try.prog [.tmp 2] R) X f w := Eq.mp (by kernel_rfl) h
def F58_s1 (R : Ending → World → Prop) (v0 : Value) (w : World) : Prop :=
  F58_s1_t R v0 w
noncomputable def F58_s1_c : Code := (.seq (.seq (cL F58_b) (cL (cR F58_b))) .ret)
theorem F58_s1_ok (R : Ending → World → Prop) : ∀ f w, ((fun f w => F58_s1 R (f 0) w)) f w → wpE Try.prog F58_dc (resK Try.prog [.tmp 2] R) (panK R) F58_s1_c (resK Try.prog [.tmp 2] R) noX f w :=
  fun f w h => cut (.seq (cL F58_b) (cL (cR F58_b))) .ret (K := (resK Try.prog [.tmp 2] R)) (fun f w h => ret_ok h) f w (F58_s1_st R _ f w h)
theorem F58_all_e (R : Ending → World → Prop) (K : Fr → World → Prop) (X : Nat → Fr → World → Prop) (f : Fr) (w : World) (h : wpE Try.prog F58_dc (resK Try.prog [.tmp 2] R) (panK R) F58_s1_c K X f w) : wpE Try.prog F58_dc (resK Try.prog [.tmp 2] R) (panK R) F58_b K X f w := Eq.mp (by kernel_rfl) h
theorem F58_calls (R : Ending → World → Prop) (v0 : Value) (w : World) (h : F58_s1 R v0 w) : Calls Try.prog 58 #[v0] w R :=
  calls_of_wpE (dc := F58_dc) (args := [v0]) hmixed Try.func58 (c := F58_b) rfl (rs := [.tmp 2]) rfl (by kernel_rfl) (Nat.le_of_ble_eq_true (by kernel_rfl)) (F58_all_e R _ _ _ w ((F58_s1_ok R) (initFr [v0]) w h))

end Go.Proofs.Ytpghlemcgjogpaa
