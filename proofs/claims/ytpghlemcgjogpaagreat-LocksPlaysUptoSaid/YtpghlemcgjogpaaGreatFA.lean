import Derived.Test.YtpghlemcgjogpaaGreatProg
import Derived.Test.YtpghlemcgjogpaaGreatSx
import Derived.Test.YtpghlemcgjogpaaGreatT
set_option linter.unusedVariables false
set_option maxRecDepth 100000
set_option maxHeartbeats 400000
namespace Go.Proofs.YtpghlemcgjogpaaGreat
open Go.Sx
/-! ### hasp/modes.Right -/
noncomputable def F17_b : Code := bodyOf Tryz.f17
def F17_dc : Nat → List (Nat × Bool)
  | _ => []
abbrev F17_k (R : RT) := resK Tryz.prog [.tmp 2] R
abbrev F17_W (R : RT) := wpE Tryz.prog F17_dc (F17_k R) (panK R)
noncomputable def F17_p0 := cL F17_b
noncomputable def F17_p1 := cR F17_b
noncomputable def F17_p2 := cL F17_p1
def F17_s1_t (R : RT) (v0 : Value) (w : World) : Prop :=
  uv Tryz.prog R (binS .geq 3 (.tmp 3) (.const (.int .i64 1)) v0 (.int .i64 1)) w (fun v4 w =>
  Gk v4 true (fun k => k v0 w) w (fun v6 w =>
  Gk v4 true (fun k => uv Tryz.prog R (binS .leq 3 (.tmp 6) (.const (.int .i64 6)) v6 (.int .i64 6)) w k) w (fun v7 w =>
  uv Tryz.prog R (pickS v4 v7 (.bool false)) w (fun v8 w =>
  R (.returned v8) w))))
theorem F17_s1_st (R : RT) (X : KX) (f : Fr) (w : World) (h : F17_s1_t R (f 0) w) : F17_W R (.seq F17_p0 F17_p2) (F17_k R) X f w := Eq.mp (by kernel_rfl) h
def F17_s1 (R : RT) (v0 : Value) (w : World) : Prop :=
  F17_s1_t R v0 w
noncomputable def F17_s1_c : Code := (.seq (.seq F17_p0 F17_p2) .ret)
theorem F17_s1_ok (R : RT) : OkW (F17_W R) (a1 (F17_s1 R) 0) F17_s1_c (F17_k R) noX :=
  fun f w h => cut (.seq F17_p0 F17_p2) .ret (K := (F17_k R)) (fun f w h => ret_ok h) f w (F17_s1_st R _ f w h)
theorem F17_all_e (R : RT) (K : KF) (X : KX) (f : Fr) (w : World) (h : F17_W R F17_s1_c K X f w) : F17_W R F17_b K X f w := Eq.mp (by kernel_rfl) h
theorem F17_calls (R : RT) (v0 : Value) (w : World) (h : F17_s1 R v0 w) : Calls Tryz.prog 17 #[v0] w R :=
  calls_of_wpE (dc := F17_dc) (args := [v0]) hmixed Tryz.func17 (c := F17_b) rfl (rs := [.tmp 2]) rfl (by kernel_rfl) (Nat.le_of_ble_eq_true (by kernel_rfl)) (F17_all_e R _ _ _ w ((F17_s1_ok R) (initFr [v0]) w h))

/-! ### hasp/modes.Join -/
noncomputable def F18_b : Code := bodyOf Tryz.f18
def F18_dc : Nat → List (Nat × Bool)
  | _ => []
abbrev F18_k (R : RT) := resK Tryz.prog [.tmp 4] R
abbrev F18_W (R : RT) := wpE Tryz.prog F18_dc (F18_k R) (panK R)
noncomputable def F18_p0 := cR F18_b
noncomputable def F18_p1 := cR F18_p0
noncomputable def F18_p2 := cL F18_p1
noncomputable def F18_p3 := cL F18_p0
noncomputable def F18_p4 := cR F18_p3
noncomputable def F18_p5 := cT F18_p4
noncomputable def F18_p6 := cL F18_p5
noncomputable def F18_p7 := cL F18_b
noncomputable def F18_p8 := cL F18_p3
def F18_s3_t (R : RT) (v0 v1 : Value) (w : World) : Prop :=
  un Tryz.prog R (callFunc 50 #[v0]) w (fun v14 w =>
  un Tryz.prog R (callFunc 50 #[v1]) w (fun v16 w =>
  uv Tryz.prog R (binS .or 3 (.tmp 14) (.tmp 16) v14 v16) w (fun v17 w =>
  un Tryz.prog R (callFunc 49 #[v17]) w (fun v18 w =>
  R (.returned v18) w))))
theorem F18_s3_st (R : RT) (X : KX) (f : Fr) (w : World) (h : F18_s3_t R (f 0) (f 1) w) : F18_W R F18_p2 (F18_k R) X f w := Eq.mp (by kernel_rfl) h
def F18_s3 (R : RT) (v0 v1 : Value) (w : World) : Prop :=
  F18_s3_t R v0 v1 w
noncomputable def F18_s3_c : Code := (.seq F18_p2 .ret)
theorem F18_s3_ok (R : RT) : OkW (F18_W R) (a2 (F18_s3 R) 0 1) F18_s3_c (F18_k R) noX :=
  fun f w h => cut F18_p2 .ret (K := (F18_k R)) (fun f w h => ret_ok h) f w (F18_s3_st R _ f w h)
def F18_s4_t (R : RT) (w : World) : Prop :=
  R (.returned (.int .i64 0)) w
theorem F18_s4_st (R : RT) (X : KX) (f : Fr) (w : World) (h : F18_s4_t R w) : F18_W R F18_p6 (F18_k R) X f w := Eq.mp (by kernel_rfl) h
def F18_s4 (R : RT) (w : World) : Prop :=
  F18_s4_t R w
noncomputable def F18_s4_c : Code := (.seq F18_p6 .ret)
theorem F18_s4_ok (R : RT) : OkW (F18_W R) ((fun f w => F18_s4 R w)) F18_s4_c (a2 (F18_s3 R) 0 1) noX :=
  fun f w h => cut F18_p6 .ret (K := (F18_k R)) (fun f w h => ret_ok h) f w (F18_s4_st R _ f w h)
def F18_s2 (R : RT) (v0 v1 v12 : Value) (w : World) : Prop :=
  Bc v12
    (F18_s4 R w)
    (F18_s3 R v0 v1 w)
noncomputable def F18_s2_c : Code := (.seq F18_p4 F18_s3_c)
theorem F18_s2_e (R : RT) (K : KF) (X : KX) (f : Fr) (w : World) (h : Bc (f 12) (F18_W R F18_s4_c K X f w) (F18_W R .skip K X f w)) : (F18_W R F18_p4 K X f w) := Eq.mp (by kernel_rfl) h
theorem F18_s2_ok (R : RT) : OkW (F18_W R) (a3 (F18_s2 R) 0 1 12) F18_s2_c (F18_k R) noX :=
  fun f w h => cut F18_p4 F18_s3_c (K := (a2 (F18_s3 R) 0 1)) (F18_s3_ok R) f w (F18_s2_e R _ _ f w (Bc_imp (x' := (F18_W R F18_s4_c (a2 (F18_s3 R) 0 1) noX f w)) (y' := (F18_W R .skip (a2 (F18_s3 R) 0 1) noX f w)) ((F18_s4_ok R) f w) ((fun f w h => skip_ok h) f w) h))
def F18_s1_t (R : RT) (K : V3) (v0 v1 : Value) (w : World) : Prop :=
  un Tryz.prog R (callFunc 48 #[v0]) w (fun v6 w =>
  uv Tryz.prog R (Op.unary .not v6) w (fun v7 w =>
  Gk v7 false (fun k => k v1 w) w (fun v9 w =>
  Gk v7 false (fun k => un Tryz.prog R (callFunc 48 #[v9]) w k) w (fun v10 w =>
  Gk v7 false (fun k => uv Tryz.prog R (Op.unary .not v10) w k) w (fun v11 w =>
  uv Tryz.prog R (pickS v7 (.bool true) v11) w (fun v12 w =>
  K v0 v1 v12 w))))))
theorem F18_s1_st (R : RT) (K : V3) (X : KX) (f : Fr) (w : World) (h : F18_s1_t R K (f 0) (f 1) w) : F18_W R (.seq F18_p7 F18_p8) (a3 K 0 1 12) X f w := Eq.mp (by kernel_rfl) h
def F18_s1 (R : RT) (v0 v1 : Value) (w : World) : Prop :=
  F18_s1_t R (F18_s2 R) v0 v1 w
noncomputable def F18_s1_c : Code := (.seq (.seq F18_p7 F18_p8) F18_s2_c)
theorem F18_s1_ok (R : RT) : OkW (F18_W R) (a2 (F18_s1 R) 0 1) F18_s1_c (F18_k R) noX :=
  fun f w h => cut (.seq F18_p7 F18_p8) F18_s2_c (K := (a3 (F18_s2 R) 0 1 12)) (F18_s2_ok R) f w (F18_s1_st R (F18_s2 R) _ f w h)
theorem F18_all_e (R : RT) (K : KF) (X : KX) (f : Fr) (w : World) (h : F18_W R F18_s1_c K X f w) : F18_W R F18_b K X f w := Eq.mp (by kernel_rfl) h
theorem F18_calls (R : RT) (v0 v1 : Value) (w : World) (h : F18_s1 R v0 v1 w) : Calls Tryz.prog 18 #[v0, v1] w R :=
  calls_of_wpE (dc := F18_dc) (args := [v0, v1]) hmixed Tryz.func18 (c := F18_b) rfl (rs := [.tmp 4]) rfl (by kernel_rfl) (Nat.le_of_ble_eq_true (by kernel_rfl)) (F18_all_e R _ _ _ w ((F18_s1_ok R) (initFr [v0, v1]) w h))

/-! ### slices.rotateRight[hasp/locks.wish] -/
noncomputable def F52_b : Code := bodyOf Tryz.f52
def F52_dc : Nat → List (Nat × Bool)
  | _ => []
abbrev F52_k (R : RT) := resK Tryz.prog [] R
abbrev F52_W (R : RT) := wpE Tryz.prog F52_dc (F52_k R) (panK R)
def F52_s1_t (R : RT) (v0 v1 : Value) (w : World) : Prop :=
  un Tryz.prog R (builtin .len #[56] 3 #[false] #[v0]) w (fun v6 w =>
  uv Tryz.prog R (binS .sub 3 (.tmp 6) (.tmp 7) v6 v1) w (fun v8 w =>
  un Tryz.prog R (callFunc 66 #[v0, v8]) w (fun v9 w =>
  R (.returned (.tuple #[])) w)))
theorem F52_s1_st (R : RT) (X : KX) (f : Fr) (w : World) (h : F52_s1_t R (f 0) (f 1) w) : F52_W R F52_b (F52_k R) X f w := Eq.mp (by kernel_rfl) h
def F52_s1 (R : RT) (v0 v1 : Value) (w : World) : Prop :=
  F52_s1_t R v0 v1 w
noncomputable def F52_s1_c : Code := (.seq F52_b .skip)
theorem F52_s1_ok (R : RT) : OkW (F52_W R) (a2 (F52_s1 R) 0 1) F52_s1_c (F52_k R) noX :=
  fun f w h => cut F52_b .skip (K := (F52_k R)) (fun f w h => skip_ok h) f w (F52_s1_st R _ f w h)
theorem F52_all_e (R : RT) (K : KF) (X : KX) (f : Fr) (w : World) (h : F52_W R F52_s1_c K X f w) : F52_W R F52_b K X f w := Eq.mp (by kernel_rfl) h
theorem F52_calls (R : RT) (v0 v1 : Value) (w : World) (h : F52_s1 R v0 v1 w) : Calls Tryz.prog 52 #[v0, v1] w R :=
  calls_of_wpE (dc := F52_dc) (args := [v0, v1]) hmixed Tryz.func52 (c := F52_b) rfl (rs := []) rfl (by kernel_rfl) (Nat.le_of_ble_eq_true (by kernel_rfl)) (F52_all_e R _ _ _ w ((F52_s1_ok R) (initFr [v0, v1]) w h))

/-! ### hasp/modes.known -/
noncomputable def F48_b : Code := bodyOf Tryz.f48
def F48_dc : Nat → List (Nat × Bool)
  | _ => []
abbrev F48_k (R : RT) := resK Tryz.prog [.tmp 2] R
abbrev F48_W (R : RT) := wpE Tryz.prog F48_dc (F48_k R) (panK R)
noncomputable def F48_p0 := cL F48_b
noncomputable def F48_p1 := cR F48_b
noncomputable def F48_p2 := cL F48_p1
def F48_s1_t (R : RT) (v0 : Value) (w : World) : Prop :=
  uv Tryz.prog R (binS .eql 3 (.tmp 3) (.const (.int .i64 0)) v0 (.int .i64 0)) w (fun v4 w =>
  Gk v4 false (fun k => k v0 w) w (fun v6 w =>
  Gk v4 false (fun k => un Tryz.prog R (callFunc 17 #[v6]) w k) w (fun v7 w =>
  uv Tryz.prog R (pickS v4 (.bool true) v7) w (fun v8 w =>
  R (.returned v8) w))))
theorem F48_s1_st (R : RT) (X : KX) (f : Fr) (w : World) (h : F48_s1_t R (f 0) w) : F48_W R (.seq F48_p0 F48_p2) (F48_k R) X f w := Eq.mp (by kernel_rfl) h
def F48_s1 (R : RT) (v0 : Value) (w : World) : Prop :=
  F48_s1_t R v0 w
noncomputable def F48_s1_c : Code := (.seq (.seq F48_p0 F48_p2) .ret)
theorem F48_s1_ok (R : RT) : OkW (F48_W R) (a1 (F48_s1 R) 0) F48_s1_c (F48_k R) noX :=
  fun f w h => cut (.seq F48_p0 F48_p2) .ret (K := (F48_k R)) (fun f w h => ret_ok h) f w (F48_s1_st R _ f w h)
theorem F48_all_e (R : RT) (K : KF) (X : KX) (f : Fr) (w : World) (h : F48_W R F48_s1_c K X f w) : F48_W R F48_b K X f w := Eq.mp (by kernel_rfl) h
theorem F48_calls (R : RT) (v0 : Value) (w : World) (h : F48_s1 R v0 w) : Calls Tryz.prog 48 #[v0] w R :=
  calls_of_wpE (dc := F48_dc) (args := [v0]) hmixed Tryz.func48 (c := F48_b) rfl (rs := [.tmp 2]) rfl (by kernel_rfl) (Nat.le_of_ble_eq_true (by kernel_rfl)) (F48_all_e R _ _ _ w ((F48_s1_ok R) (initFr [v0]) w h))

/-! ### hasp/modes.weakest -/
noncomputable def F49_b : Code := bodyOf Tryz.f49
def F49_dc : Nat → List (Nat × Bool)
  | _ => []
abbrev F49_k (R : RT) := resK Tryz.prog [.tmp 2] R
abbrev F49_W (R : RT) := wpE Tryz.prog F49_dc (F49_k R) (panK R)
noncomputable def F49_p0 := cR F49_b
noncomputable def F49_p1 := cR F49_p0
noncomputable def F49_p2 := cL F49_p1
noncomputable def F49_p3 := cL F49_p0
noncomputable def F49_p4 := cR F49_p3
noncomputable def F49_p5 := cI F49_p4
noncomputable def F49_p6 := cI F49_p5
noncomputable def F49_p7 := cR F49_p6
noncomputable def F49_p8 := cR F49_p7
noncomputable def F49_p9 := cR F49_p8
noncomputable def F49_p10 := cL F49_p8
noncomputable def F49_p11 := cI F49_p10
noncomputable def F49_p12 := cR F49_p11
noncomputable def F49_p13 := cR F49_p12
noncomputable def F49_p14 := cT F49_p13
noncomputable def F49_p15 := cL F49_p14
noncomputable def F49_p16 := cL F49_p11
noncomputable def F49_p17 := cL F49_p12
noncomputable def F49_p18 := cL F49_p7
noncomputable def F49_p19 := cL F49_p6
noncomputable def F49_p20 := cL F49_b
noncomputable def F49_p21 := cL F49_p3
def F49_s3_t (R : RT) (w : World) : Prop :=
  R (.returned (.int .i64 6)) w
theorem F49_s3_st (R : RT) (X : KX) (f : Fr) (w : World) (h : F49_s3_t R w) : F49_W R F49_p2 (F49_k R) X f w := Eq.mp (by kernel_rfl) h
def F49_s3 (R : RT) (w : World) : Prop :=
  F49_s3_t R w
noncomputable def F49_s3_c : Code := (.seq F49_p2 .ret)
theorem F49_s3_ok (R : RT) : OkW (F49_W R) ((fun f w => F49_s3 R w)) F49_s3_c (F49_k R) noX :=
  fun f w h => cut F49_p2 .ret (K := (F49_k R)) (fun f w h => ret_ok h) f w (F49_s3_st R _ f w h)
def F49_s8_t (R : RT) (K : V1) (v0 v5 v6 : Value) (w : World) : Prop :=
  uv Tryz.prog R (binS .add 3 (.tmp 6) (.const (.int .i64 1)) v6 (.int .i64 1)) w (fun v16 w =>
  K v16 w)
theorem F49_s8_st (R : RT) (K : V1) (X : KX) (f : Fr) (w : World) (h : F49_s8_t R K (f 0) (f 5) (f 6) w) : F49_W R F49_p9 (a1 K 6) X f w := Eq.mp (by kernel_rfl) h
def F49_s8 (R : RT) (rec4 : V1) (v0 v5 v6 : Value) (w : World) : Prop :=
  F49_s8_t R rec4 v0 v5 v6 w
noncomputable def F49_s8_c : Code := (.seq F49_p9 .skip)
theorem F49_s8_ok (R : RT) (rec4 : V1) : OkW (F49_W R) (a3 (F49_s8 R rec4) 0 5 6) F49_s8_c (a1 rec4 6) (kxB 0 ((fun f w => F49_s3 R w)) noX) :=
  fun f w h => cut F49_p9 .skip (K := (a1 rec4 6)) (fun f w h => skip_ok h) f w (F49_s8_st R rec4 _ f w h)
def F49_s11_t (R : RT) (v4 : Value) (w : World) : Prop :=
  R (.returned v4) w
theorem F49_s11_st (R : RT) (X : KX) (f : Fr) (w : World) (h : F49_s11_t R (f 4) w) : F49_W R F49_p15 (F49_k R) X f w := Eq.mp (by kernel_rfl) h
def F49_s11 (R : RT) (rec4 : V1) (v4 : Value) (w : World) : Prop :=
  F49_s11_t R v4 w
noncomputable def F49_s11_c : Code := (.seq F49_p15 .ret)
theorem F49_s11_ok (R : RT) (rec4 : V1) : OkW (F49_W R) (a1 (F49_s11 R rec4) 4) F49_s11_c (a3 (F49_s8 R rec4) 0 5 6) (kxB 1 (a3 (F49_s8 R rec4) 0 5 6) (kxB 0 ((fun f w => F49_s3 R w)) noX)) :=
  fun f w h => cut F49_p15 .ret (K := (F49_k R)) (fun f w h => ret_ok h) f w (F49_s11_st R _ f w h)
def F49_s10 (R : RT) (rec4 : V1) (v0 v4 v5 v6 v14 : Value) (w : World) : Prop :=
  Bc v14
    (F49_s11 R rec4 v4 w)
    (F49_s8 R rec4 v0 v5 v6 w)
noncomputable def F49_s10_c : Code := (.seq F49_p13 .skip)
theorem F49_s10_e (R : RT) (K : KF) (X : KX) (f : Fr) (w : World) (h : Bc (f 14) (F49_W R F49_s11_c K X f w) (F49_W R .skip K X f w)) : (F49_W R F49_p13 K X f w) := Eq.mp (by kernel_rfl) h
theorem F49_s10_ok (R : RT) (rec4 : V1) : OkW (F49_W R) (a5 (F49_s10 R rec4) 0 4 5 6 14) F49_s10_c (a3 (F49_s8 R rec4) 0 5 6) (kxB 1 (a3 (F49_s8 R rec4) 0 5 6) (kxB 0 ((fun f w => F49_s3 R w)) noX)) :=
  fun f w h => cut F49_p13 .skip (K := (a3 (F49_s8 R rec4) 0 5 6)) (fun f w h => skip_ok h) f w (F49_s10_e R _ _ f w (Bc_imp (x' := (F49_W R F49_s11_c (a3 (F49_s8 R rec4) 0 5 6) (kxB 1 (a3 (F49_s8 R rec4) 0 5 6) (kxB 0 ((fun f w => F49_s3 R w)) noX)) f w)) (y' := (F49_W R .skip (a3 (F49_s8 R rec4) 0 5 6) (kxB 1 (a3 (F49_s8 R rec4) 0 5 6) (kxB 0 ((fun f w => F49_s3 R w)) noX)) f w)) ((F49_s11_ok R rec4) f w) ((fun f w h => skip_ok h) f w) h))
def F49_s9_t (R : RT) (K : V5) (v0 v5 v6 : Value) (w : World) : Prop :=
  uv Tryz.prog R (Instr.index 105 v5 v6) w (fun v8 w =>
  un Tryz.prog R (callFunc 50 #[v8]) w (fun v10 w =>
  uv Tryz.prog R (binS .and 3 (.tmp 10) (.tmp 11) v10 v0) w (fun v12 w =>
  uv Tryz.prog R (binS .eql 3 (.tmp 12) (.tmp 13) v12 v0) w (fun v14 w =>
  K v0 v8 v5 v6 v14 w))))
theorem F49_s9_st (R : RT) (K : V5) (X : KX) (f : Fr) (w : World) (h : F49_s9_t R K (f 0) (f 5) (f 6) w) : F49_W R (.seq F49_p16 F49_p17) (a5 K 0 4 5 6 14) X f w := Eq.mp (by kernel_rfl) h
def F49_s9 (R : RT) (rec4 : V1) (v0 v5 v6 : Value) (w : World) : Prop :=
  F49_s9_t R (F49_s10 R rec4) v0 v5 v6 w
noncomputable def F49_s9_c : Code := (.seq (.seq F49_p16 F49_p17) F49_s10_c)
theorem F49_s9_ok (R : RT) (rec4 : V1) : OkW (F49_W R) (a3 (F49_s9 R rec4) 0 5 6) F49_s9_c (a3 (F49_s8 R rec4) 0 5 6) (kxB 1 (a3 (F49_s8 R rec4) 0 5 6) (kxB 0 ((fun f w => F49_s3 R w)) noX)) :=
  fun f w h => cut (.seq F49_p16 F49_p17) F49_s10_c (K := (a5 (F49_s10 R rec4) 0 4 5 6 14)) (F49_s10_ok R rec4) f w (F49_s9_st R (F49_s10 R rec4) _ f w h)
noncomputable def F49_s7_c : Code := (.seq F49_p10 F49_s8_c)
theorem F49_s7_e (R : RT) (K : KF) (X : KX) (f : Fr) (w : World) (h : F49_W R F49_s9_c K (kxB 1 K X) f w) : F49_W R F49_p10 K X f w := Eq.mp (by kernel_rfl) h
theorem F49_s7_ok (R : RT) (rec4 : V1) : OkW (F49_W R) (a3 (F49_s9 R rec4) 0 5 6) F49_s7_c (a1 rec4 6) (kxB 0 ((fun f w => F49_s3 R w)) noX) :=
  fun f w h => cut F49_p10 F49_s8_c (K := (a3 (F49_s8 R rec4) 0 5 6)) (F49_s8_ok R rec4) f w (F49_s7_e R _ _ f w ((F49_s9_ok R rec4) f w h))
def F49_s6 (R : RT) (rec4 : V1) (v0 v5 v6 v7 : Value) (w : World) : Prop :=
  Bc v7
    (F49_s9 R rec4 v0 v5 v6 w)
    (F49_s3 R w)
noncomputable def F49_s6_c : Code := (.seq F49_p18 F49_s7_c)
theorem F49_s6_e (R : RT) (K : KF) (X : KX) (f : Fr) (w : World) (h : Bc (f 7) (F49_W R .skip K X f w) (F49_W R (.exit 0) K X f w)) : (F49_W R F49_p18 K X f w) := Eq.mp (by kernel_rfl) h
theorem F49_s6_ok (R : RT) (rec4 : V1) : OkW (F49_W R) (a4 (F49_s6 R rec4) 0 5 6 7) F49_s6_c (a1 rec4 6) (kxB 0 ((fun f w => F49_s3 R w)) noX) :=
  fun f w h => cut F49_p18 F49_s7_c (K := (a3 (F49_s9 R rec4) 0 5 6)) (F49_s7_ok R rec4) f w (F49_s6_e R _ _ f w (Bc_imp (x' := (F49_W R .skip (a3 (F49_s9 R rec4) 0 5 6) (kxB 0 ((fun f w => F49_s3 R w)) noX) f w)) (y' := (F49_W R (.exit 0) (a3 (F49_s9 R rec4) 0 5 6) (kxB 0 ((fun f w => F49_s3 R w)) noX) f w)) ((fun f w h => skip_ok h) f w) ((fun f w h => exit_hit h) f w) h))
def F49_s5_t (R : RT) (K : V4) (v0 v5 v6 : Value) (w : World) : Prop :=
  uv Tryz.prog R (binS .lss 3 (.tmp 6) (.const (.int .i64 7)) v6 (.int .i64 7)) w (fun v7 w =>
  K v0 v5 v6 v7 w)
theorem F49_s5_st (R : RT) (K : V4) (X : KX) (f : Fr) (w : World) (h : F49_s5_t R K (f 0) (f 5) (f 6) w) : F49_W R F49_p19 (a4 K 0 5 6 7) X f w := Eq.mp (by kernel_rfl) h
def F49_s5 (R : RT) (rec4 : V1) (v0 v5 v6 : Value) (w : World) : Prop :=
  F49_s5_t R (F49_s6 R rec4) v0 v5 v6 w
noncomputable def F49_s5_c : Code := (.seq F49_p19 F49_s6_c)
theorem F49_s5_ok (R : RT) (rec4 : V1) : OkW (F49_W R) (a3 (F49_s5 R rec4) 0 5 6) F49_s5_c (a1 rec4 6) (kxB 0 ((fun f w => F49_s3 R w)) noX) :=
  fun f w h => cut F49_p19 F49_s6_c (K := (a4 (F49_s6 R rec4) 0 5 6 7)) (F49_s6_ok R rec4) f w (F49_s5_st R (F49_s6 R rec4) _ f w h)
def F49_s4 (R : RT) (v0 v5 v6 : Value) (w : World) : Prop :=
  Lp1 (fun rec4 v6 w => F49_s5 R rec4 v0 v5 v6 w) v6 w
theorem F49_s4_e (R : RT) (K : KF) (X : KX) (f : Fr) (w : World) (h : F49_W R (.loop F49_p6) K X f w) : F49_W R F49_p5 K X f w := Eq.mp (by kernel_rfl) h
theorem F49_s4b_e (R : RT) (K : KF) (X : KX) (f : Fr) (w : World) (h : F49_W R F49_s5_c K X f w) : F49_W R F49_p6 K X f w := Eq.mp (by kernel_rfl) h
theorem F49_s4_ok (R : RT) : OkW (F49_W R) (a3 (F49_s4 R) 0 5 6) F49_p5 (fun f w => F49_s3 R w) (kxB 0 ((fun f w => F49_s3 R w)) noX) :=
  fun f w h => F49_s4_e R _ _ f w (loop1_ok (P := Tryz.prog) (dc := F49_dc) (kr := (F49_k R)) (pan := panK R) F49_p6 (kn := (fun f w => F49_s3 R w)) (kx := (kxB 0 ((fun f w => F49_s3 R w)) noX)) (s0 := 6) (fun rec4 v6 w => F49_s5 R rec4 (f 0) (f 5) v6 w) f (fun rec4 f' w' hf h' => F49_s4b_e R _ _ f' w' ((F49_s5_ok R rec4) f' w' (by simp only [a3, hf 0 (by kernel_rfl), hf 5 (by kernel_rfl)]; exact h'))) w h)
noncomputable def F49_s2_c : Code := (.seq F49_p4 F49_s3_c)
theorem F49_s2_e (R : RT) (K : KF) (X : KX) (f : Fr) (w : World) (h : F49_W R F49_p5 K (kxB 0 K X) f w) : F49_W R F49_p4 K X f w := Eq.mp (by kernel_rfl) h
theorem F49_s2_ok (R : RT) : OkW (F49_W R) (a3 (F49_s4 R) 0 5 6) F49_s2_c (F49_k R) noX :=
  fun f w h => cut F49_p4 F49_s3_c (K := (fun f w => F49_s3 R w)) (F49_s3_ok R) f w (F49_s2_e R _ _ f w ((F49_s4_ok R) f w h))
def F49_s1_t (R : RT) (K : V3) (v0 : Value) (w : World) : Prop :=
  uv Tryz.prog R (Instr.build 105 #[(0, (.int .i64 0)), (1, (.int .i64 1)), (2, (.int .i64 2)), (3, (.int .i64 3)), (4, (.int .i64 4)), (5, (.int .i64 5)), (6, (.int .i64 6))]) w (fun v5 w =>
  K v0 v5 (.int .i64 0) w)
theorem F49_s1_st (R : RT) (K : V3) (X : KX) (f : Fr) (w : World) (h : F49_s1_t R K (f 0) w) : F49_W R (.seq F49_p20 F49_p21) (a3 K 0 5 6) X f w := Eq.mp (by kernel_rfl) h
def F49_s1 (R : RT) (v0 : Value) (w : World) : Prop :=
  F49_s1_t R (F49_s4 R) v0 w
noncomputable def F49_s1_c : Code := (.seq (.seq F49_p20 F49_p21) F49_s2_c)
theorem F49_s1_ok (R : RT) : OkW (F49_W R) (a1 (F49_s1 R) 0) F49_s1_c (F49_k R) noX :=
  fun f w h => cut (.seq F49_p20 F49_p21) F49_s2_c (K := (a3 (F49_s4 R) 0 5 6)) (F49_s2_ok R) f w (F49_s1_st R (F49_s4 R) _ f w h)
theorem F49_all_e (R : RT) (K : KF) (X : KX) (f : Fr) (w : World) (h : F49_W R F49_s1_c K X f w) : F49_W R F49_b K X f w := Eq.mp (by kernel_rfl) h
theorem F49_calls (R : RT) (v0 : Value) (w : World) (h : F49_s1 R v0 w) : Calls Tryz.prog 49 #[v0] w R :=
  calls_of_wpE (dc := F49_dc) (args := [v0]) hmixed Tryz.func49 (c := F49_b) rfl (rs := [.tmp 2]) rfl (by kernel_rfl) (Nat.le_of_ble_eq_true (by kernel_rfl)) (F49_all_e R _ _ _ w ((F49_s1_ok R) (initFr [v0]) w h))

/-! ### hasp/modes.rights -/
noncomputable def F50_b : Code := bodyOf Tryz.f50
def F50_dc : Nat → List (Nat × Bool)
  | _ => []
abbrev F50_k (R : RT) := resK Tryz.prog [.tmp 2] R
abbrev F50_W (R : RT) := wpE Tryz.prog F50_dc (F50_k R) (panK R)
noncomputable def F50_p0 := cR F50_b
noncomputable def F50_p1 := cR F50_p0
noncomputable def F50_p2 := cL F50_p1
noncomputable def F50_p3 := cL F50_p0
noncomputable def F50_p4 := cR F50_p3
noncomputable def F50_p5 := cI F50_p4
noncomputable def F50_p6 := cR F50_p5
noncomputable def F50_p7 := cT F50_p6
noncomputable def F50_p8 := cL F50_p7
noncomputable def F50_p9 := cF F50_p6
noncomputable def F50_p10 := cR F50_p9
noncomputable def F50_p11 := cT F50_p10
noncomputable def F50_p12 := cL F50_p11
noncomputable def F50_p13 := cF F50_p10
noncomputable def F50_p14 := cR F50_p13
noncomputable def F50_p15 := cT F50_p14
noncomputable def F50_p16 := cL F50_p15
noncomputable def F50_p17 := cF F50_p14
noncomputable def F50_p18 := cR F50_p17
noncomputable def F50_p19 := cT F50_p18
noncomputable def F50_p20 := cL F50_p19
noncomputable def F50_p21 := cF F50_p18
noncomputable def F50_p22 := cR F50_p21
noncomputable def F50_p23 := cT F50_p22
noncomputable def F50_p24 := cL F50_p23
noncomputable def F50_p25 := cF F50_p22
noncomputable def F50_p26 := cR F50_p25
noncomputable def F50_p27 := cT F50_p26
noncomputable def F50_p28 := cL F50_p27
noncomputable def F50_p29 := cL F50_p25
noncomputable def F50_p30 := cL F50_p21
noncomputable def F50_p31 := cL F50_p17
noncomputable def F50_p32 := cL F50_p13
noncomputable def F50_p33 := cL F50_p9
noncomputable def F50_p34 := cL F50_p5
noncomputable def F50_p35 := cL F50_b
noncomputable def F50_p36 := cL F50_p3
def F50_s3_t (R : RT) (w : World) : Prop :=
  R (.returned (.int .i64 0)) w
theorem F50_s3_st (R : RT) (X : KX) (f : Fr) (w : World) (h : F50_s3_t R w) : F50_W R F50_p2 (F50_k R) X f w := Eq.mp (by kernel_rfl) h
def F50_s3 (R : RT) (w : World) : Prop :=
  F50_s3_t R w
noncomputable def F50_s3_c : Code := (.seq F50_p2 .ret)
theorem F50_s3_ok (R : RT) : OkW (F50_W R) ((fun f w => F50_s3 R w)) F50_s3_c (F50_k R) noX :=
  fun f w h => cut F50_p2 .ret (K := (F50_k R)) (fun f w h => ret_ok h) f w (F50_s3_st R _ f w h)
def F50_s6_t (R : RT) (w : World) : Prop :=
  R (.returned (.int .i64 1)) w
theorem F50_s6_st (R : RT) (X : KX) (f : Fr) (w : World) (h : F50_s6_t R w) : F50_W R F50_p8 (F50_k R) X f w := Eq.mp (by kernel_rfl) h
def F50_s6 (R : RT) (w : World) : Prop :=
  F50_s6_t R w
noncomputable def F50_s6_c : Code := (.seq F50_p8 .ret)
theorem F50_s6_ok (R : RT) : OkW (F50_W R) ((fun f w => F50_s6 R w)) F50_s6_c (fun f w => F50_s3 R w) (kxB 0 ((fun f w => F50_s3 R w)) noX) :=
  fun f w h => cut F50_p8 .ret (K := (F50_k R)) (fun f w h => ret_ok h) f w (F50_s6_st R _ f w h)
def F50_s9_t (R : RT) (w : World) : Prop :=
  R (.returned (.int .i64 3)) w
theorem F50_s9_st (R : RT) (X : KX) (f : Fr) (w : World) (h : F50_s9_t R w) : F50_W R F50_p12 (F50_k R) X f w := Eq.mp (by kernel_rfl) h
def F50_s9 (R : RT) (w : World) : Prop :=
  F50_s9_t R w
noncomputable def F50_s9_c : Code := (.seq F50_p12 .ret)
theorem F50_s9_ok (R : RT) : OkW (F50_W R) ((fun f w => F50_s9 R w)) F50_s9_c (fun f w => F50_s3 R w) (kxB 0 ((fun f w => F50_s3 R w)) noX) :=
  fun f w h => cut F50_p12 .ret (K := (F50_k R)) (fun f w h => ret_ok h) f w (F50_s9_st R _ f w h)
def F50_s12_t (R : RT) (w : World) : Prop :=
  R (.returned (.int .i64 5)) w
theorem F50_s12_st (R : RT) (X : KX) (f : Fr) (w : World) (h : F50_s12_t R w) : F50_W R F50_p16 (F50_k R) X f w := Eq.mp (by kernel_rfl) h
def F50_s12 (R : RT) (w : World) : Prop :=
  F50_s12_t R w
noncomputable def F50_s12_c : Code := (.seq F50_p16 .ret)
theorem F50_s12_ok (R : RT) : OkW (F50_W R) ((fun f w => F50_s12 R w)) F50_s12_c (fun f w => F50_s3 R w) (kxB 0 ((fun f w => F50_s3 R w)) noX) :=
  fun f w h => cut F50_p16 .ret (K := (F50_k R)) (fun f w h => ret_ok h) f w (F50_s12_st R _ f w h)
def F50_s15_t (R : RT) (w : World) : Prop :=
  R (.returned (.int .i64 7)) w
theorem F50_s15_st (R : RT) (X : KX) (f : Fr) (w : World) (h : F50_s15_t R w) : F50_W R F50_p20 (F50_k R) X f w := Eq.mp (by kernel_rfl) h
def F50_s15 (R : RT) (w : World) : Prop :=
  F50_s15_t R w
noncomputable def F50_s15_c : Code := (.seq F50_p20 .ret)
theorem F50_s15_ok (R : RT) : OkW (F50_W R) ((fun f w => F50_s15 R w)) F50_s15_c (fun f w => F50_s3 R w) (kxB 0 ((fun f w => F50_s3 R w)) noX) :=
  fun f w h => cut F50_p20 .ret (K := (F50_k R)) (fun f w h => ret_ok h) f w (F50_s15_st R _ f w h)
def F50_s18_t (R : RT) (w : World) : Prop :=
  R (.returned (.int .i64 13)) w
theorem F50_s18_st (R : RT) (X : KX) (f : Fr) (w : World) (h : F50_s18_t R w) : F50_W R F50_p24 (F50_k R) X f w := Eq.mp (by kernel_rfl) h
def F50_s18 (R : RT) (w : World) : Prop :=
  F50_s18_t R w
noncomputable def F50_s18_c : Code := (.seq F50_p24 .ret)
theorem F50_s18_ok (R : RT) : OkW (F50_W R) ((fun f w => F50_s18 R w)) F50_s18_c (fun f w => F50_s3 R w) (kxB 0 ((fun f w => F50_s3 R w)) noX) :=
  fun f w h => cut F50_p24 .ret (K := (F50_k R)) (fun f w h => ret_ok h) f w (F50_s18_st R _ f w h)
def F50_s21_t (R : RT) (w : World) : Prop :=
  R (.returned (.int .i64 31)) w
theorem F50_s21_st (R : RT) (X : KX) (f : Fr) (w : World) (h : F50_s21_t R w) : F50_W R F50_p28 (F50_k R) X f w := Eq.mp (by kernel_rfl) h
def F50_s21 (R : RT) (w : World) : Prop :=
  F50_s21_t R w
noncomputable def F50_s21_c : Code := (.seq F50_p28 .ret)
theorem F50_s21_ok (R : RT) : OkW (F50_W R) ((fun f w => F50_s21 R w)) F50_s21_c (fun f w => F50_s3 R w) (kxB 0 ((fun f w => F50_s3 R w)) noX) :=
  fun f w h => cut F50_p28 .ret (K := (F50_k R)) (fun f w h => ret_ok h) f w (F50_s21_st R _ f w h)
def F50_s20 (R : RT) (v14 : Value) (w : World) : Prop :=
  Bc v14
    (F50_s21 R w)
    (F50_s3 R w)
noncomputable def F50_s20_c : Code := (.seq F50_p26 .skip)
theorem F50_s20_e (R : RT) (K : KF) (X : KX) (f : Fr) (w : World) (h : Bc (f 14) (F50_W R F50_s21_c K X f w) (F50_W R .skip K X f w)) : (F50_W R F50_p26 K X f w) := Eq.mp (by kernel_rfl) h
theorem F50_s20_ok (R : RT) : OkW (F50_W R) (a1 (F50_s20 R) 14) F50_s20_c (fun f w => F50_s3 R w) (kxB 0 ((fun f w => F50_s3 R w)) noX) :=
  fun f w h => cut F50_p26 .skip (K := (fun f w => F50_s3 R w)) (fun f w h => skip_ok h) f w (F50_s20_e R _ _ f w (Bc_imp (x' := (F50_W R F50_s21_c (fun f w => F50_s3 R w) (kxB 0 ((fun f w => F50_s3 R w)) noX) f w)) (y' := (F50_W R .skip (fun f w => F50_s3 R w) (kxB 0 ((fun f w => F50_s3 R w)) noX) f w)) ((F50_s21_ok R) f w) ((fun f w h => skip_ok h) f w) h))
def F50_s19_t (R : RT) (K : V1) (v3 : Value) (w : World) : Prop :=
  uv Tryz.prog R (binS .eql 3 (.tmp 3) (.const (.int .i64 6)) v3 (.int .i64 6)) w (fun v15 w =>
  K v15 w)
theorem F50_s19_st (R : RT) (K : V1) (X : KX) (f : Fr) (w : World) (h : F50_s19_t R K (f 3) w) : F50_W R F50_p29 (a1 K 14) X f w := Eq.mp (by kernel_rfl) h
def F50_s19 (R : RT) (v3 : Value) (w : World) : Prop :=
  F50_s19_t R (F50_s20 R) v3 w
noncomputable def F50_s19_c : Code := (.seq F50_p29 F50_s20_c)
theorem F50_s19_ok (R : RT) : OkW (F50_W R) (a1 (F50_s19 R) 3) F50_s19_c (fun f w => F50_s3 R w) (kxB 0 ((fun f w => F50_s3 R w)) noX) :=
  fun f w h => cut F50_p29 F50_s20_c (K := (a1 (F50_s20 R) 14)) (F50_s20_ok R) f w (F50_s19_st R (F50_s20 R) _ f w h)
def F50_s17 (R : RT) (v3 v12 : Value) (w : World) : Prop :=
  Bc v12
    (F50_s18 R w)
    (F50_s19 R v3 w)
noncomputable def F50_s17_c : Code := (.seq F50_p22 .skip)
theorem F50_s17_e (R : RT) (K : KF) (X : KX) (f : Fr) (w : World) (h : Bc (f 12) (F50_W R F50_s18_c K X f w) (F50_W R F50_s19_c K X f w)) : (F50_W R F50_p22 K X f w) := Eq.mp (by kernel_rfl) h
theorem F50_s17_ok (R : RT) : OkW (F50_W R) (a2 (F50_s17 R) 3 12) F50_s17_c (fun f w => F50_s3 R w) (kxB 0 ((fun f w => F50_s3 R w)) noX) :=
  fun f w h => cut F50_p22 .skip (K := (fun f w => F50_s3 R w)) (fun f w h => skip_ok h) f w (F50_s17_e R _ _ f w (Bc_imp (x' := (F50_W R F50_s18_c (fun f w => F50_s3 R w) (kxB 0 ((fun f w => F50_s3 R w)) noX) f w)) (y' := (F50_W R F50_s19_c (fun f w => F50_s3 R w) (kxB 0 ((fun f w => F50_s3 R w)) noX) f w)) ((F50_s18_ok R) f w) ((F50_s19_ok R) f w) h))
def F50_s16_t (R : RT) (K : V2) (v3 : Value) (w : World) : Prop :=
  uv Tryz.prog R (binS .eql 3 (.tmp 3) (.const (.int .i64 5)) v3 (.int .i64 5)) w (fun v13 w =>
  K v3 v13 w)
theorem F50_s16_st (R : RT) (K : V2) (X : KX) (f : Fr) (w : World) (h : F50_s16_t R K (f 3) w) : F50_W R F50_p30 (a2 K 3 12) X f w := Eq.mp (by kernel_rfl) h
def F50_s16 (R : RT) (v3 : Value) (w : World) : Prop :=
  F50_s16_t R (F50_s17 R) v3 w
noncomputable def F50_s16_c : Code := (.seq F50_p30 F50_s17_c)
theorem F50_s16_ok (R : RT) : OkW (F50_W R) (a1 (F50_s16 R) 3) F50_s16_c (fun f w => F50_s3 R w) (kxB 0 ((fun f w => F50_s3 R w)) noX) :=
  fun f w h => cut F50_p30 F50_s17_c (K := (a2 (F50_s17 R) 3 12)) (F50_s17_ok R) f w (F50_s16_st R (F50_s17 R) _ f w h)
def F50_s14 (R : RT) (v3 v10 : Value) (w : World) : Prop :=
  Bc v10
    (F50_s15 R w)
    (F50_s16 R v3 w)
noncomputable def F50_s14_c : Code := (.seq F50_p18 .skip)
theorem F50_s14_e (R : RT) (K : KF) (X : KX) (f : Fr) (w : World) (h : Bc (f 10) (F50_W R F50_s15_c K X f w) (F50_W R F50_s16_c K X f w)) : (F50_W R F50_p18 K X f w) := Eq.mp (by kernel_rfl) h
theorem F50_s14_ok (R : RT) : OkW (F50_W R) (a2 (F50_s14 R) 3 10) F50_s14_c (fun f w => F50_s3 R w) (kxB 0 ((fun f w => F50_s3 R w)) noX) :=
  fun f w h => cut F50_p18 .skip (K := (fun f w => F50_s3 R w)) (fun f w h => skip_ok h) f w (F50_s14_e R _ _ f w (Bc_imp (x' := (F50_W R F50_s15_c (fun f w => F50_s3 R w) (kxB 0 ((fun f w => F50_s3 R w)) noX) f w)) (y' := (F50_W R F50_s16_c (fun f w => F50_s3 R w) (kxB 0 ((fun f w => F50_s3 R w)) noX) f w)) ((F50_s15_ok R) f w) ((F50_s16_ok R) f w) h))
def F50_s13_t (R : RT) (K : V2) (v3 : Value) (w : World) : Prop :=
  uv Tryz.prog R (binS .eql 3 (.tmp 3) (.const (.int .i64 4)) v3 (.int .i64 4)) w (fun v11 w =>
  K v3 v11 w)
theorem F50_s13_st (R : RT) (K : V2) (X : KX) (f : Fr) (w : World) (h : F50_s13_t R K (f 3) w) : F50_W R F50_p31 (a2 K 3 10) X f w := Eq.mp (by kernel_rfl) h
def F50_s13 (R : RT) (v3 : Value) (w : World) : Prop :=
  F50_s13_t R (F50_s14 R) v3 w
noncomputable def F50_s13_c : Code := (.seq F50_p31 F50_s14_c)
theorem F50_s13_ok (R : RT) : OkW (F50_W R) (a1 (F50_s13 R) 3) F50_s13_c (fun f w => F50_s3 R w) (kxB 0 ((fun f w => F50_s3 R w)) noX) :=
  fun f w h => cut F50_p31 F50_s14_c (K := (a2 (F50_s14 R) 3 10)) (F50_s14_ok R) f w (F50_s13_st R (F50_s14 R) _ f w h)
def F50_s11 (R : RT) (v3 v8 : Value) (w : World) : Prop :=
  Bc v8
    (F50_s12 R w)
    (F50_s13 R v3 w)
noncomputable def F50_s11_c : Code := (.seq F50_p14 .skip)
theorem F50_s11_e (R : RT) (K : KF) (X : KX) (f : Fr) (w : World) (h : Bc (f 8) (F50_W R F50_s12_c K X f w) (F50_W R F50_s13_c K X f w)) : (F50_W R F50_p14 K X f w) := Eq.mp (by kernel_rfl) h
theorem F50_s11_ok (R : RT) : OkW (F50_W R) (a2 (F50_s11 R) 3 8) F50_s11_c (fun f w => F50_s3 R w) (kxB 0 ((fun f w => F50_s3 R w)) noX) :=
  fun f w h => cut F50_p14 .skip (K := (fun f w => F50_s3 R w)) (fun f w h => skip_ok h) f w (F50_s11_e R _ _ f w (Bc_imp (x' := (F50_W R F50_s12_c (fun f w => F50_s3 R w) (kxB 0 ((fun f w => F50_s3 R w)) noX) f w)) (y' := (F50_W R F50_s13_c (fun f w => F50_s3 R w) (kxB 0 ((fun f w => F50_s3 R w)) noX) f w)) ((F50_s12_ok R) f w) ((F50_s13_ok R) f w) h))
def F50_s10_t (R : RT) (K : V2) (v3 : Value) (w : World) : Prop :=
  uv Tryz.prog R (binS .eql 3 (.tmp 3) (.const (.int .i64 3)) v3 (.int .i64 3)) w (fun v9 w =>
  K v3 v9 w)
theorem F50_s10_st (R : RT) (K : V2) (X : KX) (f : Fr) (w : World) (h : F50_s10_t R K (f 3) w) : F50_W R F50_p32 (a2 K 3 8) X f w := Eq.mp (by kernel_rfl) h
def F50_s10 (R : RT) (v3 : Value) (w : World) : Prop :=
  F50_s10_t R (F50_s11 R) v3 w
noncomputable def F50_s10_c : Code := (.seq F50_p32 F50_s11_c)
theorem F50_s10_ok (R : RT) : OkW (F50_W R) (a1 (F50_s10 R) 3) F50_s10_c (fun f w => F50_s3 R w) (kxB 0 ((fun f w => F50_s3 R w)) noX) :=
  fun f w h => cut F50_p32 F50_s11_c (K := (a2 (F50_s11 R) 3 8)) (F50_s11_ok R) f w (F50_s10_st R (F50_s11 R) _ f w h)
def F50_s8 (R : RT) (v3 v6 : Value) (w : World) : Prop :=
  Bc v6
    (F50_s9 R w)
    (F50_s10 R v3 w)
noncomputable def F50_s8_c : Code := (.seq F50_p10 .skip)
theorem F50_s8_e (R : RT) (K : KF) (X : KX) (f : Fr) (w : World) (h : Bc (f 6) (F50_W R F50_s9_c K X f w) (F50_W R F50_s10_c K X f w)) : (F50_W R F50_p10 K X f w) := Eq.mp (by kernel_rfl) h
theorem F50_s8_ok (R : RT) : OkW (F50_W R) (a2 (F50_s8 R) 3 6) F50_s8_c (fun f w => F50_s3 R w) (kxB 0 ((fun f w => F50_s3 R w)) noX) :=
  fun f w h => cut F50_p10 .skip (K := (fun f w => F50_s3 R w)) (fun f w h => skip_ok h) f w (F50_s8_e R _ _ f w (Bc_imp (x' := (F50_W R F50_s9_c (fun f w => F50_s3 R w) (kxB 0 ((fun f w => F50_s3 R w)) noX) f w)) (y' := (F50_W R F50_s10_c (fun f w => F50_s3 R w) (kxB 0 ((fun f w => F50_s3 R w)) noX) f w)) ((F50_s9_ok R) f w) ((F50_s10_ok R) f w) h))
def F50_s7_t (R : RT) (K : V2) (v3 : Value) (w : World) : Prop :=
  uv Tryz.prog R (binS .eql 3 (.tmp 3) (.const (.int .i64 2)) v3 (.int .i64 2)) w (fun v7 w =>
  K v3 v7 w)
theorem F50_s7_st (R : RT) (K : V2) (X : KX) (f : Fr) (w : World) (h : F50_s7_t R K (f 3) w) : F50_W R F50_p33 (a2 K 3 6) X f w := Eq.mp (by kernel_rfl) h
def F50_s7 (R : RT) (v3 : Value) (w : World) : Prop :=
  F50_s7_t R (F50_s8 R) v3 w
noncomputable def F50_s7_c : Code := (.seq F50_p33 F50_s8_c)
theorem F50_s7_ok (R : RT) : OkW (F50_W R) (a1 (F50_s7 R) 3) F50_s7_c (fun f w => F50_s3 R w) (kxB 0 ((fun f w => F50_s3 R w)) noX) :=
  fun f w h => cut F50_p33 F50_s8_c (K := (a2 (F50_s8 R) 3 6)) (F50_s8_ok R) f w (F50_s7_st R (F50_s8 R) _ f w h)
def F50_s5 (R : RT) (v3 v4 : Value) (w : World) : Prop :=
  Bc v4
    (F50_s6 R w)
    (F50_s7 R v3 w)
noncomputable def F50_s5_c : Code := (.seq F50_p6 .skip)
theorem F50_s5_e (R : RT) (K : KF) (X : KX) (f : Fr) (w : World) (h : Bc (f 4) (F50_W R F50_s6_c K X f w) (F50_W R F50_s7_c K X f w)) : (F50_W R F50_p6 K X f w) := Eq.mp (by kernel_rfl) h
theorem F50_s5_ok (R : RT) : OkW (F50_W R) (a2 (F50_s5 R) 3 4) F50_s5_c (fun f w => F50_s3 R w) (kxB 0 ((fun f w => F50_s3 R w)) noX) :=
  fun f w h => cut F50_p6 .skip (K := (fun f w => F50_s3 R w)) (fun f w h => skip_ok h) f w (F50_s5_e R _ _ f w (Bc_imp (x' := (F50_W R F50_s6_c (fun f w => F50_s3 R w) (kxB 0 ((fun f w => F50_s3 R w)) noX) f w)) (y' := (F50_W R F50_s7_c (fun f w => F50_s3 R w) (kxB 0 ((fun f w => F50_s3 R w)) noX) f w)) ((F50_s6_ok R) f w) ((F50_s7_ok R) f w) h))
def F50_s4_t (R : RT) (K : V2) (v3 : Value) (w : World) : Prop :=
  uv Tryz.prog R (binS .eql 3 (.tmp 3) (.const (.int .i64 1)) v3 (.int .i64 1)) w (fun v5 w =>
  K v3 v5 w)
theorem F50_s4_st (R : RT) (K : V2) (X : KX) (f : Fr) (w : World) (h : F50_s4_t R K (f 3) w) : F50_W R F50_p34 (a2 K 3 4) X f w := Eq.mp (by kernel_rfl) h
def F50_s4 (R : RT) (v3 : Value) (w : World) : Prop :=
  F50_s4_t R (F50_s5 R) v3 w
noncomputable def F50_s4_c : Code := (.seq F50_p34 F50_s5_c)
theorem F50_s4_ok (R : RT) : OkW (F50_W R) (a1 (F50_s4 R) 3) F50_s4_c (fun f w => F50_s3 R w) (kxB 0 ((fun f w => F50_s3 R w)) noX) :=
  fun f w h => cut F50_p34 F50_s5_c (K := (a2 (F50_s5 R) 3 4)) (F50_s5_ok R) f w (F50_s4_st R (F50_s5 R) _ f w h)
noncomputable def F50_s2_c : Code := (.seq F50_p4 F50_s3_c)
theorem F50_s2_e (R : RT) (K : KF) (X : KX) (f : Fr) (w : World) (h : F50_W R F50_s4_c K (kxB 0 K X) f w) : F50_W R F50_p4 K X f w := Eq.mp (by kernel_rfl) h
theorem F50_s2_ok (R : RT) : OkW (F50_W R) (a1 (F50_s4 R) 3) F50_s2_c (F50_k R) noX :=
  fun f w h => cut F50_p4 F50_s3_c (K := (fun f w => F50_s3 R w)) (F50_s3_ok R) f w (F50_s2_e R _ _ f w ((F50_s4_ok R) f w h))
def F50_s1_t (R : RT) (K : V1) (v0 : Value) (w : World) : Prop :=
  K v0 w
theorem F50_s1_st (R : RT) (K : V1) (X : KX) (f : Fr) (w : World) (h : F50_s1_t R K (f 0) w) : F50_W R (.seq F50_p35 F50_p36) (a1 K 3) X f w := Eq.mp (by kernel_rfl) h
def F50_s1 (R : RT) (v0 : Value) (w : World) : Prop :=
  F50_s1_t R (F50_s4 R) v0 w
noncomputable def F50_s1_c : Code := (.seq (.seq F50_p35 F50_p36) F50_s2_c)
theorem F50_s1_ok (R : RT) : OkW (F50_W R) (a1 (F50_s1 R) 0) F50_s1_c (F50_k R) noX :=
  fun f w h => cut (.seq F50_p35 F50_p36) F50_s2_c (K := (a1 (F50_s4 R) 3)) (F50_s2_ok R) f w (F50_s1_st R (F50_s4 R) _ f w h)
theorem F50_all_e (R : RT) (K : KF) (X : KX) (f : Fr) (w : World) (h : F50_W R F50_s1_c K X f w) : F50_W R F50_b K X f w := Eq.mp (by kernel_rfl) h
theorem F50_calls (R : RT) (v0 : Value) (w : World) (h : F50_s1 R v0 w) : Calls Tryz.prog 50 #[v0] w R :=
  calls_of_wpE (dc := F50_dc) (args := [v0]) hmixed Tryz.func50 (c := F50_b) rfl (rs := [.tmp 2]) rfl (by kernel_rfl) (Nat.le_of_ble_eq_true (by kernel_rfl)) (F50_all_e R _ _ _ w ((F50_s1_ok R) (initFr [v0]) w h))

/-! ### hasp/modes.Together -/
noncomputable def F40_b : Code := bodyOf Tryz.f40
def F40_dc : Nat → List (Nat × Bool)
  | _ => []
abbrev F40_k (R : RT) := resK Tryz.prog [.tmp 4] R
abbrev F40_W (R : RT) := wpE Tryz.prog F40_dc (F40_k R) (panK R)
noncomputable def F40_p0 := cR F40_b
noncomputable def F40_p1 := cR F40_p0
noncomputable def F40_p2 := cR F40_p1
noncomputable def F40_p3 := cR F40_p2
noncomputable def F40_p4 := cL F40_p3
noncomputable def F40_p5 := cR F40_p3
noncomputable def F40_p6 := cL F40_p5
noncomputable def F40_p7 := cL F40_p2
noncomputable def F40_p8 := cR F40_p7
noncomputable def F40_p9 := cT F40_p8
noncomputable def F40_p10 := cL F40_p9
noncomputable def F40_p11 := cL F40_p1
noncomputable def F40_p12 := cL F40_p7
noncomputable def F40_p13 := cL F40_p0
noncomputable def F40_p14 := cR F40_p13
noncomputable def F40_p15 := cT F40_p14
noncomputable def F40_p16 := cL F40_p15
noncomputable def F40_p17 := cL F40_b
noncomputable def F40_p18 := cL F40_p13
def F40_s5_t (R : RT) (v5 v6 : Value) (w : World) : Prop :=
  un Tryz.prog R (callV (.func (.func 59) #[] #[]) #[v5, v6]) w (fun v29 w =>
  uv Tryz.prog R (Op.unary .not v29) w (fun v30 w =>
  Gk v30 true (fun k => k (.func (.func 59) #[] #[]) w) w (fun v32 w =>
  Gk v30 true (fun k => k v6 w) w (fun v33 w =>
  Gk v30 true (fun k => k v5 w) w (fun v34 w =>
  Gk v30 true (fun k => un Tryz.prog R (callV v32 #[v33, v34]) w k) w (fun v35 w =>
  Gk v30 true (fun k => uv Tryz.prog R (Op.unary .not v35) w k) w (fun v36 w =>
  uv Tryz.prog R (pickS v30 v36 (.bool false)) w (fun v37 w =>
  Gk v37 true (fun k => k v5 w) w (fun v39 w =>
  Gk v37 true (fun k => k v6 w) w (fun v40 w =>
  Gk v37 true (fun k => uv Tryz.prog R (binS .and 3 (.tmp 39) (.tmp 40) v39 v40) w k) w (fun v41 w =>
  Gk v37 true (fun k => uv Tryz.prog R (binS .and 3 (.tmp 41) (.const (.int .i64 8)) v41 (.int .i64 8)) w k) w (fun v42 w =>
  Gk v37 true (fun k => uv Tryz.prog R (binS .eql 3 (.tmp 42) (.const (.int .i64 0)) v42 (.int .i64 0)) w k) w (fun v43 w =>
  uv Tryz.prog R (pickS v37 v43 (.bool false)) w (fun v44 w =>
  R (.returned v44) w))))))))))))))
theorem F40_s5_st (R : RT) (X : KX) (f : Fr) (w : World) (h : F40_s5_t R (f 5) (f 6) w) : F40_W R (.seq F40_p4 F40_p6) (F40_k R) X f w := Eq.mp (by kernel_rfl) h
def F40_s5 (R : RT) (v5 v6 : Value) (w : World) : Prop :=
  F40_s5_t R v5 v6 w
noncomputable def F40_s5_c : Code := (.seq (.seq F40_p4 F40_p6) .ret)
theorem F40_s5_ok (R : RT) : OkW (F40_W R) (a2 (F40_s5 R) 5 6) F40_s5_c (F40_k R) noX :=
  fun f w h => cut (.seq F40_p4 F40_p6) .ret (K := (F40_k R)) (fun f w h => ret_ok h) f w (F40_s5_st R _ f w h)
def F40_s6_t (R : RT) (w : World) : Prop :=
  R (.returned (.bool true)) w
theorem F40_s6_st (R : RT) (X : KX) (f : Fr) (w : World) (h : F40_s6_t R w) : F40_W R F40_p10 (F40_k R) X f w := Eq.mp (by kernel_rfl) h
def F40_s6 (R : RT) (w : World) : Prop :=
  F40_s6_t R w
noncomputable def F40_s6_c : Code := (.seq F40_p10 .ret)
theorem F40_s6_ok (R : RT) : OkW (F40_W R) ((fun f w => F40_s6 R w)) F40_s6_c (a2 (F40_s5 R) 5 6) noX :=
  fun f w h => cut F40_p10 .ret (K := (F40_k R)) (fun f w h => ret_ok h) f w (F40_s6_st R _ f w h)
def F40_s4 (R : RT) (v5 v6 v25 : Value) (w : World) : Prop :=
  Bc v25
    (F40_s6 R w)
    (F40_s5 R v5 v6 w)
noncomputable def F40_s4_c : Code := (.seq F40_p8 F40_s5_c)
theorem F40_s4_e (R : RT) (K : KF) (X : KX) (f : Fr) (w : World) (h : Bc (f 25) (F40_W R F40_s6_c K X f w) (F40_W R .skip K X f w)) : (F40_W R F40_p8 K X f w) := Eq.mp (by kernel_rfl) h
theorem F40_s4_ok (R : RT) : OkW (F40_W R) (a3 (F40_s4 R) 5 6 25) F40_s4_c (F40_k R) noX :=
  fun f w h => cut F40_p8 F40_s5_c (K := (a2 (F40_s5 R) 5 6)) (F40_s5_ok R) f w (F40_s4_e R _ _ f w (Bc_imp (x' := (F40_W R F40_s6_c (a2 (F40_s5 R) 5 6) noX f w)) (y' := (F40_W R .skip (a2 (F40_s5 R) 5 6) noX f w)) ((F40_s6_ok R) f w) ((fun f w h => skip_ok h) f w) h))
def F40_s3_t (R : RT) (K : V3) (v0 v1 : Value) (w : World) : Prop :=
  un Tryz.prog R (callFunc 50 #[v0]) w (fun v17 w =>
  un Tryz.prog R (callFunc 50 #[v1]) w (fun v19 w =>
  uv Tryz.prog R (binS .eql 3 (.tmp 20) (.const (.int .i64 0)) v17 (.int .i64 0)) w (fun v21 w =>
  Gk v21 false (fun k => k v19 w) w (fun v23 w =>
  Gk v21 false (fun k => uv Tryz.prog R (binS .eql 3 (.tmp 23) (.const (.int .i64 0)) v23 (.int .i64 0)) w k) w (fun v24 w =>
  uv Tryz.prog R (pickS v21 (.bool true) v24) w (fun v25 w =>
  K v17 v19 v25 w))))))
theorem F40_s3_st (R : RT) (K : V3) (X : KX) (f : Fr) (w : World) (h : F40_s3_t R K (f 0) (f 1) w) : F40_W R (.seq F40_p11 F40_p12) (a3 K 5 6 25) X f w := Eq.mp (by kernel_rfl) h
def F40_s3 (R : RT) (v0 v1 : Value) (w : World) : Prop :=
  F40_s3_t R (F40_s4 R) v0 v1 w
noncomputable def F40_s3_c : Code := (.seq (.seq F40_p11 F40_p12) F40_s4_c)
theorem F40_s3_ok (R : RT) : OkW (F40_W R) (a2 (F40_s3 R) 0 1) F40_s3_c (F40_k R) noX :=
  fun f w h => cut (.seq F40_p11 F40_p12) F40_s4_c (K := (a3 (F40_s4 R) 5 6 25)) (F40_s4_ok R) f w (F40_s3_st R (F40_s4 R) _ f w h)
def F40_s7_t (R : RT) (w : World) : Prop :=
  R (.returned (.bool false)) w
theorem F40_s7_st (R : RT) (X : KX) (f : Fr) (w : World) (h : F40_s7_t R w) : F40_W R F40_p16 (F40_k R) X f w := Eq.mp (by kernel_rfl) h
def F40_s7 (R : RT) (w : World) : Prop :=
  F40_s7_t R w
noncomputable def F40_s7_c : Code := (.seq F40_p16 .ret)
theorem F40_s7_ok (R : RT) : OkW (F40_W R) ((fun f w => F40_s7 R w)) F40_s7_c (a2 (F40_s3 R) 0 1) noX :=
  fun f w h => cut F40_p16 .ret (K := (F40_k R)) (fun f w h => ret_ok h) f w (F40_s7_st R _ f w h)
def F40_s2 (R : RT) (v0 v1 v15 : Value) (w : World) : Prop :=
  Bc v15
    (F40_s7 R w)
    (F40_s3 R v0 v1 w)
noncomputable def F40_s2_c : Code := (.seq F40_p14 F40_s3_c)
theorem F40_s2_e (R : RT) (K : KF) (X : KX) (f : Fr) (w : World) (h : Bc (f 15) (F40_W R F40_s7_c K X f w) (F40_W R .skip K X f w)) : (F40_W R F40_p14 K X f w) := Eq.mp (by kernel_rfl) h
theorem F40_s2_ok (R : RT) : OkW (F40_W R) (a3 (F40_s2 R) 0 1 15) F40_s2_c (F40_k R) noX :=
  fun f w h => cut F40_p14 F40_s3_c (K := (a2 (F40_s3 R) 0 1)) (F40_s3_ok R) f w (F40_s2_e R _ _ f w (Bc_imp (x' := (F40_W R F40_s7_c (a2 (F40_s3 R) 0 1) noX f w)) (y' := (F40_W R .skip (a2 (F40_s3 R) 0 1) noX f w)) ((F40_s7_ok R) f w) ((fun f w h => skip_ok h) f w) h))
def F40_s1_t (R : RT) (K : V3) (v0 v1 : Value) (w : World) : Prop :=
  un Tryz.prog R (callFunc 48 #[v0]) w (fun v9 w =>
  uv Tryz.prog R (Op.unary .not v9) w (fun v10 w =>
  Gk v10 false (fun k => k v1 w) w (fun v12 w =>
  Gk v10 false (fun k => un Tryz.prog R (callFunc 48 #[v12]) w k) w (fun v13 w =>
  Gk v10 false (fun k => uv Tryz.prog R (Op.unary .not v13) w k) w (fun v14 w =>
  uv Tryz.prog R (pickS v10 (.bool true) v14) w (fun v15 w =>
  K v0 v1 v15 w))))))
theorem F40_s1_st (R : RT) (K : V3) (X : KX) (f : Fr) (w : World) (h : F40_s1_t R K (f 0) (f 1) w) : F40_W R (.seq F40_p17 F40_p18) (a3 K 0 1 15) X f w := Eq.mp (by kernel_rfl) h
def F40_s1 (R : RT) (v0 v1 : Value) (w : World) : Prop :=
  F40_s1_t R (F40_s2 R) v0 v1 w
noncomputable def F40_s1_c : Code := (.seq (.seq F40_p17 F40_p18) F40_s2_c)
theorem F40_s1_ok (R : RT) : OkW (F40_W R) (a2 (F40_s1 R) 0 1) F40_s1_c (F40_k R) noX :=
  fun f w h => cut (.seq F40_p17 F40_p18) F40_s2_c (K := (a3 (F40_s2 R) 0 1 15)) (F40_s2_ok R) f w (F40_s1_st R (F40_s2 R) _ f w h)
theorem F40_all_e (R : RT) (K : KF) (X : KX) (f : Fr) (w : World) (h : F40_W R F40_s1_c K X f w) : F40_W R F40_b K X f w := Eq.mp (by kernel_rfl) h
theorem F40_calls (R : RT) (v0 v1 : Value) (w : World) (h : F40_s1 R v0 v1 w) : Calls Tryz.prog 40 #[v0, v1] w R :=
  calls_of_wpE (dc := F40_dc) (args := [v0, v1]) hmixed Tryz.func40 (c := F40_b) rfl (rs := [.tmp 4]) rfl (by kernel_rfl) (Nat.le_of_ble_eq_true (by kernel_rfl)) (F40_all_e R _ _ _ w ((F40_s1_ok R) (initFr [v0, v1]) w h))

/-! ### hasp/modes.Together$1 -/
noncomputable def F59_b : Code := bodyOf Tryz.f59
def F59_dc : Nat → List (Nat × Bool)
  | _ => []
abbrev F59_k (R : RT) := resK Tryz.prog [.tmp 4] R
abbrev F59_W (R : RT) := wpE Tryz.prog F59_dc (F59_k R) (panK R)
noncomputable def F59_p0 := cL F59_b
noncomputable def F59_p1 := cR F59_b
noncomputable def F59_p2 := cL F59_p1
def F59_s1_t (R : RT) (v0 v1 : Value) (w : World) : Prop :=
  uv Tryz.prog R (binS .and 3 (.tmp 5) (.const (.int .i64 2)) v0 (.int .i64 2)) w (fun v6 w =>
  uv Tryz.prog R (binS .neq 3 (.tmp 6) (.const (.int .i64 0)) v6 (.int .i64 0)) w (fun v7 w =>
  Gk v7 true (fun k => k v1 w) w (fun v9 w =>
  Gk v7 true (fun k => uv Tryz.prog R (binS .and 3 (.tmp 9) (.const (.int .i64 12)) v9 (.int .i64 12)) w k) w (fun v10 w =>
  Gk v7 true (fun k => uv Tryz.prog R (binS .neq 3 (.tmp 10) (.const (.int .i64 0)) v10 (.int .i64 0)) w k) w (fun v11 w =>
  uv Tryz.prog R (pickS v7 v11 (.bool false)) w (fun v12 w =>
  Gk v12 false (fun k => k v0 w) w (fun v14 w =>
  Gk v12 false (fun k => uv Tryz.prog R (binS .and 3 (.tmp 14) (.const (.int .i64 16)) v14 (.int .i64 16)) w k) w (fun v15 w =>
  Gk v12 false (fun k => uv Tryz.prog R (binS .neq 3 (.tmp 15) (.const (.int .i64 0)) v15 (.int .i64 0)) w k) w (fun v16 w =>
  uv Tryz.prog R (pickS v12 (.bool true) v16) w (fun v17 w =>
  R (.returned v17) w))))))))))
theorem F59_s1_st (R : RT) (X : KX) (f : Fr) (w : World) (h : F59_s1_t R (f 0) (f 1) w) : F59_W R (.seq F59_p0 F59_p2) (F59_k R) X f w := Eq.mp (by kernel_rfl) h
def F59_s1 (R : RT) (v0 v1 : Value) (w : World) : Prop :=
  F59_s1_t R v0 v1 w
noncomputable def F59_s1_c : Code := (.seq (.seq F59_p0 F59_p2) .ret)
theorem F59_s1_ok (R : RT) : OkW (F59_W R) (a2 (F59_s1 R) 0 1) F59_s1_c (F59_k R) noX :=
  fun f w h => cut (.seq F59_p0 F59_p2) .ret (K := (F59_k R)) (fun f w h => ret_ok h) f w (F59_s1_st R _ f w h)
theorem F59_all_e (R : RT) (K : KF) (X : KX) (f : Fr) (w : World) (h : F59_W R F59_s1_c K X f w) : F59_W R F59_b K X f w := Eq.mp (by kernel_rfl) h
theorem F59_calls (R : RT) (v0 v1 : Value) (w : World) (h : F59_s1 R v0 v1 w) : Calls Tryz.prog 59 #[v0, v1] w R :=
  calls_of_wpE (dc := F59_dc) (args := [v0, v1]) hmixed Tryz.func59 (c := F59_b) rfl (rs := [.tmp 4]) rfl (by kernel_rfl) (Nat.le_of_ble_eq_true (by kernel_rfl)) (F59_all_e R _ _ _ w ((F59_s1_ok R) (initFr [v0, v1]) w h))

/-! ### hasp/haspref09.Together -/
noncomputable def F53_b : Code := bodyOf Tryz.f53
def F53_dc : Nat → List (Nat × Bool)
  | _ => []
abbrev F53_k (R : RT) := resK Tryz.prog [.tmp 4] R
abbrev F53_W (R : RT) := wpE Tryz.prog F53_dc (F53_k R) (panK R)
noncomputable def F53_p0 := cR F53_b
noncomputable def F53_p1 := cR F53_p0
noncomputable def F53_p2 := cR F53_p1
noncomputable def F53_p3 := cL F53_p2
noncomputable def F53_p4 := cL F53_p1
noncomputable def F53_p5 := cR F53_p4
noncomputable def F53_p6 := cT F53_p5
noncomputable def F53_p7 := cL F53_p6
noncomputable def F53_p8 := cL F53_b
noncomputable def F53_p9 := cL F53_p0
noncomputable def F53_p10 := cL F53_p4
def F53_s3_t (R : RT) (v0 v1 v5 : Value) (w : World) : Prop :=
  uv Tryz.prog R (Instr.indexAt 96 v5 v0) w (fun v22 w =>
  uv Tryz.prog R (Instr.loadAt 9 v22) w (fun v23 w =>
  uv Tryz.prog R (Instr.index 9 v23 v1) w (fun v25 w =>
  uv Tryz.prog R (binS .eql 5 (.tmp 25) (.const (.int .u8 121)) v25 (.int .u8 121)) w (fun v26 w =>
  R (.returned v26) w))))
theorem F53_s3_st (R : RT) (X : KX) (f : Fr) (w : World) (h : F53_s3_t R (f 0) (f 1) (f 5) w) : F53_W R F53_p3 (F53_k R) X f w := Eq.mp (by kernel_rfl) h
def F53_s3 (R : RT) (v0 v1 v5 : Value) (w : World) : Prop :=
  F53_s3_t R v0 v1 v5 w
noncomputable def F53_s3_c : Code := (.seq F53_p3 .ret)
theorem F53_s3_ok (R : RT) : OkW (F53_W R) (a3 (F53_s3 R) 0 1 5) F53_s3_c (F53_k R) noX :=
  fun f w h => cut F53_p3 .ret (K := (F53_k R)) (fun f w h => ret_ok h) f w (F53_s3_st R _ f w h)
def F53_s4_t (R : RT) (w : World) : Prop :=
  R (.returned (.bool false)) w
theorem F53_s4_st (R : RT) (X : KX) (f : Fr) (w : World) (h : F53_s4_t R w) : F53_W R F53_p7 (F53_k R) X f w := Eq.mp (by kernel_rfl) h
def F53_s4 (R : RT) (w : World) : Prop :=
  F53_s4_t R w
noncomputable def F53_s4_c : Code := (.seq F53_p7 .ret)
theorem F53_s4_ok (R : RT) : OkW (F53_W R) ((fun f w => F53_s4 R w)) F53_s4_c (a3 (F53_s3 R) 0 1 5) noX :=
  fun f w h => cut F53_p7 .ret (K := (F53_k R)) (fun f w h => ret_ok h) f w (F53_s4_st R _ f w h)
def F53_s2 (R : RT) (v0 v1 v5 v20 : Value) (w : World) : Prop :=
  Bc v20
    (F53_s4 R w)
    (F53_s3 R v0 v1 v5 w)
noncomputable def F53_s2_c : Code := (.seq F53_p5 F53_s3_c)
theorem F53_s2_e (R : RT) (K : KF) (X : KX) (f : Fr) (w : World) (h : Bc (f 20) (F53_W R F53_s4_c K X f w) (F53_W R .skip K X f w)) : (F53_W R F53_p5 K X f w) := Eq.mp (by kernel_rfl) h
theorem F53_s2_ok (R : RT) : OkW (F53_W R) (a4 (F53_s2 R) 0 1 5 20) F53_s2_c (F53_k R) noX :=
  fun f w h => cut F53_p5 F53_s3_c (K := (a3 (F53_s3 R) 0 1 5)) (F53_s3_ok R) f w (F53_s2_e R _ _ f w (Bc_imp (x' := (F53_W R F53_s4_c (a3 (F53_s3 R) 0 1 5) noX f w)) (y' := (F53_W R .skip (a3 (F53_s3 R) 0 1 5) noX f w)) ((F53_s4_ok R) f w) ((fun f w h => skip_ok h) f w) h))
def F53_s1_t (R : RT) (K : V4) (v0 v1 : Value) (w : World) : Prop :=
  uv Tryz.prog R (Instr.build 96 #[(0, (.string { data := #[121, 121, 121, 121, 121, 121, 121] })), (1, (.string { data := #[121, 121, 121, 121, 121, 121, 110] })), (2, (.string { data := #[121, 121, 121, 110, 110, 110, 110] })), (3, (.string { data := #[121, 121, 110, 121, 110, 121, 110] })), (4, (.string { data := #[121, 121, 110, 110, 110, 110, 110] })), (5, (.string { data := #[121, 121, 110, 121, 110, 110, 110] })), (6, (.string { data := #[121, 110, 110, 110, 110, 110, 110] }))]) w (fun v6 w =>
  uv Tryz.prog R (Instr.alloc 96 true (.tuple #[])) w (fun v5 w =>
  uu Tryz.prog R (Instr.storeAt 96 v5 v6) w (fun w =>
  uv Tryz.prog R (binS .lss 3 (.tmp 7) (.const (.int .i64 0)) v0 (.int .i64 0)) w (fun v8 w =>
  Gk v8 false (fun k => k v0 w) w (fun v10 w =>
  Gk v8 false (fun k => uv Tryz.prog R (binS .gtr 3 (.tmp 10) (.const (.int .i64 6)) v10 (.int .i64 6)) w k) w (fun v11 w =>
  uv Tryz.prog R (pickS v8 (.bool true) v11) w (fun v12 w =>
  Gk v12 false (fun k => k v1 w) w (fun v14 w =>
  Gk v12 false (fun k => uv Tryz.prog R (binS .lss 3 (.tmp 14) (.const (.int .i64 0)) v14 (.int .i64 0)) w k) w (fun v15 w =>
  uv Tryz.prog R (pickS v12 (.bool true) v15) w (fun v16 w =>
  Gk v16 false (fun k => k v1 w) w (fun v18 w =>
  Gk v16 false (fun k => uv Tryz.prog R (binS .gtr 3 (.tmp 18) (.const (.int .i64 6)) v18 (.int .i64 6)) w k) w (fun v19 w =>
  uv Tryz.prog R (pickS v16 (.bool true) v19) w (fun v20 w =>
  K v0 v1 v5 v20 w)))))))))))))
theorem F53_s1_st (R : RT) (K : V4) (X : KX) (f : Fr) (w : World) (h : F53_s1_t R K (f 0) (f 1) w) : F53_W R (.seq F53_p8 (.seq F53_p9 F53_p10)) (a4 K 0 1 5 20) X f w := Eq.mp (by kernel_rfl) h
def F53_s1 (R : RT) (v0 v1 : Value) (w : World) : Prop :=
  F53_s1_t R (F53_s2 R) v0 v1 w
noncomputable def F53_s1_c : Code := (.seq (.seq F53_p8 (.seq F53_p9 F53_p10)) F53_s2_c)
theorem F53_s1_ok (R : RT) : OkW (F53_W R) (a2 (F53_s1 R) 0 1) F53_s1_c (F53_k R) noX :=
  fun f w h => cut (.seq F53_p8 (.seq F53_p9 F53_p10)) F53_s2_c (K := (a4 (F53_s2 R) 0 1 5 20)) (F53_s2_ok R) f w (F53_s1_st R (F53_s2 R) _ f w h)
theorem F53_all_e (R : RT) (K : KF) (X : KX) (f : Fr) (w : World) (h : F53_W R F53_s1_c K X f w) : F53_W R F53_b K X f w := Eq.mp (by kernel_rfl) h
theorem F53_calls (R : RT) (v0 v1 : Value) (w : World) (h : F53_s1 R v0 v1 w) : Calls Tryz.prog 53 #[v0, v1] w R :=
  calls_of_wpE (dc := F53_dc) (args := [v0, v1]) hmixed Tryz.func53 (c := F53_b) rfl (rs := [.tmp 4]) rfl (by kernel_rfl) (Nat.le_of_ble_eq_true (by kernel_rfl)) (F53_all_e R _ _ _ w ((F53_s1_ok R) (initFr [v0, v1]) w h))

/-! ### hasp/haspref09.Right -/
noncomputable def F24_b : Code := bodyOf Tryz.f24
def F24_dc : Nat → List (Nat × Bool)
  | _ => []
abbrev F24_k (R : RT) := resK Tryz.prog [.tmp 2] R
abbrev F24_W (R : RT) := wpE Tryz.prog F24_dc (F24_k R) (panK R)
noncomputable def F24_p0 := cL F24_b
noncomputable def F24_p1 := cR F24_b
noncomputable def F24_p2 := cL F24_p1
def F24_s1_t (R : RT) (v0 : Value) (w : World) : Prop :=
  uv Tryz.prog R (binS .gtr 3 (.tmp 3) (.const (.int .i64 0)) v0 (.int .i64 0)) w (fun v4 w =>
  Gk v4 true (fun k => k v0 w) w (fun v6 w =>
  Gk v4 true (fun k => uv Tryz.prog R (binS .lss 3 (.tmp 6) (.const (.int .i64 7)) v6 (.int .i64 7)) w k) w (fun v7 w =>
  uv Tryz.prog R (pickS v4 v7 (.bool false)) w (fun v8 w =>
  R (.returned v8) w))))
theorem F24_s1_st (R : RT) (X : KX) (f : Fr) (w : World) (h : F24_s1_t R (f 0) w) : F24_W R (.seq F24_p0 F24_p2) (F24_k R) X f w := Eq.mp (by kernel_rfl) h
def F24_s1 (R : RT) (v0 : Value) (w : World) : Prop :=
  F24_s1_t R v0 w
noncomputable def F24_s1_c : Code := (.seq (.seq F24_p0 F24_p2) .ret)
theorem F24_s1_ok (R : RT) : OkW (F24_W R) (a1 (F24_s1 R) 0) F24_s1_c (F24_k R) noX :=
  fun f w h => cut (.seq F24_p0 F24_p2) .ret (K := (F24_k R)) (fun f w h => ret_ok h) f w (F24_s1_st R _ f w h)
theorem F24_all_e (R : RT) (K : KF) (X : KX) (f : Fr) (w : World) (h : F24_W R F24_s1_c K X f w) : F24_W R F24_b K X f w := Eq.mp (by kernel_rfl) h
theorem F24_calls (R : RT) (v0 : Value) (w : World) (h : F24_s1 R v0 w) : Calls Tryz.prog 24 #[v0] w R :=
  calls_of_wpE (dc := F24_dc) (args := [v0]) hmixed Tryz.func24 (c := F24_b) rfl (rs := [.tmp 2]) rfl (by kernel_rfl) (Nat.le_of_ble_eq_true (by kernel_rfl)) (F24_all_e R _ _ _ w ((F24_s1_ok R) (initFr [v0]) w h))

/-! ### cmp.Compare[int] -/
noncomputable def F44_b : Code := bodyOf Tryz.f44
def F44_dc : Nat → List (Nat × Bool)
  | _ => []
abbrev F44_k (R : RT) := resK Tryz.prog [.tmp 4] R
abbrev F44_W (R : RT) := wpE Tryz.prog F44_dc (F44_k R) (panK R)
noncomputable def F44_p0 := cR F44_b
noncomputable def F44_p1 := cR F44_p0
noncomputable def F44_p2 := cR F44_p1
noncomputable def F44_p3 := cR F44_p2
noncomputable def F44_p4 := cR F44_p3
noncomputable def F44_p5 := cR F44_p4
noncomputable def F44_p6 := cR F44_p5
noncomputable def F44_p7 := cL F44_p6
noncomputable def F44_p8 := cL F44_p5
noncomputable def F44_p9 := cR F44_p8
noncomputable def F44_p10 := cT F44_p9
noncomputable def F44_p11 := cL F44_p10
noncomputable def F44_p12 := cL F44_p8
noncomputable def F44_p13 := cL F44_p4
noncomputable def F44_p14 := cR F44_p13
noncomputable def F44_p15 := cT F44_p14
noncomputable def F44_p16 := cL F44_p15
noncomputable def F44_p17 := cL F44_p13
noncomputable def F44_p18 := cL F44_p3
noncomputable def F44_p19 := cR F44_p18
noncomputable def F44_p20 := cT F44_p19
noncomputable def F44_p21 := cL F44_p20
noncomputable def F44_p22 := cL F44_p18
noncomputable def F44_p23 := cL F44_p2
noncomputable def F44_p24 := cR F44_p23
noncomputable def F44_p25 := cT F44_p24
noncomputable def F44_p26 := cR F44_p25
noncomputable def F44_p27 := cL F44_p26
noncomputable def F44_p28 := cL F44_p25
noncomputable def F44_p29 := cR F44_p28
noncomputable def F44_p30 := cT F44_p29
noncomputable def F44_p31 := cL F44_p30
noncomputable def F44_p32 := cL F44_p28
noncomputable def F44_p33 := cL F44_b
noncomputable def F44_p34 := cL F44_p0
noncomputable def F44_p35 := cL F44_p1
noncomputable def F44_p36 := cL F44_p23
def F44_s9_t (R : RT) (w : World) : Prop :=
  R (.returned (.int .i64 0)) w
theorem F44_s9_st (R : RT) (X : KX) (f : Fr) (w : World) (h : F44_s9_t R w) : F44_W R F44_p7 (F44_k R) X f w := Eq.mp (by kernel_rfl) h
def F44_s9 (R : RT) (w : World) : Prop :=
  F44_s9_t R w
noncomputable def F44_s9_c : Code := (.seq F44_p7 .ret)
theorem F44_s9_ok (R : RT) : OkW (F44_W R) ((fun f w => F44_s9 R w)) F44_s9_c (F44_k R) noX :=
  fun f w h => cut F44_p7 .ret (K := (F44_k R)) (fun f w h => ret_ok h) f w (F44_s9_st R _ f w h)
def F44_s10_t (R : RT) (w : World) : Prop :=
  R (.returned (.int .i64 1)) w
theorem F44_s10_st (R : RT) (X : KX) (f : Fr) (w : World) (h : F44_s10_t R w) : F44_W R F44_p11 (F44_k R) X f w := Eq.mp (by kernel_rfl) h
def F44_s10 (R : RT) (w : World) : Prop :=
  F44_s10_t R w
noncomputable def F44_s10_c : Code := (.seq F44_p11 .ret)
theorem F44_s10_ok (R : RT) : OkW (F44_W R) ((fun f w => F44_s10 R w)) F44_s10_c (fun f w => F44_s9 R w) noX :=
  fun f w h => cut F44_p11 .ret (K := (F44_k R)) (fun f w h => ret_ok h) f w (F44_s10_st R _ f w h)
def F44_s8 (R : RT) (v19 : Value) (w : World) : Prop :=
  Bc v19
    (F44_s10 R w)
    (F44_s9 R w)
noncomputable def F44_s8_c : Code := (.seq F44_p9 F44_s9_c)
theorem F44_s8_e (R : RT) (K : KF) (X : KX) (f : Fr) (w : World) (h : Bc (f 19) (F44_W R F44_s10_c K X f w) (F44_W R .skip K X f w)) : (F44_W R F44_p9 K X f w) := Eq.mp (by kernel_rfl) h
theorem F44_s8_ok (R : RT) : OkW (F44_W R) (a1 (F44_s8 R) 19) F44_s8_c (F44_k R) noX :=
  fun f w h => cut F44_p9 F44_s9_c (K := (fun f w => F44_s9 R w)) (F44_s9_ok R) f w (F44_s8_e R _ _ f w (Bc_imp (x' := (F44_W R F44_s10_c (fun f w => F44_s9 R w) noX f w)) (y' := (F44_W R .skip (fun f w => F44_s9 R w) noX f w)) ((F44_s10_ok R) f w) ((fun f w h => skip_ok h) f w) h))
def F44_s7_t (R : RT) (K : V1) (v0 v1 : Value) (w : World) : Prop :=
  uv Tryz.prog R (binS .gtr 3 (.tmp 17) (.tmp 18) v0 v1) w (fun v19 w =>
  K v19 w)
theorem F44_s7_st (R : RT) (K : V1) (X : KX) (f : Fr) (w : World) (h : F44_s7_t R K (f 0) (f 1) w) : F44_W R F44_p12 (a1 K 19) X f w := Eq.mp (by kernel_rfl) h
def F44_s7 (R : RT) (v0 v1 : Value) (w : World) : Prop :=
  F44_s7_t R (F44_s8 R) v0 v1 w
noncomputable def F44_s7_c : Code := (.seq F44_p12 F44_s8_c)
theorem F44_s7_ok (R : RT) : OkW (F44_W R) (a2 (F44_s7 R) 0 1) F44_s7_c (F44_k R) noX :=
  fun f w h => cut F44_p12 F44_s8_c (K := (a1 (F44_s8 R) 19)) (F44_s8_ok R) f w (F44_s7_st R (F44_s8 R) _ f w h)
def F44_s11_t (R : RT) (w : World) : Prop :=
  R (.returned (.int .i64 (-1))) w
theorem F44_s11_st (R : RT) (X : KX) (f : Fr) (w : World) (h : F44_s11_t R w) : F44_W R F44_p16 (F44_k R) X f w := Eq.mp (by kernel_rfl) h
def F44_s11 (R : RT) (w : World) : Prop :=
  F44_s11_t R w
noncomputable def F44_s11_c : Code := (.seq F44_p16 .ret)
theorem F44_s11_ok (R : RT) : OkW (F44_W R) ((fun f w => F44_s11 R w)) F44_s11_c (a2 (F44_s7 R) 0 1) noX :=
  fun f w h => cut F44_p16 .ret (K := (F44_k R)) (fun f w h => ret_ok h) f w (F44_s11_st R _ f w h)
def F44_s6 (R : RT) (v0 v1 v16 : Value) (w : World) : Prop :=
  Bc v16
    (F44_s11 R w)
    (F44_s7 R v0 v1 w)
noncomputable def F44_s6_c : Code := (.seq F44_p14 F44_s7_c)
theorem F44_s6_e (R : RT) (K : KF) (X : KX) (f : Fr) (w : World) (h : Bc (f 16) (F44_W R F44_s11_c K X f w) (F44_W R .skip K X f w)) : (F44_W R F44_p14 K X f w) := Eq.mp (by kernel_rfl) h
theorem F44_s6_ok (R : RT) : OkW (F44_W R) (a3 (F44_s6 R) 0 1 16) F44_s6_c (F44_k R) noX :=
  fun f w h => cut F44_p14 F44_s7_c (K := (a2 (F44_s7 R) 0 1)) (F44_s7_ok R) f w (F44_s6_e R _ _ f w (Bc_imp (x' := (F44_W R F44_s11_c (a2 (F44_s7 R) 0 1) noX f w)) (y' := (F44_W R .skip (a2 (F44_s7 R) 0 1) noX f w)) ((F44_s11_ok R) f w) ((fun f w h => skip_ok h) f w) h))
def F44_s5_t (R : RT) (K : V3) (v0 v1 : Value) (w : World) : Prop :=
  uv Tryz.prog R (binS .lss 3 (.tmp 14) (.tmp 15) v0 v1) w (fun v16 w =>
  K v0 v1 v16 w)
theorem F44_s5_st (R : RT) (K : V3) (X : KX) (f : Fr) (w : World) (h : F44_s5_t R K (f 0) (f 1) w) : F44_W R F44_p17 (a3 K 0 1 16) X f w := Eq.mp (by kernel_rfl) h
def F44_s5 (R : RT) (v0 v1 : Value) (w : World) : Prop :=
  F44_s5_t R (F44_s6 R) v0 v1 w
noncomputable def F44_s5_c : Code := (.seq F44_p17 F44_s6_c)
theorem F44_s5_ok (R : RT) : OkW (F44_W R) (a2 (F44_s5 R) 0 1) F44_s5_c (F44_k R) noX :=
  fun f w h => cut F44_p17 F44_s6_c (K := (a3 (F44_s6 R) 0 1 16)) (F44_s6_ok R) f w (F44_s5_st R (F44_s6 R) _ f w h)
def F44_s12_t (R : RT) (w : World) : Prop :=
  R (.returned (.int .i64 1)) w
theorem F44_s12_st (R : RT) (X : KX) (f : Fr) (w : World) (h : F44_s12_t R w) : F44_W R F44_p21 (F44_k R) X f w := Eq.mp (by kernel_rfl) h
def F44_s12 (R : RT) (w : World) : Prop :=
  F44_s12_t R w
noncomputable def F44_s12_c : Code := (.seq F44_p21 .ret)
theorem F44_s12_ok (R : RT) : OkW (F44_W R) ((fun f w => F44_s12 R w)) F44_s12_c (a2 (F44_s5 R) 0 1) noX :=
  fun f w h => cut F44_p21 .ret (K := (F44_k R)) (fun f w h => ret_ok h) f w (F44_s12_st R _ f w h)
def F44_s4 (R : RT) (v0 v1 v13 : Value) (w : World) : Prop :=
  Bc v13
    (F44_s12 R w)
    (F44_s5 R v0 v1 w)
noncomputable def F44_s4_c : Code := (.seq F44_p19 F44_s5_c)
theorem F44_s4_e (R : RT) (K : KF) (X : KX) (f : Fr) (w : World) (h : Bc (f 13) (F44_W R F44_s12_c K X f w) (F44_W R .skip K X f w)) : (F44_W R F44_p19 K X f w) := Eq.mp (by kernel_rfl) h
theorem F44_s4_ok (R : RT) : OkW (F44_W R) (a3 (F44_s4 R) 0 1 13) F44_s4_c (F44_k R) noX :=
  fun f w h => cut F44_p19 F44_s5_c (K := (a2 (F44_s5 R) 0 1)) (F44_s5_ok R) f w (F44_s4_e R _ _ f w (Bc_imp (x' := (F44_W R F44_s12_c (a2 (F44_s5 R) 0 1) noX f w)) (y' := (F44_W R .skip (a2 (F44_s5 R) 0 1) noX f w)) ((F44_s12_ok R) f w) ((fun f w h => skip_ok h) f w) h))
def F44_s3_t (R : RT) (K : V3) (v0 v1 v6 : Value) (w : World) : Prop :=
  K v0 v1 v6 w
theorem F44_s3_st (R : RT) (K : V3) (X : KX) (f : Fr) (w : World) (h : F44_s3_t R K (f 0) (f 1) (f 6) w) : F44_W R F44_p22 (a3 K 0 1 13) X f w := Eq.mp (by kernel_rfl) h
def F44_s3 (R : RT) (v0 v1 v6 : Value) (w : World) : Prop :=
  F44_s3_t R (F44_s4 R) v0 v1 v6 w
noncomputable def F44_s3_c : Code := (.seq F44_p22 F44_s4_c)
theorem F44_s3_ok (R : RT) : OkW (F44_W R) (a3 (F44_s3 R) 0 1 6) F44_s3_c (F44_k R) noX :=
  fun f w h => cut F44_p22 F44_s4_c (K := (a3 (F44_s4 R) 0 1 13)) (F44_s4_ok R) f w (F44_s3_st R (F44_s4 R) _ f w h)
def F44_s15_t (R : RT) (w : World) : Prop :=
  R (.returned (.int .i64 (-1))) w
theorem F44_s15_st (R : RT) (X : KX) (f : Fr) (w : World) (h : F44_s15_t R w) : F44_W R F44_p27 (F44_k R) X f w := Eq.mp (by kernel_rfl) h
def F44_s15 (R : RT) (w : World) : Prop :=
  F44_s15_t R w
noncomputable def F44_s15_c : Code := (.seq F44_p27 .ret)
theorem F44_s15_ok (R : RT) : OkW (F44_W R) ((fun f w => F44_s15 R w)) F44_s15_c (a3 (F44_s3 R) 0 1 6) noX :=
  fun f w h => cut F44_p27 .ret (K := (F44_k R)) (fun f w h => ret_ok h) f w (F44_s15_st R _ f w h)
def F44_s16_t (R : RT) (w : World) : Prop :=
  R (.returned (.int .i64 0)) w
theorem F44_s16_st (R : RT) (X : KX) (f : Fr) (w : World) (h : F44_s16_t R w) : F44_W R F44_p31 (F44_k R) X f w := Eq.mp (by kernel_rfl) h
def F44_s16 (R : RT) (w : World) : Prop :=
  F44_s16_t R w
noncomputable def F44_s16_c : Code := (.seq F44_p31 .ret)
theorem F44_s16_ok (R : RT) : OkW (F44_W R) ((fun f w => F44_s16 R w)) F44_s16_c (fun f w => F44_s15 R w) noX :=
  fun f w h => cut F44_p31 .ret (K := (F44_k R)) (fun f w h => ret_ok h) f w (F44_s16_st R _ f w h)
def F44_s14 (R : RT) (v12 : Value) (w : World) : Prop :=
  Bc v12
    (F44_s16 R w)
    (F44_s15 R w)
noncomputable def F44_s14_c : Code := (.seq F44_p29 F44_s15_c)
theorem F44_s14_e (R : RT) (K : KF) (X : KX) (f : Fr) (w : World) (h : Bc (f 12) (F44_W R F44_s16_c K X f w) (F44_W R .skip K X f w)) : (F44_W R F44_p29 K X f w) := Eq.mp (by kernel_rfl) h
theorem F44_s14_ok (R : RT) : OkW (F44_W R) (a1 (F44_s14 R) 12) F44_s14_c (a3 (F44_s3 R) 0 1 6) noX :=
  fun f w h => cut F44_p29 F44_s15_c (K := (fun f w => F44_s15 R w)) (F44_s15_ok R) f w (F44_s14_e R _ _ f w (Bc_imp (x' := (F44_W R F44_s16_c (fun f w => F44_s15 R w) noX f w)) (y' := (F44_W R .skip (fun f w => F44_s15 R w) noX f w)) ((F44_s16_ok R) f w) ((fun f w h => skip_ok h) f w) h))
def F44_s13_t (R : RT) (K : V1) (v6 : Value) (w : World) : Prop :=
  K v6 w
theorem F44_s13_st (R : RT) (K : V1) (X : KX) (f : Fr) (w : World) (h : F44_s13_t R K (f 6) w) : F44_W R F44_p32 (a1 K 12) X f w := Eq.mp (by kernel_rfl) h
def F44_s13 (R : RT) (v6 : Value) (w : World) : Prop :=
  F44_s13_t R (F44_s14 R) v6 w
noncomputable def F44_s13_c : Code := (.seq F44_p32 F44_s14_c)
theorem F44_s13_ok (R : RT) : OkW (F44_W R) (a1 (F44_s13 R) 6) F44_s13_c (a3 (F44_s3 R) 0 1 6) noX :=
  fun f w h => cut F44_p32 F44_s14_c (K := (a1 (F44_s14 R) 12)) (F44_s14_ok R) f w (F44_s13_st R (F44_s14 R) _ f w h)
def F44_s2 (R : RT) (v0 v1 v6 v11 : Value) (w : World) : Prop :=
  Bc v11
    (F44_s13 R v6 w)
    (F44_s3 R v0 v1 v6 w)
noncomputable def F44_s2_c : Code := (.seq F44_p24 F44_s3_c)
theorem F44_s2_e (R : RT) (K : KF) (X : KX) (f : Fr) (w : World) (h : Bc (f 11) (F44_W R F44_s13_c K X f w) (F44_W R .skip K X f w)) : (F44_W R F44_p24 K X f w) := Eq.mp (by kernel_rfl) h
theorem F44_s2_ok (R : RT) : OkW (F44_W R) (a4 (F44_s2 R) 0 1 6 11) F44_s2_c (F44_k R) noX :=
  fun f w h => cut F44_p24 F44_s3_c (K := (a3 (F44_s3 R) 0 1 6)) (F44_s3_ok R) f w (F44_s2_e R _ _ f w (Bc_imp (x' := (F44_W R F44_s13_c (a3 (F44_s3 R) 0 1 6) noX f w)) (y' := (F44_W R .skip (a3 (F44_s3 R) 0 1 6) noX f w)) ((F44_s13_ok R) f w) ((fun f w h => skip_ok h) f w) h))
def F44_s1_t (R : RT) (K : V4) (v0 v1 : Value) (w : World) : Prop :=
  un Tryz.prog R (callFunc 62 #[v0]) w (fun v8 w =>
  un Tryz.prog R (callFunc 62 #[v1]) w (fun v10 w =>
  K v0 v1 v10 v8 w))
theorem F44_s1_st (R : RT) (K : V4) (X : KX) (f : Fr) (w : World) (h : F44_s1_t R K (f 0) (f 1) w) : F44_W R (.seq F44_p33 (.seq F44_p34 (.seq F44_p35 F44_p36))) (a4 K 0 1 6 11) X f w := Eq.mp (by kernel_rfl) h
def F44_s1 (R : RT) (v0 v1 : Value) (w : World) : Prop :=
  F44_s1_t R (F44_s2 R) v0 v1 w
noncomputable def F44_s1_c : Code := (.seq (.seq F44_p33 (.seq F44_p34 (.seq F44_p35 F44_p36))) F44_s2_c)
theorem F44_s1_ok (R : RT) : OkW (F44_W R) (a2 (F44_s1 R) 0 1) F44_s1_c (F44_k R) noX :=
  fun f w h => cut (.seq F44_p33 (.seq F44_p34 (.seq F44_p35 F44_p36))) F44_s2_c (K := (a4 (F44_s2 R) 0 1 6 11)) (F44_s2_ok R) f w (F44_s1_st R (F44_s2 R) _ f w h)
theorem F44_all_e (R : RT) (K : KF) (X : KX) (f : Fr) (w : World) (h : F44_W R F44_s1_c K X f w) : F44_W R F44_b K X f w := Eq.mp (by kernel_rfl) h
theorem F44_calls (R : RT) (v0 v1 : Value) (w : World) (h : F44_s1 R v0 v1 w) : Calls Tryz.prog 44 #[v0, v1] w R :=
  calls_of_wpE (dc := F44_dc) (args := [v0, v1]) hmixed Tryz.func44 (c := F44_b) rfl (rs := [.tmp 4]) rfl (by kernel_rfl) (Nat.le_of_ble_eq_true (by kernel_rfl)) (F44_all_e R _ _ _ w ((F44_s1_ok R) (initFr [v0, v1]) w h))

/-! ### cmp.Or[int] -/
noncomputable def F43_b : Code := bodyOf Tryz.f43
def F43_dc : Nat → List (Nat × Bool)
  | _ => []
abbrev F43_k (R : RT) := resK Tryz.prog [.tmp 2] R
abbrev F43_W (R : RT) := wpE Tryz.prog F43_dc (F43_k R) (panK R)
noncomputable def F43_p0 := cR F43_b
noncomputable def F43_p1 := cR F43_p0
noncomputable def F43_p2 := cR F43_p1
noncomputable def F43_p3 := cL F43_p2
noncomputable def F43_p4 := cL F43_p1
noncomputable def F43_p5 := cR F43_p4
noncomputable def F43_p6 := cI F43_p5
noncomputable def F43_p7 := cI F43_p6
noncomputable def F43_p8 := cR F43_p7
noncomputable def F43_p9 := cR F43_p8
noncomputable def F43_p10 := cR F43_p9
noncomputable def F43_p11 := cL F43_p9
noncomputable def F43_p12 := cI F43_p11
noncomputable def F43_p13 := cR F43_p12
noncomputable def F43_p14 := cR F43_p13
noncomputable def F43_p15 := cT F43_p14
noncomputable def F43_p16 := cL F43_p15
noncomputable def F43_p17 := cL F43_p12
noncomputable def F43_p18 := cL F43_p13
noncomputable def F43_p19 := cL F43_p8
noncomputable def F43_p20 := cL F43_p7
noncomputable def F43_p21 := cL F43_b
noncomputable def F43_p22 := cL F43_p0
noncomputable def F43_p23 := cL F43_p4
def F43_s3_t (R : RT) (v3 : Value) (w : World) : Prop :=
  R (.returned v3) w
theorem F43_s3_st (R : RT) (X : KX) (f : Fr) (w : World) (h : F43_s3_t R (f 3) w) : F43_W R F43_p3 (F43_k R) X f w := Eq.mp (by kernel_rfl) h
def F43_s3 (R : RT) (v3 : Value) (w : World) : Prop :=
  F43_s3_t R v3 w
noncomputable def F43_s3_c : Code := (.seq F43_p3 .ret)
theorem F43_s3_ok (R : RT) : OkW (F43_W R) (a1 (F43_s3 R) 3) F43_s3_c (F43_k R) noX :=
  fun f w h => cut F43_p3 .ret (K := (F43_k R)) (fun f w h => ret_ok h) f w (F43_s3_st R _ f w h)
def F43_s8_t (R : RT) (K : V1) (v3 v6 v7 v8 : Value) (w : World) : Prop :=
  uv Tryz.prog R (binS .add 3 (.tmp 8) (.const (.int .i64 1)) v8 (.int .i64 1)) w (fun v16 w =>
  K v16 w)
theorem F43_s8_st (R : RT) (K : V1) (X : KX) (f : Fr) (w : World) (h : F43_s8_t R K (f 3) (f 6) (f 7) (f 8) w) : F43_W R F43_p10 (a1 K 8) X f w := Eq.mp (by kernel_rfl) h
def F43_s8 (R : RT) (rec4 : V1) (v3 v6 v7 v8 : Value) (w : World) : Prop :=
  F43_s8_t R rec4 v3 v6 v7 v8 w
noncomputable def F43_s8_c : Code := (.seq F43_p10 .skip)
theorem F43_s8_ok (R : RT) (rec4 : V1) : OkW (F43_W R) (a4 (F43_s8 R rec4) 3 6 7 8) F43_s8_c (a1 rec4 8) (kxB 0 (a1 (F43_s3 R) 3) noX) :=
  fun f w h => cut F43_p10 .skip (K := (a1 rec4 8)) (fun f w h => skip_ok h) f w (F43_s8_st R rec4 _ f w h)
def F43_s11_t (R : RT) (v5 : Value) (w : World) : Prop :=
  R (.returned v5) w
theorem F43_s11_st (R : RT) (X : KX) (f : Fr) (w : World) (h : F43_s11_t R (f 5) w) : F43_W R F43_p16 (F43_k R) X f w := Eq.mp (by kernel_rfl) h
def F43_s11 (R : RT) (rec4 : V1) (v5 : Value) (w : World) : Prop :=
  F43_s11_t R v5 w
noncomputable def F43_s11_c : Code := (.seq F43_p16 .ret)
theorem F43_s11_ok (R : RT) (rec4 : V1) : OkW (F43_W R) (a1 (F43_s11 R rec4) 5) F43_s11_c (a4 (F43_s8 R rec4) 3 6 7 8) (kxB 1 (a4 (F43_s8 R rec4) 3 6 7 8) (kxB 0 (a1 (F43_s3 R) 3) noX)) :=
  fun f w h => cut F43_p16 .ret (K := (F43_k R)) (fun f w h => ret_ok h) f w (F43_s11_st R _ f w h)
def F43_s10 (R : RT) (rec4 : V1) (v3 v5 v6 v7 v8 v14 : Value) (w : World) : Prop :=
  Bc v14
    (F43_s11 R rec4 v5 w)
    (F43_s8 R rec4 v3 v6 v7 v8 w)
noncomputable def F43_s10_c : Code := (.seq F43_p14 .skip)
theorem F43_s10_e (R : RT) (K : KF) (X : KX) (f : Fr) (w : World) (h : Bc (f 14) (F43_W R F43_s11_c K X f w) (F43_W R .skip K X f w)) : (F43_W R F43_p14 K X f w) := Eq.mp (by kernel_rfl) h
theorem F43_s10_ok (R : RT) (rec4 : V1) : OkW (F43_W R) (a6 (F43_s10 R rec4) 3 5 6 7 8 14) F43_s10_c (a4 (F43_s8 R rec4) 3 6 7 8) (kxB 1 (a4 (F43_s8 R rec4) 3 6 7 8) (kxB 0 (a1 (F43_s3 R) 3) noX)) :=
  fun f w h => cut F43_p14 .skip (K := (a4 (F43_s8 R rec4) 3 6 7 8)) (fun f w h => skip_ok h) f w (F43_s10_e R _ _ f w (Bc_imp (x' := (F43_W R F43_s11_c (a4 (F43_s8 R rec4) 3 6 7 8) (kxB 1 (a4 (F43_s8 R rec4) 3 6 7 8) (kxB 0 (a1 (F43_s3 R) 3) noX)) f w)) (y' := (F43_W R .skip (a4 (F43_s8 R rec4) 3 6 7 8) (kxB 1 (a4 (F43_s8 R rec4) 3 6 7 8) (kxB 0 (a1 (F43_s3 R) 3) noX)) f w)) ((F43_s11_ok R rec4) f w) ((fun f w h => skip_ok h) f w) h))
def F43_s9_t (R : RT) (K : V6) (v3 v6 v7 v8 : Value) (w : World) : Prop :=
  uv Tryz.prog R (Instr.indexAt 35 v6 v8) w (fun v10 w =>
  uv Tryz.prog R (Instr.loadAt 3 v10) w (fun v11 w =>
  uv Tryz.prog R (binS .neq 3 (.tmp 12) (.tmp 13) v11 v3) w (fun v14 w =>
  K v3 v11 v6 v7 v8 v14 w)))
theorem F43_s9_st (R : RT) (K : V6) (X : KX) (f : Fr) (w : World) (h : F43_s9_t R K (f 3) (f 6) (f 7) (f 8) w) : F43_W R (.seq F43_p17 F43_p18) (a6 K 3 5 6 7 8 14) X f w := Eq.mp (by kernel_rfl) h
def F43_s9 (R : RT) (rec4 : V1) (v3 v6 v7 v8 : Value) (w : World) : Prop :=
  F43_s9_t R (F43_s10 R rec4) v3 v6 v7 v8 w
noncomputable def F43_s9_c : Code := (.seq (.seq F43_p17 F43_p18) F43_s10_c)
theorem F43_s9_ok (R : RT) (rec4 : V1) : OkW (F43_W R) (a4 (F43_s9 R rec4) 3 6 7 8) F43_s9_c (a4 (F43_s8 R rec4) 3 6 7 8) (kxB 1 (a4 (F43_s8 R rec4) 3 6 7 8) (kxB 0 (a1 (F43_s3 R) 3) noX)) :=
  fun f w h => cut (.seq F43_p17 F43_p18) F43_s10_c (K := (a6 (F43_s10 R rec4) 3 5 6 7 8 14)) (F43_s10_ok R rec4) f w (F43_s9_st R (F43_s10 R rec4) _ f w h)
noncomputable def F43_s7_c : Code := (.seq F43_p11 F43_s8_c)
theorem F43_s7_e (R : RT) (K : KF) (X : KX) (f : Fr) (w : World) (h : F43_W R F43_s9_c K (kxB 1 K X) f w) : F43_W R F43_p11 K X f w := Eq.mp (by kernel_rfl) h
theorem F43_s7_ok (R : RT) (rec4 : V1) : OkW (F43_W R) (a4 (F43_s9 R rec4) 3 6 7 8) F43_s7_c (a1 rec4 8) (kxB 0 (a1 (F43_s3 R) 3) noX) :=
  fun f w h => cut F43_p11 F43_s8_c (K := (a4 (F43_s8 R rec4) 3 6 7 8)) (F43_s8_ok R rec4) f w (F43_s7_e R _ _ f w ((F43_s9_ok R rec4) f w h))
def F43_s6 (R : RT) (rec4 : V1) (v3 v6 v7 v8 v9 : Value) (w : World) : Prop :=
  Bc v9
    (F43_s9 R rec4 v3 v6 v7 v8 w)
    (F43_s3 R v3 w)
noncomputable def F43_s6_c : Code := (.seq F43_p19 F43_s7_c)
theorem F43_s6_e (R : RT) (K : KF) (X : KX) (f : Fr) (w : World) (h : Bc (f 9) (F43_W R .skip K X f w) (F43_W R (.exit 0) K X f w)) : (F43_W R F43_p19 K X f w) := Eq.mp (by kernel_rfl) h
theorem F43_s6_ok (R : RT) (rec4 : V1) : OkW (F43_W R) (a5 (F43_s6 R rec4) 3 6 7 8 9) F43_s6_c (a1 rec4 8) (kxB 0 (a1 (F43_s3 R) 3) noX) :=
  fun f w h => cut F43_p19 F43_s7_c (K := (a4 (F43_s9 R rec4) 3 6 7 8)) (F43_s7_ok R rec4) f w (F43_s6_e R _ _ f w (Bc_imp (x' := (F43_W R .skip (a4 (F43_s9 R rec4) 3 6 7 8) (kxB 0 (a1 (F43_s3 R) 3) noX) f w)) (y' := (F43_W R (.exit 0) (a4 (F43_s9 R rec4) 3 6 7 8) (kxB 0 (a1 (F43_s3 R) 3) noX) f w)) ((fun f w h => skip_ok h) f w) ((fun f w h => exit_hit h) f w) h))
def F43_s5_t (R : RT) (K : V5) (v3 v6 v7 v8 : Value) (w : World) : Prop :=
  uv Tryz.prog R (binS .lss 3 (.tmp 8) (.tmp 7) v8 v7) w (fun v9 w =>
  K v3 v6 v7 v8 v9 w)
theorem F43_s5_st (R : RT) (K : V5) (X : KX) (f : Fr) (w : World) (h : F43_s5_t R K (f 3) (f 6) (f 7) (f 8) w) : F43_W R F43_p20 (a5 K 3 6 7 8 9) X f w := Eq.mp (by kernel_rfl) h
def F43_s5 (R : RT) (rec4 : V1) (v3 v6 v7 v8 : Value) (w : World) : Prop :=
  F43_s5_t R (F43_s6 R rec4) v3 v6 v7 v8 w
noncomputable def F43_s5_c : Code := (.seq F43_p20 F43_s6_c)
theorem F43_s5_ok (R : RT) (rec4 : V1) : OkW (F43_W R) (a4 (F43_s5 R rec4) 3 6 7 8) F43_s5_c (a1 rec4 8) (kxB 0 (a1 (F43_s3 R) 3) noX) :=
  fun f w h => cut F43_p20 F43_s6_c (K := (a5 (F43_s6 R rec4) 3 6 7 8 9)) (F43_s6_ok R rec4) f w (F43_s5_st R (F43_s6 R rec4) _ f w h)
def F43_s4 (R : RT) (v3 v6 v7 v8 : Value) (w : World) : Prop :=
  Lp1 (fun rec4 v8 w => F43_s5 R rec4 v3 v6 v7 v8 w) v8 w
theorem F43_s4_e (R : RT) (K : KF) (X : KX) (f : Fr) (w : World) (h : F43_W R (.loop F43_p7) K X f w) : F43_W R F43_p6 K X f w := Eq.mp (by kernel_rfl) h
theorem F43_s4b_e (R : RT) (K : KF) (X : KX) (f : Fr) (w : World) (h : F43_W R F43_s5_c K X f w) : F43_W R F43_p7 K X f w := Eq.mp (by kernel_rfl) h
theorem F43_s4_ok (R : RT) : OkW (F43_W R) (a4 (F43_s4 R) 3 6 7 8) F43_p6 (a1 (F43_s3 R) 3) (kxB 0 (a1 (F43_s3 R) 3) noX) :=
  fun f w h => F43_s4_e R _ _ f w (loop1_ok (P := Tryz.prog) (dc := F43_dc) (kr := (F43_k R)) (pan := panK R) F43_p7 (kn := (a1 (F43_s3 R) 3)) (kx := (kxB 0 (a1 (F43_s3 R) 3) noX)) (s0 := 8) (fun rec4 v8 w => F43_s5 R rec4 (f 3) (f 6) (f 7) v8 w) f (fun rec4 f' w' hf h' => F43_s4b_e R _ _ f' w' ((F43_s5_ok R rec4) f' w' (by simp only [a4, hf 3 (by kernel_rfl), hf 6 (by kernel_rfl), hf 7 (by kernel_rfl)]; exact h'))) w h)
noncomputable def F43_s2_c : Code := (.seq F43_p5 F43_s3_c)
theorem F43_s2_e (R : RT) (K : KF) (X : KX) (f : Fr) (w : World) (h : F43_W R F43_p6 K (kxB 0 K X) f w) : F43_W R F43_p5 K X f w := Eq.mp (by kernel_rfl) h
theorem F43_s2_ok (R : RT) : OkW (F43_W R) (a4 (F43_s4 R) 3 6 7 8) F43_s2_c (F43_k R) noX :=
  fun f w h => cut F43_p5 F43_s3_c (K := (a1 (F43_s3 R) 3)) (F43_s3_ok R) f w (F43_s2_e R _ _ f w ((F43_s4_ok R) f w h))
def F43_s1_t (R : RT) (K : V4) (v0 : Value) (w : World) : Prop :=
  un Tryz.prog R (builtin .len #[35] 3 #[false] #[v0]) w (fun v7 w =>
  K (.int .i64 0) v0 v7 (.int .i64 0) w)
theorem F43_s1_st (R : RT) (K : V4) (X : KX) (f : Fr) (w : World) (h : F43_s1_t R K (f 0) w) : F43_W R (.seq F43_p21 (.seq F43_p22 F43_p23)) (a4 K 3 6 7 8) X f w := Eq.mp (by kernel_rfl) h
def F43_s1 (R : RT) (v0 : Value) (w : World) : Prop :=
  F43_s1_t R (F43_s4 R) v0 w
noncomputable def F43_s1_c : Code := (.seq (.seq F43_p21 (.seq F43_p22 F43_p23)) F43_s2_c)
theorem F43_s1_ok (R : RT) : OkW (F43_W R) (a1 (F43_s1 R) 0) F43_s1_c (F43_k R) noX :=
  fun f w h => cut (.seq F43_p21 (.seq F43_p22 F43_p23)) F43_s2_c (K := (a4 (F43_s4 R) 3 6 7 8)) (F43_s2_ok R) f w (F43_s1_st R (F43_s4 R) _ f w h)
theorem F43_all_e (R : RT) (K : KF) (X : KX) (f : Fr) (w : World) (h : F43_W R F43_s1_c K X f w) : F43_W R F43_b K X f w := Eq.mp (by kernel_rfl) h
theorem F43_calls (R : RT) (v0 : Value) (w : World) (h : F43_s1 R v0 w) : Calls Tryz.prog 43 #[v0] w R :=
  calls_of_wpE (dc := F43_dc) (args := [v0]) hmixed Tryz.func43 (c := F43_b) rfl (rs := [.tmp 2]) rfl (by kernel_rfl) (Nat.le_of_ble_eq_true (by kernel_rfl)) (F43_all_e R _ _ _ w ((F43_s1_ok R) (initFr [v0]) w h))

/-! ### cmp.isNaN[int] -/
noncomputable def F62_b : Code := bodyOf Tryz.f62
def F62_dc : Nat → List (Nat × Bool)
  | _ => []
abbrev F62_k (R : RT) := resK Tryz.prog [.tmp 2] R
abbrev F62_W (R : RT) := wpE Tryz.prog F62_dc (F62_k R) (panK R)
noncomputable def F62_p0 := cL F62_b
noncomputable def F62_p1 := cR F62_b
noncomputable def F62_p2 := cL F62_p1
def F62_s1_t (R : RT) (v0 : Value) (w : World) : Prop :=
  uv Tryz.prog R (binS .neq 3 (.tmp 3) (.tmp 4) v0 v0) w (fun v5 w =>
  R (.returned v5) w)
theorem F62_s1_st (R : RT) (X : KX) (f : Fr) (w : World) (h : F62_s1_t R (f 0) w) : F62_W R (.seq F62_p0 F62_p2) (F62_k R) X f w := Eq.mp (by kernel_rfl) h
def F62_s1 (R : RT) (v0 : Value) (w : World) : Prop :=
  F62_s1_t R v0 w
noncomputable def F62_s1_c : Code := (.seq (.seq F62_p0 F62_p2) .ret)
theorem F62_s1_ok (R : RT) : OkW (F62_W R) (a1 (F62_s1 R) 0) F62_s1_c (F62_k R) noX :=
  fun f w h => cut (.seq F62_p0 F62_p2) .ret (K := (F62_k R)) (fun f w h => ret_ok h) f w (F62_s1_st R _ f w h)
theorem F62_all_e (R : RT) (K : KF) (X : KX) (f : Fr) (w : World) (h : F62_W R F62_s1_c K X f w) : F62_W R F62_b K X f w := Eq.mp (by kernel_rfl) h
theorem F62_calls (R : RT) (v0 : Value) (w : World) (h : F62_s1 R v0 w) : Calls Tryz.prog 62 #[v0] w R :=
  calls_of_wpE (dc := F62_dc) (args := [v0]) hmixed Tryz.func62 (c := F62_b) rfl (rs := [.tmp 2]) rfl (by kernel_rfl) (Nat.le_of_ble_eq_true (by kernel_rfl)) (F62_all_e R _ _ _ w ((F62_s1_ok R) (initFr [v0]) w h))

/-! ### hasp/haspref09.Join -/
noncomputable def F26_b : Code := bodyOf Tryz.f26
def F26_dc : Nat → List (Nat × Bool)
  | _ => []
abbrev F26_k (R : RT) := resK Tryz.prog [.tmp 4] R
abbrev F26_W (R : RT) := wpE Tryz.prog F26_dc (F26_k R) (panK R)
noncomputable def F26_p0 := cR F26_b
noncomputable def F26_p1 := cR F26_p0
noncomputable def F26_p2 := cR F26_p1
noncomputable def F26_p3 := cL F26_p2
noncomputable def F26_p4 := cL F26_p1
noncomputable def F26_p5 := cR F26_p4
noncomputable def F26_p6 := cT F26_p5
noncomputable def F26_p7 := cL F26_p6
noncomputable def F26_p8 := cL F26_b
noncomputable def F26_p9 := cL F26_p0
noncomputable def F26_p10 := cL F26_p4
def F26_s3_t (R : RT) (v0 v1 v5 : Value) (w : World) : Prop :=
  uv Tryz.prog R (Instr.indexAt 96 v5 v0) w (fun v22 w =>
  uv Tryz.prog R (Instr.loadAt 9 v22) w (fun v23 w =>
  uv Tryz.prog R (Instr.index 9 v23 v1) w (fun v25 w =>
  uv Tryz.prog R (binS .sub 5 (.tmp 25) (.const (.int .u8 48)) v25 (.int .u8 48)) w (fun v26 w =>
  uv Tryz.prog R (convert 5 3 v26) w (fun v27 w =>
  R (.returned v27) w)))))
theorem F26_s3_st (R : RT) (X : KX) (f : Fr) (w : World) (h : F26_s3_t R (f 0) (f 1) (f 5) w) : F26_W R F26_p3 (F26_k R) X f w := Eq.mp (by kernel_rfl) h
def F26_s3 (R : RT) (v0 v1 v5 : Value) (w : World) : Prop :=
  F26_s3_t R v0 v1 v5 w
noncomputable def F26_s3_c : Code := (.seq F26_p3 .ret)
theorem F26_s3_ok (R : RT) : OkW (F26_W R) (a3 (F26_s3 R) 0 1 5) F26_s3_c (F26_k R) noX :=
  fun f w h => cut F26_p3 .ret (K := (F26_k R)) (fun f w h => ret_ok h) f w (F26_s3_st R _ f w h)
def F26_s4_t (R : RT) (w : World) : Prop :=
  R (.returned (.int .i64 0)) w
theorem F26_s4_st (R : RT) (X : KX) (f : Fr) (w : World) (h : F26_s4_t R w) : F26_W R F26_p7 (F26_k R) X f w := Eq.mp (by kernel_rfl) h
def F26_s4 (R : RT) (w : World) : Prop :=
  F26_s4_t R w
noncomputable def F26_s4_c : Code := (.seq F26_p7 .ret)
theorem F26_s4_ok (R : RT) : OkW (F26_W R) ((fun f w => F26_s4 R w)) F26_s4_c (a3 (F26_s3 R) 0 1 5) noX :=
  fun f w h => cut F26_p7 .ret (K := (F26_k R)) (fun f w h => ret_ok h) f w (F26_s4_st R _ f w h)
def F26_s2 (R : RT) (v0 v1 v5 v20 : Value) (w : World) : Prop :=
  Bc v20
    (F26_s4 R w)
    (F26_s3 R v0 v1 v5 w)
noncomputable def F26_s2_c : Code := (.seq F26_p5 F26_s3_c)
theorem F26_s2_e (R : RT) (K : KF) (X : KX) (f : Fr) (w : World) (h : Bc (f 20) (F26_W R F26_s4_c K X f w) (F26_W R .skip K X f w)) : (F26_W R F26_p5 K X f w) := Eq.mp (by kernel_rfl) h
theorem F26_s2_ok (R : RT) : OkW (F26_W R) (a4 (F26_s2 R) 0 1 5 20) F26_s2_c (F26_k R) noX :=
  fun f w h => cut F26_p5 F26_s3_c (K := (a3 (F26_s3 R) 0 1 5)) (F26_s3_ok R) f w (F26_s2_e R _ _ f w (Bc_imp (x' := (F26_W R F26_s4_c (a3 (F26_s3 R) 0 1 5) noX f w)) (y' := (F26_W R .skip (a3 (F26_s3 R) 0 1 5) noX f w)) ((F26_s4_ok R) f w) ((fun f w h => skip_ok h) f w) h))
def F26_s1_t (R : RT) (K : V4) (v0 v1 : Value) (w : World) : Prop :=
  uv Tryz.prog R (Instr.build 96 #[(0, (.string { data := #[48, 49, 50, 51, 52, 53, 54] })), (1, (.string { data := #[49, 49, 50, 51, 52, 53, 54] })), (2, (.string { data := #[50, 50, 50, 52, 52, 54, 54] })), (3, (.string { data := #[51, 51, 52, 51, 52, 53, 54] })), (4, (.string { data := #[52, 52, 52, 52, 52, 54, 54] })), (5, (.string { data := #[53, 53, 54, 53, 54, 53, 54] })), (6, (.string { data := #[54, 54, 54, 54, 54, 54, 54] }))]) w (fun v6 w =>
  uv Tryz.prog R (Instr.alloc 96 true (.tuple #[])) w (fun v5 w =>
  uu Tryz.prog R (Instr.storeAt 96 v5 v6) w (fun w =>
  uv Tryz.prog R (binS .lss 3 (.tmp 7) (.const (.int .i64 0)) v0 (.int .i64 0)) w (fun v8 w =>
  Gk v8 false (fun k => k v0 w) w (fun v10 w =>
  Gk v8 false (fun k => uv Tryz.prog R (binS .gtr 3 (.tmp 10) (.const (.int .i64 6)) v10 (.int .i64 6)) w k) w (fun v11 w =>
  uv Tryz.prog R (pickS v8 (.bool true) v11) w (fun v12 w =>
  Gk v12 false (fun k => k v1 w) w (fun v14 w =>
  Gk v12 false (fun k => uv Tryz.prog R (binS .lss 3 (.tmp 14) (.const (.int .i64 0)) v14 (.int .i64 0)) w k) w (fun v15 w =>
  uv Tryz.prog R (pickS v12 (.bool true) v15) w (fun v16 w =>
  Gk v16 false (fun k => k v1 w) w (fun v18 w =>
  Gk v16 false (fun k => uv Tryz.prog R (binS .gtr 3 (.tmp 18) (.const (.int .i64 6)) v18 (.int .i64 6)) w k) w (fun v19 w =>
  uv Tryz.prog R (pickS v16 (.bool true) v19) w (fun v20 w =>
  K v0 v1 v5 v20 w)))))))))))))
theorem F26_s1_st (R : RT) (K : V4) (X : KX) (f : Fr) (w : World) (h : F26_s1_t R K (f 0) (f 1) w) : F26_W R (.seq F26_p8 (.seq F26_p9 F26_p10)) (a4 K 0 1 5 20) X f w := Eq.mp (by kernel_rfl) h
def F26_s1 (R : RT) (v0 v1 : Value) (w : World) : Prop :=
  F26_s1_t R (F26_s2 R) v0 v1 w
noncomputable def F26_s1_c : Code := (.seq (.seq F26_p8 (.seq F26_p9 F26_p10)) F26_s2_c)
theorem F26_s1_ok (R : RT) : OkW (F26_W R) (a2 (F26_s1 R) 0 1) F26_s1_c (F26_k R) noX :=
  fun f w h => cut (.seq F26_p8 (.seq F26_p9 F26_p10)) F26_s2_c (K := (a4 (F26_s2 R) 0 1 5 20)) (F26_s2_ok R) f w (F26_s1_st R (F26_s2 R) _ f w h)
theorem F26_all_e (R : RT) (K : KF) (X : KX) (f : Fr) (w : World) (h : F26_W R F26_s1_c K X f w) : F26_W R F26_b K X f w := Eq.mp (by kernel_rfl) h
theorem F26_calls (R : RT) (v0 v1 : Value) (w : World) (h : F26_s1 R v0 v1 w) : Calls Tryz.prog 26 #[v0, v1] w R :=
  calls_of_wpE (dc := F26_dc) (args := [v0, v1]) hmixed Tryz.func26 (c := F26_b) rfl (rs := [.tmp 4]) rfl (by kernel_rfl) (Nat.le_of_ble_eq_true (by kernel_rfl)) (F26_all_e R _ _ _ w ((F26_s1_ok R) (initFr [v0, v1]) w h))

end Go.Proofs.YtpghlemcgjogpaaGreat
