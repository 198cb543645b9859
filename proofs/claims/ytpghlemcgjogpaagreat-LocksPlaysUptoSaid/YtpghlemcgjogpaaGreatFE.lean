import Derived.Test.YtpghlemcgjogpaaGreatProg
import Derived.Test.YtpghlemcgjogpaaGreatSx
import Derived.Test.YtpghlemcgjogpaaGreatT
set_option linter.unusedVariables false
set_option maxRecDepth 100000
set_option maxHeartbeats 400000
namespace Go.Proofs.YtpghlemcgjogpaaGreat
open Go.Sx
/-! ### (*hasp/haspref10.Table).Ask -/
noncomputable def F7_b : Code := bodyOf Tryz.f7
def F7_dc : Nat → List (Nat × Bool)
  | 11 => [(0, true), (1, true), (2, true), (3, true), (4, true), (5, true), (6, true), (7, true), (8, true), (9, false), (10, false), (11, true), (12, true), (13, false)]
  | _ => []
abbrev F7_k (R : RT) := resK Tryz.prog [.tmp 8] R
abbrev F7_W (R : RT) := wpE Tryz.prog F7_dc (F7_k R) (panK R)
noncomputable def F7_p0 := cR F7_b
noncomputable def F7_p1 := cR F7_p0
noncomputable def F7_p2 := cR F7_p1
noncomputable def F7_p3 := cR F7_p2
noncomputable def F7_p4 := cR F7_p3
noncomputable def F7_p5 := cR F7_p4
noncomputable def F7_p6 := cR F7_p5
noncomputable def F7_p7 := cL F7_p6
noncomputable def F7_p8 := cR F7_p6
noncomputable def F7_p9 := cL F7_p8
noncomputable def F7_p10 := cL F7_p5
noncomputable def F7_p11 := cR F7_p10
noncomputable def F7_p12 := cT F7_p11
noncomputable def F7_p13 := cL F7_p12
noncomputable def F7_p14 := cR F7_p12
noncomputable def F7_p15 := cL F7_p14
noncomputable def F7_p16 := cL F7_p10
noncomputable def F7_p17 := cL F7_p4
noncomputable def F7_p18 := cR F7_p17
noncomputable def F7_p19 := cT F7_p18
noncomputable def F7_p20 := cL F7_p19
noncomputable def F7_p21 := cL F7_p2
noncomputable def F7_p22 := cL F7_p3
noncomputable def F7_p23 := cL F7_p17
noncomputable def F7_p24 := cL F7_p1
noncomputable def F7_p25 := cR F7_p24
noncomputable def F7_p26 := cT F7_p25
noncomputable def F7_p27 := cL F7_p26
noncomputable def F7_p28 := cL F7_b
noncomputable def F7_p29 := cL F7_p0
noncomputable def F7_p30 := cL F7_p24
def F7_s7_t (R : RT) (v0 v11 v12 : Value) (w : World) : Prop :=
  Dr (fun S w =>
  HN Tryz.prog (fun _ => True) (nilS v0) (fun v58 =>
  HV Tryz.prog (fun _ => True) (Instr.fieldAt 30 v58 1) (fun v59 =>
  HV Tryz.prog S (Instr.loadAt 28 v59) (fun v60 =>
  HV Tryz.prog S (Instr.loadAt 42 v12) (fun v61 =>
  HV Tryz.prog S (binS .neq 3 (.tmp 62) (.const (.int .i64 0)) v11 (.int .i64 0)) (fun v63 =>
  HV Tryz.prog S (Instr.build 70 #[(0, v61), (1, v63)]) (fun v64 =>
  uv Tryz.prog R (Instr.buildSlice 28 1 #[(0, v64)]) w (fun v65 w =>
  S w ∧ (
  un Tryz.prog R (builtin .append #[28, 28] 28 #[false, false] #[v60, v65]) w (fun v66 w =>
  HN Tryz.prog (fun _ => True) (nilS v0) (fun v67 =>
  HV Tryz.prog (fun _ => True) (Instr.fieldAt 30 v67 1) (fun v68 =>
  uu Tryz.prog R (Instr.storeAt 28 v68 v66) w (fun w =>
  R (.returned (.int .i64 2)) w))))))))))))) w
theorem F7_s7_st (R : RT) (X : KX) (f : Fr) (w : World) (h : F7_s7_t R (f 0) (f 11) (f 12) w) : F7_W R (.seq F7_p7 F7_p9) (F7_k R) X f w := Eq.mp (by kernel_rfl) h
def F7_s7 (R : RT) (v0 v11 v12 : Value) (w : World) : Prop :=
  F7_s7_t R v0 v11 v12 w
noncomputable def F7_s7_c : Code := (.seq (.seq F7_p7 F7_p9) .ret)
theorem F7_s7_ok (R : RT) : OkW (F7_W R) (a3 (F7_s7 R) 0 11 12) F7_s7_c (F7_k R) noX :=
  fun f w h => cut (.seq F7_p7 F7_p9) .ret (K := (F7_k R)) (fun f w h => ret_ok h) f w (F7_s7_st R _ f w h)
def F7_s8_t (R : RT) (v0 v12 : Value) (w : World) : Prop :=
  uv Tryz.prog R (Instr.loadAt 42 v12) w (fun v54 w =>
  un Tryz.prog R (callFunc 29 #[v0, v54]) w (fun v55 w =>
  R (.returned (.int .i64 1)) w))
theorem F7_s8_st (R : RT) (X : KX) (f : Fr) (w : World) (h : F7_s8_t R (f 0) (f 12) w) : F7_W R (.seq F7_p13 F7_p15) (F7_k R) X f w := Eq.mp (by kernel_rfl) h
def F7_s8 (R : RT) (v0 v12 : Value) (w : World) : Prop :=
  F7_s8_t R v0 v12 w
noncomputable def F7_s8_c : Code := (.seq (.seq F7_p13 F7_p15) .ret)
theorem F7_s8_ok (R : RT) : OkW (F7_W R) (a2 (F7_s8 R) 0 12) F7_s8_c (a3 (F7_s7 R) 0 11 12) noX :=
  fun f w h => cut (.seq F7_p13 F7_p15) .ret (K := (F7_k R)) (fun f w h => ret_ok h) f w (F7_s8_st R _ f w h)
def F7_s6 (R : RT) (v0 v11 v12 v52 : Value) (w : World) : Prop :=
  Bc v52
    (F7_s8 R v0 v12 w)
    (F7_s7 R v0 v11 v12 w)
noncomputable def F7_s6_c : Code := (.seq F7_p11 F7_s7_c)
theorem F7_s6_e (R : RT) (K : KF) (X : KX) (f : Fr) (w : World) (h : Bc (f 52) (F7_W R F7_s8_c K X f w) (F7_W R .skip K X f w)) : (F7_W R F7_p11 K X f w) := Eq.mp (by kernel_rfl) h
theorem F7_s6_ok (R : RT) : OkW (F7_W R) (a4 (F7_s6 R) 0 11 12 52) F7_s6_c (F7_k R) noX :=
  fun f w h => cut F7_p11 F7_s7_c (K := (a3 (F7_s7 R) 0 11 12)) (F7_s7_ok R) f w (F7_s6_e R _ _ f w (Bc_imp (x' := (F7_W R F7_s8_c (a3 (F7_s7 R) 0 11 12) noX f w)) (y' := (F7_W R .skip (a3 (F7_s7 R) 0 11 12) noX f w)) ((F7_s8_ok R) f w) ((fun f w h => skip_ok h) f w) h))
def F7_s5_t (R : RT) (K : V4) (v0 v2 v11 v12 : Value) (w : World) : Prop :=
  uv Tryz.prog R (Instr.loadAt 42 v12) w (fun v40 w =>
  un Tryz.prog R (callFunc 27 #[v0, v40]) w (fun v41 w =>
  Gk v41 true (fun k => k v11 w) w (fun v43 w =>
  Gk v41 true (fun k => uv Tryz.prog R (binS .neq 3 (.tmp 43) (.const (.int .i64 0)) v43 (.int .i64 0)) w k) w (fun v44 w =>
  Gk v41 true (fun k => k v44 w) w (fun v45 w =>
  Gk v45 false (fun k => k v0 w) w (fun v46 w =>
  Gk v45 false (fun k => k v2 w) w (fun v47 w =>
  Gk v45 false (fun k => un Tryz.prog R (callFunc 28 #[v46, v47]) w k) w (fun v48 w =>
  Gk v45 false (fun k => un Tryz.prog R (builtin .len #[27] 3 #[false] #[v48]) w k) w (fun v49 w =>
  Gk v45 false (fun k => uv Tryz.prog R (binS .eql 3 (.tmp 49) (.const (.int .i64 0)) v49 (.int .i64 0)) w k) w (fun v50 w =>
  Gk v41 true (fun k => uv Tryz.prog R (pickS v45 (.bool true) v50) w k) w (fun v51 w =>
  uv Tryz.prog R (pickS v41 v51 (.bool false)) w (fun v52 w =>
  K v0 v11 v12 v52 w))))))))))))
theorem F7_s5_st (R : RT) (K : V4) (X : KX) (f : Fr) (w : World) (h : F7_s5_t R K (f 0) (f 2) (f 11) (f 12) w) : F7_W R F7_p16 (a4 K 0 11 12 52) X f w := Eq.mp (by kernel_rfl) h
def F7_s5 (R : RT) (v0 v2 v11 v12 : Value) (w : World) : Prop :=
  F7_s5_t R (F7_s6 R) v0 v2 v11 v12 w
noncomputable def F7_s5_c : Code := (.seq F7_p16 F7_s6_c)
theorem F7_s5_ok (R : RT) : OkW (F7_W R) (a4 (F7_s5 R) 0 2 11 12) F7_s5_c (F7_k R) noX :=
  fun f w h => cut F7_p16 F7_s6_c (K := (a4 (F7_s6 R) 0 11 12 52)) (F7_s6_ok R) f w (F7_s5_st R (F7_s6 R) _ f w h)
def F7_s9_t (R : RT) (w : World) : Prop :=
  R (.returned (.int .i64 1)) w
theorem F7_s9_st (R : RT) (X : KX) (f : Fr) (w : World) (h : F7_s9_t R w) : F7_W R F7_p20 (F7_k R) X f w := Eq.mp (by kernel_rfl) h
def F7_s9 (R : RT) (w : World) : Prop :=
  F7_s9_t R w
noncomputable def F7_s9_c : Code := (.seq F7_p20 .ret)
theorem F7_s9_ok (R : RT) : OkW (F7_W R) ((fun f w => F7_s9 R w)) F7_s9_c (a4 (F7_s5 R) 0 2 11 12) noX :=
  fun f w h => cut F7_p20 .ret (K := (F7_k R)) (fun f w h => ret_ok h) f w (F7_s9_st R _ f w h)
def F7_s4 (R : RT) (v0 v2 v11 v12 v38 : Value) (w : World) : Prop :=
  Bc v38
    (F7_s9 R w)
    (F7_s5 R v0 v2 v11 v12 w)
noncomputable def F7_s4_c : Code := (.seq F7_p18 F7_s5_c)
theorem F7_s4_e (R : RT) (K : KF) (X : KX) (f : Fr) (w : World) (h : Bc (f 38) (F7_W R F7_s9_c K X f w) (F7_W R .skip K X f w)) : (F7_W R F7_p18 K X f w) := Eq.mp (by kernel_rfl) h
theorem F7_s4_ok (R : RT) : OkW (F7_W R) (a5 (F7_s4 R) 0 2 11 12 38) F7_s4_c (F7_k R) noX :=
  fun f w h => cut F7_p18 F7_s5_c (K := (a4 (F7_s5 R) 0 2 11 12)) (F7_s5_ok R) f w (F7_s4_e R _ _ f w (Bc_imp (x' := (F7_W R F7_s9_c (a4 (F7_s5 R) 0 2 11 12) noX f w)) (y' := (F7_W R .skip (a4 (F7_s5 R) 0 2 11 12) noX f w)) ((F7_s9_ok R) f w) ((fun f w h => skip_ok h) f w) h))
def F7_s3_t (R : RT) (K : V5) (v0 v1 v2 v3 : Value) (w : World) : Prop :=
  un Tryz.prog R (callFunc 25 #[v0, v1, v2]) w (fun v28 w =>
  un Tryz.prog R (callFunc 26 #[v28, v3]) w (fun v33 w =>
  uv Tryz.prog R (Instr.build 42 #[(0, v1), (1, v2), (2, v33)]) w (fun v34 w =>
  uv Tryz.prog R (Instr.alloc 42 true (.tuple #[])) w (fun v12 w =>
  uu Tryz.prog R (Instr.storeAt 42 v12 v34) w (fun w =>
  uv Tryz.prog R (Instr.fieldAt 42 v12 2) w (fun v35 w =>
  uv Tryz.prog R (Instr.loadAt 3 v35) w (fun v36 w =>
  uv Tryz.prog R (binS .eql 3 (.tmp 36) (.tmp 37) v36 v28) w (fun v38 w =>
  K v0 v2 v28 v12 v38 w))))))))
theorem F7_s3_st (R : RT) (K : V5) (X : KX) (f : Fr) (w : World) (h : F7_s3_t R K (f 0) (f 1) (f 2) (f 3) w) : F7_W R (.seq F7_p21 (.seq F7_p22 F7_p23)) (a5 K 0 2 11 12 38) X f w := Eq.mp (by kernel_rfl) h
def F7_s3 (R : RT) (v0 v1 v2 v3 : Value) (w : World) : Prop :=
  F7_s3_t R (F7_s4 R) v0 v1 v2 v3 w
noncomputable def F7_s3_c : Code := (.seq (.seq F7_p21 (.seq F7_p22 F7_p23)) F7_s4_c)
theorem F7_s3_ok (R : RT) : OkW (F7_W R) (a4 (F7_s3 R) 0 1 2 3) F7_s3_c (F7_k R) noX :=
  fun f w h => cut (.seq F7_p21 (.seq F7_p22 F7_p23)) F7_s4_c (K := (a5 (F7_s4 R) 0 2 11 12 38)) (F7_s4_ok R) f w (F7_s3_st R (F7_s4 R) _ f w h)
def F7_s10_t (R : RT) (w : World) : Prop :=
  R (.returned (.int .i64 0)) w
theorem F7_s10_st (R : RT) (X : KX) (f : Fr) (w : World) (h : F7_s10_t R w) : F7_W R F7_p27 (F7_k R) X f w := Eq.mp (by kernel_rfl) h
def F7_s10 (R : RT) (w : World) : Prop :=
  F7_s10_t R w
noncomputable def F7_s10_c : Code := (.seq F7_p27 .ret)
theorem F7_s10_ok (R : RT) : OkW (F7_W R) ((fun f w => F7_s10 R w)) F7_s10_c (a4 (F7_s3 R) 0 1 2 3) noX :=
  fun f w h => cut F7_p27 .ret (K := (F7_k R)) (fun f w h => ret_ok h) f w (F7_s10_st R _ f w h)
def F7_s2 (R : RT) (v0 v1 v2 v3 v24 : Value) (w : World) : Prop :=
  Bc v24
    (F7_s10 R w)
    (F7_s3 R v0 v1 v2 v3 w)
noncomputable def F7_s2_c : Code := (.seq F7_p25 F7_s3_c)
theorem F7_s2_e (R : RT) (K : KF) (X : KX) (f : Fr) (w : World) (h : Bc (f 24) (F7_W R F7_s10_c K X f w) (F7_W R .skip K X f w)) : (F7_W R F7_p25 K X f w) := Eq.mp (by kernel_rfl) h
theorem F7_s2_ok (R : RT) : OkW (F7_W R) (a5 (F7_s2 R) 0 1 2 3 24) F7_s2_c (F7_k R) noX :=
  fun f w h => cut F7_p25 F7_s3_c (K := (a4 (F7_s3 R) 0 1 2 3)) (F7_s3_ok R) f w (F7_s2_e R _ _ f w (Bc_imp (x' := (F7_W R F7_s10_c (a4 (F7_s3 R) 0 1 2 3) noX f w)) (y' := (F7_W R .skip (a4 (F7_s3 R) 0 1 2 3) noX f w)) ((F7_s10_ok R) f w) ((fun f w h => skip_ok h) f w) h))
def F7_s1_t (R : RT) (K : V5) (v0 v1 v2 v3 : Value) (w : World) : Prop :=
  un Tryz.prog R (callFunc 23 #[v0, v1]) w (fun v16 w =>
  uv Tryz.prog R (Instr.extract v16 0) w (fun v17 w =>
  uv Tryz.prog R (Instr.extract v16 1) w (fun v18 w =>
  uv Tryz.prog R (Instr.alloc 42 true (.tuple #[])) w (fun v9 w =>
  uu Tryz.prog R (Instr.storeAt 42 v9 v17) w (fun w =>
  un Tryz.prog R (callFunc 24 #[v3]) w (fun v20 w =>
  uv Tryz.prog R (Op.unary .not v20) w (fun v21 w =>
  Gk v21 false (fun k => k v18 w) w (fun v23 w =>
  uv Tryz.prog R (pickS v21 (.bool true) v23) w (fun v24 w =>
  K v0 v1 v2 v3 v24 w)))))))))
theorem F7_s1_st (R : RT) (K : V5) (X : KX) (f : Fr) (w : World) (h : F7_s1_t R K (f 0) (f 1) (f 2) (f 3) w) : F7_W R (.seq F7_p28 (.seq F7_p29 F7_p30)) (a5 K 0 1 2 3 24) X f w := Eq.mp (by kernel_rfl) h
def F7_s1 (R : RT) (v0 v1 v2 v3 : Value) (w : World) : Prop :=
  F7_s1_t R (F7_s2 R) v0 v1 v2 v3 w
noncomputable def F7_s1_c : Code := (.seq (.seq F7_p28 (.seq F7_p29 F7_p30)) F7_s2_c)
theorem F7_s1_ok (R : RT) : OkW (F7_W R) (a4 (F7_s1 R) 0 1 2 3) F7_s1_c (F7_k R) noX :=
  fun f w h => cut (.seq F7_p28 (.seq F7_p29 F7_p30)) F7_s2_c (K := (a5 (F7_s2 R) 0 1 2 3 24)) (F7_s2_ok R) f w (F7_s1_st R (F7_s2 R) _ f w h)
theorem F7_all_e (R : RT) (K : KF) (X : KX) (f : Fr) (w : World) (h : F7_W R F7_s1_c K X f w) : F7_W R F7_b K X f w := Eq.mp (by kernel_rfl) h
theorem F7_calls (R : RT) (v0 v1 v2 v3 : Value) (w : World) (h : F7_s1 R v0 v1 v2 v3 w) : Calls Tryz.prog 7 #[v0, v1, v2, v3] w R :=
  calls_of_wpE (dc := F7_dc) (args := [v0, v1, v2, v3]) hmixed Tryz.func7 (c := F7_b) rfl (rs := [.tmp 8]) rfl (by kernel_rfl) (Nat.le_of_ble_eq_true (by kernel_rfl)) (F7_all_e R _ _ _ w ((F7_s1_ok R) (initFr [v0, v1, v2, v3]) w h))

/-! ### (*hasp/haspref10.Table).Wish -/
noncomputable def F23_b : Code := bodyOf Tryz.f23
def F23_dc : Nat → List (Nat × Bool)
  | _ => []
abbrev F23_k (R : RT) := resK Tryz.prog [.cell 4 42, .tmp 5] R
abbrev F23_W (R : RT) := wpE Tryz.prog F23_dc (F23_k R) (panK R)
noncomputable def F23_p0 := cR F23_b
noncomputable def F23_p1 := cR F23_p0
noncomputable def F23_p2 := cL F23_p1
noncomputable def F23_p3 := cL F23_p0
noncomputable def F23_p4 := cR F23_p3
noncomputable def F23_p5 := cI F23_p4
noncomputable def F23_p6 := cI F23_p5
noncomputable def F23_p7 := cR F23_p6
noncomputable def F23_p8 := cR F23_p7
noncomputable def F23_p9 := cL F23_p7
noncomputable def F23_p10 := cI F23_p9
noncomputable def F23_p11 := cR F23_p10
noncomputable def F23_p12 := cT F23_p11
noncomputable def F23_p13 := cL F23_p12
noncomputable def F23_p14 := cL F23_p10
noncomputable def F23_p15 := cL F23_p6
noncomputable def F23_p16 := cR F23_p15
noncomputable def F23_p17 := cL F23_p15
noncomputable def F23_p18 := cL F23_b
noncomputable def F23_p19 := cL F23_p3
def F23_s3_t (R : RT) (v4 : Value) (w : World) : Prop :=
  uv Tryz.prog R (Instr.build 42 #[]) w (fun v35 w =>
  uu Tryz.prog R (Instr.storeAt 42 v4 v35) w (fun w =>
  Rc Tryz.prog 42 v4 w (fun r0 => R (.returned (.tuple #[r0, (.bool false)])) w)))
theorem F23_s3_st (R : RT) (X : KX) (f : Fr) (w : World) (h : F23_s3_t R (f 4) w) : F23_W R F23_p2 (F23_k R) X f w := Eq.mp (by kernel_rfl) h
def F23_s3 (R : RT) (v4 : Value) (w : World) : Prop :=
  F23_s3_t R v4 w
noncomputable def F23_s3_c : Code := (.seq F23_p2 .ret)
theorem F23_s3_ok (R : RT) : OkW (F23_W R) (a1 (F23_s3 R) 4) F23_s3_c (F23_k R) noX :=
  fun f w h => cut F23_p2 .ret (K := (F23_k R)) (fun f w h => ret_ok h) f w (F23_s3_st R _ f w h)
def F23_s8_t (R : RT) (K : V1) (v0 v1 v4 v6 : Value) (w : World) : Prop :=
  uv Tryz.prog R (binS .add 3 (.tmp 14) (.const (.int .i64 1)) v6 (.int .i64 1)) w (fun v15 w =>
  K v15 w)
theorem F23_s8_st (R : RT) (K : V1) (X : KX) (f : Fr) (w : World) (h : F23_s8_t R K (f 0) (f 1) (f 4) (f 6) w) : F23_W R F23_p8 (a1 K 6) X f w := Eq.mp (by kernel_rfl) h
def F23_s8 (R : RT) (rec4 : V1) (v0 v1 v4 v6 : Value) (w : World) : Prop :=
  F23_s8_t R rec4 v0 v1 v4 v6 w
noncomputable def F23_s8_c : Code := (.seq F23_p8 .skip)
theorem F23_s8_ok (R : RT) (rec4 : V1) : OkW (F23_W R) (a4 (F23_s8 R rec4) 0 1 4 6) F23_s8_c (a1 rec4 6) (kxB 0 (a1 (F23_s3 R) 4) noX) :=
  fun f w h => cut F23_p8 .skip (K := (a1 rec4 6)) (fun f w h => skip_ok h) f w (F23_s8_st R rec4 _ f w h)
def F23_s11_t (R : RT) (v0 v4 v6 : Value) (w : World) : Prop :=
  un Tryz.prog R (nilS v0) w (fun v28 w =>
  uv Tryz.prog R (Instr.fieldAt 30 v28 1) w (fun v29 w =>
  uv Tryz.prog R (Instr.loadAt 28 v29) w (fun v30 w =>
  uv Tryz.prog R (Instr.indexAt 28 v30 v6) w (fun v32 w =>
  uv Tryz.prog R (Instr.fieldAt 70 v32 0) w (fun v33 w =>
  uv Tryz.prog R (Instr.loadAt 42 v33) w (fun v34 w =>
  uu Tryz.prog R (Instr.storeAt 42 v4 v34) w (fun w =>
  Rc Tryz.prog 42 v4 w (fun r0 => R (.returned (.tuple #[r0, (.bool true)])) w))))))))
theorem F23_s11_st (R : RT) (X : KX) (f : Fr) (w : World) (h : F23_s11_t R (f 0) (f 4) (f 6) w) : F23_W R F23_p13 (F23_k R) X f w := Eq.mp (by kernel_rfl) h
def F23_s11 (R : RT) (rec4 : V1) (v0 v4 v6 : Value) (w : World) : Prop :=
  F23_s11_t R v0 v4 v6 w
noncomputable def F23_s11_c : Code := (.seq F23_p13 .ret)
theorem F23_s11_ok (R : RT) (rec4 : V1) : OkW (F23_W R) (a3 (F23_s11 R rec4) 0 4 6) F23_s11_c (a4 (F23_s8 R rec4) 0 1 4 6) (kxB 1 (a4 (F23_s8 R rec4) 0 1 4 6) (kxB 0 (a1 (F23_s3 R) 4) noX)) :=
  fun f w h => cut F23_p13 .ret (K := (F23_k R)) (fun f w h => ret_ok h) f w (F23_s11_st R _ f w h)
def F23_s10 (R : RT) (rec4 : V1) (v0 v1 v4 v6 v26 : Value) (w : World) : Prop :=
  Bc v26
    (F23_s11 R rec4 v0 v4 v6 w)
    (F23_s8 R rec4 v0 v1 v4 v6 w)
noncomputable def F23_s10_c : Code := (.seq F23_p11 .skip)
theorem F23_s10_e (R : RT) (K : KF) (X : KX) (f : Fr) (w : World) (h : Bc (f 26) (F23_W R F23_s11_c K X f w) (F23_W R .skip K X f w)) : (F23_W R F23_p11 K X f w) := Eq.mp (by kernel_rfl) h
theorem F23_s10_ok (R : RT) (rec4 : V1) : OkW (F23_W R) (a5 (F23_s10 R rec4) 0 1 4 6 26) F23_s10_c (a4 (F23_s8 R rec4) 0 1 4 6) (kxB 1 (a4 (F23_s8 R rec4) 0 1 4 6) (kxB 0 (a1 (F23_s3 R) 4) noX)) :=
  fun f w h => cut F23_p11 .skip (K := (a4 (F23_s8 R rec4) 0 1 4 6)) (fun f w h => skip_ok h) f w (F23_s10_e R _ _ f w (Bc_imp (x' := (F23_W R F23_s11_c (a4 (F23_s8 R rec4) 0 1 4 6) (kxB 1 (a4 (F23_s8 R rec4) 0 1 4 6) (kxB 0 (a1 (F23_s3 R) 4) noX)) f w)) (y' := (F23_W R .skip (a4 (F23_s8 R rec4) 0 1 4 6) (kxB 1 (a4 (F23_s8 R rec4) 0 1 4 6) (kxB 0 (a1 (F23_s3 R) 4) noX)) f w)) ((F23_s11_ok R rec4) f w) ((fun f w h => skip_ok h) f w) h))
def F23_s9_t (R : RT) (K : V5) (v0 v1 v4 v6 : Value) (w : World) : Prop :=
  un Tryz.prog R (nilS v0) w (fun v17 w =>
  uv Tryz.prog R (Instr.fieldAt 30 v17 1) w (fun v18 w =>
  uv Tryz.prog R (Instr.loadAt 28 v18) w (fun v19 w =>
  uv Tryz.prog R (Instr.indexAt 28 v19 v6) w (fun v21 w =>
  uv Tryz.prog R (Instr.fieldAt 70 v21 0) w (fun v22 w =>
  uv Tryz.prog R (Instr.fieldAt 42 v22 0) w (fun v23 w =>
  uv Tryz.prog R (Instr.loadAt 3 v23) w (fun v24 w =>
  uv Tryz.prog R (binS .eql 3 (.tmp 24) (.tmp 25) v24 v1) w (fun v26 w =>
  K v0 v1 v4 v6 v26 w))))))))
theorem F23_s9_st (R : RT) (K : V5) (X : KX) (f : Fr) (w : World) (h : F23_s9_t R K (f 0) (f 1) (f 4) (f 6) w) : F23_W R F23_p14 (a5 K 0 1 4 6 26) X f w := Eq.mp (by kernel_rfl) h
def F23_s9 (R : RT) (rec4 : V1) (v0 v1 v4 v6 : Value) (w : World) : Prop :=
  F23_s9_t R (F23_s10 R rec4) v0 v1 v4 v6 w
noncomputable def F23_s9_c : Code := (.seq F23_p14 F23_s10_c)
theorem F23_s9_ok (R : RT) (rec4 : V1) : OkW (F23_W R) (a4 (F23_s9 R rec4) 0 1 4 6) F23_s9_c (a4 (F23_s8 R rec4) 0 1 4 6) (kxB 1 (a4 (F23_s8 R rec4) 0 1 4 6) (kxB 0 (a1 (F23_s3 R) 4) noX)) :=
  fun f w h => cut F23_p14 F23_s10_c (K := (a5 (F23_s10 R rec4) 0 1 4 6 26)) (F23_s10_ok R rec4) f w (F23_s9_st R (F23_s10 R rec4) _ f w h)
noncomputable def F23_s7_c : Code := (.seq F23_p9 F23_s8_c)
theorem F23_s7_e (R : RT) (K : KF) (X : KX) (f : Fr) (w : World) (h : F23_W R F23_s9_c K (kxB 1 K X) f w) : F23_W R F23_p9 K X f w := Eq.mp (by kernel_rfl) h
theorem F23_s7_ok (R : RT) (rec4 : V1) : OkW (F23_W R) (a4 (F23_s9 R rec4) 0 1 4 6) F23_s7_c (a1 rec4 6) (kxB 0 (a1 (F23_s3 R) 4) noX) :=
  fun f w h => cut F23_p9 F23_s8_c (K := (a4 (F23_s8 R rec4) 0 1 4 6)) (F23_s8_ok R rec4) f w (F23_s7_e R _ _ f w ((F23_s9_ok R rec4) f w h))
def F23_s6 (R : RT) (rec4 : V1) (v0 v1 v4 v6 v13 : Value) (w : World) : Prop :=
  Bc v13
    (F23_s9 R rec4 v0 v1 v4 v6 w)
    (F23_s3 R v4 w)
noncomputable def F23_s6_c : Code := (.seq F23_p16 F23_s7_c)
theorem F23_s6_e (R : RT) (K : KF) (X : KX) (f : Fr) (w : World) (h : Bc (f 13) (F23_W R .skip K X f w) (F23_W R (.exit 0) K X f w)) : (F23_W R F23_p16 K X f w) := Eq.mp (by kernel_rfl) h
theorem F23_s6_ok (R : RT) (rec4 : V1) : OkW (F23_W R) (a5 (F23_s6 R rec4) 0 1 4 6 13) F23_s6_c (a1 rec4 6) (kxB 0 (a1 (F23_s3 R) 4) noX) :=
  fun f w h => cut F23_p16 F23_s7_c (K := (a4 (F23_s9 R rec4) 0 1 4 6)) (F23_s7_ok R rec4) f w (F23_s6_e R _ _ f w (Bc_imp (x' := (F23_W R .skip (a4 (F23_s9 R rec4) 0 1 4 6) (kxB 0 (a1 (F23_s3 R) 4) noX) f w)) (y' := (F23_W R (.exit 0) (a4 (F23_s9 R rec4) 0 1 4 6) (kxB 0 (a1 (F23_s3 R) 4) noX) f w)) ((fun f w h => skip_ok h) f w) ((fun f w h => exit_hit h) f w) h))
def F23_s5_t (R : RT) (K : V5) (v0 v1 v4 v6 : Value) (w : World) : Prop :=
  un Tryz.prog R (nilS v0) w (fun v9 w =>
  uv Tryz.prog R (Instr.fieldAt 30 v9 1) w (fun v10 w =>
  uv Tryz.prog R (Instr.loadAt 28 v10) w (fun v11 w =>
  un Tryz.prog R (builtin .len #[28] 3 #[false] #[v11]) w (fun v12 w =>
  uv Tryz.prog R (binS .lss 3 (.tmp 7) (.tmp 12) v6 v12) w (fun v13 w =>
  K v0 v1 v4 v6 v13 w)))))
theorem F23_s5_st (R : RT) (K : V5) (X : KX) (f : Fr) (w : World) (h : F23_s5_t R K (f 0) (f 1) (f 4) (f 6) w) : F23_W R F23_p17 (a5 K 0 1 4 6 13) X f w := Eq.mp (by kernel_rfl) h
def F23_s5 (R : RT) (rec4 : V1) (v0 v1 v4 v6 : Value) (w : World) : Prop :=
  F23_s5_t R (F23_s6 R rec4) v0 v1 v4 v6 w
noncomputable def F23_s5_c : Code := (.seq F23_p17 F23_s6_c)
theorem F23_s5_ok (R : RT) (rec4 : V1) : OkW (F23_W R) (a4 (F23_s5 R rec4) 0 1 4 6) F23_s5_c (a1 rec4 6) (kxB 0 (a1 (F23_s3 R) 4) noX) :=
  fun f w h => cut F23_p17 F23_s6_c (K := (a5 (F23_s6 R rec4) 0 1 4 6 13)) (F23_s6_ok R rec4) f w (F23_s5_st R (F23_s6 R rec4) _ f w h)
def F23_s4 (R : RT) (v0 v1 v4 v6 : Value) (w : World) : Prop :=
  Lp1 (fun rec4 v6 w => F23_s5 R rec4 v0 v1 v4 v6 w) v6 w
theorem F23_s4_e (R : RT) (K : KF) (X : KX) (f : Fr) (w : World) (h : F23_W R (.loop F23_p6) K X f w) : F23_W R F23_p5 K X f w := Eq.mp (by kernel_rfl) h
theorem F23_s4b_e (R : RT) (K : KF) (X : KX) (f : Fr) (w : World) (h : F23_W R F23_s5_c K X f w) : F23_W R F23_p6 K X f w := Eq.mp (by kernel_rfl) h
theorem F23_s4_ok (R : RT) : OkW (F23_W R) (a4 (F23_s4 R) 0 1 4 6) F23_p5 (a1 (F23_s3 R) 4) (kxB 0 (a1 (F23_s3 R) 4) noX) :=
  fun f w h => F23_s4_e R _ _ f w (loop1_ok (P := Tryz.prog) (dc := F23_dc) (kr := (F23_k R)) (pan := panK R) F23_p6 (kn := (a1 (F23_s3 R) 4)) (kx := (kxB 0 (a1 (F23_s3 R) 4) noX)) (s0 := 6) (fun rec4 v6 w => F23_s5 R rec4 (f 0) (f 1) (f 4) v6 w) f (fun rec4 f' w' hf h' => F23_s4b_e R _ _ f' w' ((F23_s5_ok R rec4) f' w' (by simp only [a4, hf 0 (by kernel_rfl), hf 1 (by kernel_rfl), hf 4 (by kernel_rfl)]; exact h'))) w h)
noncomputable def F23_s2_c : Code := (.seq F23_p4 F23_s3_c)
theorem F23_s2_e (R : RT) (K : KF) (X : KX) (f : Fr) (w : World) (h : F23_W R F23_p5 K (kxB 0 K X) f w) : F23_W R F23_p4 K X f w := Eq.mp (by kernel_rfl) h
theorem F23_s2_ok (R : RT) : OkW (F23_W R) (a4 (F23_s4 R) 0 1 4 6) F23_s2_c (F23_k R) noX :=
  fun f w h => cut F23_p4 F23_s3_c (K := (a1 (F23_s3 R) 4)) (F23_s3_ok R) f w (F23_s2_e R _ _ f w ((F23_s4_ok R) f w h))
def F23_s1_t (R : RT) (K : V4) (v0 v1 : Value) (w : World) : Prop :=
  uv Tryz.prog R (Instr.alloc 42 true (.tuple #[])) w (fun v4 w =>
  K v0 v1 v4 (.int .i64 0) w)
theorem F23_s1_st (R : RT) (K : V4) (X : KX) (f : Fr) (w : World) (h : F23_s1_t R K (f 0) (f 1) w) : F23_W R (.seq F23_p18 F23_p19) (a4 K 0 1 4 6) X f w := Eq.mp (by kernel_rfl) h
def F23_s1 (R : RT) (v0 v1 : Value) (w : World) : Prop :=
  F23_s1_t R (F23_s4 R) v0 v1 w
noncomputable def F23_s1_c : Code := (.seq (.seq F23_p18 F23_p19) F23_s2_c)
theorem F23_s1_ok (R : RT) : OkW (F23_W R) (a2 (F23_s1 R) 0 1) F23_s1_c (F23_k R) noX :=
  fun f w h => cut (.seq F23_p18 F23_p19) F23_s2_c (K := (a4 (F23_s4 R) 0 1 4 6)) (F23_s2_ok R) f w (F23_s1_st R (F23_s4 R) _ f w h)
theorem F23_all_e (R : RT) (K : KF) (X : KX) (f : Fr) (w : World) (h : F23_W R F23_s1_c K X f w) : F23_W R F23_b K X f w := Eq.mp (by kernel_rfl) h
theorem F23_calls (R : RT) (v0 v1 : Value) (w : World) (h : F23_s1 R v0 v1 w) : Calls Tryz.prog 23 #[v0, v1] w R :=
  calls_of_wpE (dc := F23_dc) (args := [v0, v1]) hmixed Tryz.func23 (c := F23_b) rfl (rs := [.cell 4 42, .tmp 5]) rfl (by kernel_rfl) (Nat.le_of_ble_eq_true (by kernel_rfl)) (F23_all_e R _ _ _ w ((F23_s1_ok R) (initFr [v0, v1]) w h))

/-! ### (*hasp/haspref10.Table).Mode -/
noncomputable def F25_b : Code := bodyOf Tryz.f25
def F25_dc : Nat → List (Nat × Bool)
  | _ => []
abbrev F25_k (R : RT) := resK Tryz.prog [.tmp 6] R
abbrev F25_W (R : RT) := wpE Tryz.prog F25_dc (F25_k R) (panK R)
noncomputable def F25_p0 := cR F25_b
noncomputable def F25_p1 := cR F25_p0
noncomputable def F25_p2 := cL F25_p1
noncomputable def F25_p3 := cL F25_p0
noncomputable def F25_p4 := cR F25_p3
noncomputable def F25_p5 := cI F25_p4
noncomputable def F25_p6 := cI F25_p5
noncomputable def F25_p7 := cR F25_p6
noncomputable def F25_p8 := cR F25_p7
noncomputable def F25_p9 := cL F25_p7
noncomputable def F25_p10 := cI F25_p9
noncomputable def F25_p11 := cR F25_p10
noncomputable def F25_p12 := cT F25_p11
noncomputable def F25_p13 := cL F25_p12
noncomputable def F25_p14 := cL F25_p10
noncomputable def F25_p15 := cL F25_p6
noncomputable def F25_p16 := cR F25_p15
noncomputable def F25_p17 := cL F25_p15
noncomputable def F25_p18 := cL F25_b
noncomputable def F25_p19 := cL F25_p3
def F25_s3_t (R : RT) (w : World) : Prop :=
  R (.returned (.int .i64 0)) w
theorem F25_s3_st (R : RT) (X : KX) (f : Fr) (w : World) (h : F25_s3_t R w) : F25_W R F25_p2 (F25_k R) X f w := Eq.mp (by kernel_rfl) h
def F25_s3 (R : RT) (w : World) : Prop :=
  F25_s3_t R w
noncomputable def F25_s3_c : Code := (.seq F25_p2 .ret)
theorem F25_s3_ok (R : RT) : OkW (F25_W R) ((fun f w => F25_s3 R w)) F25_s3_c (F25_k R) noX :=
  fun f w h => cut F25_p2 .ret (K := (F25_k R)) (fun f w h => ret_ok h) f w (F25_s3_st R _ f w h)
def F25_s8_t (R : RT) (K : V1) (v0 v1 v2 v7 : Value) (w : World) : Prop :=
  uv Tryz.prog R (binS .add 3 (.tmp 15) (.const (.int .i64 1)) v7 (.int .i64 1)) w (fun v16 w =>
  K v16 w)
theorem F25_s8_st (R : RT) (K : V1) (X : KX) (f : Fr) (w : World) (h : F25_s8_t R K (f 0) (f 1) (f 2) (f 7) w) : F25_W R F25_p8 (a1 K 7) X f w := Eq.mp (by kernel_rfl) h
def F25_s8 (R : RT) (rec4 : V1) (v0 v1 v2 v7 : Value) (w : World) : Prop :=
  F25_s8_t R rec4 v0 v1 v2 v7 w
noncomputable def F25_s8_c : Code := (.seq F25_p8 .skip)
theorem F25_s8_ok (R : RT) (rec4 : V1) : OkW (F25_W R) (a4 (F25_s8 R rec4) 0 1 2 7) F25_s8_c (a1 rec4 7) (kxB 0 ((fun f w => F25_s3 R w)) noX) :=
  fun f w h => cut F25_p8 .skip (K := (a1 rec4 7)) (fun f w h => skip_ok h) f w (F25_s8_st R rec4 _ f w h)
def F25_s11_t (R : RT) (v0 v7 : Value) (w : World) : Prop :=
  un Tryz.prog R (nilS v0) w (fun v40 w =>
  uv Tryz.prog R (Instr.fieldAt 30 v40 0) w (fun v41 w =>
  uv Tryz.prog R (Instr.loadAt 27 v41) w (fun v42 w =>
  uv Tryz.prog R (Instr.indexAt 27 v42 v7) w (fun v44 w =>
  uv Tryz.prog R (Instr.fieldAt 42 v44 2) w (fun v45 w =>
  uv Tryz.prog R (Instr.loadAt 3 v45) w (fun v46 w =>
  R (.returned v46) w))))))
theorem F25_s11_st (R : RT) (X : KX) (f : Fr) (w : World) (h : F25_s11_t R (f 0) (f 7) w) : F25_W R F25_p13 (F25_k R) X f w := Eq.mp (by kernel_rfl) h
def F25_s11 (R : RT) (rec4 : V1) (v0 v7 : Value) (w : World) : Prop :=
  F25_s11_t R v0 v7 w
noncomputable def F25_s11_c : Code := (.seq F25_p13 .ret)
theorem F25_s11_ok (R : RT) (rec4 : V1) : OkW (F25_W R) (a2 (F25_s11 R rec4) 0 7) F25_s11_c (a4 (F25_s8 R rec4) 0 1 2 7) (kxB 1 (a4 (F25_s8 R rec4) 0 1 2 7) (kxB 0 ((fun f w => F25_s3 R w)) noX)) :=
  fun f w h => cut F25_p13 .ret (K := (F25_k R)) (fun f w h => ret_ok h) f w (F25_s11_st R _ f w h)
def F25_s10 (R : RT) (rec4 : V1) (v0 v1 v2 v7 v38 : Value) (w : World) : Prop :=
  Bc v38
    (F25_s11 R rec4 v0 v7 w)
    (F25_s8 R rec4 v0 v1 v2 v7 w)
noncomputable def F25_s10_c : Code := (.seq F25_p11 .skip)
theorem F25_s10_e (R : RT) (K : KF) (X : KX) (f : Fr) (w : World) (h : Bc (f 38) (F25_W R F25_s11_c K X f w) (F25_W R .skip K X f w)) : (F25_W R F25_p11 K X f w) := Eq.mp (by kernel_rfl) h
theorem F25_s10_ok (R : RT) (rec4 : V1) : OkW (F25_W R) (a5 (F25_s10 R rec4) 0 1 2 7 38) F25_s10_c (a4 (F25_s8 R rec4) 0 1 2 7) (kxB 1 (a4 (F25_s8 R rec4) 0 1 2 7) (kxB 0 ((fun f w => F25_s3 R w)) noX)) :=
  fun f w h => cut F25_p11 .skip (K := (a4 (F25_s8 R rec4) 0 1 2 7)) (fun f w h => skip_ok h) f w (F25_s10_e R _ _ f w (Bc_imp (x' := (F25_W R F25_s11_c (a4 (F25_s8 R rec4) 0 1 2 7) (kxB 1 (a4 (F25_s8 R rec4) 0 1 2 7) (kxB 0 ((fun f w => F25_s3 R w)) noX)) f w)) (y' := (F25_W R .skip (a4 (F25_s8 R rec4) 0 1 2 7) (kxB 1 (a4 (F25_s8 R rec4) 0 1 2 7) (kxB 0 ((fun f w => F25_s3 R w)) noX)) f w)) ((F25_s11_ok R rec4) f w) ((fun f w h => skip_ok h) f w) h))
def F25_s9_t (R : RT) (K : V5) (v0 v1 v2 v7 : Value) (w : World) : Prop :=
  un Tryz.prog R (nilS v0) w (fun v18 w =>
  uv Tryz.prog R (Instr.fieldAt 30 v18 0) w (fun v19 w =>
  uv Tryz.prog R (Instr.loadAt 27 v19) w (fun v20 w =>
  uv Tryz.prog R (Instr.indexAt 27 v20 v7) w (fun v22 w =>
  uv Tryz.prog R (Instr.fieldAt 42 v22 0) w (fun v23 w =>
  uv Tryz.prog R (Instr.loadAt 3 v23) w (fun v24 w =>
  uv Tryz.prog R (binS .eql 3 (.tmp 24) (.tmp 25) v24 v1) w (fun v26 w =>
  Gk v26 true (fun k => k v0 w) w (fun v28 w =>
  Gk v26 true (fun k => un Tryz.prog R (nilS v28) w k) w (fun v29 w =>
  Gk v26 true (fun k => uv Tryz.prog R (Instr.fieldAt 30 v29 0) w k) w (fun v30 w =>
  Gk v26 true (fun k => uv Tryz.prog R (Instr.loadAt 27 v30) w k) w (fun v31 w =>
  Gk v26 true (fun k => k v7 w) w (fun v32 w =>
  Gk v26 true (fun k => uv Tryz.prog R (Instr.indexAt 27 v31 v32) w k) w (fun v33 w =>
  Gk v26 true (fun k => uv Tryz.prog R (Instr.fieldAt 42 v33 1) w k) w (fun v34 w =>
  Gk v26 true (fun k => uv Tryz.prog R (Instr.loadAt 9 v34) w k) w (fun v35 w =>
  Gk v26 true (fun k => k v2 w) w (fun v36 w =>
  Gk v26 true (fun k => uv Tryz.prog R (binS .eql 9 (.tmp 35) (.tmp 36) v35 v36) w k) w (fun v37 w =>
  uv Tryz.prog R (pickS v26 v37 (.bool false)) w (fun v38 w =>
  K v0 v1 v2 v7 v38 w))))))))))))))))))
theorem F25_s9_st (R : RT) (K : V5) (X : KX) (f : Fr) (w : World) (h : F25_s9_t R K (f 0) (f 1) (f 2) (f 7) w) : F25_W R F25_p14 (a5 K 0 1 2 7 38) X f w := Eq.mp (by kernel_rfl) h
def F25_s9 (R : RT) (rec4 : V1) (v0 v1 v2 v7 : Value) (w : World) : Prop :=
  F25_s9_t R (F25_s10 R rec4) v0 v1 v2 v7 w
noncomputable def F25_s9_c : Code := (.seq F25_p14 F25_s10_c)
theorem F25_s9_ok (R : RT) (rec4 : V1) : OkW (F25_W R) (a4 (F25_s9 R rec4) 0 1 2 7) F25_s9_c (a4 (F25_s8 R rec4) 0 1 2 7) (kxB 1 (a4 (F25_s8 R rec4) 0 1 2 7) (kxB 0 ((fun f w => F25_s3 R w)) noX)) :=
  fun f w h => cut F25_p14 F25_s10_c (K := (a5 (F25_s10 R rec4) 0 1 2 7 38)) (F25_s10_ok R rec4) f w (F25_s9_st R (F25_s10 R rec4) _ f w h)
noncomputable def F25_s7_c : Code := (.seq F25_p9 F25_s8_c)
theorem F25_s7_e (R : RT) (K : KF) (X : KX) (f : Fr) (w : World) (h : F25_W R F25_s9_c K (kxB 1 K X) f w) : F25_W R F25_p9 K X f w := Eq.mp (by kernel_rfl) h
theorem F25_s7_ok (R : RT) (rec4 : V1) : OkW (F25_W R) (a4 (F25_s9 R rec4) 0 1 2 7) F25_s7_c (a1 rec4 7) (kxB 0 ((fun f w => F25_s3 R w)) noX) :=
  fun f w h => cut F25_p9 F25_s8_c (K := (a4 (F25_s8 R rec4) 0 1 2 7)) (F25_s8_ok R rec4) f w (F25_s7_e R _ _ f w ((F25_s9_ok R rec4) f w h))
def F25_s6 (R : RT) (rec4 : V1) (v0 v1 v2 v7 v14 : Value) (w : World) : Prop :=
  Bc v14
    (F25_s9 R rec4 v0 v1 v2 v7 w)
    (F25_s3 R w)
noncomputable def F25_s6_c : Code := (.seq F25_p16 F25_s7_c)
theorem F25_s6_e (R : RT) (K : KF) (X : KX) (f : Fr) (w : World) (h : Bc (f 14) (F25_W R .skip K X f w) (F25_W R (.exit 0) K X f w)) : (F25_W R F25_p16 K X f w) := Eq.mp (by kernel_rfl) h
theorem F25_s6_ok (R : RT) (rec4 : V1) : OkW (F25_W R) (a5 (F25_s6 R rec4) 0 1 2 7 14) F25_s6_c (a1 rec4 7) (kxB 0 ((fun f w => F25_s3 R w)) noX) :=
  fun f w h => cut F25_p16 F25_s7_c (K := (a4 (F25_s9 R rec4) 0 1 2 7)) (F25_s7_ok R rec4) f w (F25_s6_e R _ _ f w (Bc_imp (x' := (F25_W R .skip (a4 (F25_s9 R rec4) 0 1 2 7) (kxB 0 ((fun f w => F25_s3 R w)) noX) f w)) (y' := (F25_W R (.exit 0) (a4 (F25_s9 R rec4) 0 1 2 7) (kxB 0 ((fun f w => F25_s3 R w)) noX) f w)) ((fun f w h => skip_ok h) f w) ((fun f w h => exit_hit h) f w) h))
def F25_s5_t (R : RT) (K : V5) (v0 v1 v2 v7 : Value) (w : World) : Prop :=
  un Tryz.prog R (nilS v0) w (fun v10 w =>
  uv Tryz.prog R (Instr.fieldAt 30 v10 0) w (fun v11 w =>
  uv Tryz.prog R (Instr.loadAt 27 v11) w (fun v12 w =>
  un Tryz.prog R (builtin .len #[27] 3 #[false] #[v12]) w (fun v13 w =>
  uv Tryz.prog R (binS .lss 3 (.tmp 8) (.tmp 13) v7 v13) w (fun v14 w =>
  K v0 v1 v2 v7 v14 w)))))
theorem F25_s5_st (R : RT) (K : V5) (X : KX) (f : Fr) (w : World) (h : F25_s5_t R K (f 0) (f 1) (f 2) (f 7) w) : F25_W R F25_p17 (a5 K 0 1 2 7 14) X f w := Eq.mp (by kernel_rfl) h
def F25_s5 (R : RT) (rec4 : V1) (v0 v1 v2 v7 : Value) (w : World) : Prop :=
  F25_s5_t R (F25_s6 R rec4) v0 v1 v2 v7 w
noncomputable def F25_s5_c : Code := (.seq F25_p17 F25_s6_c)
theorem F25_s5_ok (R : RT) (rec4 : V1) : OkW (F25_W R) (a4 (F25_s5 R rec4) 0 1 2 7) F25_s5_c (a1 rec4 7) (kxB 0 ((fun f w => F25_s3 R w)) noX) :=
  fun f w h => cut F25_p17 F25_s6_c (K := (a5 (F25_s6 R rec4) 0 1 2 7 14)) (F25_s6_ok R rec4) f w (F25_s5_st R (F25_s6 R rec4) _ f w h)
def F25_s4 (R : RT) (v0 v1 v2 v7 : Value) (w : World) : Prop :=
  Lp1 (fun rec4 v7 w => F25_s5 R rec4 v0 v1 v2 v7 w) v7 w
theorem F25_s4_e (R : RT) (K : KF) (X : KX) (f : Fr) (w : World) (h : F25_W R (.loop F25_p6) K X f w) : F25_W R F25_p5 K X f w := Eq.mp (by kernel_rfl) h
theorem F25_s4b_e (R : RT) (K : KF) (X : KX) (f : Fr) (w : World) (h : F25_W R F25_s5_c K X f w) : F25_W R F25_p6 K X f w := Eq.mp (by kernel_rfl) h
theorem F25_s4_ok (R : RT) : OkW (F25_W R) (a4 (F25_s4 R) 0 1 2 7) F25_p5 (fun f w => F25_s3 R w) (kxB 0 ((fun f w => F25_s3 R w)) noX) :=
  fun f w h => F25_s4_e R _ _ f w (loop1_ok (P := Tryz.prog) (dc := F25_dc) (kr := (F25_k R)) (pan := panK R) F25_p6 (kn := (fun f w => F25_s3 R w)) (kx := (kxB 0 ((fun f w => F25_s3 R w)) noX)) (s0 := 7) (fun rec4 v7 w => F25_s5 R rec4 (f 0) (f 1) (f 2) v7 w) f (fun rec4 f' w' hf h' => F25_s4b_e R _ _ f' w' ((F25_s5_ok R rec4) f' w' (by simp only [a4, hf 0 (by kernel_rfl), hf 1 (by kernel_rfl), hf 2 (by kernel_rfl)]; exact h'))) w h)
noncomputable def F25_s2_c : Code := (.seq F25_p4 F25_s3_c)
theorem F25_s2_e (R : RT) (K : KF) (X : KX) (f : Fr) (w : World) (h : F25_W R F25_p5 K (kxB 0 K X) f w) : F25_W R F25_p4 K X f w := Eq.mp (by kernel_rfl) h
theorem F25_s2_ok (R : RT) : OkW (F25_W R) (a4 (F25_s4 R) 0 1 2 7) F25_s2_c (F25_k R) noX :=
  fun f w h => cut F25_p4 F25_s3_c (K := (fun f w => F25_s3 R w)) (F25_s3_ok R) f w (F25_s2_e R _ _ f w ((F25_s4_ok R) f w h))
def F25_s1_t (R : RT) (K : V4) (v0 v1 v2 : Value) (w : World) : Prop :=
  K v0 v1 v2 (.int .i64 0) w
theorem F25_s1_st (R : RT) (K : V4) (X : KX) (f : Fr) (w : World) (h : F25_s1_t R K (f 0) (f 1) (f 2) w) : F25_W R (.seq F25_p18 F25_p19) (a4 K 0 1 2 7) X f w := Eq.mp (by kernel_rfl) h
def F25_s1 (R : RT) (v0 v1 v2 : Value) (w : World) : Prop :=
  F25_s1_t R (F25_s4 R) v0 v1 v2 w
noncomputable def F25_s1_c : Code := (.seq (.seq F25_p18 F25_p19) F25_s2_c)
theorem F25_s1_ok (R : RT) : OkW (F25_W R) (a3 (F25_s1 R) 0 1 2) F25_s1_c (F25_k R) noX :=
  fun f w h => cut (.seq F25_p18 F25_p19) F25_s2_c (K := (a4 (F25_s4 R) 0 1 2 7)) (F25_s2_ok R) f w (F25_s1_st R (F25_s4 R) _ f w h)
theorem F25_all_e (R : RT) (K : KF) (X : KX) (f : Fr) (w : World) (h : F25_W R F25_s1_c K X f w) : F25_W R F25_b K X f w := Eq.mp (by kernel_rfl) h
theorem F25_calls (R : RT) (v0 v1 v2 : Value) (w : World) (h : F25_s1 R v0 v1 v2 w) : Calls Tryz.prog 25 #[v0, v1, v2] w R :=
  calls_of_wpE (dc := F25_dc) (args := [v0, v1, v2]) hmixed Tryz.func25 (c := F25_b) rfl (rs := [.tmp 6]) rfl (by kernel_rfl) (Nat.le_of_ble_eq_true (by kernel_rfl)) (F25_all_e R _ _ _ w ((F25_s1_ok R) (initFr [v0, v1, v2]) w h))

/-! ### (*hasp/haspref10.Table).can -/
noncomputable def F27_b : Code := bodyOf Tryz.f27
def F27_dc : Nat → List (Nat × Bool)
  | _ => []
abbrev F27_k (R : RT) := resK Tryz.prog [.tmp 4] R
abbrev F27_W (R : RT) := wpE Tryz.prog F27_dc (F27_k R) (panK R)
noncomputable def F27_p0 := cR F27_b
noncomputable def F27_p1 := cR F27_p0
noncomputable def F27_p2 := cL F27_p1
noncomputable def F27_p3 := cL F27_p0
noncomputable def F27_p4 := cR F27_p3
noncomputable def F27_p5 := cI F27_p4
noncomputable def F27_p6 := cI F27_p5
noncomputable def F27_p7 := cR F27_p6
noncomputable def F27_p8 := cR F27_p7
noncomputable def F27_p9 := cL F27_p7
noncomputable def F27_p10 := cI F27_p9
noncomputable def F27_p11 := cR F27_p10
noncomputable def F27_p12 := cR F27_p11
noncomputable def F27_p13 := cT F27_p12
noncomputable def F27_p14 := cL F27_p13
noncomputable def F27_p15 := cL F27_p10
noncomputable def F27_p16 := cL F27_p11
noncomputable def F27_p17 := cL F27_p6
noncomputable def F27_p18 := cR F27_p17
noncomputable def F27_p19 := cL F27_p17
noncomputable def F27_p20 := cL F27_b
noncomputable def F27_p21 := cL F27_p3
def F27_s3_t (R : RT) (w : World) : Prop :=
  R (.returned (.bool true)) w
theorem F27_s3_st (R : RT) (X : KX) (f : Fr) (w : World) (h : F27_s3_t R w) : F27_W R F27_p2 (F27_k R) X f w := Eq.mp (by kernel_rfl) h
def F27_s3 (R : RT) (w : World) : Prop :=
  F27_s3_t R w
noncomputable def F27_s3_c : Code := (.seq F27_p2 .ret)
theorem F27_s3_ok (R : RT) : OkW (F27_W R) ((fun f w => F27_s3 R w)) F27_s3_c (F27_k R) noX :=
  fun f w h => cut F27_p2 .ret (K := (F27_k R)) (fun f w h => ret_ok h) f w (F27_s3_st R _ f w h)
def F27_s8_t (R : RT) (K : V1) (v0 v3 v5 : Value) (w : World) : Prop :=
  uv Tryz.prog R (binS .add 3 (.tmp 14) (.const (.int .i64 1)) v5 (.int .i64 1)) w (fun v15 w =>
  K v15 w)
theorem F27_s8_st (R : RT) (K : V1) (X : KX) (f : Fr) (w : World) (h : F27_s8_t R K (f 0) (f 3) (f 5) w) : F27_W R F27_p8 (a1 K 5) X f w := Eq.mp (by kernel_rfl) h
def F27_s8 (R : RT) (rec4 : V1) (v0 v3 v5 : Value) (w : World) : Prop :=
  F27_s8_t R rec4 v0 v3 v5 w
noncomputable def F27_s8_c : Code := (.seq F27_p8 .skip)
theorem F27_s8_ok (R : RT) (rec4 : V1) : OkW (F27_W R) (a3 (F27_s8 R rec4) 0 3 5) F27_s8_c (a1 rec4 5) (kxB 0 ((fun f w => F27_s3 R w)) noX) :=
  fun f w h => cut F27_p8 .skip (K := (a1 rec4 5)) (fun f w h => skip_ok h) f w (F27_s8_st R rec4 _ f w h)
def F27_s11_t (R : RT) (w : World) : Prop :=
  R (.returned (.bool false)) w
theorem F27_s11_st (R : RT) (X : KX) (f : Fr) (w : World) (h : F27_s11_t R w) : F27_W R F27_p14 (F27_k R) X f w := Eq.mp (by kernel_rfl) h
def F27_s11 (R : RT) (rec4 : V1) (w : World) : Prop :=
  F27_s11_t R w
noncomputable def F27_s11_c : Code := (.seq F27_p14 .ret)
theorem F27_s11_ok (R : RT) (rec4 : V1) : OkW (F27_W R) ((fun f w => F27_s11 R rec4 w)) F27_s11_c (a3 (F27_s8 R rec4) 0 3 5) (kxB 1 (a3 (F27_s8 R rec4) 0 3 5) (kxB 0 ((fun f w => F27_s3 R w)) noX)) :=
  fun f w h => cut F27_p14 .ret (K := (F27_k R)) (fun f w h => ret_ok h) f w (F27_s11_st R _ f w h)
def F27_s10 (R : RT) (rec4 : V1) (v0 v3 v5 v42 : Value) (w : World) : Prop :=
  Bc v42
    (F27_s11 R rec4 w)
    (F27_s8 R rec4 v0 v3 v5 w)
noncomputable def F27_s10_c : Code := (.seq F27_p12 .skip)
theorem F27_s10_e (R : RT) (K : KF) (X : KX) (f : Fr) (w : World) (h : Bc (f 42) (F27_W R F27_s11_c K X f w) (F27_W R .skip K X f w)) : (F27_W R F27_p12 K X f w) := Eq.mp (by kernel_rfl) h
theorem F27_s10_ok (R : RT) (rec4 : V1) : OkW (F27_W R) (a4 (F27_s10 R rec4) 0 3 5 42) F27_s10_c (a3 (F27_s8 R rec4) 0 3 5) (kxB 1 (a3 (F27_s8 R rec4) 0 3 5) (kxB 0 ((fun f w => F27_s3 R w)) noX)) :=
  fun f w h => cut F27_p12 .skip (K := (a3 (F27_s8 R rec4) 0 3 5)) (fun f w h => skip_ok h) f w (F27_s10_e R _ _ f w (Bc_imp (x' := (F27_W R F27_s11_c (a3 (F27_s8 R rec4) 0 3 5) (kxB 1 (a3 (F27_s8 R rec4) 0 3 5) (kxB 0 ((fun f w => F27_s3 R w)) noX)) f w)) (y' := (F27_W R .skip (a3 (F27_s8 R rec4) 0 3 5) (kxB 1 (a3 (F27_s8 R rec4) 0 3 5) (kxB 0 ((fun f w => F27_s3 R w)) noX)) f w)) ((F27_s11_ok R rec4) f w) ((fun f w h => skip_ok h) f w) h))
def F27_s9_t (R : RT) (K : V4) (v0 v3 v5 : Value) (w : World) : Prop :=
  un Tryz.prog R (nilS v0) w (fun v17 w =>
  uv Tryz.prog R (Instr.fieldAt 30 v17 0) w (fun v18 w =>
  uv Tryz.prog R (Instr.loadAt 27 v18) w (fun v19 w =>
  uv Tryz.prog R (Instr.indexAt 27 v19 v5) w (fun v21 w =>
  uv Tryz.prog R (Instr.loadAt 42 v21) w (fun v22 w =>
  uv Tryz.prog R (Instr.alloc 42 true (.tuple #[])) w (fun v6 w =>
  uu Tryz.prog R (Instr.storeAt 42 v6 v22) w (fun w =>
  uv Tryz.prog R (Instr.fieldAt 42 v6 1) w (fun v23 w =>
  uv Tryz.prog R (Instr.loadAt 9 v23) w (fun v24 w =>
  uv Tryz.prog R (Instr.fieldAt 42 v3 1) w (fun v25 w =>
  uv Tryz.prog R (Instr.loadAt 9 v25) w (fun v26 w =>
  uv Tryz.prog R (binS .eql 9 (.tmp 24) (.tmp 26) v24 v26) w (fun v27 w =>
  Gk v27 true (fun k => uv Tryz.prog R (Instr.fieldAt 42 v6 0) w k) w (fun v29 w =>
  Gk v27 true (fun k => uv Tryz.prog R (Instr.loadAt 3 v29) w k) w (fun v30 w =>
  Gk v27 true (fun k => uv Tryz.prog R (Instr.fieldAt 42 v3 0) w k) w (fun v31 w =>
  Gk v27 true (fun k => uv Tryz.prog R (Instr.loadAt 3 v31) w k) w (fun v32 w =>
  Gk v27 true (fun k => uv Tryz.prog R (binS .neq 3 (.tmp 30) (.tmp 32) v30 v32) w k) w (fun v33 w =>
  uv Tryz.prog R (pickS v27 v33 (.bool false)) w (fun v34 w =>
  Gk v34 true (fun k => uv Tryz.prog R (Instr.fieldAt 42 v6 2) w k) w (fun v36 w =>
  Gk v34 true (fun k => uv Tryz.prog R (Instr.loadAt 3 v36) w k) w (fun v37 w =>
  Gk v34 true (fun k => uv Tryz.prog R (Instr.fieldAt 42 v3 2) w k) w (fun v38 w =>
  Gk v34 true (fun k => uv Tryz.prog R (Instr.loadAt 3 v38) w k) w (fun v39 w =>
  Gk v34 true (fun k => un Tryz.prog R (callFunc 53 #[v37, v39]) w k) w (fun v40 w =>
  Gk v34 true (fun k => uv Tryz.prog R (Op.unary .not v40) w k) w (fun v41 w =>
  uv Tryz.prog R (pickS v34 v41 (.bool false)) w (fun v42 w =>
  K v0 v3 v5 v42 w)))))))))))))))))))))))))
theorem F27_s9_st (R : RT) (K : V4) (X : KX) (f : Fr) (w : World) (h : F27_s9_t R K (f 0) (f 3) (f 5) w) : F27_W R (.seq F27_p15 F27_p16) (a4 K 0 3 5 42) X f w := Eq.mp (by kernel_rfl) h
def F27_s9 (R : RT) (rec4 : V1) (v0 v3 v5 : Value) (w : World) : Prop :=
  F27_s9_t R (F27_s10 R rec4) v0 v3 v5 w
noncomputable def F27_s9_c : Code := (.seq (.seq F27_p15 F27_p16) F27_s10_c)
theorem F27_s9_ok (R : RT) (rec4 : V1) : OkW (F27_W R) (a3 (F27_s9 R rec4) 0 3 5) F27_s9_c (a3 (F27_s8 R rec4) 0 3 5) (kxB 1 (a3 (F27_s8 R rec4) 0 3 5) (kxB 0 ((fun f w => F27_s3 R w)) noX)) :=
  fun f w h => cut (.seq F27_p15 F27_p16) F27_s10_c (K := (a4 (F27_s10 R rec4) 0 3 5 42)) (F27_s10_ok R rec4) f w (F27_s9_st R (F27_s10 R rec4) _ f w h)
noncomputable def F27_s7_c : Code := (.seq F27_p9 F27_s8_c)
theorem F27_s7_e (R : RT) (K : KF) (X : KX) (f : Fr) (w : World) (h : F27_W R F27_s9_c K (kxB 1 K X) f w) : F27_W R F27_p9 K X f w := Eq.mp (by kernel_rfl) h
theorem F27_s7_ok (R : RT) (rec4 : V1) : OkW (F27_W R) (a3 (F27_s9 R rec4) 0 3 5) F27_s7_c (a1 rec4 5) (kxB 0 ((fun f w => F27_s3 R w)) noX) :=
  fun f w h => cut F27_p9 F27_s8_c (K := (a3 (F27_s8 R rec4) 0 3 5)) (F27_s8_ok R rec4) f w (F27_s7_e R _ _ f w ((F27_s9_ok R rec4) f w h))
def F27_s6 (R : RT) (rec4 : V1) (v0 v3 v5 v13 : Value) (w : World) : Prop :=
  Bc v13
    (F27_s9 R rec4 v0 v3 v5 w)
    (F27_s3 R w)
noncomputable def F27_s6_c : Code := (.seq F27_p18 F27_s7_c)
theorem F27_s6_e (R : RT) (K : KF) (X : KX) (f : Fr) (w : World) (h : Bc (f 13) (F27_W R .skip K X f w) (F27_W R (.exit 0) K X f w)) : (F27_W R F27_p18 K X f w) := Eq.mp (by kernel_rfl) h
theorem F27_s6_ok (R : RT) (rec4 : V1) : OkW (F27_W R) (a4 (F27_s6 R rec4) 0 3 5 13) F27_s6_c (a1 rec4 5) (kxB 0 ((fun f w => F27_s3 R w)) noX) :=
  fun f w h => cut F27_p18 F27_s7_c (K := (a3 (F27_s9 R rec4) 0 3 5)) (F27_s7_ok R rec4) f w (F27_s6_e R _ _ f w (Bc_imp (x' := (F27_W R .skip (a3 (F27_s9 R rec4) 0 3 5) (kxB 0 ((fun f w => F27_s3 R w)) noX) f w)) (y' := (F27_W R (.exit 0) (a3 (F27_s9 R rec4) 0 3 5) (kxB 0 ((fun f w => F27_s3 R w)) noX) f w)) ((fun f w h => skip_ok h) f w) ((fun f w h => exit_hit h) f w) h))
def F27_s5_t (R : RT) (K : V4) (v0 v3 v5 : Value) (w : World) : Prop :=
  un Tryz.prog R (nilS v0) w (fun v9 w =>
  uv Tryz.prog R (Instr.fieldAt 30 v9 0) w (fun v10 w =>
  uv Tryz.prog R (Instr.loadAt 27 v10) w (fun v11 w =>
  un Tryz.prog R (builtin .len #[27] 3 #[false] #[v11]) w (fun v12 w =>
  uv Tryz.prog R (binS .lss 3 (.tmp 7) (.tmp 12) v5 v12) w (fun v13 w =>
  K v0 v3 v5 v13 w)))))
theorem F27_s5_st (R : RT) (K : V4) (X : KX) (f : Fr) (w : World) (h : F27_s5_t R K (f 0) (f 3) (f 5) w) : F27_W R F27_p19 (a4 K 0 3 5 13) X f w := Eq.mp (by kernel_rfl) h
def F27_s5 (R : RT) (rec4 : V1) (v0 v3 v5 : Value) (w : World) : Prop :=
  F27_s5_t R (F27_s6 R rec4) v0 v3 v5 w
noncomputable def F27_s5_c : Code := (.seq F27_p19 F27_s6_c)
theorem F27_s5_ok (R : RT) (rec4 : V1) : OkW (F27_W R) (a3 (F27_s5 R rec4) 0 3 5) F27_s5_c (a1 rec4 5) (kxB 0 ((fun f w => F27_s3 R w)) noX) :=
  fun f w h => cut F27_p19 F27_s6_c (K := (a4 (F27_s6 R rec4) 0 3 5 13)) (F27_s6_ok R rec4) f w (F27_s5_st R (F27_s6 R rec4) _ f w h)
def F27_s4 (R : RT) (v0 v3 v5 : Value) (w : World) : Prop :=
  Lp1 (fun rec4 v5 w => F27_s5 R rec4 v0 v3 v5 w) v5 w
theorem F27_s4_e (R : RT) (K : KF) (X : KX) (f : Fr) (w : World) (h : F27_W R (.loop F27_p6) K X f w) : F27_W R F27_p5 K X f w := Eq.mp (by kernel_rfl) h
theorem F27_s4b_e (R : RT) (K : KF) (X : KX) (f : Fr) (w : World) (h : F27_W R F27_s5_c K X f w) : F27_W R F27_p6 K X f w := Eq.mp (by kernel_rfl) h
theorem F27_s4_ok (R : RT) : OkW (F27_W R) (a3 (F27_s4 R) 0 3 5) F27_p5 (fun f w => F27_s3 R w) (kxB 0 ((fun f w => F27_s3 R w)) noX) :=
  fun f w h => F27_s4_e R _ _ f w (loop1_ok (P := Tryz.prog) (dc := F27_dc) (kr := (F27_k R)) (pan := panK R) F27_p6 (kn := (fun f w => F27_s3 R w)) (kx := (kxB 0 ((fun f w => F27_s3 R w)) noX)) (s0 := 5) (fun rec4 v5 w => F27_s5 R rec4 (f 0) (f 3) v5 w) f (fun rec4 f' w' hf h' => F27_s4b_e R _ _ f' w' ((F27_s5_ok R rec4) f' w' (by simp only [a3, hf 0 (by kernel_rfl), hf 3 (by kernel_rfl)]; exact h'))) w h)
noncomputable def F27_s2_c : Code := (.seq F27_p4 F27_s3_c)
theorem F27_s2_e (R : RT) (K : KF) (X : KX) (f : Fr) (w : World) (h : F27_W R F27_p5 K (kxB 0 K X) f w) : F27_W R F27_p4 K X f w := Eq.mp (by kernel_rfl) h
theorem F27_s2_ok (R : RT) : OkW (F27_W R) (a3 (F27_s4 R) 0 3 5) F27_s2_c (F27_k R) noX :=
  fun f w h => cut F27_p4 F27_s3_c (K := (fun f w => F27_s3 R w)) (F27_s3_ok R) f w (F27_s2_e R _ _ f w ((F27_s4_ok R) f w h))
def F27_s1_t (R : RT) (K : V3) (v0 v1 : Value) (w : World) : Prop :=
  uv Tryz.prog R (Instr.box 42 v1) w (fun v3 w =>
  K v0 v3 (.int .i64 0) w)
theorem F27_s1_st (R : RT) (K : V3) (X : KX) (f : Fr) (w : World) (h : F27_s1_t R K (f 0) (f 1) w) : F27_W R (.seq F27_p20 F27_p21) (a3 K 0 3 5) X f w := Eq.mp (by kernel_rfl) h
def F27_s1 (R : RT) (v0 v1 : Value) (w : World) : Prop :=
  F27_s1_t R (F27_s4 R) v0 v1 w
noncomputable def F27_s1_c : Code := (.seq (.seq F27_p20 F27_p21) F27_s2_c)
theorem F27_s1_ok (R : RT) : OkW (F27_W R) (a2 (F27_s1 R) 0 1) F27_s1_c (F27_k R) noX :=
  fun f w h => cut (.seq F27_p20 F27_p21) F27_s2_c (K := (a3 (F27_s4 R) 0 3 5)) (F27_s2_ok R) f w (F27_s1_st R (F27_s4 R) _ f w h)
theorem F27_all_e (R : RT) (K : KF) (X : KX) (f : Fr) (w : World) (h : F27_W R F27_s1_c K X f w) : F27_W R F27_b K X f w := Eq.mp (by kernel_rfl) h
theorem F27_calls (R : RT) (v0 v1 : Value) (w : World) (h : F27_s1 R v0 v1 w) : Calls Tryz.prog 27 #[v0, v1] w R :=
  calls_of_wpE (dc := F27_dc) (args := [v0, v1]) hmixed Tryz.func27 (c := F27_b) rfl (rs := [.tmp 4]) rfl (by kernel_rfl) (Nat.le_of_ble_eq_true (by kernel_rfl)) (F27_all_e R _ _ _ w ((F27_s1_ok R) (initFr [v0, v1]) w h))

/-! ### (*hasp/haspref10.Table).Queue -/
noncomputable def F28_b : Code := bodyOf Tryz.f28
def F28_dc : Nat → List (Nat × Bool)
  | _ => []
abbrev F28_k (R : RT) := resK Tryz.prog [.tmp 4] R
abbrev F28_W (R : RT) := wpE Tryz.prog F28_dc (F28_k R) (panK R)
noncomputable def F28_p0 := cR F28_b
noncomputable def F28_p1 := cR F28_p0
noncomputable def F28_p2 := cR F28_p1
noncomputable def F28_p3 := cL F28_p2
noncomputable def F28_p4 := cL F28_p1
noncomputable def F28_p5 := cR F28_p4
noncomputable def F28_p6 := cI F28_p5
noncomputable def F28_p7 := cI F28_p6
noncomputable def F28_p8 := cR F28_p7
noncomputable def F28_p9 := cR F28_p8
noncomputable def F28_p10 := cL F28_p8
noncomputable def F28_p11 := cI F28_p10
noncomputable def F28_p12 := cR F28_p11
noncomputable def F28_p13 := cI F28_p12
noncomputable def F28_p14 := cI F28_p13
noncomputable def F28_p15 := cR F28_p14
noncomputable def F28_p16 := cR F28_p15
noncomputable def F28_p17 := cL F28_p15
noncomputable def F28_p18 := cI F28_p17
noncomputable def F28_p19 := cR F28_p18
noncomputable def F28_p20 := cT F28_p19
noncomputable def F28_p21 := cL F28_p18
noncomputable def F28_p22 := cL F28_p14
noncomputable def F28_p23 := cR F28_p22
noncomputable def F28_p24 := cL F28_p22
noncomputable def F28_p25 := cL F28_p11
noncomputable def F28_p26 := cL F28_p7
noncomputable def F28_p27 := cR F28_p26
noncomputable def F28_p28 := cL F28_p26
noncomputable def F28_p29 := cL F28_b
noncomputable def F28_p30 := cL F28_p0
noncomputable def F28_p31 := cL F28_p4
def F28_s3_t (R : RT) (v5 : Value) (w : World) : Prop :=
  R (.returned v5) w
theorem F28_s3_st (R : RT) (X : KX) (f : Fr) (w : World) (h : F28_s3_t R (f 5) w) : F28_W R F28_p3 (F28_k R) X f w := Eq.mp (by kernel_rfl) h
def F28_s3 (R : RT) (v5 : Value) (w : World) : Prop :=
  F28_s3_t R v5 w
noncomputable def F28_s3_c : Code := (.seq F28_p3 .ret)
theorem F28_s3_ok (R : RT) : OkW (F28_W R) (a1 (F28_s3 R) 5) F28_s3_c (F28_k R) noX :=
  fun f w h => cut F28_p3 .ret (K := (F28_k R)) (fun f w h => ret_ok h) f w (F28_s3_st R _ f w h)
def F28_s8_t (R : RT) (K : V2) (v0 v1 v5 v6 : Value) (w : World) : Prop :=
  uv Tryz.prog R (binS .add 3 (.tmp 11) (.const (.int .i64 1)) v6 (.int .i64 1)) w (fun v12 w =>
  K v5 v12 w)
theorem F28_s8_st (R : RT) (K : V2) (X : KX) (f : Fr) (w : World) (h : F28_s8_t R K (f 0) (f 1) (f 5) (f 6) w) : F28_W R F28_p9 (a2 K 5 6) X f w := Eq.mp (by kernel_rfl) h
def F28_s8 (R : RT) (rec4 : V2) (v0 v1 v5 v6 : Value) (w : World) : Prop :=
  F28_s8_t R rec4 v0 v1 v5 v6 w
noncomputable def F28_s8_c : Code := (.seq F28_p9 .skip)
theorem F28_s8_ok (R : RT) (rec4 : V2) : OkW (F28_W R) (a4 (F28_s8 R rec4) 0 1 5 6) F28_s8_c (a2 rec4 5 6) (kxB 0 (a1 (F28_s3 R) 5) noX) :=
  fun f w h => cut F28_p9 .skip (K := (a2 rec4 5 6)) (fun f w h => skip_ok h) f w (F28_s8_st R rec4 _ f w h)
def F28_s15_t (R : RT) (K : V2) (v0 v1 v5 v6 v7 : Value) (w : World) : Prop :=
  uv Tryz.prog R (binS .add 3 (.tmp 20) (.const (.int .i64 1)) v7 (.int .i64 1)) w (fun v21 w =>
  K v5 v21 w)
theorem F28_s15_st (R : RT) (K : V2) (X : KX) (f : Fr) (w : World) (h : F28_s15_t R K (f 0) (f 1) (f 5) (f 6) (f 7) w) : F28_W R F28_p16 (a2 K 5 7) X f w := Eq.mp (by kernel_rfl) h
def F28_s15 (R : RT) (rec4 : V2) (rec11 : V2) (v0 v1 v5 v6 v7 : Value) (w : World) : Prop :=
  F28_s15_t R rec11 v0 v1 v5 v6 v7 w
noncomputable def F28_s15_c : Code := (.seq F28_p16 .skip)
theorem F28_s15_ok (R : RT) (rec4 : V2) (rec11 : V2) : OkW (F28_W R) (a5 (F28_s15 R rec4 rec11) 0 1 5 6 7) F28_s15_c (a2 rec11 5 7) (kxB 2 (a4 (F28_s8 R rec4) 0 1 5 6) (kxB 1 (a4 (F28_s8 R rec4) 0 1 5 6) (kxB 0 (a1 (F28_s3 R) 5) noX))) :=
  fun f w h => cut F28_p16 .skip (K := (a2 rec11 5 7)) (fun f w h => skip_ok h) f w (F28_s15_st R rec11 _ f w h)
def F28_s18_t (R : RT) (K : V5) (v0 v1 v5 v6 v7 : Value) (w : World) : Prop :=
  un Tryz.prog R (nilS v0) w (fun v48 w =>
  uv Tryz.prog R (Instr.fieldAt 30 v48 1) w (fun v49 w =>
  uv Tryz.prog R (Instr.loadAt 28 v49) w (fun v50 w =>
  uv Tryz.prog R (Instr.indexAt 28 v50 v7) w (fun v52 w =>
  uv Tryz.prog R (Instr.fieldAt 70 v52 0) w (fun v53 w =>
  uv Tryz.prog R (Instr.loadAt 42 v53) w (fun v54 w =>
  uv Tryz.prog R (Instr.buildSlice 27 1 #[(0, v54)]) w (fun v55 w =>
  un Tryz.prog R (builtin .append #[27, 27] 27 #[false, false] #[v5, v55]) w (fun v56 w =>
  K v0 v1 v56 v6 v7 w))))))))
theorem F28_s18_st (R : RT) (K : V5) (X : KX) (f : Fr) (w : World) (h : F28_s18_t R K (f 0) (f 1) (f 5) (f 6) (f 7) w) : F28_W R F28_p20 (a5 K 0 1 5 6 7) X f w := Eq.mp (by kernel_rfl) h
def F28_s18 (R : RT) (rec4 : V2) (rec11 : V2) (v0 v1 v5 v6 v7 : Value) (w : World) : Prop :=
  F28_s18_t R (F28_s15 R rec4 rec11) v0 v1 v5 v6 v7 w
noncomputable def F28_s18_c : Code := (.seq F28_p20 .skip)
theorem F28_s18_ok (R : RT) (rec4 : V2) (rec11 : V2) : OkW (F28_W R) (a5 (F28_s18 R rec4 rec11) 0 1 5 6 7) F28_s18_c (a5 (F28_s15 R rec4 rec11) 0 1 5 6 7) (kxB 3 (a5 (F28_s15 R rec4 rec11) 0 1 5 6 7) (kxB 2 (a4 (F28_s8 R rec4) 0 1 5 6) (kxB 1 (a4 (F28_s8 R rec4) 0 1 5 6) (kxB 0 (a1 (F28_s3 R) 5) noX)))) :=
  fun f w h => cut F28_p20 .skip (K := (a5 (F28_s15 R rec4 rec11) 0 1 5 6 7)) (fun f w h => skip_ok h) f w (F28_s18_st R (F28_s15 R rec4 rec11) _ f w h)
def F28_s17 (R : RT) (rec4 : V2) (rec11 : V2) (v0 v1 v5 v6 v7 v45 : Value) (w : World) : Prop :=
  Bc v45
    (F28_s18 R rec4 rec11 v0 v1 v5 v6 v7 w)
    (F28_s15 R rec4 rec11 v0 v1 v5 v6 v7 w)
noncomputable def F28_s17_c : Code := (.seq F28_p19 .skip)
theorem F28_s17_e (R : RT) (K : KF) (X : KX) (f : Fr) (w : World) (h : Bc (f 45) (F28_W R F28_s18_c K X f w) (F28_W R .skip K X f w)) : (F28_W R F28_p19 K X f w) := Eq.mp (by kernel_rfl) h
theorem F28_s17_ok (R : RT) (rec4 : V2) (rec11 : V2) : OkW (F28_W R) (a6 (F28_s17 R rec4 rec11) 0 1 5 6 7 45) F28_s17_c (a5 (F28_s15 R rec4 rec11) 0 1 5 6 7) (kxB 3 (a5 (F28_s15 R rec4 rec11) 0 1 5 6 7) (kxB 2 (a4 (F28_s8 R rec4) 0 1 5 6) (kxB 1 (a4 (F28_s8 R rec4) 0 1 5 6) (kxB 0 (a1 (F28_s3 R) 5) noX)))) :=
  fun f w h => cut F28_p19 .skip (K := (a5 (F28_s15 R rec4 rec11) 0 1 5 6 7)) (fun f w h => skip_ok h) f w (F28_s17_e R _ _ f w (Bc_imp (x' := (F28_W R F28_s18_c (a5 (F28_s15 R rec4 rec11) 0 1 5 6 7) (kxB 3 (a5 (F28_s15 R rec4 rec11) 0 1 5 6 7) (kxB 2 (a4 (F28_s8 R rec4) 0 1 5 6) (kxB 1 (a4 (F28_s8 R rec4) 0 1 5 6) (kxB 0 (a1 (F28_s3 R) 5) noX)))) f w)) (y' := (F28_W R .skip (a5 (F28_s15 R rec4 rec11) 0 1 5 6 7) (kxB 3 (a5 (F28_s15 R rec4 rec11) 0 1 5 6 7) (kxB 2 (a4 (F28_s8 R rec4) 0 1 5 6) (kxB 1 (a4 (F28_s8 R rec4) 0 1 5 6) (kxB 0 (a1 (F28_s3 R) 5) noX)))) f w)) ((F28_s18_ok R rec4 rec11) f w) ((fun f w h => skip_ok h) f w) h))
def F28_s16_t (R : RT) (K : V6) (v0 v1 v5 v6 v7 : Value) (w : World) : Prop :=
  un Tryz.prog R (nilS v0) w (fun v23 w =>
  uv Tryz.prog R (Instr.fieldAt 30 v23 1) w (fun v24 w =>
  uv Tryz.prog R (Instr.loadAt 28 v24) w (fun v25 w =>
  uv Tryz.prog R (Instr.indexAt 28 v25 v7) w (fun v27 w =>
  uv Tryz.prog R (Instr.fieldAt 70 v27 0) w (fun v28 w =>
  uv Tryz.prog R (Instr.fieldAt 42 v28 1) w (fun v29 w =>
  uv Tryz.prog R (Instr.loadAt 9 v29) w (fun v30 w =>
  uv Tryz.prog R (binS .eql 9 (.tmp 30) (.tmp 31) v30 v1) w (fun v32 w =>
  Gk v32 true (fun k => k v0 w) w (fun v34 w =>
  Gk v32 true (fun k => un Tryz.prog R (nilS v34) w k) w (fun v35 w =>
  Gk v32 true (fun k => uv Tryz.prog R (Instr.fieldAt 30 v35 1) w k) w (fun v36 w =>
  Gk v32 true (fun k => uv Tryz.prog R (Instr.loadAt 28 v36) w k) w (fun v37 w =>
  Gk v32 true (fun k => k v7 w) w (fun v38 w =>
  Gk v32 true (fun k => uv Tryz.prog R (Instr.indexAt 28 v37 v38) w k) w (fun v39 w =>
  Gk v32 true (fun k => uv Tryz.prog R (Instr.fieldAt 70 v39 1) w k) w (fun v40 w =>
  Gk v32 true (fun k => uv Tryz.prog R (Instr.loadAt 4 v40) w k) w (fun v41 w =>
  Gk v32 true (fun k => k v6 w) w (fun v42 w =>
  Gk v32 true (fun k => uv Tryz.prog R (binS .eql 3 (.tmp 42) (.const (.int .i64 0)) v42 (.int .i64 0)) w k) w (fun v43 w =>
  Gk v32 true (fun k => uv Tryz.prog R (binS .eql 4 (.tmp 41) (.tmp 43) v41 v43) w k) w (fun v44 w =>
  uv Tryz.prog R (pickS v32 v44 (.bool false)) w (fun v45 w =>
  K v0 v1 v5 v6 v7 v45 w))))))))))))))))))))
theorem F28_s16_st (R : RT) (K : V6) (X : KX) (f : Fr) (w : World) (h : F28_s16_t R K (f 0) (f 1) (f 5) (f 6) (f 7) w) : F28_W R F28_p21 (a6 K 0 1 5 6 7 45) X f w := Eq.mp (by kernel_rfl) h
def F28_s16 (R : RT) (rec4 : V2) (rec11 : V2) (v0 v1 v5 v6 v7 : Value) (w : World) : Prop :=
  F28_s16_t R (F28_s17 R rec4 rec11) v0 v1 v5 v6 v7 w
noncomputable def F28_s16_c : Code := (.seq F28_p21 F28_s17_c)
theorem F28_s16_ok (R : RT) (rec4 : V2) (rec11 : V2) : OkW (F28_W R) (a5 (F28_s16 R rec4 rec11) 0 1 5 6 7) F28_s16_c (a5 (F28_s15 R rec4 rec11) 0 1 5 6 7) (kxB 3 (a5 (F28_s15 R rec4 rec11) 0 1 5 6 7) (kxB 2 (a4 (F28_s8 R rec4) 0 1 5 6) (kxB 1 (a4 (F28_s8 R rec4) 0 1 5 6) (kxB 0 (a1 (F28_s3 R) 5) noX)))) :=
  fun f w h => cut F28_p21 F28_s17_c (K := (a6 (F28_s17 R rec4 rec11) 0 1 5 6 7 45)) (F28_s17_ok R rec4 rec11) f w (F28_s16_st R (F28_s17 R rec4 rec11) _ f w h)
noncomputable def F28_s14_c : Code := (.seq F28_p17 F28_s15_c)
theorem F28_s14_e (R : RT) (K : KF) (X : KX) (f : Fr) (w : World) (h : F28_W R F28_s16_c K (kxB 3 K X) f w) : F28_W R F28_p17 K X f w := Eq.mp (by kernel_rfl) h
theorem F28_s14_ok (R : RT) (rec4 : V2) (rec11 : V2) : OkW (F28_W R) (a5 (F28_s16 R rec4 rec11) 0 1 5 6 7) F28_s14_c (a2 rec11 5 7) (kxB 2 (a4 (F28_s8 R rec4) 0 1 5 6) (kxB 1 (a4 (F28_s8 R rec4) 0 1 5 6) (kxB 0 (a1 (F28_s3 R) 5) noX))) :=
  fun f w h => cut F28_p17 F28_s15_c (K := (a5 (F28_s15 R rec4 rec11) 0 1 5 6 7)) (F28_s15_ok R rec4 rec11) f w (F28_s14_e R _ _ f w ((F28_s16_ok R rec4 rec11) f w h))
def F28_s13 (R : RT) (rec4 : V2) (rec11 : V2) (v0 v1 v5 v6 v7 v19 : Value) (w : World) : Prop :=
  Bc v19
    (F28_s16 R rec4 rec11 v0 v1 v5 v6 v7 w)
    (F28_s8 R rec4 v0 v1 v5 v6 w)
noncomputable def F28_s13_c : Code := (.seq F28_p23 F28_s14_c)
theorem F28_s13_e (R : RT) (K : KF) (X : KX) (f : Fr) (w : World) (h : Bc (f 19) (F28_W R .skip K X f w) (F28_W R (.exit 2) K X f w)) : (F28_W R F28_p23 K X f w) := Eq.mp (by kernel_rfl) h
theorem F28_s13_ok (R : RT) (rec4 : V2) (rec11 : V2) : OkW (F28_W R) (a6 (F28_s13 R rec4 rec11) 0 1 5 6 7 19) F28_s13_c (a2 rec11 5 7) (kxB 2 (a4 (F28_s8 R rec4) 0 1 5 6) (kxB 1 (a4 (F28_s8 R rec4) 0 1 5 6) (kxB 0 (a1 (F28_s3 R) 5) noX))) :=
  fun f w h => cut F28_p23 F28_s14_c (K := (a5 (F28_s16 R rec4 rec11) 0 1 5 6 7)) (F28_s14_ok R rec4 rec11) f w (F28_s13_e R _ _ f w (Bc_imp (x' := (F28_W R .skip (a5 (F28_s16 R rec4 rec11) 0 1 5 6 7) (kxB 2 (a4 (F28_s8 R rec4) 0 1 5 6) (kxB 1 (a4 (F28_s8 R rec4) 0 1 5 6) (kxB 0 (a1 (F28_s3 R) 5) noX))) f w)) (y' := (F28_W R (.exit 2) (a5 (F28_s16 R rec4 rec11) 0 1 5 6 7) (kxB 2 (a4 (F28_s8 R rec4) 0 1 5 6) (kxB 1 (a4 (F28_s8 R rec4) 0 1 5 6) (kxB 0 (a1 (F28_s3 R) 5) noX))) f w)) ((fun f w h => skip_ok h) f w) ((fun f w h => exit_hit h) f w) h))
def F28_s12_t (R : RT) (K : V6) (v0 v1 v5 v6 v7 : Value) (w : World) : Prop :=
  un Tryz.prog R (nilS v0) w (fun v15 w =>
  uv Tryz.prog R (Instr.fieldAt 30 v15 1) w (fun v16 w =>
  uv Tryz.prog R (Instr.loadAt 28 v16) w (fun v17 w =>
  un Tryz.prog R (builtin .len #[28] 3 #[false] #[v17]) w (fun v18 w =>
  uv Tryz.prog R (binS .lss 3 (.tmp 13) (.tmp 18) v7 v18) w (fun v19 w =>
  K v0 v1 v5 v6 v7 v19 w)))))
theorem F28_s12_st (R : RT) (K : V6) (X : KX) (f : Fr) (w : World) (h : F28_s12_t R K (f 0) (f 1) (f 5) (f 6) (f 7) w) : F28_W R F28_p24 (a6 K 0 1 5 6 7 19) X f w := Eq.mp (by kernel_rfl) h
def F28_s12 (R : RT) (rec4 : V2) (rec11 : V2) (v0 v1 v5 v6 v7 : Value) (w : World) : Prop :=
  F28_s12_t R (F28_s13 R rec4 rec11) v0 v1 v5 v6 v7 w
noncomputable def F28_s12_c : Code := (.seq F28_p24 F28_s13_c)
theorem F28_s12_ok (R : RT) (rec4 : V2) (rec11 : V2) : OkW (F28_W R) (a5 (F28_s12 R rec4 rec11) 0 1 5 6 7) F28_s12_c (a2 rec11 5 7) (kxB 2 (a4 (F28_s8 R rec4) 0 1 5 6) (kxB 1 (a4 (F28_s8 R rec4) 0 1 5 6) (kxB 0 (a1 (F28_s3 R) 5) noX))) :=
  fun f w h => cut F28_p24 F28_s13_c (K := (a6 (F28_s13 R rec4 rec11) 0 1 5 6 7 19)) (F28_s13_ok R rec4 rec11) f w (F28_s12_st R (F28_s13 R rec4 rec11) _ f w h)
def F28_s11 (R : RT) (rec4 : V2) (v0 v1 v5 v6 v7 : Value) (w : World) : Prop :=
  Lp2 (fun rec11 v5 v7 w => F28_s12 R rec4 rec11 v0 v1 v5 v6 v7 w) v5 v7 w
theorem F28_s11_e (R : RT) (K : KF) (X : KX) (f : Fr) (w : World) (h : F28_W R (.loop F28_p14) K X f w) : F28_W R F28_p13 K X f w := Eq.mp (by kernel_rfl) h
theorem F28_s11b_e (R : RT) (K : KF) (X : KX) (f : Fr) (w : World) (h : F28_W R F28_s12_c K X f w) : F28_W R F28_p14 K X f w := Eq.mp (by kernel_rfl) h
theorem F28_s11_ok (R : RT) (rec4 : V2) : OkW (F28_W R) (a5 (F28_s11 R rec4) 0 1 5 6 7) F28_p13 (a4 (F28_s8 R rec4) 0 1 5 6) (kxB 2 (a4 (F28_s8 R rec4) 0 1 5 6) (kxB 1 (a4 (F28_s8 R rec4) 0 1 5 6) (kxB 0 (a1 (F28_s3 R) 5) noX))) :=
  fun f w h => F28_s11_e R _ _ f w (loop2_ok (P := Tryz.prog) (dc := F28_dc) (kr := (F28_k R)) (pan := panK R) F28_p14 (kn := (a4 (F28_s8 R rec4) 0 1 5 6)) (kx := (kxB 2 (a4 (F28_s8 R rec4) 0 1 5 6) (kxB 1 (a4 (F28_s8 R rec4) 0 1 5 6) (kxB 0 (a1 (F28_s3 R) 5) noX)))) (s0 := 5) (s1 := 7) (fun rec11 v5 v7 w => F28_s12 R rec4 rec11 (f 0) (f 1) v5 (f 6) v7 w) f (fun rec11 f' w' hf h' => F28_s11b_e R _ _ f' w' ((F28_s12_ok R rec4 rec11) f' w' (by simp only [a5, hf 0 (by kernel_rfl), hf 1 (by kernel_rfl), hf 6 (by kernel_rfl)]; exact h'))) w h)
noncomputable def F28_s10_c : Code := (.seq F28_p12 .skip)
theorem F28_s10_e (R : RT) (K : KF) (X : KX) (f : Fr) (w : World) (h : F28_W R F28_p13 K (kxB 2 K X) f w) : F28_W R F28_p12 K X f w := Eq.mp (by kernel_rfl) h
theorem F28_s10_ok (R : RT) (rec4 : V2) : OkW (F28_W R) (a5 (F28_s11 R rec4) 0 1 5 6 7) F28_s10_c (a4 (F28_s8 R rec4) 0 1 5 6) (kxB 1 (a4 (F28_s8 R rec4) 0 1 5 6) (kxB 0 (a1 (F28_s3 R) 5) noX)) :=
  fun f w h => cut F28_p12 .skip (K := (a4 (F28_s8 R rec4) 0 1 5 6)) (fun f w h => skip_ok h) f w (F28_s10_e R _ _ f w ((F28_s11_ok R rec4) f w h))
def F28_s9_t (R : RT) (K : V5) (v0 v1 v5 v6 : Value) (w : World) : Prop :=
  K v0 v1 v5 v6 (.int .i64 0) w
theorem F28_s9_st (R : RT) (K : V5) (X : KX) (f : Fr) (w : World) (h : F28_s9_t R K (f 0) (f 1) (f 5) (f 6) w) : F28_W R F28_p25 (a5 K 0 1 5 6 7) X f w := Eq.mp (by kernel_rfl) h
def F28_s9 (R : RT) (rec4 : V2) (v0 v1 v5 v6 : Value) (w : World) : Prop :=
  F28_s9_t R (F28_s11 R rec4) v0 v1 v5 v6 w
noncomputable def F28_s9_c : Code := (.seq F28_p25 F28_s10_c)
theorem F28_s9_ok (R : RT) (rec4 : V2) : OkW (F28_W R) (a4 (F28_s9 R rec4) 0 1 5 6) F28_s9_c (a4 (F28_s8 R rec4) 0 1 5 6) (kxB 1 (a4 (F28_s8 R rec4) 0 1 5 6) (kxB 0 (a1 (F28_s3 R) 5) noX)) :=
  fun f w h => cut F28_p25 F28_s10_c (K := (a5 (F28_s11 R rec4) 0 1 5 6 7)) (F28_s10_ok R rec4) f w (F28_s9_st R (F28_s11 R rec4) _ f w h)
noncomputable def F28_s7_c : Code := (.seq F28_p10 F28_s8_c)
theorem F28_s7_e (R : RT) (K : KF) (X : KX) (f : Fr) (w : World) (h : F28_W R F28_s9_c K (kxB 1 K X) f w) : F28_W R F28_p10 K X f w := Eq.mp (by kernel_rfl) h
theorem F28_s7_ok (R : RT) (rec4 : V2) : OkW (F28_W R) (a4 (F28_s9 R rec4) 0 1 5 6) F28_s7_c (a2 rec4 5 6) (kxB 0 (a1 (F28_s3 R) 5) noX) :=
  fun f w h => cut F28_p10 F28_s8_c (K := (a4 (F28_s8 R rec4) 0 1 5 6)) (F28_s8_ok R rec4) f w (F28_s7_e R _ _ f w ((F28_s9_ok R rec4) f w h))
def F28_s6 (R : RT) (rec4 : V2) (v0 v1 v5 v6 v10 : Value) (w : World) : Prop :=
  Bc v10
    (F28_s9 R rec4 v0 v1 v5 v6 w)
    (F28_s3 R v5 w)
noncomputable def F28_s6_c : Code := (.seq F28_p27 F28_s7_c)
theorem F28_s6_e (R : RT) (K : KF) (X : KX) (f : Fr) (w : World) (h : Bc (f 10) (F28_W R .skip K X f w) (F28_W R (.exit 0) K X f w)) : (F28_W R F28_p27 K X f w) := Eq.mp (by kernel_rfl) h
theorem F28_s6_ok (R : RT) (rec4 : V2) : OkW (F28_W R) (a5 (F28_s6 R rec4) 0 1 5 6 10) F28_s6_c (a2 rec4 5 6) (kxB 0 (a1 (F28_s3 R) 5) noX) :=
  fun f w h => cut F28_p27 F28_s7_c (K := (a4 (F28_s9 R rec4) 0 1 5 6)) (F28_s7_ok R rec4) f w (F28_s6_e R _ _ f w (Bc_imp (x' := (F28_W R .skip (a4 (F28_s9 R rec4) 0 1 5 6) (kxB 0 (a1 (F28_s3 R) 5) noX) f w)) (y' := (F28_W R (.exit 0) (a4 (F28_s9 R rec4) 0 1 5 6) (kxB 0 (a1 (F28_s3 R) 5) noX) f w)) ((fun f w h => skip_ok h) f w) ((fun f w h => exit_hit h) f w) h))
def F28_s5_t (R : RT) (K : V5) (v0 v1 v5 v6 : Value) (w : World) : Prop :=
  uv Tryz.prog R (binS .lss 3 (.tmp 9) (.const (.int .i64 2)) v6 (.int .i64 2)) w (fun v10 w =>
  K v0 v1 v5 v6 v10 w)
theorem F28_s5_st (R : RT) (K : V5) (X : KX) (f : Fr) (w : World) (h : F28_s5_t R K (f 0) (f 1) (f 5) (f 6) w) : F28_W R F28_p28 (a5 K 0 1 5 6 10) X f w := Eq.mp (by kernel_rfl) h
def F28_s5 (R : RT) (rec4 : V2) (v0 v1 v5 v6 : Value) (w : World) : Prop :=
  F28_s5_t R (F28_s6 R rec4) v0 v1 v5 v6 w
noncomputable def F28_s5_c : Code := (.seq F28_p28 F28_s6_c)
theorem F28_s5_ok (R : RT) (rec4 : V2) : OkW (F28_W R) (a4 (F28_s5 R rec4) 0 1 5 6) F28_s5_c (a2 rec4 5 6) (kxB 0 (a1 (F28_s3 R) 5) noX) :=
  fun f w h => cut F28_p28 F28_s6_c (K := (a5 (F28_s6 R rec4) 0 1 5 6 10)) (F28_s6_ok R rec4) f w (F28_s5_st R (F28_s6 R rec4) _ f w h)
def F28_s4 (R : RT) (v0 v1 v5 v6 : Value) (w : World) : Prop :=
  Lp2 (fun rec4 v5 v6 w => F28_s5 R rec4 v0 v1 v5 v6 w) v5 v6 w
theorem F28_s4_e (R : RT) (K : KF) (X : KX) (f : Fr) (w : World) (h : F28_W R (.loop F28_p7) K X f w) : F28_W R F28_p6 K X f w := Eq.mp (by kernel_rfl) h
theorem F28_s4b_e (R : RT) (K : KF) (X : KX) (f : Fr) (w : World) (h : F28_W R F28_s5_c K X f w) : F28_W R F28_p7 K X f w := Eq.mp (by kernel_rfl) h
theorem F28_s4_ok (R : RT) : OkW (F28_W R) (a4 (F28_s4 R) 0 1 5 6) F28_p6 (a1 (F28_s3 R) 5) (kxB 0 (a1 (F28_s3 R) 5) noX) :=
  fun f w h => F28_s4_e R _ _ f w (loop2_ok (P := Tryz.prog) (dc := F28_dc) (kr := (F28_k R)) (pan := panK R) F28_p7 (kn := (a1 (F28_s3 R) 5)) (kx := (kxB 0 (a1 (F28_s3 R) 5) noX)) (s0 := 5) (s1 := 6) (fun rec4 v5 v6 w => F28_s5 R rec4 (f 0) (f 1) v5 v6 w) f (fun rec4 f' w' hf h' => F28_s4b_e R _ _ f' w' ((F28_s5_ok R rec4) f' w' (by simp only [a4, hf 0 (by kernel_rfl), hf 1 (by kernel_rfl)]; exact h'))) w h)
noncomputable def F28_s2_c : Code := (.seq F28_p5 F28_s3_c)
theorem F28_s2_e (R : RT) (K : KF) (X : KX) (f : Fr) (w : World) (h : F28_W R F28_p6 K (kxB 0 K X) f w) : F28_W R F28_p5 K X f w := Eq.mp (by kernel_rfl) h
theorem F28_s2_ok (R : RT) : OkW (F28_W R) (a4 (F28_s4 R) 0 1 5 6) F28_s2_c (F28_k R) noX :=
  fun f w h => cut F28_p5 F28_s3_c (K := (a1 (F28_s3 R) 5)) (F28_s3_ok R) f w (F28_s2_e R _ _ f w ((F28_s4_ok R) f w h))
def F28_s1_t (R : RT) (K : V4) (v0 v1 : Value) (w : World) : Prop :=
  uv Tryz.prog R (Instr.buildSlice 27 0 #[]) w (fun v8 w =>
  K v0 v1 v8 (.int .i64 0) w)
theorem F28_s1_st (R : RT) (K : V4) (X : KX) (f : Fr) (w : World) (h : F28_s1_t R K (f 0) (f 1) w) : F28_W R (.seq F28_p29 (.seq F28_p30 F28_p31)) (a4 K 0 1 5 6) X f w := Eq.mp (by kernel_rfl) h
def F28_s1 (R : RT) (v0 v1 : Value) (w : World) : Prop :=
  F28_s1_t R (F28_s4 R) v0 v1 w
noncomputable def F28_s1_c : Code := (.seq (.seq F28_p29 (.seq F28_p30 F28_p31)) F28_s2_c)
theorem F28_s1_ok (R : RT) : OkW (F28_W R) (a2 (F28_s1 R) 0 1) F28_s1_c (F28_k R) noX :=
  fun f w h => cut (.seq F28_p29 (.seq F28_p30 F28_p31)) F28_s2_c (K := (a4 (F28_s4 R) 0 1 5 6)) (F28_s2_ok R) f w (F28_s1_st R (F28_s4 R) _ f w h)
theorem F28_all_e (R : RT) (K : KF) (X : KX) (f : Fr) (w : World) (h : F28_W R F28_s1_c K X f w) : F28_W R F28_b K X f w := Eq.mp (by kernel_rfl) h
theorem F28_calls (R : RT) (v0 v1 : Value) (w : World) (h : F28_s1 R v0 v1 w) : Calls Tryz.prog 28 #[v0, v1] w R :=
  calls_of_wpE (dc := F28_dc) (args := [v0, v1]) hmixed Tryz.func28 (c := F28_b) rfl (rs := [.tmp 4]) rfl (by kernel_rfl) (Nat.le_of_ble_eq_true (by kernel_rfl)) (F28_all_e R _ _ _ w ((F28_s1_ok R) (initFr [v0, v1]) w h))

end Go.Proofs.YtpghlemcgjogpaaGreat
