import Derived.Test.YtpghlemcgjogpaaGreatProg
import Derived.Test.YtpghlemcgjogpaaGreatSx
import Derived.Test.YtpghlemcgjogpaaGreatT
set_option linter.unusedVariables false
set_option maxRecDepth 100000
set_option maxHeartbeats 400000
namespace Go.Proofs.YtpghlemcgjogpaaGreat
open Go.Sx
/-! ### slices.IndexFunc[[]hasp/locks.wish,hasp/locks.wish] -/
noncomputable def F20_b : Code := bodyOf Tryz.f20
def F20_dc : Nat → List (Nat × Bool)
  | _ => []
abbrev F20_k (R : RT) := resK Tryz.prog [.tmp 4] R
abbrev F20_W (R : RT) := wpE Tryz.prog F20_dc (F20_k R) (panK R)
noncomputable def F20_p0 := cR F20_b
noncomputable def F20_p1 := cR F20_p0
noncomputable def F20_p2 := cL F20_p1
noncomputable def F20_p3 := cL F20_p0
noncomputable def F20_p4 := cR F20_p3
noncomputable def F20_p5 := cI F20_p4
noncomputable def F20_p6 := cI F20_p5
noncomputable def F20_p7 := cR F20_p6
noncomputable def F20_p8 := cR F20_p7
noncomputable def F20_p9 := cR F20_p8
noncomputable def F20_p10 := cL F20_p8
noncomputable def F20_p11 := cI F20_p10
noncomputable def F20_p12 := cR F20_p11
noncomputable def F20_p13 := cR F20_p12
noncomputable def F20_p14 := cT F20_p13
noncomputable def F20_p15 := cL F20_p14
noncomputable def F20_p16 := cL F20_p11
noncomputable def F20_p17 := cL F20_p12
noncomputable def F20_p18 := cL F20_p7
noncomputable def F20_p19 := cL F20_p6
noncomputable def F20_p20 := cL F20_b
noncomputable def F20_p21 := cL F20_p3
def F20_s3_t (R : RT) (w : World) : Prop :=
  R (.returned (.int .i64 (-1))) w
theorem F20_s3_st (R : RT) (X : KX) (f : Fr) (w : World) (h : F20_s3_t R w) : F20_W R F20_p2 (F20_k R) X f w := Eq.mp (by kernel_rfl) h
def F20_s3 (R : RT) (w : World) : Prop :=
  F20_s3_t R w
noncomputable def F20_s3_c : Code := (.seq F20_p2 .ret)
theorem F20_s3_ok (R : RT) : OkW (F20_W R) ((fun f w => F20_s3 R w)) F20_s3_c (F20_k R) noX :=
  fun f w h => cut F20_p2 .ret (K := (F20_k R)) (fun f w h => ret_ok h) f w (F20_s3_st R _ f w h)
def F20_s8_t (R : RT) (K : V1) (v0 v1 v7 v8 : Value) (w : World) : Prop :=
  uv Tryz.prog R (binS .add 3 (.tmp 8) (.const (.int .i64 1)) v8 (.int .i64 1)) w (fun v18 w =>
  K v18 w)
theorem F20_s8_st (R : RT) (K : V1) (X : KX) (f : Fr) (w : World) (h : F20_s8_t R K (f 0) (f 1) (f 7) (f 8) w) : F20_W R F20_p9 (a1 K 8) X f w := Eq.mp (by kernel_rfl) h
def F20_s8 (R : RT) (rec4 : V1) (v0 v1 v7 v8 : Value) (w : World) : Prop :=
  F20_s8_t R rec4 v0 v1 v7 v8 w
noncomputable def F20_s8_c : Code := (.seq F20_p9 .skip)
theorem F20_s8_ok (R : RT) (rec4 : V1) : OkW (F20_W R) (a4 (F20_s8 R rec4) 0 1 7 8) F20_s8_c (a1 rec4 8) (kxB 0 ((fun f w => F20_s3 R w)) noX) :=
  fun f w h => cut F20_p9 .skip (K := (a1 rec4 8)) (fun f w h => skip_ok h) f w (F20_s8_st R rec4 _ f w h)
def F20_s11_t (R : RT) (v5 : Value) (w : World) : Prop :=
  R (.returned v5) w
theorem F20_s11_st (R : RT) (X : KX) (f : Fr) (w : World) (h : F20_s11_t R (f 5) w) : F20_W R F20_p15 (F20_k R) X f w := Eq.mp (by kernel_rfl) h
def F20_s11 (R : RT) (rec4 : V1) (v5 : Value) (w : World) : Prop :=
  F20_s11_t R v5 w
noncomputable def F20_s11_c : Code := (.seq F20_p15 .ret)
theorem F20_s11_ok (R : RT) (rec4 : V1) : OkW (F20_W R) (a1 (F20_s11 R rec4) 5) F20_s11_c (a4 (F20_s8 R rec4) 0 1 7 8) (kxB 1 (a4 (F20_s8 R rec4) 0 1 7 8) (kxB 0 ((fun f w => F20_s3 R w)) noX)) :=
  fun f w h => cut F20_p15 .ret (K := (F20_k R)) (fun f w h => ret_ok h) f w (F20_s11_st R _ f w h)
def F20_s10 (R : RT) (rec4 : V1) (v0 v1 v5 v7 v8 v16 : Value) (w : World) : Prop :=
  Bc v16
    (F20_s11 R rec4 v5 w)
    (F20_s8 R rec4 v0 v1 v7 v8 w)
noncomputable def F20_s10_c : Code := (.seq F20_p13 .skip)
theorem F20_s10_e (R : RT) (K : KF) (X : KX) (f : Fr) (w : World) (h : Bc (f 16) (F20_W R F20_s11_c K X f w) (F20_W R .skip K X f w)) : (F20_W R F20_p13 K X f w) := Eq.mp (by kernel_rfl) h
theorem F20_s10_ok (R : RT) (rec4 : V1) : OkW (F20_W R) (a6 (F20_s10 R rec4) 0 1 5 7 8 16) F20_s10_c (a4 (F20_s8 R rec4) 0 1 7 8) (kxB 1 (a4 (F20_s8 R rec4) 0 1 7 8) (kxB 0 ((fun f w => F20_s3 R w)) noX)) :=
  fun f w h => cut F20_p13 .skip (K := (a4 (F20_s8 R rec4) 0 1 7 8)) (fun f w h => skip_ok h) f w (F20_s10_e R _ _ f w (Bc_imp (x' := (F20_W R F20_s11_c (a4 (F20_s8 R rec4) 0 1 7 8) (kxB 1 (a4 (F20_s8 R rec4) 0 1 7 8) (kxB 0 ((fun f w => F20_s3 R w)) noX)) f w)) (y' := (F20_W R .skip (a4 (F20_s8 R rec4) 0 1 7 8) (kxB 1 (a4 (F20_s8 R rec4) 0 1 7 8) (kxB 0 ((fun f w => F20_s3 R w)) noX)) f w)) ((F20_s11_ok R rec4) f w) ((fun f w h => skip_ok h) f w) h))
def F20_s9_t (R : RT) (K : V6) (v0 v1 v7 v8 : Value) (w : World) : Prop :=
  uv Tryz.prog R (Instr.indexAt 56 v0 v8) w (fun v14 w =>
  uv Tryz.prog R (Instr.loadAt 61 v14) w (fun v15 w =>
  un Tryz.prog R (callV v1 #[v15]) w (fun v16 w =>
  K v0 v1 v8 v7 v8 v16 w)))
theorem F20_s9_st (R : RT) (K : V6) (X : KX) (f : Fr) (w : World) (h : F20_s9_t R K (f 0) (f 1) (f 7) (f 8) w) : F20_W R (.seq F20_p16 F20_p17) (a6 K 0 1 5 7 8 16) X f w := Eq.mp (by kernel_rfl) h
def F20_s9 (R : RT) (rec4 : V1) (v0 v1 v7 v8 : Value) (w : World) : Prop :=
  F20_s9_t R (F20_s10 R rec4) v0 v1 v7 v8 w
noncomputable def F20_s9_c : Code := (.seq (.seq F20_p16 F20_p17) F20_s10_c)
theorem F20_s9_ok (R : RT) (rec4 : V1) : OkW (F20_W R) (a4 (F20_s9 R rec4) 0 1 7 8) F20_s9_c (a4 (F20_s8 R rec4) 0 1 7 8) (kxB 1 (a4 (F20_s8 R rec4) 0 1 7 8) (kxB 0 ((fun f w => F20_s3 R w)) noX)) :=
  fun f w h => cut (.seq F20_p16 F20_p17) F20_s10_c (K := (a6 (F20_s10 R rec4) 0 1 5 7 8 16)) (F20_s10_ok R rec4) f w (F20_s9_st R (F20_s10 R rec4) _ f w h)
noncomputable def F20_s7_c : Code := (.seq F20_p10 F20_s8_c)
theorem F20_s7_e (R : RT) (K : KF) (X : KX) (f : Fr) (w : World) (h : F20_W R F20_s9_c K (kxB 1 K X) f w) : F20_W R F20_p10 K X f w := Eq.mp (by kernel_rfl) h
theorem F20_s7_ok (R : RT) (rec4 : V1) : OkW (F20_W R) (a4 (F20_s9 R rec4) 0 1 7 8) F20_s7_c (a1 rec4 8) (kxB 0 ((fun f w => F20_s3 R w)) noX) :=
  fun f w h => cut F20_p10 F20_s8_c (K := (a4 (F20_s8 R rec4) 0 1 7 8)) (F20_s8_ok R rec4) f w (F20_s7_e R _ _ f w ((F20_s9_ok R rec4) f w h))
def F20_s6 (R : RT) (rec4 : V1) (v0 v1 v7 v8 v9 : Value) (w : World) : Prop :=
  Bc v9
    (F20_s9 R rec4 v0 v1 v7 v8 w)
    (F20_s3 R w)
noncomputable def F20_s6_c : Code := (.seq F20_p18 F20_s7_c)
theorem F20_s6_e (R : RT) (K : KF) (X : KX) (f : Fr) (w : World) (h : Bc (f 9) (F20_W R .skip K X f w) (F20_W R (.exit 0) K X f w)) : (F20_W R F20_p18 K X f w) := Eq.mp (by kernel_rfl) h
theorem F20_s6_ok (R : RT) (rec4 : V1) : OkW (F20_W R) (a5 (F20_s6 R rec4) 0 1 7 8 9) F20_s6_c (a1 rec4 8) (kxB 0 ((fun f w => F20_s3 R w)) noX) :=
  fun f w h => cut F20_p18 F20_s7_c (K := (a4 (F20_s9 R rec4) 0 1 7 8)) (F20_s7_ok R rec4) f w (F20_s6_e R _ _ f w (Bc_imp (x' := (F20_W R .skip (a4 (F20_s9 R rec4) 0 1 7 8) (kxB 0 ((fun f w => F20_s3 R w)) noX) f w)) (y' := (F20_W R (.exit 0) (a4 (F20_s9 R rec4) 0 1 7 8) (kxB 0 ((fun f w => F20_s3 R w)) noX) f w)) ((fun f w h => skip_ok h) f w) ((fun f w h => exit_hit h) f w) h))
def F20_s5_t (R : RT) (K : V5) (v0 v1 v7 v8 : Value) (w : World) : Prop :=
  uv Tryz.prog R (binS .lss 3 (.tmp 8) (.tmp 7) v8 v7) w (fun v9 w =>
  K v0 v1 v7 v8 v9 w)
theorem F20_s5_st (R : RT) (K : V5) (X : KX) (f : Fr) (w : World) (h : F20_s5_t R K (f 0) (f 1) (f 7) (f 8) w) : F20_W R F20_p19 (a5 K 0 1 7 8 9) X f w := Eq.mp (by kernel_rfl) h
def F20_s5 (R : RT) (rec4 : V1) (v0 v1 v7 v8 : Value) (w : World) : Prop :=
  F20_s5_t R (F20_s6 R rec4) v0 v1 v7 v8 w
noncomputable def F20_s5_c : Code := (.seq F20_p19 F20_s6_c)
theorem F20_s5_ok (R : RT) (rec4 : V1) : OkW (F20_W R) (a4 (F20_s5 R rec4) 0 1 7 8) F20_s5_c (a1 rec4 8) (kxB 0 ((fun f w => F20_s3 R w)) noX) :=
  fun f w h => cut F20_p19 F20_s6_c (K := (a5 (F20_s6 R rec4) 0 1 7 8 9)) (F20_s6_ok R rec4) f w (F20_s5_st R (F20_s6 R rec4) _ f w h)
def F20_s4 (R : RT) (v0 v1 v7 v8 : Value) (w : World) : Prop :=
  Lp1 (fun rec4 v8 w => F20_s5 R rec4 v0 v1 v7 v8 w) v8 w
theorem F20_s4_e (R : RT) (K : KF) (X : KX) (f : Fr) (w : World) (h : F20_W R (.loop F20_p6) K X f w) : F20_W R F20_p5 K X f w := Eq.mp (by kernel_rfl) h
theorem F20_s4b_e (R : RT) (K : KF) (X : KX) (f : Fr) (w : World) (h : F20_W R F20_s5_c K X f w) : F20_W R F20_p6 K X f w := Eq.mp (by kernel_rfl) h
theorem F20_s4_ok (R : RT) : OkW (F20_W R) (a4 (F20_s4 R) 0 1 7 8) F20_p5 (fun f w => F20_s3 R w) (kxB 0 ((fun f w => F20_s3 R w)) noX) :=
  fun f w h => F20_s4_e R _ _ f w (loop1_ok (P := Tryz.prog) (dc := F20_dc) (kr := (F20_k R)) (pan := panK R) F20_p6 (kn := (fun f w => F20_s3 R w)) (kx := (kxB 0 ((fun f w => F20_s3 R w)) noX)) (s0 := 8) (fun rec4 v8 w => F20_s5 R rec4 (f 0) (f 1) (f 7) v8 w) f (fun rec4 f' w' hf h' => F20_s4b_e R _ _ f' w' ((F20_s5_ok R rec4) f' w' (by simp only [a4, hf 0 (by kernel_rfl), hf 1 (by kernel_rfl), hf 7 (by kernel_rfl)]; exact h'))) w h)
noncomputable def F20_s2_c : Code := (.seq F20_p4 F20_s3_c)
theorem F20_s2_e (R : RT) (K : KF) (X : KX) (f : Fr) (w : World) (h : F20_W R F20_p5 K (kxB 0 K X) f w) : F20_W R F20_p4 K X f w := Eq.mp (by kernel_rfl) h
theorem F20_s2_ok (R : RT) : OkW (F20_W R) (a4 (F20_s4 R) 0 1 7 8) F20_s2_c (F20_k R) noX :=
  fun f w h => cut F20_p4 F20_s3_c (K := (fun f w => F20_s3 R w)) (F20_s3_ok R) f w (F20_s2_e R _ _ f w ((F20_s4_ok R) f w h))
def F20_s1_t (R : RT) (K : V4) (v0 v1 : Value) (w : World) : Prop :=
  un Tryz.prog R (builtin .len #[56] 3 #[false] #[v0]) w (fun v7 w =>
  K v0 v1 v7 (.int .i64 0) w)
theorem F20_s1_st (R : RT) (K : V4) (X : KX) (f : Fr) (w : World) (h : F20_s1_t R K (f 0) (f 1) w) : F20_W R (.seq F20_p20 F20_p21) (a4 K 0 1 7 8) X f w := Eq.mp (by kernel_rfl) h
def F20_s1 (R : RT) (v0 v1 : Value) (w : World) : Prop :=
  F20_s1_t R (F20_s4 R) v0 v1 w
noncomputable def F20_s1_c : Code := (.seq (.seq F20_p20 F20_p21) F20_s2_c)
theorem F20_s1_ok (R : RT) : OkW (F20_W R) (a2 (F20_s1 R) 0 1) F20_s1_c (F20_k R) noX :=
  fun f w h => cut (.seq F20_p20 F20_p21) F20_s2_c (K := (a4 (F20_s4 R) 0 1 7 8)) (F20_s2_ok R) f w (F20_s1_st R (F20_s4 R) _ f w h)
theorem F20_all_e (R : RT) (K : KF) (X : KX) (f : Fr) (w : World) (h : F20_W R F20_s1_c K X f w) : F20_W R F20_b K X f w := Eq.mp (by kernel_rfl) h
theorem F20_calls (R : RT) (v0 v1 : Value) (w : World) (h : F20_s1 R v0 v1 w) : Calls Tryz.prog 20 #[v0, v1] w R :=
  calls_of_wpE (dc := F20_dc) (args := [v0, v1]) hmixed Tryz.func20 (c := F20_b) rfl (rs := [.tmp 4]) rfl (by kernel_rfl) (Nat.le_of_ble_eq_true (by kernel_rfl)) (F20_all_e R _ _ _ w ((F20_s1_ok R) (initFr [v0, v1]) w h))

/-! ### slices.Insert[[]hasp/locks.wish,hasp/locks.wish] -/
noncomputable def F22_b : Code := bodyOf Tryz.f22
def F22_dc : Nat → List (Nat × Bool)
  | 15 => [(0, true), (1, true), (2, true), (3, true), (4, true), (5, true), (6, true), (7, true), (8, false)]
  | 11 => [(0, true), (1, true), (2, true), (3, true), (4, true), (5, true), (6, true), (7, true), (8, false)]
  | _ => []
abbrev F22_k (R : RT) := resK Tryz.prog [.tmp 6] R
abbrev F22_W (R : RT) := wpE Tryz.prog F22_dc (F22_k R) (panK R)
noncomputable def F22_p0 := cR F22_b
noncomputable def F22_p1 := cR F22_p0
noncomputable def F22_p2 := cR F22_p1
noncomputable def F22_p3 := cR F22_p2
noncomputable def F22_p4 := cR F22_p3
noncomputable def F22_p5 := cR F22_p4
noncomputable def F22_p6 := cR F22_p5
noncomputable def F22_p7 := cR F22_p6
noncomputable def F22_p8 := cR F22_p7
noncomputable def F22_p9 := cL F22_p8
noncomputable def F22_p10 := cR F22_p8
noncomputable def F22_p11 := cL F22_p10
noncomputable def F22_p12 := cR F22_p10
noncomputable def F22_p13 := cL F22_p12
noncomputable def F22_p14 := cL F22_p7
noncomputable def F22_p15 := cR F22_p14
noncomputable def F22_p16 := cT F22_p15
noncomputable def F22_p17 := cL F22_p16
noncomputable def F22_p18 := cR F22_p16
noncomputable def F22_p19 := cL F22_p18
noncomputable def F22_p20 := cR F22_p18
noncomputable def F22_p21 := cL F22_p20
noncomputable def F22_p22 := cL F22_p6
noncomputable def F22_p23 := cL F22_p14
noncomputable def F22_p24 := cL F22_p5
noncomputable def F22_p25 := cR F22_p24
noncomputable def F22_p26 := cT F22_p25
noncomputable def F22_p27 := cL F22_p26
noncomputable def F22_p28 := cR F22_p26
noncomputable def F22_p29 := cL F22_p28
noncomputable def F22_p30 := cR F22_p28
noncomputable def F22_p31 := cL F22_p30
noncomputable def F22_p32 := cR F22_p30
noncomputable def F22_p33 := cL F22_p32
noncomputable def F22_p34 := cL F22_p24
noncomputable def F22_p35 := cL F22_p4
noncomputable def F22_p36 := cR F22_p35
noncomputable def F22_p37 := cT F22_p36
noncomputable def F22_p38 := cL F22_p37
noncomputable def F22_p39 := cL F22_p3
noncomputable def F22_p40 := cL F22_p35
noncomputable def F22_p41 := cL F22_p2
noncomputable def F22_p42 := cR F22_p41
noncomputable def F22_p43 := cT F22_p42
noncomputable def F22_p44 := cL F22_p43
noncomputable def F22_p45 := cL F22_b
noncomputable def F22_p46 := cL F22_p0
noncomputable def F22_p47 := cL F22_p1
noncomputable def F22_p48 := cL F22_p41
def F22_s9_t (R : RT) (v0 v1 v2 v7 v8 : Value) (w : World) : Prop :=
  uv Tryz.prog R (Instr.sliceAt 56 v0 (some v8) none none) w (fun v86 w =>
  un Tryz.prog R (builtin .copy #[56, 56] 3 #[false, false] #[v86, v2]) w (fun v88 w =>
  uv Tryz.prog R (Instr.sliceAt 56 v0 (some v1) none none) w (fun v91 w =>
  un Tryz.prog R (callFunc 52 #[v91, v7]) w (fun v93 w =>
  R (.returned v0) w))))
theorem F22_s9_st (R : RT) (X : KX) (f : Fr) (w : World) (h : F22_s9_t R (f 0) (f 1) (f 2) (f 7) (f 8) w) : F22_W R (.seq F22_p9 (.seq F22_p11 F22_p13)) (F22_k R) X f w := Eq.mp (by kernel_rfl) h
def F22_s9 (R : RT) (v0 v1 v2 v7 v8 : Value) (w : World) : Prop :=
  F22_s9_t R v0 v1 v2 v7 v8 w
noncomputable def F22_s9_c : Code := (.seq (.seq F22_p9 (.seq F22_p11 F22_p13)) .ret)
theorem F22_s9_ok (R : RT) : OkW (F22_W R) (a5 (F22_s9 R) 0 1 2 7 8) F22_s9_c (F22_k R) noX :=
  fun f w h => cut (.seq F22_p9 (.seq F22_p11 F22_p13)) .ret (K := (F22_k R)) (fun f w h => ret_ok h) f w (F22_s9_st R _ f w h)
def F22_s10_t (R : RT) (v0 v1 v2 v7 : Value) (w : World) : Prop :=
  Dr (fun S w =>
  HV Tryz.prog S (binS .add 3 (.tmp 70) (.tmp 71) v1 v7) (fun v72 =>
  HV Tryz.prog S (Instr.sliceAt 56 v0 (some v72) none none) (fun v73 =>
  HV Tryz.prog S (Instr.sliceAt 56 v0 (some v1) none none) (fun v76 =>
  un Tryz.prog R (builtin .copy #[56, 56] 3 #[false, false] #[v73, v76]) w (fun v77 w =>
  uv Tryz.prog R (Instr.sliceAt 56 v0 (some v1) none none) w (fun v80 w =>
  un Tryz.prog R (builtin .copy #[56, 56] 3 #[false, false] #[v80, v2]) w (fun v82 w =>
  R (.returned v0) w))))))) w
theorem F22_s10_st (R : RT) (X : KX) (f : Fr) (w : World) (h : F22_s10_t R (f 0) (f 1) (f 2) (f 7) w) : F22_W R (.seq F22_p17 (.seq F22_p19 F22_p21)) (F22_k R) X f w := Eq.mp (by kernel_rfl) h
def F22_s10 (R : RT) (v0 v1 v2 v7 : Value) (w : World) : Prop :=
  F22_s10_t R v0 v1 v2 v7 w
noncomputable def F22_s10_c : Code := (.seq (.seq F22_p17 (.seq F22_p19 F22_p21)) .ret)
theorem F22_s10_ok (R : RT) : OkW (F22_W R) (a4 (F22_s10 R) 0 1 2 7) F22_s10_c (a5 (F22_s9 R) 0 1 2 7 8) noX :=
  fun f w h => cut (.seq F22_p17 (.seq F22_p19 F22_p21)) .ret (K := (F22_k R)) (fun f w h => ret_ok h) f w (F22_s10_st R _ f w h)
def F22_s8 (R : RT) (v0 v1 v2 v7 v8 v68 : Value) (w : World) : Prop :=
  Bc v68
    (F22_s10 R v0 v1 v2 v7 w)
    (F22_s9 R v0 v1 v2 v7 v8 w)
noncomputable def F22_s8_c : Code := (.seq F22_p15 F22_s9_c)
theorem F22_s8_e (R : RT) (K : KF) (X : KX) (f : Fr) (w : World) (h : Bc (f 68) (F22_W R F22_s10_c K X f w) (F22_W R .skip K X f w)) : (F22_W R F22_p15 K X f w) := Eq.mp (by kernel_rfl) h
theorem F22_s8_ok (R : RT) : OkW (F22_W R) (a6 (F22_s8 R) 0 1 2 7 8 68) F22_s8_c (F22_k R) noX :=
  fun f w h => cut F22_p15 F22_s9_c (K := (a5 (F22_s9 R) 0 1 2 7 8)) (F22_s9_ok R) f w (F22_s8_e R _ _ f w (Bc_imp (x' := (F22_W R F22_s10_c (a5 (F22_s9 R) 0 1 2 7 8) noX f w)) (y' := (F22_W R .skip (a5 (F22_s9 R) 0 1 2 7 8) noX f w)) ((F22_s10_ok R) f w) ((fun f w h => skip_ok h) f w) h))
def F22_s7_t (R : RT) (K : V6) (v0 v1 v2 v7 v8 : Value) (w : World) : Prop :=
  uv Tryz.prog R (binS .add 3 (.tmp 57) (.tmp 58) v8 v7) w (fun v59 w =>
  uv Tryz.prog R (Instr.sliceAt 56 v0 none (some v59) none) w (fun v60 w =>
  uv Tryz.prog R (binS .add 3 (.tmp 63) (.tmp 64) v1 v7) w (fun v65 w =>
  uv Tryz.prog R (Instr.sliceAt 56 v60 (some v65) none none) w (fun v66 w =>
  un Tryz.prog R (callFunc 51 #[v2, v66]) w (fun v67 w =>
  uv Tryz.prog R (Op.unary .not v67) w (fun v68 w =>
  K v60 v1 v2 v7 v8 v68 w))))))
theorem F22_s7_st (R : RT) (K : V6) (X : KX) (f : Fr) (w : World) (h : F22_s7_t R K (f 0) (f 1) (f 2) (f 7) (f 8) w) : F22_W R (.seq F22_p22 F22_p23) (a6 K 0 1 2 7 8 68) X f w := Eq.mp (by kernel_rfl) h
def F22_s7 (R : RT) (v0 v1 v2 v7 v8 : Value) (w : World) : Prop :=
  F22_s7_t R (F22_s8 R) v0 v1 v2 v7 v8 w
noncomputable def F22_s7_c : Code := (.seq (.seq F22_p22 F22_p23) F22_s8_c)
theorem F22_s7_ok (R : RT) : OkW (F22_W R) (a5 (F22_s7 R) 0 1 2 7 8) F22_s7_c (F22_k R) noX :=
  fun f w h => cut (.seq F22_p22 F22_p23) F22_s8_c (K := (a6 (F22_s8 R) 0 1 2 7 8 68)) (F22_s8_ok R) f w (F22_s7_st R (F22_s8 R) _ f w h)
def F22_s11_t (R : RT) (v0 v1 v2 v7 v8 : Value) (w : World) : Prop :=
  uv Tryz.prog R (Instr.sliceAt 56 v0 none (some v1) none) w (fun v34 w =>
  uv Tryz.prog R (binS .add 3 (.tmp 35) (.tmp 36) v8 v7) w (fun v37 w =>
  uv Tryz.prog R (binS .sub 3 (.tmp 37) (.tmp 38) v37 v1) w (fun v39 w =>
  un Tryz.prog R (builtin .append #[56, 3] 56 #[false, false] #[v34, v39]) w (fun v40 w =>
  uv Tryz.prog R (Instr.sliceAt 56 v40 (some v1) none none) w (fun v43 w =>
  un Tryz.prog R (builtin .copy #[56, 56] 3 #[false, false] #[v43, v2]) w (fun v45 w =>
  Dr (fun S w =>
  HV Tryz.prog S (binS .add 3 (.tmp 47) (.tmp 48) v1 v7) (fun v49 =>
  HV Tryz.prog S (Instr.sliceAt 56 v40 (some v49) none none) (fun v50 =>
  HV Tryz.prog S (Instr.sliceAt 56 v0 (some v1) none none) (fun v53 =>
  un Tryz.prog R (builtin .copy #[56, 56] 3 #[false, false] #[v50, v53]) w (fun v54 w =>
  R (.returned v40) w))))) w))))))
theorem F22_s11_st (R : RT) (X : KX) (f : Fr) (w : World) (h : F22_s11_t R (f 0) (f 1) (f 2) (f 7) (f 8) w) : F22_W R (.seq F22_p27 (.seq F22_p29 (.seq F22_p31 F22_p33))) (F22_k R) X f w := Eq.mp (by kernel_rfl) h
def F22_s11 (R : RT) (v0 v1 v2 v7 v8 : Value) (w : World) : Prop :=
  F22_s11_t R v0 v1 v2 v7 v8 w
noncomputable def F22_s11_c : Code := (.seq (.seq F22_p27 (.seq F22_p29 (.seq F22_p31 F22_p33))) .ret)
theorem F22_s11_ok (R : RT) : OkW (F22_W R) (a5 (F22_s11 R) 0 1 2 7 8) F22_s11_c (a5 (F22_s7 R) 0 1 2 7 8) noX :=
  fun f w h => cut (.seq F22_p27 (.seq F22_p29 (.seq F22_p31 F22_p33))) .ret (K := (F22_k R)) (fun f w h => ret_ok h) f w (F22_s11_st R _ f w h)
def F22_s6 (R : RT) (v0 v1 v2 v7 v8 v31 : Value) (w : World) : Prop :=
  Bc v31
    (F22_s11 R v0 v1 v2 v7 v8 w)
    (F22_s7 R v0 v1 v2 v7 v8 w)
noncomputable def F22_s6_c : Code := (.seq F22_p25 F22_s7_c)
theorem F22_s6_e (R : RT) (K : KF) (X : KX) (f : Fr) (w : World) (h : Bc (f 31) (F22_W R F22_s11_c K X f w) (F22_W R .skip K X f w)) : (F22_W R F22_p25 K X f w) := Eq.mp (by kernel_rfl) h
theorem F22_s6_ok (R : RT) : OkW (F22_W R) (a6 (F22_s6 R) 0 1 2 7 8 31) F22_s6_c (F22_k R) noX :=
  fun f w h => cut F22_p25 F22_s7_c (K := (a5 (F22_s7 R) 0 1 2 7 8)) (F22_s7_ok R) f w (F22_s6_e R _ _ f w (Bc_imp (x' := (F22_W R F22_s11_c (a5 (F22_s7 R) 0 1 2 7 8) noX f w)) (y' := (F22_W R .skip (a5 (F22_s7 R) 0 1 2 7 8) noX f w)) ((F22_s11_ok R) f w) ((fun f w h => skip_ok h) f w) h))
def F22_s5_t (R : RT) (K : V6) (v0 v1 v2 v7 v8 : Value) (w : World) : Prop :=
  uv Tryz.prog R (binS .add 3 (.tmp 26) (.tmp 27) v8 v7) w (fun v28 w =>
  un Tryz.prog R (builtin .cap #[56] 3 #[false] #[v0]) w (fun v30 w =>
  uv Tryz.prog R (binS .gtr 3 (.tmp 28) (.tmp 30) v28 v30) w (fun v31 w =>
  K v0 v1 v2 v7 v8 v31 w)))
theorem F22_s5_st (R : RT) (K : V6) (X : KX) (f : Fr) (w : World) (h : F22_s5_t R K (f 0) (f 1) (f 2) (f 7) (f 8) w) : F22_W R F22_p34 (a6 K 0 1 2 7 8 31) X f w := Eq.mp (by kernel_rfl) h
def F22_s5 (R : RT) (v0 v1 v2 v7 v8 : Value) (w : World) : Prop :=
  F22_s5_t R (F22_s6 R) v0 v1 v2 v7 v8 w
noncomputable def F22_s5_c : Code := (.seq F22_p34 F22_s6_c)
theorem F22_s5_ok (R : RT) : OkW (F22_W R) (a5 (F22_s5 R) 0 1 2 7 8) F22_s5_c (F22_k R) noX :=
  fun f w h => cut F22_p34 F22_s6_c (K := (a6 (F22_s6 R) 0 1 2 7 8 31)) (F22_s6_ok R) f w (F22_s5_st R (F22_s6 R) _ f w h)
def F22_s12_t (R : RT) (v0 v2 : Value) (w : World) : Prop :=
  un Tryz.prog R (builtin .append #[56, 56] 56 #[false, false] #[v0, v2]) w (fun v25 w =>
  R (.returned v25) w)
theorem F22_s12_st (R : RT) (X : KX) (f : Fr) (w : World) (h : F22_s12_t R (f 0) (f 2) w) : F22_W R F22_p38 (F22_k R) X f w := Eq.mp (by kernel_rfl) h
def F22_s12 (R : RT) (v0 v2 : Value) (w : World) : Prop :=
  F22_s12_t R v0 v2 w
noncomputable def F22_s12_c : Code := (.seq F22_p38 .ret)
theorem F22_s12_ok (R : RT) : OkW (F22_W R) (a2 (F22_s12 R) 0 2) F22_s12_c (a5 (F22_s5 R) 0 1 2 7 8) noX :=
  fun f w h => cut F22_p38 .ret (K := (F22_k R)) (fun f w h => ret_ok h) f w (F22_s12_st R _ f w h)
def F22_s4 (R : RT) (v0 v1 v2 v7 v8 v22 : Value) (w : World) : Prop :=
  Bc v22
    (F22_s12 R v0 v2 w)
    (F22_s5 R v0 v1 v2 v7 v8 w)
noncomputable def F22_s4_c : Code := (.seq F22_p36 F22_s5_c)
theorem F22_s4_e (R : RT) (K : KF) (X : KX) (f : Fr) (w : World) (h : Bc (f 22) (F22_W R F22_s12_c K X f w) (F22_W R .skip K X f w)) : (F22_W R F22_p36 K X f w) := Eq.mp (by kernel_rfl) h
theorem F22_s4_ok (R : RT) : OkW (F22_W R) (a6 (F22_s4 R) 0 1 2 7 8 22) F22_s4_c (F22_k R) noX :=
  fun f w h => cut F22_p36 F22_s5_c (K := (a5 (F22_s5 R) 0 1 2 7 8)) (F22_s5_ok R) f w (F22_s4_e R _ _ f w (Bc_imp (x' := (F22_W R F22_s12_c (a5 (F22_s5 R) 0 1 2 7 8) noX f w)) (y' := (F22_W R .skip (a5 (F22_s5 R) 0 1 2 7 8) noX f w)) ((F22_s12_ok R) f w) ((fun f w h => skip_ok h) f w) h))
def F22_s3_t (R : RT) (K : V6) (v0 v1 v2 v7 : Value) (w : World) : Prop :=
  un Tryz.prog R (builtin .len #[56] 3 #[false] #[v0]) w (fun v19 w =>
  uv Tryz.prog R (binS .eql 3 (.tmp 20) (.tmp 21) v1 v19) w (fun v22 w =>
  K v0 v1 v2 v7 v19 v22 w))
theorem F22_s3_st (R : RT) (K : V6) (X : KX) (f : Fr) (w : World) (h : F22_s3_t R K (f 0) (f 1) (f 2) (f 7) w) : F22_W R (.seq F22_p39 F22_p40) (a6 K 0 1 2 7 8 22) X f w := Eq.mp (by kernel_rfl) h
def F22_s3 (R : RT) (v0 v1 v2 v7 : Value) (w : World) : Prop :=
  F22_s3_t R (F22_s4 R) v0 v1 v2 v7 w
noncomputable def F22_s3_c : Code := (.seq (.seq F22_p39 F22_p40) F22_s4_c)
theorem F22_s3_ok (R : RT) : OkW (F22_W R) (a4 (F22_s3 R) 0 1 2 7) F22_s3_c (F22_k R) noX :=
  fun f w h => cut (.seq F22_p39 F22_p40) F22_s4_c (K := (a6 (F22_s4 R) 0 1 2 7 8 22)) (F22_s4_ok R) f w (F22_s3_st R (F22_s4 R) _ f w h)
def F22_s13_t (R : RT) (v0 : Value) (w : World) : Prop :=
  R (.returned v0) w
theorem F22_s13_st (R : RT) (X : KX) (f : Fr) (w : World) (h : F22_s13_t R (f 0) w) : F22_W R F22_p44 (F22_k R) X f w := Eq.mp (by kernel_rfl) h
def F22_s13 (R : RT) (v0 : Value) (w : World) : Prop :=
  F22_s13_t R v0 w
noncomputable def F22_s13_c : Code := (.seq F22_p44 .ret)
theorem F22_s13_ok (R : RT) : OkW (F22_W R) (a1 (F22_s13 R) 0) F22_s13_c (a4 (F22_s3 R) 0 1 2 7) noX :=
  fun f w h => cut F22_p44 .ret (K := (F22_k R)) (fun f w h => ret_ok h) f w (F22_s13_st R _ f w h)
def F22_s2 (R : RT) (v0 v1 v2 v7 v16 : Value) (w : World) : Prop :=
  Bc v16
    (F22_s13 R v0 w)
    (F22_s3 R v0 v1 v2 v7 w)
noncomputable def F22_s2_c : Code := (.seq F22_p42 F22_s3_c)
theorem F22_s2_e (R : RT) (K : KF) (X : KX) (f : Fr) (w : World) (h : Bc (f 16) (F22_W R F22_s13_c K X f w) (F22_W R .skip K X f w)) : (F22_W R F22_p42 K X f w) := Eq.mp (by kernel_rfl) h
theorem F22_s2_ok (R : RT) : OkW (F22_W R) (a5 (F22_s2 R) 0 1 2 7 16) F22_s2_c (F22_k R) noX :=
  fun f w h => cut F22_p42 F22_s3_c (K := (a4 (F22_s3 R) 0 1 2 7)) (F22_s3_ok R) f w (F22_s2_e R _ _ f w (Bc_imp (x' := (F22_W R F22_s13_c (a4 (F22_s3 R) 0 1 2 7) noX f w)) (y' := (F22_W R .skip (a4 (F22_s3 R) 0 1 2 7) noX f w)) ((F22_s13_ok R) f w) ((fun f w h => skip_ok h) f w) h))
def F22_s1_t (R : RT) (K : V5) (v0 v1 v2 : Value) (w : World) : Prop :=
  uv Tryz.prog R (Instr.sliceAt 56 v0 (some v1) none none) w (fun v12 w =>
  un Tryz.prog R (builtin .len #[56] 3 #[false] #[v2]) w (fun v14 w =>
  uv Tryz.prog R (binS .eql 3 (.tmp 15) (.const (.int .i64 0)) v14 (.int .i64 0)) w (fun v16 w =>
  K v0 v1 v2 v14 v16 w)))
theorem F22_s1_st (R : RT) (K : V5) (X : KX) (f : Fr) (w : World) (h : F22_s1_t R K (f 0) (f 1) (f 2) w) : F22_W R (.seq F22_p45 (.seq F22_p46 (.seq F22_p47 F22_p48))) (a5 K 0 1 2 7 16) X f w := Eq.mp (by kernel_rfl) h
def F22_s1 (R : RT) (v0 v1 v2 : Value) (w : World) : Prop :=
  F22_s1_t R (F22_s2 R) v0 v1 v2 w
noncomputable def F22_s1_c : Code := (.seq (.seq F22_p45 (.seq F22_p46 (.seq F22_p47 F22_p48))) F22_s2_c)
theorem F22_s1_ok (R : RT) : OkW (F22_W R) (a3 (F22_s1 R) 0 1 2) F22_s1_c (F22_k R) noX :=
  fun f w h => cut (.seq F22_p45 (.seq F22_p46 (.seq F22_p47 F22_p48))) F22_s2_c (K := (a5 (F22_s2 R) 0 1 2 7 16)) (F22_s2_ok R) f w (F22_s1_st R (F22_s2 R) _ f w h)
theorem F22_all_e (R : RT) (K : KF) (X : KX) (f : Fr) (w : World) (h : F22_W R F22_s1_c K X f w) : F22_W R F22_b K X f w := Eq.mp (by kernel_rfl) h
theorem F22_calls (R : RT) (v0 v1 v2 : Value) (w : World) (h : F22_s1 R v0 v1 v2 w) : Calls Tryz.prog 22 #[v0, v1, v2] w R :=
  calls_of_wpE (dc := F22_dc) (args := [v0, v1, v2]) hmixed Tryz.func22 (c := F22_b) rfl (rs := [.tmp 6]) rfl (by kernel_rfl) (Nat.le_of_ble_eq_true (by kernel_rfl)) (F22_all_e R _ _ _ w ((F22_s1_ok R) (initFr [v0, v1, v2]) w h))

/-! ### slices.DeleteFunc[[]hasp/locks.wish,hasp/locks.wish] -/
noncomputable def F32_b : Code := bodyOf Tryz.f32
def F32_dc : Nat → List (Nat × Bool)
  | _ => []
abbrev F32_k (R : RT) := resK Tryz.prog [.tmp 4] R
abbrev F32_W (R : RT) := wpE Tryz.prog F32_dc (F32_k R) (panK R)
noncomputable def F32_p0 := cR F32_b
noncomputable def F32_p1 := cR F32_p0
noncomputable def F32_p2 := cR F32_p1
noncomputable def F32_p3 := cR F32_p2
noncomputable def F32_p4 := cL F32_p3
noncomputable def F32_p5 := cR F32_p3
noncomputable def F32_p6 := cL F32_p5
noncomputable def F32_p7 := cL F32_p2
noncomputable def F32_p8 := cR F32_p7
noncomputable def F32_p9 := cI F32_p8
noncomputable def F32_p10 := cI F32_p9
noncomputable def F32_p11 := cR F32_p10
noncomputable def F32_p12 := cR F32_p11
noncomputable def F32_p13 := cL F32_p11
noncomputable def F32_p14 := cI F32_p13
noncomputable def F32_p15 := cR F32_p14
noncomputable def F32_p16 := cR F32_p15
noncomputable def F32_p17 := cT F32_p16
noncomputable def F32_p18 := cL F32_p17
noncomputable def F32_p19 := cR F32_p17
noncomputable def F32_p20 := cL F32_p14
noncomputable def F32_p21 := cL F32_p15
noncomputable def F32_p22 := cL F32_p10
noncomputable def F32_p23 := cR F32_p22
noncomputable def F32_p24 := cL F32_p22
noncomputable def F32_p25 := cL F32_p7
noncomputable def F32_p26 := cL F32_p1
noncomputable def F32_p27 := cR F32_p26
noncomputable def F32_p28 := cT F32_p27
noncomputable def F32_p29 := cL F32_p28
noncomputable def F32_p30 := cL F32_b
noncomputable def F32_p31 := cL F32_p0
noncomputable def F32_p32 := cL F32_p26
def F32_s5_t (R : RT) (v0 v5 : Value) (w : World) : Prop :=
  uv Tryz.prog R (Instr.sliceAt 56 v0 (some v5) none none) w (fun v38 w =>
  un Tryz.prog R (builtin .clear #[56] 0 #[false] #[v38]) w (fun _ w =>
  uv Tryz.prog R (Instr.sliceAt 56 v0 none (some v5) none) w (fun v41 w =>
  R (.returned v41) w)))
theorem F32_s5_st (R : RT) (X : KX) (f : Fr) (w : World) (h : F32_s5_t R (f 0) (f 5) w) : F32_W R (.seq F32_p4 F32_p6) (F32_k R) X f w := Eq.mp (by kernel_rfl) h
def F32_s5 (R : RT) (v0 v5 : Value) (w : World) : Prop :=
  F32_s5_t R v0 v5 w
noncomputable def F32_s5_c : Code := (.seq (.seq F32_p4 F32_p6) .ret)
theorem F32_s5_ok (R : RT) : OkW (F32_W R) (a2 (F32_s5 R) 0 5) F32_s5_c (F32_k R) noX :=
  fun f w h => cut (.seq F32_p4 F32_p6) .ret (K := (F32_k R)) (fun f w h => ret_ok h) f w (F32_s5_st R _ f w h)
def F32_s10_t (R : RT) (K : V2) (v0 v1 v5 v6 : Value) (w : World) : Prop :=
  uv Tryz.prog R (binS .add 3 (.tmp 20) (.const (.int .i64 1)) v6 (.int .i64 1)) w (fun v21 w =>
  K v5 v21 w)
theorem F32_s10_st (R : RT) (K : V2) (X : KX) (f : Fr) (w : World) (h : F32_s10_t R K (f 0) (f 1) (f 5) (f 6) w) : F32_W R F32_p12 (a2 K 5 6) X f w := Eq.mp (by kernel_rfl) h
def F32_s10 (R : RT) (rec6 : V2) (v0 v1 v5 v6 : Value) (w : World) : Prop :=
  F32_s10_t R rec6 v0 v1 v5 v6 w
noncomputable def F32_s10_c : Code := (.seq F32_p12 .skip)
theorem F32_s10_ok (R : RT) (rec6 : V2) : OkW (F32_W R) (a4 (F32_s10 R rec6) 0 1 5 6) F32_s10_c (a2 rec6 5 6) (kxB 0 (a2 (F32_s5 R) 0 5) noX) :=
  fun f w h => cut F32_p12 .skip (K := (a2 rec6 5 6)) (fun f w h => skip_ok h) f w (F32_s10_st R rec6 _ f w h)
def F32_s13_t (R : RT) (K : V4) (v0 v1 v5 v6 v7 : Value) (w : World) : Prop :=
  uv Tryz.prog R (Instr.loadAt 61 v7) w (fun v32 w =>
  uv Tryz.prog R (Instr.indexAt 56 v0 v5) w (fun v33 w =>
  uu Tryz.prog R (Instr.storeAt 61 v33 v32) w (fun w =>
  uv Tryz.prog R (binS .add 3 (.tmp 34) (.const (.int .i64 1)) v5 (.int .i64 1)) w (fun v35 w =>
  K v0 v1 v35 v6 w))))
theorem F32_s13_st (R : RT) (K : V4) (X : KX) (f : Fr) (w : World) (h : F32_s13_t R K (f 0) (f 1) (f 5) (f 6) (f 7) w) : F32_W R (.seq F32_p18 F32_p19) (a4 K 0 1 5 6) X f w := Eq.mp (by kernel_rfl) h
def F32_s13 (R : RT) (rec6 : V2) (v0 v1 v5 v6 v7 : Value) (w : World) : Prop :=
  F32_s13_t R (F32_s10 R rec6) v0 v1 v5 v6 v7 w
noncomputable def F32_s13_c : Code := (.seq (.seq F32_p18 F32_p19) .skip)
theorem F32_s13_ok (R : RT) (rec6 : V2) : OkW (F32_W R) (a5 (F32_s13 R rec6) 0 1 5 6 7) F32_s13_c (a4 (F32_s10 R rec6) 0 1 5 6) (kxB 1 (a4 (F32_s10 R rec6) 0 1 5 6) (kxB 0 (a2 (F32_s5 R) 0 5) noX)) :=
  fun f w h => cut (.seq F32_p18 F32_p19) .skip (K := (a4 (F32_s10 R rec6) 0 1 5 6)) (fun f w h => skip_ok h) f w (F32_s13_st R (F32_s10 R rec6) _ f w h)
def F32_s12 (R : RT) (rec6 : V2) (v0 v1 v5 v6 v7 v29 : Value) (w : World) : Prop :=
  Bc v29
    (F32_s13 R rec6 v0 v1 v5 v6 v7 w)
    (F32_s10 R rec6 v0 v1 v5 v6 w)
noncomputable def F32_s12_c : Code := (.seq F32_p16 .skip)
theorem F32_s12_e (R : RT) (K : KF) (X : KX) (f : Fr) (w : World) (h : Bc (f 29) (F32_W R F32_s13_c K X f w) (F32_W R .skip K X f w)) : (F32_W R F32_p16 K X f w) := Eq.mp (by kernel_rfl) h
theorem F32_s12_ok (R : RT) (rec6 : V2) : OkW (F32_W R) (a6 (F32_s12 R rec6) 0 1 5 6 7 29) F32_s12_c (a4 (F32_s10 R rec6) 0 1 5 6) (kxB 1 (a4 (F32_s10 R rec6) 0 1 5 6) (kxB 0 (a2 (F32_s5 R) 0 5) noX)) :=
  fun f w h => cut F32_p16 .skip (K := (a4 (F32_s10 R rec6) 0 1 5 6)) (fun f w h => skip_ok h) f w (F32_s12_e R _ _ f w (Bc_imp (x' := (F32_W R F32_s13_c (a4 (F32_s10 R rec6) 0 1 5 6) (kxB 1 (a4 (F32_s10 R rec6) 0 1 5 6) (kxB 0 (a2 (F32_s5 R) 0 5) noX)) f w)) (y' := (F32_W R .skip (a4 (F32_s10 R rec6) 0 1 5 6) (kxB 1 (a4 (F32_s10 R rec6) 0 1 5 6) (kxB 0 (a2 (F32_s5 R) 0 5) noX)) f w)) ((F32_s13_ok R rec6) f w) ((fun f w h => skip_ok h) f w) h))
def F32_s11_t (R : RT) (K : V6) (v0 v1 v5 v6 : Value) (w : World) : Prop :=
  uv Tryz.prog R (Instr.indexAt 56 v0 v6) w (fun v24 w =>
  uv Tryz.prog R (Instr.loadAt 61 v24) w (fun v25 w =>
  uv Tryz.prog R (Instr.alloc 61 true (.tuple #[])) w (fun v7 w =>
  uu Tryz.prog R (Instr.storeAt 61 v7 v25) w (fun w =>
  uv Tryz.prog R (Instr.loadAt 61 v7) w (fun v27 w =>
  un Tryz.prog R (callV v1 #[v27]) w (fun v28 w =>
  uv Tryz.prog R (Op.unary .not v28) w (fun v29 w =>
  K v0 v1 v5 v6 v7 v29 w)))))))
theorem F32_s11_st (R : RT) (K : V6) (X : KX) (f : Fr) (w : World) (h : F32_s11_t R K (f 0) (f 1) (f 5) (f 6) w) : F32_W R (.seq F32_p20 F32_p21) (a6 K 0 1 5 6 7 29) X f w := Eq.mp (by kernel_rfl) h
def F32_s11 (R : RT) (rec6 : V2) (v0 v1 v5 v6 : Value) (w : World) : Prop :=
  F32_s11_t R (F32_s12 R rec6) v0 v1 v5 v6 w
noncomputable def F32_s11_c : Code := (.seq (.seq F32_p20 F32_p21) F32_s12_c)
theorem F32_s11_ok (R : RT) (rec6 : V2) : OkW (F32_W R) (a4 (F32_s11 R rec6) 0 1 5 6) F32_s11_c (a4 (F32_s10 R rec6) 0 1 5 6) (kxB 1 (a4 (F32_s10 R rec6) 0 1 5 6) (kxB 0 (a2 (F32_s5 R) 0 5) noX)) :=
  fun f w h => cut (.seq F32_p20 F32_p21) F32_s12_c (K := (a6 (F32_s12 R rec6) 0 1 5 6 7 29)) (F32_s12_ok R rec6) f w (F32_s11_st R (F32_s12 R rec6) _ f w h)
noncomputable def F32_s9_c : Code := (.seq F32_p13 F32_s10_c)
theorem F32_s9_e (R : RT) (K : KF) (X : KX) (f : Fr) (w : World) (h : F32_W R F32_s11_c K (kxB 1 K X) f w) : F32_W R F32_p13 K X f w := Eq.mp (by kernel_rfl) h
theorem F32_s9_ok (R : RT) (rec6 : V2) : OkW (F32_W R) (a4 (F32_s11 R rec6) 0 1 5 6) F32_s9_c (a2 rec6 5 6) (kxB 0 (a2 (F32_s5 R) 0 5) noX) :=
  fun f w h => cut F32_p13 F32_s10_c (K := (a4 (F32_s10 R rec6) 0 1 5 6)) (F32_s10_ok R rec6) f w (F32_s9_e R _ _ f w ((F32_s11_ok R rec6) f w h))
def F32_s8 (R : RT) (rec6 : V2) (v0 v1 v5 v6 v19 : Value) (w : World) : Prop :=
  Bc v19
    (F32_s11 R rec6 v0 v1 v5 v6 w)
    (F32_s5 R v0 v5 w)
noncomputable def F32_s8_c : Code := (.seq F32_p23 F32_s9_c)
theorem F32_s8_e (R : RT) (K : KF) (X : KX) (f : Fr) (w : World) (h : Bc (f 19) (F32_W R .skip K X f w) (F32_W R (.exit 0) K X f w)) : (F32_W R F32_p23 K X f w) := Eq.mp (by kernel_rfl) h
theorem F32_s8_ok (R : RT) (rec6 : V2) : OkW (F32_W R) (a5 (F32_s8 R rec6) 0 1 5 6 19) F32_s8_c (a2 rec6 5 6) (kxB 0 (a2 (F32_s5 R) 0 5) noX) :=
  fun f w h => cut F32_p23 F32_s9_c (K := (a4 (F32_s11 R rec6) 0 1 5 6)) (F32_s9_ok R rec6) f w (F32_s8_e R _ _ f w (Bc_imp (x' := (F32_W R .skip (a4 (F32_s11 R rec6) 0 1 5 6) (kxB 0 (a2 (F32_s5 R) 0 5) noX) f w)) (y' := (F32_W R (.exit 0) (a4 (F32_s11 R rec6) 0 1 5 6) (kxB 0 (a2 (F32_s5 R) 0 5) noX) f w)) ((fun f w h => skip_ok h) f w) ((fun f w h => exit_hit h) f w) h))
def F32_s7_t (R : RT) (K : V5) (v0 v1 v5 v6 : Value) (w : World) : Prop :=
  un Tryz.prog R (builtin .len #[56] 3 #[false] #[v0]) w (fun v18 w =>
  uv Tryz.prog R (binS .lss 3 (.tmp 16) (.tmp 18) v6 v18) w (fun v19 w =>
  K v0 v1 v5 v6 v19 w))
theorem F32_s7_st (R : RT) (K : V5) (X : KX) (f : Fr) (w : World) (h : F32_s7_t R K (f 0) (f 1) (f 5) (f 6) w) : F32_W R F32_p24 (a5 K 0 1 5 6 19) X f w := Eq.mp (by kernel_rfl) h
def F32_s7 (R : RT) (rec6 : V2) (v0 v1 v5 v6 : Value) (w : World) : Prop :=
  F32_s7_t R (F32_s8 R rec6) v0 v1 v5 v6 w
noncomputable def F32_s7_c : Code := (.seq F32_p24 F32_s8_c)
theorem F32_s7_ok (R : RT) (rec6 : V2) : OkW (F32_W R) (a4 (F32_s7 R rec6) 0 1 5 6) F32_s7_c (a2 rec6 5 6) (kxB 0 (a2 (F32_s5 R) 0 5) noX) :=
  fun f w h => cut F32_p24 F32_s8_c (K := (a5 (F32_s8 R rec6) 0 1 5 6 19)) (F32_s8_ok R rec6) f w (F32_s7_st R (F32_s8 R rec6) _ f w h)
def F32_s6 (R : RT) (v0 v1 v5 v6 : Value) (w : World) : Prop :=
  Lp2 (fun rec6 v5 v6 w => F32_s7 R rec6 v0 v1 v5 v6 w) v5 v6 w
theorem F32_s6_e (R : RT) (K : KF) (X : KX) (f : Fr) (w : World) (h : F32_W R (.loop F32_p10) K X f w) : F32_W R F32_p9 K X f w := Eq.mp (by kernel_rfl) h
theorem F32_s6b_e (R : RT) (K : KF) (X : KX) (f : Fr) (w : World) (h : F32_W R F32_s7_c K X f w) : F32_W R F32_p10 K X f w := Eq.mp (by kernel_rfl) h
theorem F32_s6_ok (R : RT) : OkW (F32_W R) (a4 (F32_s6 R) 0 1 5 6) F32_p9 (a2 (F32_s5 R) 0 5) (kxB 0 (a2 (F32_s5 R) 0 5) noX) :=
  fun f w h => F32_s6_e R _ _ f w (loop2_ok (P := Tryz.prog) (dc := F32_dc) (kr := (F32_k R)) (pan := panK R) F32_p10 (kn := (a2 (F32_s5 R) 0 5)) (kx := (kxB 0 (a2 (F32_s5 R) 0 5) noX)) (s0 := 5) (s1 := 6) (fun rec6 v5 v6 w => F32_s7 R rec6 (f 0) (f 1) v5 v6 w) f (fun rec6 f' w' hf h' => F32_s6b_e R _ _ f' w' ((F32_s7_ok R rec6) f' w' (by simp only [a4, hf 0 (by kernel_rfl), hf 1 (by kernel_rfl)]; exact h'))) w h)
noncomputable def F32_s4_c : Code := (.seq F32_p8 F32_s5_c)
theorem F32_s4_e (R : RT) (K : KF) (X : KX) (f : Fr) (w : World) (h : F32_W R F32_p9 K (kxB 0 K X) f w) : F32_W R F32_p8 K X f w := Eq.mp (by kernel_rfl) h
theorem F32_s4_ok (R : RT) : OkW (F32_W R) (a4 (F32_s6 R) 0 1 5 6) F32_s4_c (F32_k R) noX :=
  fun f w h => cut F32_p8 F32_s5_c (K := (a2 (F32_s5 R) 0 5)) (F32_s5_ok R) f w (F32_s4_e R _ _ f w ((F32_s6_ok R) f w h))
def F32_s3_t (R : RT) (K : V4) (v0 v1 v5 : Value) (w : World) : Prop :=
  uv Tryz.prog R (binS .add 3 (.tmp 14) (.const (.int .i64 1)) v5 (.int .i64 1)) w (fun v15 w =>
  K v0 v1 v5 v15 w)
theorem F32_s3_st (R : RT) (K : V4) (X : KX) (f : Fr) (w : World) (h : F32_s3_t R K (f 0) (f 1) (f 5) w) : F32_W R F32_p25 (a4 K 0 1 5 6) X f w := Eq.mp (by kernel_rfl) h
def F32_s3 (R : RT) (v0 v1 v5 : Value) (w : World) : Prop :=
  F32_s3_t R (F32_s6 R) v0 v1 v5 w
noncomputable def F32_s3_c : Code := (.seq F32_p25 F32_s4_c)
theorem F32_s3_ok (R : RT) : OkW (F32_W R) (a3 (F32_s3 R) 0 1 5) F32_s3_c (F32_k R) noX :=
  fun f w h => cut F32_p25 F32_s4_c (K := (a4 (F32_s6 R) 0 1 5 6)) (F32_s4_ok R) f w (F32_s3_st R (F32_s6 R) _ f w h)
def F32_s14_t (R : RT) (v0 : Value) (w : World) : Prop :=
  R (.returned v0) w
theorem F32_s14_st (R : RT) (X : KX) (f : Fr) (w : World) (h : F32_s14_t R (f 0) w) : F32_W R F32_p29 (F32_k R) X f w := Eq.mp (by kernel_rfl) h
def F32_s14 (R : RT) (v0 : Value) (w : World) : Prop :=
  F32_s14_t R v0 w
noncomputable def F32_s14_c : Code := (.seq F32_p29 .ret)
theorem F32_s14_ok (R : RT) : OkW (F32_W R) (a1 (F32_s14 R) 0) F32_s14_c (a3 (F32_s3 R) 0 1 5) noX :=
  fun f w h => cut F32_p29 .ret (K := (F32_k R)) (fun f w h => ret_ok h) f w (F32_s14_st R _ f w h)
def F32_s2 (R : RT) (v0 v1 v5 v12 : Value) (w : World) : Prop :=
  Bc v12
    (F32_s14 R v0 w)
    (F32_s3 R v0 v1 v5 w)
noncomputable def F32_s2_c : Code := (.seq F32_p27 F32_s3_c)
theorem F32_s2_e (R : RT) (K : KF) (X : KX) (f : Fr) (w : World) (h : Bc (f 12) (F32_W R F32_s14_c K X f w) (F32_W R .skip K X f w)) : (F32_W R F32_p27 K X f w) := Eq.mp (by kernel_rfl) h
theorem F32_s2_ok (R : RT) : OkW (F32_W R) (a4 (F32_s2 R) 0 1 5 12) F32_s2_c (F32_k R) noX :=
  fun f w h => cut F32_p27 F32_s3_c (K := (a3 (F32_s3 R) 0 1 5)) (F32_s3_ok R) f w (F32_s2_e R _ _ f w (Bc_imp (x' := (F32_W R F32_s14_c (a3 (F32_s3 R) 0 1 5) noX f w)) (y' := (F32_W R .skip (a3 (F32_s3 R) 0 1 5) noX f w)) ((F32_s14_ok R) f w) ((fun f w h => skip_ok h) f w) h))
def F32_s1_t (R : RT) (K : V4) (v0 v1 : Value) (w : World) : Prop :=
  un Tryz.prog R (callFunc 20 #[v0, v1]) w (fun v10 w =>
  uv Tryz.prog R (binS .eql 3 (.tmp 11) (.const (.int .i64 (-1))) v10 (.int .i64 (-1))) w (fun v12 w =>
  K v0 v1 v10 v12 w))
theorem F32_s1_st (R : RT) (K : V4) (X : KX) (f : Fr) (w : World) (h : F32_s1_t R K (f 0) (f 1) w) : F32_W R (.seq F32_p30 (.seq F32_p31 F32_p32)) (a4 K 0 1 5 12) X f w := Eq.mp (by kernel_rfl) h
def F32_s1 (R : RT) (v0 v1 : Value) (w : World) : Prop :=
  F32_s1_t R (F32_s2 R) v0 v1 w
noncomputable def F32_s1_c : Code := (.seq (.seq F32_p30 (.seq F32_p31 F32_p32)) F32_s2_c)
theorem F32_s1_ok (R : RT) : OkW (F32_W R) (a2 (F32_s1 R) 0 1) F32_s1_c (F32_k R) noX :=
  fun f w h => cut (.seq F32_p30 (.seq F32_p31 F32_p32)) F32_s2_c (K := (a4 (F32_s2 R) 0 1 5 12)) (F32_s2_ok R) f w (F32_s1_st R (F32_s2 R) _ f w h)
theorem F32_all_e (R : RT) (K : KF) (X : KX) (f : Fr) (w : World) (h : F32_W R F32_s1_c K X f w) : F32_W R F32_b K X f w := Eq.mp (by kernel_rfl) h
theorem F32_calls (R : RT) (v0 v1 : Value) (w : World) (h : F32_s1 R v0 v1 w) : Calls Tryz.prog 32 #[v0, v1] w R :=
  calls_of_wpE (dc := F32_dc) (args := [v0, v1]) hmixed Tryz.func32 (c := F32_b) rfl (rs := [.tmp 4]) rfl (by kernel_rfl) (Nat.le_of_ble_eq_true (by kernel_rfl)) (F32_all_e R _ _ _ w ((F32_s1_ok R) (initFr [v0, v1]) w h))

/-! ### slices.Compact[[]hasp/api.Edge,hasp/api.Edge] -/
noncomputable def F45_b : Code := bodyOf Tryz.f45
def F45_dc : Nat → List (Nat × Bool)
  | 11 => [(0, true), (1, true), (2, true), (3, true), (4, true), (5, true), (6, true), (7, true), (8, true), (9, true)]
  | 6 => [(0, true), (1, true), (2, true), (3, true), (4, true), (5, true), (6, true), (7, true), (8, true), (9, true)]
  | _ => []
abbrev F45_k (R : RT) := resK Tryz.prog [.tmp 2] R
abbrev F45_W (R : RT) := wpE Tryz.prog F45_dc (F45_k R) (panK R)
noncomputable def F45_p0 := cR F45_b
noncomputable def F45_p1 := cR F45_p0
noncomputable def F45_p2 := cR F45_p1
noncomputable def F45_p3 := cL F45_p2
noncomputable def F45_p4 := cL F45_p1
noncomputable def F45_p5 := cR F45_p4
noncomputable def F45_p6 := cI F45_p5
noncomputable def F45_p7 := cI F45_p6
noncomputable def F45_p8 := cR F45_p7
noncomputable def F45_p9 := cR F45_p8
noncomputable def F45_p10 := cL F45_p8
noncomputable def F45_p11 := cI F45_p10
noncomputable def F45_p12 := cR F45_p11
noncomputable def F45_p13 := cT F45_p12
noncomputable def F45_p14 := cR F45_p13
noncomputable def F45_p15 := cR F45_p14
noncomputable def F45_p16 := cL F45_p15
noncomputable def F45_p17 := cR F45_p15
noncomputable def F45_p18 := cL F45_p17
noncomputable def F45_p19 := cL F45_p14
noncomputable def F45_p20 := cR F45_p19
noncomputable def F45_p21 := cI F45_p20
noncomputable def F45_p22 := cI F45_p21
noncomputable def F45_p23 := cR F45_p22
noncomputable def F45_p24 := cR F45_p23
noncomputable def F45_p25 := cL F45_p23
noncomputable def F45_p26 := cI F45_p25
noncomputable def F45_p27 := cR F45_p26
noncomputable def F45_p28 := cT F45_p27
noncomputable def F45_p29 := cL F45_p28
noncomputable def F45_p30 := cR F45_p28
noncomputable def F45_p31 := cL F45_p26
noncomputable def F45_p32 := cL F45_p22
noncomputable def F45_p33 := cR F45_p32
noncomputable def F45_p34 := cL F45_p32
noncomputable def F45_p35 := cL F45_p13
noncomputable def F45_p36 := cL F45_p19
noncomputable def F45_p37 := cL F45_p11
noncomputable def F45_p38 := cL F45_p7
noncomputable def F45_p39 := cR F45_p38
noncomputable def F45_p40 := cL F45_p38
noncomputable def F45_p41 := cL F45_p4
noncomputable def F45_p42 := cL F45_p0
noncomputable def F45_p43 := cR F45_p42
noncomputable def F45_p44 := cT F45_p43
noncomputable def F45_p45 := cL F45_p44
noncomputable def F45_p46 := cL F45_b
noncomputable def F45_p47 := cL F45_p42
def F45_s5_t (R : RT) (v0 : Value) (w : World) : Prop :=
  R (.returned v0) w
theorem F45_s5_st (R : RT) (X : KX) (f : Fr) (w : World) (h : F45_s5_t R (f 0) w) : F45_W R F45_p3 (F45_k R) X f w := Eq.mp (by kernel_rfl) h
def F45_s5 (R : RT) (v0 : Value) (w : World) : Prop :=
  F45_s5_t R v0 w
noncomputable def F45_s5_c : Code := (.seq F45_p3 .ret)
theorem F45_s5_ok (R : RT) : OkW (F45_W R) (a1 (F45_s5 R) 0) F45_s5_c (F45_k R) noX :=
  fun f w h => cut F45_p3 .ret (K := (F45_k R)) (fun f w h => ret_ok h) f w (F45_s5_st R _ f w h)
def F45_s10_t (R : RT) (K : V1) (v0 v3 : Value) (w : World) : Prop :=
  uv Tryz.prog R (binS .add 3 (.tmp 14) (.const (.int .i64 1)) v3 (.int .i64 1)) w (fun v15 w =>
  K v15 w)
theorem F45_s10_st (R : RT) (K : V1) (X : KX) (f : Fr) (w : World) (h : F45_s10_t R K (f 0) (f 3) w) : F45_W R F45_p9 (a1 K 3) X f w := Eq.mp (by kernel_rfl) h
def F45_s10 (R : RT) (rec6 : V1) (v0 v3 : Value) (w : World) : Prop :=
  F45_s10_t R rec6 v0 v3 w
noncomputable def F45_s10_c : Code := (.seq F45_p9 .skip)
theorem F45_s10_ok (R : RT) (rec6 : V1) : OkW (F45_W R) (a2 (F45_s10 R rec6) 0 3) F45_s10_c (a1 rec6 3) (kxB 0 (a1 (F45_s5 R) 0) noX) :=
  fun f w h => cut F45_p9 .skip (K := (a1 rec6 3)) (fun f w h => skip_ok h) f w (F45_s10_st R rec6 _ f w h)
def F45_s15_t (R : RT) (v0 v3 : Value) (w : World) : Prop :=
  uv Tryz.prog R (Instr.sliceAt 39 v0 (some v3) none none) w (fun v56 w =>
  un Tryz.prog R (builtin .clear #[39] 0 #[false] #[v56]) w (fun _ w =>
  uv Tryz.prog R (Instr.sliceAt 39 v0 none (some v3) none) w (fun v59 w =>
  R (.returned v59) w)))
theorem F45_s15_st (R : RT) (X : KX) (f : Fr) (w : World) (h : F45_s15_t R (f 0) (f 3) w) : F45_W R (.seq F45_p16 F45_p18) (F45_k R) X f w := Eq.mp (by kernel_rfl) h
def F45_s15 (R : RT) (rec6 : V1) (v0 v3 : Value) (w : World) : Prop :=
  F45_s15_t R v0 v3 w
noncomputable def F45_s15_c : Code := (.seq (.seq F45_p16 F45_p18) .ret)
theorem F45_s15_ok (R : RT) (rec6 : V1) : OkW (F45_W R) (a2 (F45_s15 R rec6) 0 3) F45_s15_c (a2 (F45_s10 R rec6) 0 3) (kxB 1 (a2 (F45_s10 R rec6) 0 3) (kxB 0 (a1 (F45_s5 R) 0) noX)) :=
  fun f w h => cut (.seq F45_p16 F45_p18) .ret (K := (F45_k R)) (fun f w h => ret_ok h) f w (F45_s15_st R _ f w h)
def F45_s20_t (R : RT) (K : V2) (v0 v3 v4 v5 : Value) (w : World) : Prop :=
  uv Tryz.prog R (binS .add 3 (.tmp 33) (.const (.int .i64 1)) v5 (.int .i64 1)) w (fun v34 w =>
  K v3 v34 w)
theorem F45_s20_st (R : RT) (K : V2) (X : KX) (f : Fr) (w : World) (h : F45_s20_t R K (f 0) (f 3) (f 4) (f 5) w) : F45_W R F45_p24 (a2 K 3 5) X f w := Eq.mp (by kernel_rfl) h
def F45_s20 (R : RT) (rec6 : V1) (rec16 : V2) (v0 v3 v4 v5 : Value) (w : World) : Prop :=
  F45_s20_t R rec16 v0 v3 v4 v5 w
noncomputable def F45_s20_c : Code := (.seq F45_p24 .skip)
theorem F45_s20_ok (R : RT) (rec6 : V1) (rec16 : V2) : OkW (F45_W R) (a4 (F45_s20 R rec6 rec16) 0 3 4 5) F45_s20_c (a2 rec16 3 5) (kxB 2 (a2 (F45_s15 R rec6) 0 3) (kxB 1 (a2 (F45_s10 R rec6) 0 3) (kxB 0 (a1 (F45_s5 R) 0) noX))) :=
  fun f w h => cut F45_p24 .skip (K := (a2 rec16 3 5)) (fun f w h => skip_ok h) f w (F45_s20_st R rec16 _ f w h)
def F45_s23_t (R : RT) (K : V4) (v0 v3 v4 v5 : Value) (w : World) : Prop :=
  uv Tryz.prog R (Instr.indexAt 39 v4 v5) w (fun v49 w =>
  uv Tryz.prog R (Instr.loadAt 83 v49) w (fun v50 w =>
  uv Tryz.prog R (Instr.indexAt 39 v0 v3) w (fun v51 w =>
  uu Tryz.prog R (Instr.storeAt 83 v51 v50) w (fun w =>
  uv Tryz.prog R (binS .add 3 (.tmp 52) (.const (.int .i64 1)) v3 (.int .i64 1)) w (fun v53 w =>
  K v0 v53 v4 v5 w)))))
theorem F45_s23_st (R : RT) (K : V4) (X : KX) (f : Fr) (w : World) (h : F45_s23_t R K (f 0) (f 3) (f 4) (f 5) w) : F45_W R (.seq F45_p29 F45_p30) (a4 K 0 3 4 5) X f w := Eq.mp (by kernel_rfl) h
def F45_s23 (R : RT) (rec6 : V1) (rec16 : V2) (v0 v3 v4 v5 : Value) (w : World) : Prop :=
  F45_s23_t R (F45_s20 R rec6 rec16) v0 v3 v4 v5 w
noncomputable def F45_s23_c : Code := (.seq (.seq F45_p29 F45_p30) .skip)
theorem F45_s23_ok (R : RT) (rec6 : V1) (rec16 : V2) : OkW (F45_W R) (a4 (F45_s23 R rec6 rec16) 0 3 4 5) F45_s23_c (a4 (F45_s20 R rec6 rec16) 0 3 4 5) (kxB 3 (a4 (F45_s20 R rec6 rec16) 0 3 4 5) (kxB 2 (a2 (F45_s15 R rec6) 0 3) (kxB 1 (a2 (F45_s10 R rec6) 0 3) (kxB 0 (a1 (F45_s5 R) 0) noX)))) :=
  fun f w h => cut (.seq F45_p29 F45_p30) .skip (K := (a4 (F45_s20 R rec6 rec16) 0 3 4 5)) (fun f w h => skip_ok h) f w (F45_s23_st R (F45_s20 R rec6 rec16) _ f w h)
def F45_s22 (R : RT) (rec6 : V1) (rec16 : V2) (v0 v3 v4 v5 v44 : Value) (w : World) : Prop :=
  Bc v44
    (F45_s23 R rec6 rec16 v0 v3 v4 v5 w)
    (F45_s20 R rec6 rec16 v0 v3 v4 v5 w)
noncomputable def F45_s22_c : Code := (.seq F45_p27 .skip)
theorem F45_s22_e (R : RT) (K : KF) (X : KX) (f : Fr) (w : World) (h : Bc (f 44) (F45_W R F45_s23_c K X f w) (F45_W R .skip K X f w)) : (F45_W R F45_p27 K X f w) := Eq.mp (by kernel_rfl) h
theorem F45_s22_ok (R : RT) (rec6 : V1) (rec16 : V2) : OkW (F45_W R) (a5 (F45_s22 R rec6 rec16) 0 3 4 5 44) F45_s22_c (a4 (F45_s20 R rec6 rec16) 0 3 4 5) (kxB 3 (a4 (F45_s20 R rec6 rec16) 0 3 4 5) (kxB 2 (a2 (F45_s15 R rec6) 0 3) (kxB 1 (a2 (F45_s10 R rec6) 0 3) (kxB 0 (a1 (F45_s5 R) 0) noX)))) :=
  fun f w h => cut F45_p27 .skip (K := (a4 (F45_s20 R rec6 rec16) 0 3 4 5)) (fun f w h => skip_ok h) f w (F45_s22_e R _ _ f w (Bc_imp (x' := (F45_W R F45_s23_c (a4 (F45_s20 R rec6 rec16) 0 3 4 5) (kxB 3 (a4 (F45_s20 R rec6 rec16) 0 3 4 5) (kxB 2 (a2 (F45_s15 R rec6) 0 3) (kxB 1 (a2 (F45_s10 R rec6) 0 3) (kxB 0 (a1 (F45_s5 R) 0) noX)))) f w)) (y' := (F45_W R .skip (a4 (F45_s20 R rec6 rec16) 0 3 4 5) (kxB 3 (a4 (F45_s20 R rec6 rec16) 0 3 4 5) (kxB 2 (a2 (F45_s15 R rec6) 0 3) (kxB 1 (a2 (F45_s10 R rec6) 0 3) (kxB 0 (a1 (F45_s5 R) 0) noX)))) f w)) ((F45_s23_ok R rec6 rec16) f w) ((fun f w h => skip_ok h) f w) h))
def F45_s21_t (R : RT) (K : V5) (v0 v3 v4 v5 : Value) (w : World) : Prop :=
  Dr (fun S w =>
  HV Tryz.prog S (Instr.indexAt 39 v4 v5) (fun v37 =>
  HV Tryz.prog S (Instr.loadAt 83 v37) (fun v38 =>
  HV Tryz.prog S (binS .sub 3 (.tmp 40) (.const (.int .i64 1)) v5 (.int .i64 1)) (fun v41 =>
  HV Tryz.prog S (Instr.indexAt 39 v4 v41) (fun v42 =>
  HV Tryz.prog S (Instr.loadAt 83 v42) (fun v43 =>
  HV Tryz.prog S (binS .neq 83 (.tmp 38) (.tmp 43) v38 v43) (fun v44 =>
  K v0 v3 v4 v5 v44 w))))))) w
theorem F45_s21_st (R : RT) (K : V5) (X : KX) (f : Fr) (w : World) (h : F45_s21_t R K (f 0) (f 3) (f 4) (f 5) w) : F45_W R F45_p31 (a5 K 0 3 4 5 44) X f w := Eq.mp (by kernel_rfl) h
def F45_s21 (R : RT) (rec6 : V1) (rec16 : V2) (v0 v3 v4 v5 : Value) (w : World) : Prop :=
  F45_s21_t R (F45_s22 R rec6 rec16) v0 v3 v4 v5 w
noncomputable def F45_s21_c : Code := (.seq F45_p31 F45_s22_c)
theorem F45_s21_ok (R : RT) (rec6 : V1) (rec16 : V2) : OkW (F45_W R) (a4 (F45_s21 R rec6 rec16) 0 3 4 5) F45_s21_c (a4 (F45_s20 R rec6 rec16) 0 3 4 5) (kxB 3 (a4 (F45_s20 R rec6 rec16) 0 3 4 5) (kxB 2 (a2 (F45_s15 R rec6) 0 3) (kxB 1 (a2 (F45_s10 R rec6) 0 3) (kxB 0 (a1 (F45_s5 R) 0) noX)))) :=
  fun f w h => cut F45_p31 F45_s22_c (K := (a5 (F45_s22 R rec6 rec16) 0 3 4 5 44)) (F45_s22_ok R rec6 rec16) f w (F45_s21_st R (F45_s22 R rec6 rec16) _ f w h)
noncomputable def F45_s19_c : Code := (.seq F45_p25 F45_s20_c)
theorem F45_s19_e (R : RT) (K : KF) (X : KX) (f : Fr) (w : World) (h : F45_W R F45_s21_c K (kxB 3 K X) f w) : F45_W R F45_p25 K X f w := Eq.mp (by kernel_rfl) h
theorem F45_s19_ok (R : RT) (rec6 : V1) (rec16 : V2) : OkW (F45_W R) (a4 (F45_s21 R rec6 rec16) 0 3 4 5) F45_s19_c (a2 rec16 3 5) (kxB 2 (a2 (F45_s15 R rec6) 0 3) (kxB 1 (a2 (F45_s10 R rec6) 0 3) (kxB 0 (a1 (F45_s5 R) 0) noX))) :=
  fun f w h => cut F45_p25 F45_s20_c (K := (a4 (F45_s20 R rec6 rec16) 0 3 4 5)) (F45_s20_ok R rec6 rec16) f w (F45_s19_e R _ _ f w ((F45_s21_ok R rec6 rec16) f w h))
def F45_s18 (R : RT) (rec6 : V1) (rec16 : V2) (v0 v3 v4 v5 v32 : Value) (w : World) : Prop :=
  Bc v32
    (F45_s21 R rec6 rec16 v0 v3 v4 v5 w)
    (F45_s15 R rec6 v0 v3 w)
noncomputable def F45_s18_c : Code := (.seq F45_p33 F45_s19_c)
theorem F45_s18_e (R : RT) (K : KF) (X : KX) (f : Fr) (w : World) (h : Bc (f 32) (F45_W R .skip K X f w) (F45_W R (.exit 2) K X f w)) : (F45_W R F45_p33 K X f w) := Eq.mp (by kernel_rfl) h
theorem F45_s18_ok (R : RT) (rec6 : V1) (rec16 : V2) : OkW (F45_W R) (a5 (F45_s18 R rec6 rec16) 0 3 4 5 32) F45_s18_c (a2 rec16 3 5) (kxB 2 (a2 (F45_s15 R rec6) 0 3) (kxB 1 (a2 (F45_s10 R rec6) 0 3) (kxB 0 (a1 (F45_s5 R) 0) noX))) :=
  fun f w h => cut F45_p33 F45_s19_c (K := (a4 (F45_s21 R rec6 rec16) 0 3 4 5)) (F45_s19_ok R rec6 rec16) f w (F45_s18_e R _ _ f w (Bc_imp (x' := (F45_W R .skip (a4 (F45_s21 R rec6 rec16) 0 3 4 5) (kxB 2 (a2 (F45_s15 R rec6) 0 3) (kxB 1 (a2 (F45_s10 R rec6) 0 3) (kxB 0 (a1 (F45_s5 R) 0) noX))) f w)) (y' := (F45_W R (.exit 2) (a4 (F45_s21 R rec6 rec16) 0 3 4 5) (kxB 2 (a2 (F45_s15 R rec6) 0 3) (kxB 1 (a2 (F45_s10 R rec6) 0 3) (kxB 0 (a1 (F45_s5 R) 0) noX))) f w)) ((fun f w h => skip_ok h) f w) ((fun f w h => exit_hit h) f w) h))
def F45_s17_t (R : RT) (K : V5) (v0 v3 v4 v5 : Value) (w : World) : Prop :=
  un Tryz.prog R (builtin .len #[39] 3 #[false] #[v4]) w (fun v31 w =>
  uv Tryz.prog R (binS .lss 3 (.tmp 29) (.tmp 31) v5 v31) w (fun v32 w =>
  K v0 v3 v4 v5 v32 w))
theorem F45_s17_st (R : RT) (K : V5) (X : KX) (f : Fr) (w : World) (h : F45_s17_t R K (f 0) (f 3) (f 4) (f 5) w) : F45_W R F45_p34 (a5 K 0 3 4 5 32) X f w := Eq.mp (by kernel_rfl) h
def F45_s17 (R : RT) (rec6 : V1) (rec16 : V2) (v0 v3 v4 v5 : Value) (w : World) : Prop :=
  F45_s17_t R (F45_s18 R rec6 rec16) v0 v3 v4 v5 w
noncomputable def F45_s17_c : Code := (.seq F45_p34 F45_s18_c)
theorem F45_s17_ok (R : RT) (rec6 : V1) (rec16 : V2) : OkW (F45_W R) (a4 (F45_s17 R rec6 rec16) 0 3 4 5) F45_s17_c (a2 rec16 3 5) (kxB 2 (a2 (F45_s15 R rec6) 0 3) (kxB 1 (a2 (F45_s10 R rec6) 0 3) (kxB 0 (a1 (F45_s5 R) 0) noX))) :=
  fun f w h => cut F45_p34 F45_s18_c (K := (a5 (F45_s18 R rec6 rec16) 0 3 4 5 32)) (F45_s18_ok R rec6 rec16) f w (F45_s17_st R (F45_s18 R rec6 rec16) _ f w h)
def F45_s16 (R : RT) (rec6 : V1) (v0 v3 v4 v5 : Value) (w : World) : Prop :=
  Lp2 (fun rec16 v3 v5 w => F45_s17 R rec6 rec16 v0 v3 v4 v5 w) v3 v5 w
theorem F45_s16_e (R : RT) (K : KF) (X : KX) (f : Fr) (w : World) (h : F45_W R (.loop F45_p22) K X f w) : F45_W R F45_p21 K X f w := Eq.mp (by kernel_rfl) h
theorem F45_s16b_e (R : RT) (K : KF) (X : KX) (f : Fr) (w : World) (h : F45_W R F45_s17_c K X f w) : F45_W R F45_p22 K X f w := Eq.mp (by kernel_rfl) h
theorem F45_s16_ok (R : RT) (rec6 : V1) : OkW (F45_W R) (a4 (F45_s16 R rec6) 0 3 4 5) F45_p21 (a2 (F45_s15 R rec6) 0 3) (kxB 2 (a2 (F45_s15 R rec6) 0 3) (kxB 1 (a2 (F45_s10 R rec6) 0 3) (kxB 0 (a1 (F45_s5 R) 0) noX))) :=
  fun f w h => F45_s16_e R _ _ f w (loop2_ok (P := Tryz.prog) (dc := F45_dc) (kr := (F45_k R)) (pan := panK R) F45_p22 (kn := (a2 (F45_s15 R rec6) 0 3)) (kx := (kxB 2 (a2 (F45_s15 R rec6) 0 3) (kxB 1 (a2 (F45_s10 R rec6) 0 3) (kxB 0 (a1 (F45_s5 R) 0) noX)))) (s0 := 3) (s1 := 5) (fun rec16 v3 v5 w => F45_s17 R rec6 rec16 (f 0) v3 (f 4) v5 w) f (fun rec16 f' w' hf h' => F45_s16b_e R _ _ f' w' ((F45_s17_ok R rec6 rec16) f' w' (by simp only [a4, hf 0 (by kernel_rfl), hf 4 (by kernel_rfl)]; exact h'))) w h)
noncomputable def F45_s14_c : Code := (.seq F45_p20 F45_s15_c)
theorem F45_s14_e (R : RT) (K : KF) (X : KX) (f : Fr) (w : World) (h : F45_W R F45_p21 K (kxB 2 K X) f w) : F45_W R F45_p20 K X f w := Eq.mp (by kernel_rfl) h
theorem F45_s14_ok (R : RT) (rec6 : V1) : OkW (F45_W R) (a4 (F45_s16 R rec6) 0 3 4 5) F45_s14_c (a2 (F45_s10 R rec6) 0 3) (kxB 1 (a2 (F45_s10 R rec6) 0 3) (kxB 0 (a1 (F45_s5 R) 0) noX)) :=
  fun f w h => cut F45_p20 F45_s15_c (K := (a2 (F45_s15 R rec6) 0 3)) (F45_s15_ok R rec6) f w (F45_s14_e R _ _ f w ((F45_s16_ok R rec6) f w h))
def F45_s13_t (R : RT) (K : V4) (v0 v3 : Value) (w : World) : Prop :=
  uv Tryz.prog R (Instr.sliceAt 39 v0 (some v3) none none) w (fun v28 w =>
  K v0 v3 v28 (.int .i64 1) w)
theorem F45_s13_st (R : RT) (K : V4) (X : KX) (f : Fr) (w : World) (h : F45_s13_t R K (f 0) (f 3) w) : F45_W R (.seq F45_p35 F45_p36) (a4 K 0 3 4 5) X f w := Eq.mp (by kernel_rfl) h
def F45_s13 (R : RT) (rec6 : V1) (v0 v3 : Value) (w : World) : Prop :=
  F45_s13_t R (F45_s16 R rec6) v0 v3 w
noncomputable def F45_s13_c : Code := (.seq (.seq F45_p35 F45_p36) F45_s14_c)
theorem F45_s13_ok (R : RT) (rec6 : V1) : OkW (F45_W R) (a2 (F45_s13 R rec6) 0 3) F45_s13_c (a2 (F45_s10 R rec6) 0 3) (kxB 1 (a2 (F45_s10 R rec6) 0 3) (kxB 0 (a1 (F45_s5 R) 0) noX)) :=
  fun f w h => cut (.seq F45_p35 F45_p36) F45_s14_c (K := (a4 (F45_s16 R rec6) 0 3 4 5)) (F45_s14_ok R rec6) f w (F45_s13_st R (F45_s16 R rec6) _ f w h)
def F45_s12 (R : RT) (rec6 : V1) (v0 v3 v25 : Value) (w : World) : Prop :=
  Bc v25
    (F45_s13 R rec6 v0 v3 w)
    (F45_s10 R rec6 v0 v3 w)
noncomputable def F45_s12_c : Code := (.seq F45_p12 .skip)
theorem F45_s12_e (R : RT) (K : KF) (X : KX) (f : Fr) (w : World) (h : Bc (f 25) (F45_W R F45_s13_c K X f w) (F45_W R .skip K X f w)) : (F45_W R F45_p12 K X f w) := Eq.mp (by kernel_rfl) h
theorem F45_s12_ok (R : RT) (rec6 : V1) : OkW (F45_W R) (a3 (F45_s12 R rec6) 0 3 25) F45_s12_c (a2 (F45_s10 R rec6) 0 3) (kxB 1 (a2 (F45_s10 R rec6) 0 3) (kxB 0 (a1 (F45_s5 R) 0) noX)) :=
  fun f w h => cut F45_p12 .skip (K := (a2 (F45_s10 R rec6) 0 3)) (fun f w h => skip_ok h) f w (F45_s12_e R _ _ f w (Bc_imp (x' := (F45_W R F45_s13_c (a2 (F45_s10 R rec6) 0 3) (kxB 1 (a2 (F45_s10 R rec6) 0 3) (kxB 0 (a1 (F45_s5 R) 0) noX)) f w)) (y' := (F45_W R .skip (a2 (F45_s10 R rec6) 0 3) (kxB 1 (a2 (F45_s10 R rec6) 0 3) (kxB 0 (a1 (F45_s5 R) 0) noX)) f w)) ((F45_s13_ok R rec6) f w) ((fun f w h => skip_ok h) f w) h))
def F45_s11_t (R : RT) (K : V3) (v0 v3 : Value) (w : World) : Prop :=
  Dr (fun S w =>
  HV Tryz.prog S (Instr.indexAt 39 v0 v3) (fun v18 =>
  HV Tryz.prog S (Instr.loadAt 83 v18) (fun v19 =>
  HV Tryz.prog S (binS .sub 3 (.tmp 21) (.const (.int .i64 1)) v3 (.int .i64 1)) (fun v22 =>
  HV Tryz.prog S (Instr.indexAt 39 v0 v22) (fun v23 =>
  HV Tryz.prog S (Instr.loadAt 83 v23) (fun v24 =>
  HV Tryz.prog S (binS .eql 83 (.tmp 19) (.tmp 24) v19 v24) (fun v25 =>
  K v0 v3 v25 w))))))) w
theorem F45_s11_st (R : RT) (K : V3) (X : KX) (f : Fr) (w : World) (h : F45_s11_t R K (f 0) (f 3) w) : F45_W R F45_p37 (a3 K 0 3 25) X f w := Eq.mp (by kernel_rfl) h
def F45_s11 (R : RT) (rec6 : V1) (v0 v3 : Value) (w : World) : Prop :=
  F45_s11_t R (F45_s12 R rec6) v0 v3 w
noncomputable def F45_s11_c : Code := (.seq F45_p37 F45_s12_c)
theorem F45_s11_ok (R : RT) (rec6 : V1) : OkW (F45_W R) (a2 (F45_s11 R rec6) 0 3) F45_s11_c (a2 (F45_s10 R rec6) 0 3) (kxB 1 (a2 (F45_s10 R rec6) 0 3) (kxB 0 (a1 (F45_s5 R) 0) noX)) :=
  fun f w h => cut F45_p37 F45_s12_c (K := (a3 (F45_s12 R rec6) 0 3 25)) (F45_s12_ok R rec6) f w (F45_s11_st R (F45_s12 R rec6) _ f w h)
noncomputable def F45_s9_c : Code := (.seq F45_p10 F45_s10_c)
theorem F45_s9_e (R : RT) (K : KF) (X : KX) (f : Fr) (w : World) (h : F45_W R F45_s11_c K (kxB 1 K X) f w) : F45_W R F45_p10 K X f w := Eq.mp (by kernel_rfl) h
theorem F45_s9_ok (R : RT) (rec6 : V1) : OkW (F45_W R) (a2 (F45_s11 R rec6) 0 3) F45_s9_c (a1 rec6 3) (kxB 0 (a1 (F45_s5 R) 0) noX) :=
  fun f w h => cut F45_p10 F45_s10_c (K := (a2 (F45_s10 R rec6) 0 3)) (F45_s10_ok R rec6) f w (F45_s9_e R _ _ f w ((F45_s11_ok R rec6) f w h))
def F45_s8 (R : RT) (rec6 : V1) (v0 v3 v13 : Value) (w : World) : Prop :=
  Bc v13
    (F45_s11 R rec6 v0 v3 w)
    (F45_s5 R v0 w)
noncomputable def F45_s8_c : Code := (.seq F45_p39 F45_s9_c)
theorem F45_s8_e (R : RT) (K : KF) (X : KX) (f : Fr) (w : World) (h : Bc (f 13) (F45_W R .skip K X f w) (F45_W R (.exit 0) K X f w)) : (F45_W R F45_p39 K X f w) := Eq.mp (by kernel_rfl) h
theorem F45_s8_ok (R : RT) (rec6 : V1) : OkW (F45_W R) (a3 (F45_s8 R rec6) 0 3 13) F45_s8_c (a1 rec6 3) (kxB 0 (a1 (F45_s5 R) 0) noX) :=
  fun f w h => cut F45_p39 F45_s9_c (K := (a2 (F45_s11 R rec6) 0 3)) (F45_s9_ok R rec6) f w (F45_s8_e R _ _ f w (Bc_imp (x' := (F45_W R .skip (a2 (F45_s11 R rec6) 0 3) (kxB 0 (a1 (F45_s5 R) 0) noX) f w)) (y' := (F45_W R (.exit 0) (a2 (F45_s11 R rec6) 0 3) (kxB 0 (a1 (F45_s5 R) 0) noX) f w)) ((fun f w h => skip_ok h) f w) ((fun f w h => exit_hit h) f w) h))
def F45_s7_t (R : RT) (K : V3) (v0 v3 : Value) (w : World) : Prop :=
  un Tryz.prog R (builtin .len #[39] 3 #[false] #[v0]) w (fun v12 w =>
  uv Tryz.prog R (binS .lss 3 (.tmp 10) (.tmp 12) v3 v12) w (fun v13 w =>
  K v0 v3 v13 w))
theorem F45_s7_st (R : RT) (K : V3) (X : KX) (f : Fr) (w : World) (h : F45_s7_t R K (f 0) (f 3) w) : F45_W R F45_p40 (a3 K 0 3 13) X f w := Eq.mp (by kernel_rfl) h
def F45_s7 (R : RT) (rec6 : V1) (v0 v3 : Value) (w : World) : Prop :=
  F45_s7_t R (F45_s8 R rec6) v0 v3 w
noncomputable def F45_s7_c : Code := (.seq F45_p40 F45_s8_c)
theorem F45_s7_ok (R : RT) (rec6 : V1) : OkW (F45_W R) (a2 (F45_s7 R rec6) 0 3) F45_s7_c (a1 rec6 3) (kxB 0 (a1 (F45_s5 R) 0) noX) :=
  fun f w h => cut F45_p40 F45_s8_c (K := (a3 (F45_s8 R rec6) 0 3 13)) (F45_s8_ok R rec6) f w (F45_s7_st R (F45_s8 R rec6) _ f w h)
def F45_s6 (R : RT) (v0 v3 : Value) (w : World) : Prop :=
  Lp1 (fun rec6 v3 w => F45_s7 R rec6 v0 v3 w) v3 w
theorem F45_s6_e (R : RT) (K : KF) (X : KX) (f : Fr) (w : World) (h : F45_W R (.loop F45_p7) K X f w) : F45_W R F45_p6 K X f w := Eq.mp (by kernel_rfl) h
theorem F45_s6b_e (R : RT) (K : KF) (X : KX) (f : Fr) (w : World) (h : F45_W R F45_s7_c K X f w) : F45_W R F45_p7 K X f w := Eq.mp (by kernel_rfl) h
theorem F45_s6_ok (R : RT) : OkW (F45_W R) (a2 (F45_s6 R) 0 3) F45_p6 (a1 (F45_s5 R) 0) (kxB 0 (a1 (F45_s5 R) 0) noX) :=
  fun f w h => F45_s6_e R _ _ f w (loop1_ok (P := Tryz.prog) (dc := F45_dc) (kr := (F45_k R)) (pan := panK R) F45_p7 (kn := (a1 (F45_s5 R) 0)) (kx := (kxB 0 (a1 (F45_s5 R) 0) noX)) (s0 := 3) (fun rec6 v3 w => F45_s7 R rec6 (f 0) v3 w) f (fun rec6 f' w' hf h' => F45_s6b_e R _ _ f' w' ((F45_s7_ok R rec6) f' w' (by simp only [a2, hf 0 (by kernel_rfl)]; exact h'))) w h)
noncomputable def F45_s4_c : Code := (.seq F45_p5 F45_s5_c)
theorem F45_s4_e (R : RT) (K : KF) (X : KX) (f : Fr) (w : World) (h : F45_W R F45_p6 K (kxB 0 K X) f w) : F45_W R F45_p5 K X f w := Eq.mp (by kernel_rfl) h
theorem F45_s4_ok (R : RT) : OkW (F45_W R) (a2 (F45_s6 R) 0 3) F45_s4_c (F45_k R) noX :=
  fun f w h => cut F45_p5 F45_s5_c (K := (a1 (F45_s5 R) 0)) (F45_s5_ok R) f w (F45_s4_e R _ _ f w ((F45_s6_ok R) f w h))
def F45_s3_t (R : RT) (K : V2) (v0 : Value) (w : World) : Prop :=
  K v0 (.int .i64 1) w
theorem F45_s3_st (R : RT) (K : V2) (X : KX) (f : Fr) (w : World) (h : F45_s3_t R K (f 0) w) : F45_W R F45_p41 (a2 K 0 3) X f w := Eq.mp (by kernel_rfl) h
def F45_s3 (R : RT) (v0 : Value) (w : World) : Prop :=
  F45_s3_t R (F45_s6 R) v0 w
noncomputable def F45_s3_c : Code := (.seq F45_p41 F45_s4_c)
theorem F45_s3_ok (R : RT) : OkW (F45_W R) (a1 (F45_s3 R) 0) F45_s3_c (F45_k R) noX :=
  fun f w h => cut F45_p41 F45_s4_c (K := (a2 (F45_s6 R) 0 3)) (F45_s4_ok R) f w (F45_s3_st R (F45_s6 R) _ f w h)
def F45_s24_t (R : RT) (v0 : Value) (w : World) : Prop :=
  R (.returned v0) w
theorem F45_s24_st (R : RT) (X : KX) (f : Fr) (w : World) (h : F45_s24_t R (f 0) w) : F45_W R F45_p45 (F45_k R) X f w := Eq.mp (by kernel_rfl) h
def F45_s24 (R : RT) (v0 : Value) (w : World) : Prop :=
  F45_s24_t R v0 w
noncomputable def F45_s24_c : Code := (.seq F45_p45 .ret)
theorem F45_s24_ok (R : RT) : OkW (F45_W R) (a1 (F45_s24 R) 0) F45_s24_c (a1 (F45_s3 R) 0) noX :=
  fun f w h => cut F45_p45 .ret (K := (F45_k R)) (fun f w h => ret_ok h) f w (F45_s24_st R _ f w h)
def F45_s2 (R : RT) (v0 v8 : Value) (w : World) : Prop :=
  Bc v8
    (F45_s24 R v0 w)
    (F45_s3 R v0 w)
noncomputable def F45_s2_c : Code := (.seq F45_p43 F45_s3_c)
theorem F45_s2_e (R : RT) (K : KF) (X : KX) (f : Fr) (w : World) (h : Bc (f 8) (F45_W R F45_s24_c K X f w) (F45_W R .skip K X f w)) : (F45_W R F45_p43 K X f w) := Eq.mp (by kernel_rfl) h
theorem F45_s2_ok (R : RT) : OkW (F45_W R) (a2 (F45_s2 R) 0 8) F45_s2_c (F45_k R) noX :=
  fun f w h => cut F45_p43 F45_s3_c (K := (a1 (F45_s3 R) 0)) (F45_s3_ok R) f w (F45_s2_e R _ _ f w (Bc_imp (x' := (F45_W R F45_s24_c (a1 (F45_s3 R) 0) noX f w)) (y' := (F45_W R .skip (a1 (F45_s3 R) 0) noX f w)) ((F45_s24_ok R) f w) ((fun f w h => skip_ok h) f w) h))
def F45_s1_t (R : RT) (K : V2) (v0 : Value) (w : World) : Prop :=
  un Tryz.prog R (builtin .len #[39] 3 #[false] #[v0]) w (fun v7 w =>
  uv Tryz.prog R (binS .lss 3 (.tmp 7) (.const (.int .i64 2)) v7 (.int .i64 2)) w (fun v8 w =>
  K v0 v8 w))
theorem F45_s1_st (R : RT) (K : V2) (X : KX) (f : Fr) (w : World) (h : F45_s1_t R K (f 0) w) : F45_W R (.seq F45_p46 F45_p47) (a2 K 0 8) X f w := Eq.mp (by kernel_rfl) h
def F45_s1 (R : RT) (v0 : Value) (w : World) : Prop :=
  F45_s1_t R (F45_s2 R) v0 w
noncomputable def F45_s1_c : Code := (.seq (.seq F45_p46 F45_p47) F45_s2_c)
theorem F45_s1_ok (R : RT) : OkW (F45_W R) (a1 (F45_s1 R) 0) F45_s1_c (F45_k R) noX :=
  fun f w h => cut (.seq F45_p46 F45_p47) F45_s2_c (K := (a2 (F45_s2 R) 0 8)) (F45_s2_ok R) f w (F45_s1_st R (F45_s2 R) _ f w h)
theorem F45_all_e (R : RT) (K : KF) (X : KX) (f : Fr) (w : World) (h : F45_W R F45_s1_c K X f w) : F45_W R F45_b K X f w := Eq.mp (by kernel_rfl) h
theorem F45_calls (R : RT) (v0 : Value) (w : World) (h : F45_s1 R v0 w) : Calls Tryz.prog 45 #[v0] w R :=
  calls_of_wpE (dc := F45_dc) (args := [v0]) hmixed Tryz.func45 (c := F45_b) rfl (rs := [.tmp 2]) rfl (by kernel_rfl) (Nat.le_of_ble_eq_true (by kernel_rfl)) (F45_all_e R _ _ _ w ((F45_s1_ok R) (initFr [v0]) w h))

end Go.Proofs.YtpghlemcgjogpaaGreat
