import Derived.Test.YtpghlemcgjogpaaGreatProg
import Derived.Test.YtpghlemcgjogpaaGreatSx
import Derived.Test.YtpghlemcgjogpaaGreatT
set_option linter.unusedVariables false
set_option maxRecDepth 100000
set_option maxHeartbeats 400000
namespace Go.Proofs.YtpghlemcgjogpaaGreat
open Go.Sx
/-! ### hasp/haspref10.SameLocks -/
noncomputable def F36_b : Code := bodyOf Tryz.f36
def F36_dc : Nat → List (Nat × Bool)
  | 6 => [(0, true), (1, true), (2, true), (3, true), (4, true), (5, true), (6, true), (7, true), (8, true)]
  | _ => []
abbrev F36_k (R : RT) := resK Tryz.prog [.tmp 4] R
abbrev F36_W (R : RT) := wpE Tryz.prog F36_dc (F36_k R) (panK R)
noncomputable def F36_p0 := cR F36_b
noncomputable def F36_p1 := cR F36_p0
noncomputable def F36_p2 := cR F36_p1
noncomputable def F36_p3 := cL F36_p2
noncomputable def F36_p4 := cL F36_p1
noncomputable def F36_p5 := cR F36_p4
noncomputable def F36_p6 := cI F36_p5
noncomputable def F36_p7 := cI F36_p6
noncomputable def F36_p8 := cR F36_p7
noncomputable def F36_p9 := cR F36_p8
noncomputable def F36_p10 := cL F36_p8
noncomputable def F36_p11 := cI F36_p10
noncomputable def F36_p12 := cR F36_p11
noncomputable def F36_p13 := cT F36_p12
noncomputable def F36_p14 := cL F36_p13
noncomputable def F36_p15 := cL F36_p11
noncomputable def F36_p16 := cL F36_p7
noncomputable def F36_p17 := cR F36_p16
noncomputable def F36_p18 := cL F36_p16
noncomputable def F36_p19 := cL F36_p4
noncomputable def F36_p20 := cL F36_p0
noncomputable def F36_p21 := cR F36_p20
noncomputable def F36_p22 := cT F36_p21
noncomputable def F36_p23 := cL F36_p22
noncomputable def F36_p24 := cL F36_b
noncomputable def F36_p25 := cL F36_p20
def F36_s5_t (R : RT) (w : World) : Prop :=
  R (.returned (.bool true)) w
theorem F36_s5_st (R : RT) (X : KX) (f : Fr) (w : World) (h : F36_s5_t R w) : F36_W R F36_p3 (F36_k R) X f w := Eq.mp (by kernel_rfl) h
def F36_s5 (R : RT) (w : World) : Prop :=
  F36_s5_t R w
noncomputable def F36_s5_c : Code := (.seq F36_p3 .ret)
theorem F36_s5_ok (R : RT) : OkW (F36_W R) ((fun f w => F36_s5 R w)) F36_s5_c (F36_k R) noX :=
  fun f w h => cut F36_p3 .ret (K := (F36_k R)) (fun f w h => ret_ok h) f w (F36_s5_st R _ f w h)
def F36_s10_t (R : RT) (K : V1) (v0 v1 v5 : Value) (w : World) : Prop :=
  uv Tryz.prog R (binS .add 3 (.tmp 15) (.const (.int .i64 1)) v5 (.int .i64 1)) w (fun v16 w =>
  K v16 w)
theorem F36_s10_st (R : RT) (K : V1) (X : KX) (f : Fr) (w : World) (h : F36_s10_t R K (f 0) (f 1) (f 5) w) : F36_W R F36_p9 (a1 K 5) X f w := Eq.mp (by kernel_rfl) h
def F36_s10 (R : RT) (rec6 : V1) (v0 v1 v5 : Value) (w : World) : Prop :=
  F36_s10_t R rec6 v0 v1 v5 w
noncomputable def F36_s10_c : Code := (.seq F36_p9 .skip)
theorem F36_s10_ok (R : RT) (rec6 : V1) : OkW (F36_W R) (a3 (F36_s10 R rec6) 0 1 5) F36_s10_c (a1 rec6 5) (kxB 0 ((fun f w => F36_s5 R w)) noX) :=
  fun f w h => cut F36_p9 .skip (K := (a1 rec6 5)) (fun f w h => skip_ok h) f w (F36_s10_st R rec6 _ f w h)
def F36_s13_t (R : RT) (w : World) : Prop :=
  R (.returned (.bool false)) w
theorem F36_s13_st (R : RT) (X : KX) (f : Fr) (w : World) (h : F36_s13_t R w) : F36_W R F36_p14 (F36_k R) X f w := Eq.mp (by kernel_rfl) h
def F36_s13 (R : RT) (rec6 : V1) (w : World) : Prop :=
  F36_s13_t R w
noncomputable def F36_s13_c : Code := (.seq F36_p14 .ret)
theorem F36_s13_ok (R : RT) (rec6 : V1) : OkW (F36_W R) ((fun f w => F36_s13 R rec6 w)) F36_s13_c (a3 (F36_s10 R rec6) 0 1 5) (kxB 1 (a3 (F36_s10 R rec6) 0 1 5) (kxB 0 ((fun f w => F36_s5 R w)) noX)) :=
  fun f w h => cut F36_p14 .ret (K := (F36_k R)) (fun f w h => ret_ok h) f w (F36_s13_st R _ f w h)
def F36_s12 (R : RT) (rec6 : V1) (v0 v1 v5 v25 : Value) (w : World) : Prop :=
  Bc v25
    (F36_s13 R rec6 w)
    (F36_s10 R rec6 v0 v1 v5 w)
noncomputable def F36_s12_c : Code := (.seq F36_p12 .skip)
theorem F36_s12_e (R : RT) (K : KF) (X : KX) (f : Fr) (w : World) (h : Bc (f 25) (F36_W R F36_s13_c K X f w) (F36_W R .skip K X f w)) : (F36_W R F36_p12 K X f w) := Eq.mp (by kernel_rfl) h
theorem F36_s12_ok (R : RT) (rec6 : V1) : OkW (F36_W R) (a4 (F36_s12 R rec6) 0 1 5 25) F36_s12_c (a3 (F36_s10 R rec6) 0 1 5) (kxB 1 (a3 (F36_s10 R rec6) 0 1 5) (kxB 0 ((fun f w => F36_s5 R w)) noX)) :=
  fun f w h => cut F36_p12 .skip (K := (a3 (F36_s10 R rec6) 0 1 5)) (fun f w h => skip_ok h) f w (F36_s12_e R _ _ f w (Bc_imp (x' := (F36_W R F36_s13_c (a3 (F36_s10 R rec6) 0 1 5) (kxB 1 (a3 (F36_s10 R rec6) 0 1 5) (kxB 0 ((fun f w => F36_s5 R w)) noX)) f w)) (y' := (F36_W R .skip (a3 (F36_s10 R rec6) 0 1 5) (kxB 1 (a3 (F36_s10 R rec6) 0 1 5) (kxB 0 ((fun f w => F36_s5 R w)) noX)) f w)) ((F36_s13_ok R rec6) f w) ((fun f w h => skip_ok h) f w) h))
def F36_s11_t (R : RT) (K : V4) (v0 v1 v5 : Value) (w : World) : Prop :=
  Dr (fun S w =>
  HV Tryz.prog S (Instr.indexAt 27 v0 v5) (fun v19 =>
  HV Tryz.prog S (Instr.loadAt 42 v19) (fun v20 =>
  HV Tryz.prog S (Instr.indexAt 27 v1 v5) (fun v23 =>
  HV Tryz.prog S (Instr.loadAt 42 v23) (fun v24 =>
  HV Tryz.prog S (binS .neq 42 (.tmp 20) (.tmp 24) v20 v24) (fun v25 =>
  K v0 v1 v5 v25 w)))))) w
theorem F36_s11_st (R : RT) (K : V4) (X : KX) (f : Fr) (w : World) (h : F36_s11_t R K (f 0) (f 1) (f 5) w) : F36_W R F36_p15 (a4 K 0 1 5 25) X f w := Eq.mp (by kernel_rfl) h
def F36_s11 (R : RT) (rec6 : V1) (v0 v1 v5 : Value) (w : World) : Prop :=
  F36_s11_t R (F36_s12 R rec6) v0 v1 v5 w
noncomputable def F36_s11_c : Code := (.seq F36_p15 F36_s12_c)
theorem F36_s11_ok (R : RT) (rec6 : V1) : OkW (F36_W R) (a3 (F36_s11 R rec6) 0 1 5) F36_s11_c (a3 (F36_s10 R rec6) 0 1 5) (kxB 1 (a3 (F36_s10 R rec6) 0 1 5) (kxB 0 ((fun f w => F36_s5 R w)) noX)) :=
  fun f w h => cut F36_p15 F36_s12_c (K := (a4 (F36_s12 R rec6) 0 1 5 25)) (F36_s12_ok R rec6) f w (F36_s11_st R (F36_s12 R rec6) _ f w h)
noncomputable def F36_s9_c : Code := (.seq F36_p10 F36_s10_c)
theorem F36_s9_e (R : RT) (K : KF) (X : KX) (f : Fr) (w : World) (h : F36_W R F36_s11_c K (kxB 1 K X) f w) : F36_W R F36_p10 K X f w := Eq.mp (by kernel_rfl) h
theorem F36_s9_ok (R : RT) (rec6 : V1) : OkW (F36_W R) (a3 (F36_s11 R rec6) 0 1 5) F36_s9_c (a1 rec6 5) (kxB 0 ((fun f w => F36_s5 R w)) noX) :=
  fun f w h => cut F36_p10 F36_s10_c (K := (a3 (F36_s10 R rec6) 0 1 5)) (F36_s10_ok R rec6) f w (F36_s9_e R _ _ f w ((F36_s11_ok R rec6) f w h))
def F36_s8 (R : RT) (rec6 : V1) (v0 v1 v5 v14 : Value) (w : World) : Prop :=
  Bc v14
    (F36_s11 R rec6 v0 v1 v5 w)
    (F36_s5 R w)
noncomputable def F36_s8_c : Code := (.seq F36_p17 F36_s9_c)
theorem F36_s8_e (R : RT) (K : KF) (X : KX) (f : Fr) (w : World) (h : Bc (f 14) (F36_W R .skip K X f w) (F36_W R (.exit 0) K X f w)) : (F36_W R F36_p17 K X f w) := Eq.mp (by kernel_rfl) h
theorem F36_s8_ok (R : RT) (rec6 : V1) : OkW (F36_W R) (a4 (F36_s8 R rec6) 0 1 5 14) F36_s8_c (a1 rec6 5) (kxB 0 ((fun f w => F36_s5 R w)) noX) :=
  fun f w h => cut F36_p17 F36_s9_c (K := (a3 (F36_s11 R rec6) 0 1 5)) (F36_s9_ok R rec6) f w (F36_s8_e R _ _ f w (Bc_imp (x' := (F36_W R .skip (a3 (F36_s11 R rec6) 0 1 5) (kxB 0 ((fun f w => F36_s5 R w)) noX) f w)) (y' := (F36_W R (.exit 0) (a3 (F36_s11 R rec6) 0 1 5) (kxB 0 ((fun f w => F36_s5 R w)) noX) f w)) ((fun f w h => skip_ok h) f w) ((fun f w h => exit_hit h) f w) h))
def F36_s7_t (R : RT) (K : V4) (v0 v1 v5 : Value) (w : World) : Prop :=
  un Tryz.prog R (builtin .len #[27] 3 #[false] #[v0]) w (fun v13 w =>
  uv Tryz.prog R (binS .lss 3 (.tmp 11) (.tmp 13) v5 v13) w (fun v14 w =>
  K v0 v1 v5 v14 w))
theorem F36_s7_st (R : RT) (K : V4) (X : KX) (f : Fr) (w : World) (h : F36_s7_t R K (f 0) (f 1) (f 5) w) : F36_W R F36_p18 (a4 K 0 1 5 14) X f w := Eq.mp (by kernel_rfl) h
def F36_s7 (R : RT) (rec6 : V1) (v0 v1 v5 : Value) (w : World) : Prop :=
  F36_s7_t R (F36_s8 R rec6) v0 v1 v5 w
noncomputable def F36_s7_c : Code := (.seq F36_p18 F36_s8_c)
theorem F36_s7_ok (R : RT) (rec6 : V1) : OkW (F36_W R) (a3 (F36_s7 R rec6) 0 1 5) F36_s7_c (a1 rec6 5) (kxB 0 ((fun f w => F36_s5 R w)) noX) :=
  fun f w h => cut F36_p18 F36_s8_c (K := (a4 (F36_s8 R rec6) 0 1 5 14)) (F36_s8_ok R rec6) f w (F36_s7_st R (F36_s8 R rec6) _ f w h)
def F36_s6 (R : RT) (v0 v1 v5 : Value) (w : World) : Prop :=
  Lp1 (fun rec6 v5 w => F36_s7 R rec6 v0 v1 v5 w) v5 w
theorem F36_s6_e (R : RT) (K : KF) (X : KX) (f : Fr) (w : World) (h : F36_W R (.loop F36_p7) K X f w) : F36_W R F36_p6 K X f w := Eq.mp (by kernel_rfl) h
theorem F36_s6b_e (R : RT) (K : KF) (X : KX) (f : Fr) (w : World) (h : F36_W R F36_s7_c K X f w) : F36_W R F36_p7 K X f w := Eq.mp (by kernel_rfl) h
theorem F36_s6_ok (R : RT) : OkW (F36_W R) (a3 (F36_s6 R) 0 1 5) F36_p6 (fun f w => F36_s5 R w) (kxB 0 ((fun f w => F36_s5 R w)) noX) :=
  fun f w h => F36_s6_e R _ _ f w (loop1_ok (P := Tryz.prog) (dc := F36_dc) (kr := (F36_k R)) (pan := panK R) F36_p7 (kn := (fun f w => F36_s5 R w)) (kx := (kxB 0 ((fun f w => F36_s5 R w)) noX)) (s0 := 5) (fun rec6 v5 w => F36_s7 R rec6 (f 0) (f 1) v5 w) f (fun rec6 f' w' hf h' => F36_s6b_e R _ _ f' w' ((F36_s7_ok R rec6) f' w' (by simp only [a3, hf 0 (by kernel_rfl), hf 1 (by kernel_rfl)]; exact h'))) w h)
noncomputable def F36_s4_c : Code := (.seq F36_p5 F36_s5_c)
theorem F36_s4_e (R : RT) (K : KF) (X : KX) (f : Fr) (w : World) (h : F36_W R F36_p6 K (kxB 0 K X) f w) : F36_W R F36_p5 K X f w := Eq.mp (by kernel_rfl) h
theorem F36_s4_ok (R : RT) : OkW (F36_W R) (a3 (F36_s6 R) 0 1 5) F36_s4_c (F36_k R) noX :=
  fun f w h => cut F36_p5 F36_s5_c (K := (fun f w => F36_s5 R w)) (F36_s5_ok R) f w (F36_s4_e R _ _ f w ((F36_s6_ok R) f w h))
def F36_s3_t (R : RT) (K : V3) (v0 v1 : Value) (w : World) : Prop :=
  K v0 v1 (.int .i64 0) w
theorem F36_s3_st (R : RT) (K : V3) (X : KX) (f : Fr) (w : World) (h : F36_s3_t R K (f 0) (f 1) w) : F36_W R F36_p19 (a3 K 0 1 5) X f w := Eq.mp (by kernel_rfl) h
def F36_s3 (R : RT) (v0 v1 : Value) (w : World) : Prop :=
  F36_s3_t R (F36_s6 R) v0 v1 w
noncomputable def F36_s3_c : Code := (.seq F36_p19 F36_s4_c)
theorem F36_s3_ok (R : RT) : OkW (F36_W R) (a2 (F36_s3 R) 0 1) F36_s3_c (F36_k R) noX :=
  fun f w h => cut F36_p19 F36_s4_c (K := (a3 (F36_s6 R) 0 1 5)) (F36_s4_ok R) f w (F36_s3_st R (F36_s6 R) _ f w h)
def F36_s14_t (R : RT) (w : World) : Prop :=
  R (.returned (.bool false)) w
theorem F36_s14_st (R : RT) (X : KX) (f : Fr) (w : World) (h : F36_s14_t R w) : F36_W R F36_p23 (F36_k R) X f w := Eq.mp (by kernel_rfl) h
def F36_s14 (R : RT) (w : World) : Prop :=
  F36_s14_t R w
noncomputable def F36_s14_c : Code := (.seq F36_p23 .ret)
theorem F36_s14_ok (R : RT) : OkW (F36_W R) ((fun f w => F36_s14 R w)) F36_s14_c (a2 (F36_s3 R) 0 1) noX :=
  fun f w h => cut F36_p23 .ret (K := (F36_k R)) (fun f w h => ret_ok h) f w (F36_s14_st R _ f w h)
def F36_s2 (R : RT) (v0 v1 v10 : Value) (w : World) : Prop :=
  Bc v10
    (F36_s14 R w)
    (F36_s3 R v0 v1 w)
noncomputable def F36_s2_c : Code := (.seq F36_p21 F36_s3_c)
theorem F36_s2_e (R : RT) (K : KF) (X : KX) (f : Fr) (w : World) (h : Bc (f 10) (F36_W R F36_s14_c K X f w) (F36_W R .skip K X f w)) : (F36_W R F36_p21 K X f w) := Eq.mp (by kernel_rfl) h
theorem F36_s2_ok (R : RT) : OkW (F36_W R) (a3 (F36_s2 R) 0 1 10) F36_s2_c (F36_k R) noX :=
  fun f w h => cut F36_p21 F36_s3_c (K := (a2 (F36_s3 R) 0 1)) (F36_s3_ok R) f w (F36_s2_e R _ _ f w (Bc_imp (x' := (F36_W R F36_s14_c (a2 (F36_s3 R) 0 1) noX f w)) (y' := (F36_W R .skip (a2 (F36_s3 R) 0 1) noX f w)) ((F36_s14_ok R) f w) ((fun f w h => skip_ok h) f w) h))
def F36_s1_t (R : RT) (K : V3) (v0 v1 : Value) (w : World) : Prop :=
  un Tryz.prog R (builtin .len #[27] 3 #[false] #[v0]) w (fun v7 w =>
  un Tryz.prog R (builtin .len #[27] 3 #[false] #[v1]) w (fun v9 w =>
  uv Tryz.prog R (binS .neq 3 (.tmp 7) (.tmp 9) v7 v9) w (fun v10 w =>
  K v0 v1 v10 w)))
theorem F36_s1_st (R : RT) (K : V3) (X : KX) (f : Fr) (w : World) (h : F36_s1_t R K (f 0) (f 1) w) : F36_W R (.seq F36_p24 F36_p25) (a3 K 0 1 10) X f w := Eq.mp (by kernel_rfl) h
def F36_s1 (R : RT) (v0 v1 : Value) (w : World) : Prop :=
  F36_s1_t R (F36_s2 R) v0 v1 w
noncomputable def F36_s1_c : Code := (.seq (.seq F36_p24 F36_p25) F36_s2_c)
theorem F36_s1_ok (R : RT) : OkW (F36_W R) (a2 (F36_s1 R) 0 1) F36_s1_c (F36_k R) noX :=
  fun f w h => cut (.seq F36_p24 F36_p25) F36_s2_c (K := (a3 (F36_s2 R) 0 1 10)) (F36_s2_ok R) f w (F36_s1_st R (F36_s2 R) _ f w h)
theorem F36_all_e (R : RT) (K : KF) (X : KX) (f : Fr) (w : World) (h : F36_W R F36_s1_c K X f w) : F36_W R F36_b K X f w := Eq.mp (by kernel_rfl) h
theorem F36_calls (R : RT) (v0 v1 : Value) (w : World) (h : F36_s1 R v0 v1 w) : Calls Tryz.prog 36 #[v0, v1] w R :=
  calls_of_wpE (dc := F36_dc) (args := [v0, v1]) hmixed Tryz.func36 (c := F36_b) rfl (rs := [.tmp 4]) rfl (by kernel_rfl) (Nat.le_of_ble_eq_true (by kernel_rfl)) (F36_all_e R _ _ _ w ((F36_s1_ok R) (initFr [v0, v1]) w h))

/-! ### hasp/haspref10.SameEdges -/
noncomputable def F37_b : Code := bodyOf Tryz.f37
def F37_dc : Nat → List (Nat × Bool)
  | 6 => [(0, true), (1, true), (2, true), (3, true), (4, true), (5, true), (6, true), (7, true), (8, true)]
  | _ => []
abbrev F37_k (R : RT) := resK Tryz.prog [.tmp 4] R
abbrev F37_W (R : RT) := wpE Tryz.prog F37_dc (F37_k R) (panK R)
noncomputable def F37_p0 := cR F37_b
noncomputable def F37_p1 := cR F37_p0
noncomputable def F37_p2 := cR F37_p1
noncomputable def F37_p3 := cL F37_p2
noncomputable def F37_p4 := cL F37_p1
noncomputable def F37_p5 := cR F37_p4
noncomputable def F37_p6 := cI F37_p5
noncomputable def F37_p7 := cI F37_p6
noncomputable def F37_p8 := cR F37_p7
noncomputable def F37_p9 := cR F37_p8
noncomputable def F37_p10 := cL F37_p8
noncomputable def F37_p11 := cI F37_p10
noncomputable def F37_p12 := cR F37_p11
noncomputable def F37_p13 := cT F37_p12
noncomputable def F37_p14 := cL F37_p13
noncomputable def F37_p15 := cL F37_p11
noncomputable def F37_p16 := cL F37_p7
noncomputable def F37_p17 := cR F37_p16
noncomputable def F37_p18 := cL F37_p16
noncomputable def F37_p19 := cL F37_p4
noncomputable def F37_p20 := cL F37_p0
noncomputable def F37_p21 := cR F37_p20
noncomputable def F37_p22 := cT F37_p21
noncomputable def F37_p23 := cL F37_p22
noncomputable def F37_p24 := cL F37_b
noncomputable def F37_p25 := cL F37_p20
def F37_s5_t (R : RT) (w : World) : Prop :=
  R (.returned (.bool true)) w
theorem F37_s5_st (R : RT) (X : KX) (f : Fr) (w : World) (h : F37_s5_t R w) : F37_W R F37_p3 (F37_k R) X f w := Eq.mp (by kernel_rfl) h
def F37_s5 (R : RT) (w : World) : Prop :=
  F37_s5_t R w
noncomputable def F37_s5_c : Code := (.seq F37_p3 .ret)
theorem F37_s5_ok (R : RT) : OkW (F37_W R) ((fun f w => F37_s5 R w)) F37_s5_c (F37_k R) noX :=
  fun f w h => cut F37_p3 .ret (K := (F37_k R)) (fun f w h => ret_ok h) f w (F37_s5_st R _ f w h)
def F37_s10_t (R : RT) (K : V1) (v0 v1 v5 : Value) (w : World) : Prop :=
  uv Tryz.prog R (binS .add 3 (.tmp 15) (.const (.int .i64 1)) v5 (.int .i64 1)) w (fun v16 w =>
  K v16 w)
theorem F37_s10_st (R : RT) (K : V1) (X : KX) (f : Fr) (w : World) (h : F37_s10_t R K (f 0) (f 1) (f 5) w) : F37_W R F37_p9 (a1 K 5) X f w := Eq.mp (by kernel_rfl) h
def F37_s10 (R : RT) (rec6 : V1) (v0 v1 v5 : Value) (w : World) : Prop :=
  F37_s10_t R rec6 v0 v1 v5 w
noncomputable def F37_s10_c : Code := (.seq F37_p9 .skip)
theorem F37_s10_ok (R : RT) (rec6 : V1) : OkW (F37_W R) (a3 (F37_s10 R rec6) 0 1 5) F37_s10_c (a1 rec6 5) (kxB 0 ((fun f w => F37_s5 R w)) noX) :=
  fun f w h => cut F37_p9 .skip (K := (a1 rec6 5)) (fun f w h => skip_ok h) f w (F37_s10_st R rec6 _ f w h)
def F37_s13_t (R : RT) (w : World) : Prop :=
  R (.returned (.bool false)) w
theorem F37_s13_st (R : RT) (X : KX) (f : Fr) (w : World) (h : F37_s13_t R w) : F37_W R F37_p14 (F37_k R) X f w := Eq.mp (by kernel_rfl) h
def F37_s13 (R : RT) (rec6 : V1) (w : World) : Prop :=
  F37_s13_t R w
noncomputable def F37_s13_c : Code := (.seq F37_p14 .ret)
theorem F37_s13_ok (R : RT) (rec6 : V1) : OkW (F37_W R) ((fun f w => F37_s13 R rec6 w)) F37_s13_c (a3 (F37_s10 R rec6) 0 1 5) (kxB 1 (a3 (F37_s10 R rec6) 0 1 5) (kxB 0 ((fun f w => F37_s5 R w)) noX)) :=
  fun f w h => cut F37_p14 .ret (K := (F37_k R)) (fun f w h => ret_ok h) f w (F37_s13_st R _ f w h)
def F37_s12 (R : RT) (rec6 : V1) (v0 v1 v5 v25 : Value) (w : World) : Prop :=
  Bc v25
    (F37_s13 R rec6 w)
    (F37_s10 R rec6 v0 v1 v5 w)
noncomputable def F37_s12_c : Code := (.seq F37_p12 .skip)
theorem F37_s12_e (R : RT) (K : KF) (X : KX) (f : Fr) (w : World) (h : Bc (f 25) (F37_W R F37_s13_c K X f w) (F37_W R .skip K X f w)) : (F37_W R F37_p12 K X f w) := Eq.mp (by kernel_rfl) h
theorem F37_s12_ok (R : RT) (rec6 : V1) : OkW (F37_W R) (a4 (F37_s12 R rec6) 0 1 5 25) F37_s12_c (a3 (F37_s10 R rec6) 0 1 5) (kxB 1 (a3 (F37_s10 R rec6) 0 1 5) (kxB 0 ((fun f w => F37_s5 R w)) noX)) :=
  fun f w h => cut F37_p12 .skip (K := (a3 (F37_s10 R rec6) 0 1 5)) (fun f w h => skip_ok h) f w (F37_s12_e R _ _ f w (Bc_imp (x' := (F37_W R F37_s13_c (a3 (F37_s10 R rec6) 0 1 5) (kxB 1 (a3 (F37_s10 R rec6) 0 1 5) (kxB 0 ((fun f w => F37_s5 R w)) noX)) f w)) (y' := (F37_W R .skip (a3 (F37_s10 R rec6) 0 1 5) (kxB 1 (a3 (F37_s10 R rec6) 0 1 5) (kxB 0 ((fun f w => F37_s5 R w)) noX)) f w)) ((F37_s13_ok R rec6) f w) ((fun f w h => skip_ok h) f w) h))
def F37_s11_t (R : RT) (K : V4) (v0 v1 v5 : Value) (w : World) : Prop :=
  Dr (fun S w =>
  HV Tryz.prog S (Instr.indexAt 39 v0 v5) (fun v19 =>
  HV Tryz.prog S (Instr.loadAt 83 v19) (fun v20 =>
  HV Tryz.prog S (Instr.indexAt 39 v1 v5) (fun v23 =>
  HV Tryz.prog S (Instr.loadAt 83 v23) (fun v24 =>
  HV Tryz.prog S (binS .neq 83 (.tmp 20) (.tmp 24) v20 v24) (fun v25 =>
  K v0 v1 v5 v25 w)))))) w
theorem F37_s11_st (R : RT) (K : V4) (X : KX) (f : Fr) (w : World) (h : F37_s11_t R K (f 0) (f 1) (f 5) w) : F37_W R F37_p15 (a4 K 0 1 5 25) X f w := Eq.mp (by kernel_rfl) h
def F37_s11 (R : RT) (rec6 : V1) (v0 v1 v5 : Value) (w : World) : Prop :=
  F37_s11_t R (F37_s12 R rec6) v0 v1 v5 w
noncomputable def F37_s11_c : Code := (.seq F37_p15 F37_s12_c)
theorem F37_s11_ok (R : RT) (rec6 : V1) : OkW (F37_W R) (a3 (F37_s11 R rec6) 0 1 5) F37_s11_c (a3 (F37_s10 R rec6) 0 1 5) (kxB 1 (a3 (F37_s10 R rec6) 0 1 5) (kxB 0 ((fun f w => F37_s5 R w)) noX)) :=
  fun f w h => cut F37_p15 F37_s12_c (K := (a4 (F37_s12 R rec6) 0 1 5 25)) (F37_s12_ok R rec6) f w (F37_s11_st R (F37_s12 R rec6) _ f w h)
noncomputable def F37_s9_c : Code := (.seq F37_p10 F37_s10_c)
theorem F37_s9_e (R : RT) (K : KF) (X : KX) (f : Fr) (w : World) (h : F37_W R F37_s11_c K (kxB 1 K X) f w) : F37_W R F37_p10 K X f w := Eq.mp (by kernel_rfl) h
theorem F37_s9_ok (R : RT) (rec6 : V1) : OkW (F37_W R) (a3 (F37_s11 R rec6) 0 1 5) F37_s9_c (a1 rec6 5) (kxB 0 ((fun f w => F37_s5 R w)) noX) :=
  fun f w h => cut F37_p10 F37_s10_c (K := (a3 (F37_s10 R rec6) 0 1 5)) (F37_s10_ok R rec6) f w (F37_s9_e R _ _ f w ((F37_s11_ok R rec6) f w h))
def F37_s8 (R : RT) (rec6 : V1) (v0 v1 v5 v14 : Value) (w : World) : Prop :=
  Bc v14
    (F37_s11 R rec6 v0 v1 v5 w)
    (F37_s5 R w)
noncomputable def F37_s8_c : Code := (.seq F37_p17 F37_s9_c)
theorem F37_s8_e (R : RT) (K : KF) (X : KX) (f : Fr) (w : World) (h : Bc (f 14) (F37_W R .skip K X f w) (F37_W R (.exit 0) K X f w)) : (F37_W R F37_p17 K X f w) := Eq.mp (by kernel_rfl) h
theorem F37_s8_ok (R : RT) (rec6 : V1) : OkW (F37_W R) (a4 (F37_s8 R rec6) 0 1 5 14) F37_s8_c (a1 rec6 5) (kxB 0 ((fun f w => F37_s5 R w)) noX) :=
  fun f w h => cut F37_p17 F37_s9_c (K := (a3 (F37_s11 R rec6) 0 1 5)) (F37_s9_ok R rec6) f w (F37_s8_e R _ _ f w (Bc_imp (x' := (F37_W R .skip (a3 (F37_s11 R rec6) 0 1 5) (kxB 0 ((fun f w => F37_s5 R w)) noX) f w)) (y' := (F37_W R (.exit 0) (a3 (F37_s11 R rec6) 0 1 5) (kxB 0 ((fun f w => F37_s5 R w)) noX) f w)) ((fun f w h => skip_ok h) f w) ((fun f w h => exit_hit h) f w) h))
def F37_s7_t (R : RT) (K : V4) (v0 v1 v5 : Value) (w : World) : Prop :=
  un Tryz.prog R (builtin .len #[39] 3 #[false] #[v0]) w (fun v13 w =>
  uv Tryz.prog R (binS .lss 3 (.tmp 11) (.tmp 13) v5 v13) w (fun v14 w =>
  K v0 v1 v5 v14 w))
theorem F37_s7_st (R : RT) (K : V4) (X : KX) (f : Fr) (w : World) (h : F37_s7_t R K (f 0) (f 1) (f 5) w) : F37_W R F37_p18 (a4 K 0 1 5 14) X f w := Eq.mp (by kernel_rfl) h
def F37_s7 (R : RT) (rec6 : V1) (v0 v1 v5 : Value) (w : World) : Prop :=
  F37_s7_t R (F37_s8 R rec6) v0 v1 v5 w
noncomputable def F37_s7_c : Code := (.seq F37_p18 F37_s8_c)
theorem F37_s7_ok (R : RT) (rec6 : V1) : OkW (F37_W R) (a3 (F37_s7 R rec6) 0 1 5) F37_s7_c (a1 rec6 5) (kxB 0 ((fun f w => F37_s5 R w)) noX) :=
  fun f w h => cut F37_p18 F37_s8_c (K := (a4 (F37_s8 R rec6) 0 1 5 14)) (F37_s8_ok R rec6) f w (F37_s7_st R (F37_s8 R rec6) _ f w h)
def F37_s6 (R : RT) (v0 v1 v5 : Value) (w : World) : Prop :=
  Lp1 (fun rec6 v5 w => F37_s7 R rec6 v0 v1 v5 w) v5 w
theorem F37_s6_e (R : RT) (K : KF) (X : KX) (f : Fr) (w : World) (h : F37_W R (.loop F37_p7) K X f w) : F37_W R F37_p6 K X f w := Eq.mp (by kernel_rfl) h
theorem F37_s6b_e (R : RT) (K : KF) (X : KX) (f : Fr) (w : World) (h : F37_W R F37_s7_c K X f w) : F37_W R F37_p7 K X f w := Eq.mp (by kernel_rfl) h
theorem F37_s6_ok (R : RT) : OkW (F37_W R) (a3 (F37_s6 R) 0 1 5) F37_p6 (fun f w => F37_s5 R w) (kxB 0 ((fun f w => F37_s5 R w)) noX) :=
  fun f w h => F37_s6_e R _ _ f w (loop1_ok (P := Tryz.prog) (dc := F37_dc) (kr := (F37_k R)) (pan := panK R) F37_p7 (kn := (fun f w => F37_s5 R w)) (kx := (kxB 0 ((fun f w => F37_s5 R w)) noX)) (s0 := 5) (fun rec6 v5 w => F37_s7 R rec6 (f 0) (f 1) v5 w) f (fun rec6 f' w' hf h' => F37_s6b_e R _ _ f' w' ((F37_s7_ok R rec6) f' w' (by simp only [a3, hf 0 (by kernel_rfl), hf 1 (by kernel_rfl)]; exact h'))) w h)
noncomputable def F37_s4_c : Code := (.seq F37_p5 F37_s5_c)
theorem F37_s4_e (R : RT) (K : KF) (X : KX) (f : Fr) (w : World) (h : F37_W R F37_p6 K (kxB 0 K X) f w) : F37_W R F37_p5 K X f w := Eq.mp (by kernel_rfl) h
theorem F37_s4_ok (R : RT) : OkW (F37_W R) (a3 (F37_s6 R) 0 1 5) F37_s4_c (F37_k R) noX :=
  fun f w h => cut F37_p5 F37_s5_c (K := (fun f w => F37_s5 R w)) (F37_s5_ok R) f w (F37_s4_e R _ _ f w ((F37_s6_ok R) f w h))
def F37_s3_t (R : RT) (K : V3) (v0 v1 : Value) (w : World) : Prop :=
  K v0 v1 (.int .i64 0) w
theorem F37_s3_st (R : RT) (K : V3) (X : KX) (f : Fr) (w : World) (h : F37_s3_t R K (f 0) (f 1) w) : F37_W R F37_p19 (a3 K 0 1 5) X f w := Eq.mp (by kernel_rfl) h
def F37_s3 (R : RT) (v0 v1 : Value) (w : World) : Prop :=
  F37_s3_t R (F37_s6 R) v0 v1 w
noncomputable def F37_s3_c : Code := (.seq F37_p19 F37_s4_c)
theorem F37_s3_ok (R : RT) : OkW (F37_W R) (a2 (F37_s3 R) 0 1) F37_s3_c (F37_k R) noX :=
  fun f w h => cut F37_p19 F37_s4_c (K := (a3 (F37_s6 R) 0 1 5)) (F37_s4_ok R) f w (F37_s3_st R (F37_s6 R) _ f w h)
def F37_s14_t (R : RT) (w : World) : Prop :=
  R (.returned (.bool false)) w
theorem F37_s14_st (R : RT) (X : KX) (f : Fr) (w : World) (h : F37_s14_t R w) : F37_W R F37_p23 (F37_k R) X f w := Eq.mp (by kernel_rfl) h
def F37_s14 (R : RT) (w : World) : Prop :=
  F37_s14_t R w
noncomputable def F37_s14_c : Code := (.seq F37_p23 .ret)
theorem F37_s14_ok (R : RT) : OkW (F37_W R) ((fun f w => F37_s14 R w)) F37_s14_c (a2 (F37_s3 R) 0 1) noX :=
  fun f w h => cut F37_p23 .ret (K := (F37_k R)) (fun f w h => ret_ok h) f w (F37_s14_st R _ f w h)
def F37_s2 (R : RT) (v0 v1 v10 : Value) (w : World) : Prop :=
  Bc v10
    (F37_s14 R w)
    (F37_s3 R v0 v1 w)
noncomputable def F37_s2_c : Code := (.seq F37_p21 F37_s3_c)
theorem F37_s2_e (R : RT) (K : KF) (X : KX) (f : Fr) (w : World) (h : Bc (f 10) (F37_W R F37_s14_c K X f w) (F37_W R .skip K X f w)) : (F37_W R F37_p21 K X f w) := Eq.mp (by kernel_rfl) h
theorem F37_s2_ok (R : RT) : OkW (F37_W R) (a3 (F37_s2 R) 0 1 10) F37_s2_c (F37_k R) noX :=
  fun f w h => cut F37_p21 F37_s3_c (K := (a2 (F37_s3 R) 0 1)) (F37_s3_ok R) f w (F37_s2_e R _ _ f w (Bc_imp (x' := (F37_W R F37_s14_c (a2 (F37_s3 R) 0 1) noX f w)) (y' := (F37_W R .skip (a2 (F37_s3 R) 0 1) noX f w)) ((F37_s14_ok R) f w) ((fun f w h => skip_ok h) f w) h))
def F37_s1_t (R : RT) (K : V3) (v0 v1 : Value) (w : World) : Prop :=
  un Tryz.prog R (builtin .len #[39] 3 #[false] #[v0]) w (fun v7 w =>
  un Tryz.prog R (builtin .len #[39] 3 #[false] #[v1]) w (fun v9 w =>
  uv Tryz.prog R (binS .neq 3 (.tmp 7) (.tmp 9) v7 v9) w (fun v10 w =>
  K v0 v1 v10 w)))
theorem F37_s1_st (R : RT) (K : V3) (X : KX) (f : Fr) (w : World) (h : F37_s1_t R K (f 0) (f 1) w) : F37_W R (.seq F37_p24 F37_p25) (a3 K 0 1 10) X f w := Eq.mp (by kernel_rfl) h
def F37_s1 (R : RT) (v0 v1 : Value) (w : World) : Prop :=
  F37_s1_t R (F37_s2 R) v0 v1 w
noncomputable def F37_s1_c : Code := (.seq (.seq F37_p24 F37_p25) F37_s2_c)
theorem F37_s1_ok (R : RT) : OkW (F37_W R) (a2 (F37_s1 R) 0 1) F37_s1_c (F37_k R) noX :=
  fun f w h => cut (.seq F37_p24 F37_p25) F37_s2_c (K := (a3 (F37_s2 R) 0 1 10)) (F37_s2_ok R) f w (F37_s1_st R (F37_s2 R) _ f w h)
theorem F37_all_e (R : RT) (K : KF) (X : KX) (f : Fr) (w : World) (h : F37_W R F37_s1_c K X f w) : F37_W R F37_b K X f w := Eq.mp (by kernel_rfl) h
theorem F37_calls (R : RT) (v0 v1 : Value) (w : World) (h : F37_s1 R v0 v1 w) : Calls Tryz.prog 37 #[v0, v1] w R :=
  calls_of_wpE (dc := F37_dc) (args := [v0, v1]) hmixed Tryz.func37 (c := F37_b) rfl (rs := [.tmp 4]) rfl (by kernel_rfl) (Nat.le_of_ble_eq_true (by kernel_rfl)) (F37_all_e R _ _ _ w ((F37_s1_ok R) (initFr [v0, v1]) w h))

end Go.Proofs.YtpghlemcgjogpaaGreat
