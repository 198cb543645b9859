import Derived.Test.YtpghlemcgjogpaaGreatProg
import Derived.Test.YtpghlemcgjogpaaGreatSx
import Derived.Test.YtpghlemcgjogpaaGreatT
set_option linter.unusedVariables false
set_option maxRecDepth 100000
set_option maxHeartbeats 400000
namespace Go.Proofs.YtpghlemcgjogpaaGreat
open Go.Sx
/-! ### hasp/hasplaw10.shown -/
noncomputable def F11_b : Code := bodyOf Tryz.f11
def F11_dc : Nat → List (Nat × Bool)
  | _ => []
abbrev F11_k (R : RT) := resK Tryz.prog [.tmp 8] R
abbrev F11_W (R : RT) := wpE Tryz.prog F11_dc (F11_k R) (panK R)
noncomputable def F11_p0 := cR F11_b
noncomputable def F11_p1 := cR F11_p0
noncomputable def F11_p2 := cR F11_p1
noncomputable def F11_p3 := cR F11_p2
noncomputable def F11_p4 := cR F11_p3
noncomputable def F11_p5 := cR F11_p4
noncomputable def F11_p6 := cR F11_p5
noncomputable def F11_p7 := cR F11_p6
noncomputable def F11_p8 := cR F11_p7
noncomputable def F11_p9 := cR F11_p8
noncomputable def F11_p10 := cL F11_p9
noncomputable def F11_p11 := cL F11_p8
noncomputable def F11_p12 := cR F11_p11
noncomputable def F11_p13 := cI F11_p12
noncomputable def F11_p14 := cI F11_p13
noncomputable def F11_p15 := cR F11_p14
noncomputable def F11_p16 := cR F11_p15
noncomputable def F11_p17 := cR F11_p16
noncomputable def F11_p18 := cL F11_p16
noncomputable def F11_p19 := cI F11_p18
noncomputable def F11_p20 := cL F11_p19
noncomputable def F11_p21 := cR F11_p19
noncomputable def F11_p22 := cL F11_p15
noncomputable def F11_p23 := cL F11_p14
noncomputable def F11_p24 := cL F11_p6
noncomputable def F11_p25 := cL F11_p7
noncomputable def F11_p26 := cL F11_p11
noncomputable def F11_p27 := cL F11_p5
noncomputable def F11_p28 := cR F11_p27
noncomputable def F11_p29 := cI F11_p28
noncomputable def F11_p30 := cI F11_p29
noncomputable def F11_p31 := cR F11_p30
noncomputable def F11_p32 := cR F11_p31
noncomputable def F11_p33 := cR F11_p32
noncomputable def F11_p34 := cL F11_p32
noncomputable def F11_p35 := cI F11_p34
noncomputable def F11_p36 := cL F11_p35
noncomputable def F11_p37 := cR F11_p35
noncomputable def F11_p38 := cL F11_p31
noncomputable def F11_p39 := cL F11_p30
noncomputable def F11_p40 := cL F11_p27
noncomputable def F11_p41 := cL F11_p4
noncomputable def F11_p42 := cR F11_p41
noncomputable def F11_p43 := cI F11_p42
noncomputable def F11_p44 := cI F11_p43
noncomputable def F11_p45 := cR F11_p44
noncomputable def F11_p46 := cR F11_p45
noncomputable def F11_p47 := cR F11_p46
noncomputable def F11_p48 := cL F11_p46
noncomputable def F11_p49 := cI F11_p48
noncomputable def F11_p50 := cL F11_p49
noncomputable def F11_p51 := cR F11_p49
noncomputable def F11_p52 := cL F11_p45
noncomputable def F11_p53 := cL F11_p44
noncomputable def F11_p54 := cL F11_p41
noncomputable def F11_p55 := cL F11_p3
noncomputable def F11_p56 := cR F11_p55
noncomputable def F11_p57 := cT F11_p56
noncomputable def F11_p58 := cL F11_p57
noncomputable def F11_p59 := cL F11_b
noncomputable def F11_p60 := cL F11_p0
noncomputable def F11_p61 := cL F11_p1
noncomputable def F11_p62 := cL F11_p2
noncomputable def F11_p63 := cL F11_p55
def F11_s9_t (R : RT) (v18 : Value) (w : World) : Prop :=
  R (.returned v18) w
theorem F11_s9_st (R : RT) (X : KX) (f : Fr) (w : World) (h : F11_s9_t R (f 18) w) : F11_W R F11_p10 (F11_k R) X f w := Eq.mp (by kernel_rfl) h
def F11_s9 (R : RT) (v18 : Value) (w : World) : Prop :=
  F11_s9_t R v18 w
noncomputable def F11_s9_c : Code := (.seq F11_p10 .ret)
theorem F11_s9_ok (R : RT) : OkW (F11_W R) (a1 (F11_s9 R) 18) F11_s9_c (F11_k R) noX :=
  fun f w h => cut F11_p10 .ret (K := (F11_k R)) (fun f w h => ret_ok h) f w (F11_s9_st R _ f w h)
def F11_s14_t (R : RT) (K : V1) (v17 v18 v100 v101 : Value) (w : World) : Prop :=
  uv Tryz.prog R (binS .add 3 (.tmp 101) (.const (.int .i64 1)) v101 (.int .i64 1)) w (fun v108 w =>
  K v108 w)
theorem F11_s14_st (R : RT) (K : V1) (X : KX) (f : Fr) (w : World) (h : F11_s14_t R K (f 17) (f 18) (f 100) (f 101) w) : F11_W R F11_p17 (a1 K 101) X f w := Eq.mp (by kernel_rfl) h
def F11_s14 (R : RT) (rec10 : V1) (v17 v18 v100 v101 : Value) (w : World) : Prop :=
  F11_s14_t R rec10 v17 v18 v100 v101 w
noncomputable def F11_s14_c : Code := (.seq F11_p17 .skip)
theorem F11_s14_ok (R : RT) (rec10 : V1) : OkW (F11_W R) (a4 (F11_s14 R rec10) 17 18 100 101) F11_s14_c (a1 rec10 101) (kxB 4 (a1 (F11_s9 R) 18) noX) :=
  fun f w h => cut F11_p17 .skip (K := (a1 rec10 101)) (fun f w h => skip_ok h) f w (F11_s14_st R rec10 _ f w h)
def F11_s15_t (R : RT) (K : V4) (v17 v18 v100 v101 : Value) (w : World) : Prop :=
  uv Tryz.prog R (Instr.indexAt 39 v17 v101) w (fun v106 w =>
  uv Tryz.prog R (Instr.fieldAt 83 v106 1) w (fun v107 w =>
  uu Tryz.prog R (Instr.storeAt 3 v107 (.int .i64 (-9))) w (fun w =>
  K v17 v18 v100 v101 w)))
theorem F11_s15_st (R : RT) (K : V4) (X : KX) (f : Fr) (w : World) (h : F11_s15_t R K (f 17) (f 18) (f 100) (f 101) w) : F11_W R (.seq F11_p20 F11_p21) (a4 K 17 18 100 101) X f w := Eq.mp (by kernel_rfl) h
def F11_s15 (R : RT) (rec10 : V1) (v17 v18 v100 v101 : Value) (w : World) : Prop :=
  F11_s15_t R (F11_s14 R rec10) v17 v18 v100 v101 w
noncomputable def F11_s15_c : Code := (.seq (.seq F11_p20 F11_p21) .skip)
theorem F11_s15_ok (R : RT) (rec10 : V1) : OkW (F11_W R) (a4 (F11_s15 R rec10) 17 18 100 101) F11_s15_c (a4 (F11_s14 R rec10) 17 18 100 101) (kxB 5 (a4 (F11_s14 R rec10) 17 18 100 101) (kxB 4 (a1 (F11_s9 R) 18) noX)) :=
  fun f w h => cut (.seq F11_p20 F11_p21) .skip (K := (a4 (F11_s14 R rec10) 17 18 100 101)) (fun f w h => skip_ok h) f w (F11_s15_st R (F11_s14 R rec10) _ f w h)
noncomputable def F11_s13_c : Code := (.seq F11_p18 F11_s14_c)
theorem F11_s13_e (R : RT) (K : KF) (X : KX) (f : Fr) (w : World) (h : F11_W R F11_s15_c K (kxB 5 K X) f w) : F11_W R F11_p18 K X f w := Eq.mp (by kernel_rfl) h
theorem F11_s13_ok (R : RT) (rec10 : V1) : OkW (F11_W R) (a4 (F11_s15 R rec10) 17 18 100 101) F11_s13_c (a1 rec10 101) (kxB 4 (a1 (F11_s9 R) 18) noX) :=
  fun f w h => cut F11_p18 F11_s14_c (K := (a4 (F11_s14 R rec10) 17 18 100 101)) (F11_s14_ok R rec10) f w (F11_s13_e R _ _ f w ((F11_s15_ok R rec10) f w h))
def F11_s12 (R : RT) (rec10 : V1) (v17 v18 v100 v101 v102 : Value) (w : World) : Prop :=
  Bc v102
    (F11_s15 R rec10 v17 v18 v100 v101 w)
    (F11_s9 R v18 w)
noncomputable def F11_s12_c : Code := (.seq F11_p22 F11_s13_c)
theorem F11_s12_e (R : RT) (K : KF) (X : KX) (f : Fr) (w : World) (h : Bc (f 102) (F11_W R .skip K X f w) (F11_W R (.exit 4) K X f w)) : (F11_W R F11_p22 K X f w) := Eq.mp (by kernel_rfl) h
theorem F11_s12_ok (R : RT) (rec10 : V1) : OkW (F11_W R) (a5 (F11_s12 R rec10) 17 18 100 101 102) F11_s12_c (a1 rec10 101) (kxB 4 (a1 (F11_s9 R) 18) noX) :=
  fun f w h => cut F11_p22 F11_s13_c (K := (a4 (F11_s15 R rec10) 17 18 100 101)) (F11_s13_ok R rec10) f w (F11_s12_e R _ _ f w (Bc_imp (x' := (F11_W R .skip (a4 (F11_s15 R rec10) 17 18 100 101) (kxB 4 (a1 (F11_s9 R) 18) noX) f w)) (y' := (F11_W R (.exit 4) (a4 (F11_s15 R rec10) 17 18 100 101) (kxB 4 (a1 (F11_s9 R) 18) noX) f w)) ((fun f w h => skip_ok h) f w) ((fun f w h => exit_hit h) f w) h))
def F11_s11_t (R : RT) (K : V5) (v17 v18 v100 v101 : Value) (w : World) : Prop :=
  uv Tryz.prog R (binS .lss 3 (.tmp 101) (.tmp 100) v101 v100) w (fun v102 w =>
  K v17 v18 v100 v101 v102 w)
theorem F11_s11_st (R : RT) (K : V5) (X : KX) (f : Fr) (w : World) (h : F11_s11_t R K (f 17) (f 18) (f 100) (f 101) w) : F11_W R F11_p23 (a5 K 17 18 100 101 102) X f w := Eq.mp (by kernel_rfl) h
def F11_s11 (R : RT) (rec10 : V1) (v17 v18 v100 v101 : Value) (w : World) : Prop :=
  F11_s11_t R (F11_s12 R rec10) v17 v18 v100 v101 w
noncomputable def F11_s11_c : Code := (.seq F11_p23 F11_s12_c)
theorem F11_s11_ok (R : RT) (rec10 : V1) : OkW (F11_W R) (a4 (F11_s11 R rec10) 17 18 100 101) F11_s11_c (a1 rec10 101) (kxB 4 (a1 (F11_s9 R) 18) noX) :=
  fun f w h => cut F11_p23 F11_s12_c (K := (a5 (F11_s12 R rec10) 17 18 100 101 102)) (F11_s12_ok R rec10) f w (F11_s11_st R (F11_s12 R rec10) _ f w h)
def F11_s10 (R : RT) (v17 v18 v100 v101 : Value) (w : World) : Prop :=
  Lp1 (fun rec10 v101 w => F11_s11 R rec10 v17 v18 v100 v101 w) v101 w
theorem F11_s10_e (R : RT) (K : KF) (X : KX) (f : Fr) (w : World) (h : F11_W R (.loop F11_p14) K X f w) : F11_W R F11_p13 K X f w := Eq.mp (by kernel_rfl) h
theorem F11_s10b_e (R : RT) (K : KF) (X : KX) (f : Fr) (w : World) (h : F11_W R F11_s11_c K X f w) : F11_W R F11_p14 K X f w := Eq.mp (by kernel_rfl) h
theorem F11_s10_ok (R : RT) : OkW (F11_W R) (a4 (F11_s10 R) 17 18 100 101) F11_p13 (a1 (F11_s9 R) 18) (kxB 4 (a1 (F11_s9 R) 18) noX) :=
  fun f w h => F11_s10_e R _ _ f w (loop1_ok (P := Tryz.prog) (dc := F11_dc) (kr := (F11_k R)) (pan := panK R) F11_p14 (kn := (a1 (F11_s9 R) 18)) (kx := (kxB 4 (a1 (F11_s9 R) 18) noX)) (s0 := 101) (fun rec10 v101 w => F11_s11 R rec10 (f 17) (f 18) (f 100) v101 w) f (fun rec10 f' w' hf h' => F11_s10b_e R _ _ f' w' ((F11_s11_ok R rec10) f' w' (by simp only [a4, hf 17 (by kernel_rfl), hf 18 (by kernel_rfl), hf 100 (by kernel_rfl)]; exact h'))) w h)
noncomputable def F11_s8_c : Code := (.seq F11_p12 F11_s9_c)
theorem F11_s8_e (R : RT) (K : KF) (X : KX) (f : Fr) (w : World) (h : F11_W R F11_p13 K (kxB 4 K X) f w) : F11_W R F11_p12 K X f w := Eq.mp (by kernel_rfl) h
theorem F11_s8_ok (R : RT) : OkW (F11_W R) (a4 (F11_s10 R) 17 18 100 101) F11_s8_c (F11_k R) noX :=
  fun f w h => cut F11_p12 F11_s9_c (K := (a1 (F11_s9 R) 18)) (F11_s9_ok R) f w (F11_s8_e R _ _ f w ((F11_s10_ok R) f w h))
def F11_s7_t (R : RT) (K : V4) (v0 v1 : Value) (w : World) : Prop :=
  un Tryz.prog R (callFunc 12 #[v0]) w (fun v94 w =>
  un Tryz.prog R (callFunc 38 #[v1]) w (fun v97 w =>
  un Tryz.prog R (callFunc 37 #[v94, v97]) w (fun v98 w =>
  un Tryz.prog R (builtin .len #[39] 3 #[false] #[v94]) w (fun v100 w =>
  K v94 v98 v100 (.int .i64 0) w))))
theorem F11_s7_st (R : RT) (K : V4) (X : KX) (f : Fr) (w : World) (h : F11_s7_t R K (f 0) (f 1) w) : F11_W R (.seq F11_p24 (.seq F11_p25 F11_p26)) (a4 K 17 18 100 101) X f w := Eq.mp (by kernel_rfl) h
def F11_s7 (R : RT) (v0 v1 : Value) (w : World) : Prop :=
  F11_s7_t R (F11_s10 R) v0 v1 w
noncomputable def F11_s7_c : Code := (.seq (.seq F11_p24 (.seq F11_p25 F11_p26)) F11_s8_c)
theorem F11_s7_ok (R : RT) : OkW (F11_W R) (a2 (F11_s7 R) 0 1) F11_s7_c (F11_k R) noX :=
  fun f w h => cut (.seq F11_p24 (.seq F11_p25 F11_p26)) F11_s8_c (K := (a4 (F11_s10 R) 17 18 100 101)) (F11_s8_ok R) f w (F11_s7_st R (F11_s10 R) _ f w h)
def F11_s20_t (R : RT) (K : V1) (v0 v1 v10 v84 v85 : Value) (w : World) : Prop :=
  uv Tryz.prog R (binS .add 3 (.tmp 85) (.const (.int .i64 1)) v85 (.int .i64 1)) w (fun v92 w =>
  K v92 w)
theorem F11_s20_st (R : RT) (K : V1) (X : KX) (f : Fr) (w : World) (h : F11_s20_t R K (f 0) (f 1) (f 10) (f 84) (f 85) w) : F11_W R F11_p33 (a1 K 85) X f w := Eq.mp (by kernel_rfl) h
def F11_s20 (R : RT) (rec16 : V1) (v0 v1 v10 v84 v85 : Value) (w : World) : Prop :=
  F11_s20_t R rec16 v0 v1 v10 v84 v85 w
noncomputable def F11_s20_c : Code := (.seq F11_p33 .skip)
theorem F11_s20_ok (R : RT) (rec16 : V1) : OkW (F11_W R) (a5 (F11_s20 R rec16) 0 1 10 84 85) F11_s20_c (a1 rec16 85) (kxB 2 (a2 (F11_s7 R) 0 1) noX) :=
  fun f w h => cut F11_p33 .skip (K := (a1 rec16 85)) (fun f w h => skip_ok h) f w (F11_s20_st R rec16 _ f w h)
def F11_s21_t (R : RT) (K : V5) (v0 v1 v10 v84 v85 : Value) (w : World) : Prop :=
  uv Tryz.prog R (Instr.indexAt 27 v10 v85) w (fun v90 w =>
  uv Tryz.prog R (Instr.fieldAt 42 v90 1) w (fun v91 w =>
  uu Tryz.prog R (Instr.storeAt 9 v91 (.string { data := #[42] })) w (fun w =>
  K v0 v1 v10 v84 v85 w)))
theorem F11_s21_st (R : RT) (K : V5) (X : KX) (f : Fr) (w : World) (h : F11_s21_t R K (f 0) (f 1) (f 10) (f 84) (f 85) w) : F11_W R (.seq F11_p36 F11_p37) (a5 K 0 1 10 84 85) X f w := Eq.mp (by kernel_rfl) h
def F11_s21 (R : RT) (rec16 : V1) (v0 v1 v10 v84 v85 : Value) (w : World) : Prop :=
  F11_s21_t R (F11_s20 R rec16) v0 v1 v10 v84 v85 w
noncomputable def F11_s21_c : Code := (.seq (.seq F11_p36 F11_p37) .skip)
theorem F11_s21_ok (R : RT) (rec16 : V1) : OkW (F11_W R) (a5 (F11_s21 R rec16) 0 1 10 84 85) F11_s21_c (a5 (F11_s20 R rec16) 0 1 10 84 85) (kxB 3 (a5 (F11_s20 R rec16) 0 1 10 84 85) (kxB 2 (a2 (F11_s7 R) 0 1) noX)) :=
  fun f w h => cut (.seq F11_p36 F11_p37) .skip (K := (a5 (F11_s20 R rec16) 0 1 10 84 85)) (fun f w h => skip_ok h) f w (F11_s21_st R (F11_s20 R rec16) _ f w h)
noncomputable def F11_s19_c : Code := (.seq F11_p34 F11_s20_c)
theorem F11_s19_e (R : RT) (K : KF) (X : KX) (f : Fr) (w : World) (h : F11_W R F11_s21_c K (kxB 3 K X) f w) : F11_W R F11_p34 K X f w := Eq.mp (by kernel_rfl) h
theorem F11_s19_ok (R : RT) (rec16 : V1) : OkW (F11_W R) (a5 (F11_s21 R rec16) 0 1 10 84 85) F11_s19_c (a1 rec16 85) (kxB 2 (a2 (F11_s7 R) 0 1) noX) :=
  fun f w h => cut F11_p34 F11_s20_c (K := (a5 (F11_s20 R rec16) 0 1 10 84 85)) (F11_s20_ok R rec16) f w (F11_s19_e R _ _ f w ((F11_s21_ok R rec16) f w h))
def F11_s18 (R : RT) (rec16 : V1) (v0 v1 v10 v84 v85 v86 : Value) (w : World) : Prop :=
  Bc v86
    (F11_s21 R rec16 v0 v1 v10 v84 v85 w)
    (F11_s7 R v0 v1 w)
noncomputable def F11_s18_c : Code := (.seq F11_p38 F11_s19_c)
theorem F11_s18_e (R : RT) (K : KF) (X : KX) (f : Fr) (w : World) (h : Bc (f 86) (F11_W R .skip K X f w) (F11_W R (.exit 2) K X f w)) : (F11_W R F11_p38 K X f w) := Eq.mp (by kernel_rfl) h
theorem F11_s18_ok (R : RT) (rec16 : V1) : OkW (F11_W R) (a6 (F11_s18 R rec16) 0 1 10 84 85 86) F11_s18_c (a1 rec16 85) (kxB 2 (a2 (F11_s7 R) 0 1) noX) :=
  fun f w h => cut F11_p38 F11_s19_c (K := (a5 (F11_s21 R rec16) 0 1 10 84 85)) (F11_s19_ok R rec16) f w (F11_s18_e R _ _ f w (Bc_imp (x' := (F11_W R .skip (a5 (F11_s21 R rec16) 0 1 10 84 85) (kxB 2 (a2 (F11_s7 R) 0 1) noX) f w)) (y' := (F11_W R (.exit 2) (a5 (F11_s21 R rec16) 0 1 10 84 85) (kxB 2 (a2 (F11_s7 R) 0 1) noX) f w)) ((fun f w h => skip_ok h) f w) ((fun f w h => exit_hit h) f w) h))
def F11_s17_t (R : RT) (K : V6) (v0 v1 v10 v84 v85 : Value) (w : World) : Prop :=
  uv Tryz.prog R (binS .lss 3 (.tmp 85) (.tmp 84) v85 v84) w (fun v86 w =>
  K v0 v1 v10 v84 v85 v86 w)
theorem F11_s17_st (R : RT) (K : V6) (X : KX) (f : Fr) (w : World) (h : F11_s17_t R K (f 0) (f 1) (f 10) (f 84) (f 85) w) : F11_W R F11_p39 (a6 K 0 1 10 84 85 86) X f w := Eq.mp (by kernel_rfl) h
def F11_s17 (R : RT) (rec16 : V1) (v0 v1 v10 v84 v85 : Value) (w : World) : Prop :=
  F11_s17_t R (F11_s18 R rec16) v0 v1 v10 v84 v85 w
noncomputable def F11_s17_c : Code := (.seq F11_p39 F11_s18_c)
theorem F11_s17_ok (R : RT) (rec16 : V1) : OkW (F11_W R) (a5 (F11_s17 R rec16) 0 1 10 84 85) F11_s17_c (a1 rec16 85) (kxB 2 (a2 (F11_s7 R) 0 1) noX) :=
  fun f w h => cut F11_p39 F11_s18_c (K := (a6 (F11_s18 R rec16) 0 1 10 84 85 86)) (F11_s18_ok R rec16) f w (F11_s17_st R (F11_s18 R rec16) _ f w h)
def F11_s16 (R : RT) (v0 v1 v10 v84 v85 : Value) (w : World) : Prop :=
  Lp1 (fun rec16 v85 w => F11_s17 R rec16 v0 v1 v10 v84 v85 w) v85 w
theorem F11_s16_e (R : RT) (K : KF) (X : KX) (f : Fr) (w : World) (h : F11_W R (.loop F11_p30) K X f w) : F11_W R F11_p29 K X f w := Eq.mp (by kernel_rfl) h
theorem F11_s16b_e (R : RT) (K : KF) (X : KX) (f : Fr) (w : World) (h : F11_W R F11_s17_c K X f w) : F11_W R F11_p30 K X f w := Eq.mp (by kernel_rfl) h
theorem F11_s16_ok (R : RT) : OkW (F11_W R) (a5 (F11_s16 R) 0 1 10 84 85) F11_p29 (a2 (F11_s7 R) 0 1) (kxB 2 (a2 (F11_s7 R) 0 1) noX) :=
  fun f w h => F11_s16_e R _ _ f w (loop1_ok (P := Tryz.prog) (dc := F11_dc) (kr := (F11_k R)) (pan := panK R) F11_p30 (kn := (a2 (F11_s7 R) 0 1)) (kx := (kxB 2 (a2 (F11_s7 R) 0 1) noX)) (s0 := 85) (fun rec16 v85 w => F11_s17 R rec16 (f 0) (f 1) (f 10) (f 84) v85 w) f (fun rec16 f' w' hf h' => F11_s16b_e R _ _ f' w' ((F11_s17_ok R rec16) f' w' (by simp only [a5, hf 0 (by kernel_rfl), hf 1 (by kernel_rfl), hf 10 (by kernel_rfl), hf 84 (by kernel_rfl)]; exact h'))) w h)
noncomputable def F11_s6_c : Code := (.seq F11_p28 F11_s7_c)
theorem F11_s6_e (R : RT) (K : KF) (X : KX) (f : Fr) (w : World) (h : F11_W R F11_p29 K (kxB 2 K X) f w) : F11_W R F11_p28 K X f w := Eq.mp (by kernel_rfl) h
theorem F11_s6_ok (R : RT) : OkW (F11_W R) (a5 (F11_s16 R) 0 1 10 84 85) F11_s6_c (F11_k R) noX :=
  fun f w h => cut F11_p28 F11_s7_c (K := (a2 (F11_s7 R) 0 1)) (F11_s7_ok R) f w (F11_s6_e R _ _ f w ((F11_s16_ok R) f w h))
def F11_s5_t (R : RT) (K : V5) (v0 v1 v10 : Value) (w : World) : Prop :=
  un Tryz.prog R (builtin .len #[27] 3 #[false] #[v10]) w (fun v84 w =>
  K v0 v1 v10 v84 (.int .i64 0) w)
theorem F11_s5_st (R : RT) (K : V5) (X : KX) (f : Fr) (w : World) (h : F11_s5_t R K (f 0) (f 1) (f 10) w) : F11_W R F11_p40 (a5 K 0 1 10 84 85) X f w := Eq.mp (by kernel_rfl) h
def F11_s5 (R : RT) (v0 v1 v10 : Value) (w : World) : Prop :=
  F11_s5_t R (F11_s16 R) v0 v1 v10 w
noncomputable def F11_s5_c : Code := (.seq F11_p40 F11_s6_c)
theorem F11_s5_ok (R : RT) : OkW (F11_W R) (a3 (F11_s5 R) 0 1 10) F11_s5_c (F11_k R) noX :=
  fun f w h => cut F11_p40 F11_s6_c (K := (a5 (F11_s16 R) 0 1 10 84 85)) (F11_s6_ok R) f w (F11_s5_st R (F11_s16 R) _ f w h)
def F11_s26_t (R : RT) (K : V1) (v0 v1 v9 v10 v74 v75 : Value) (w : World) : Prop :=
  uv Tryz.prog R (binS .add 3 (.tmp 75) (.const (.int .i64 1)) v75 (.int .i64 1)) w (fun v82 w =>
  K v82 w)
theorem F11_s26_st (R : RT) (K : V1) (X : KX) (f : Fr) (w : World) (h : F11_s26_t R K (f 0) (f 1) (f 9) (f 10) (f 74) (f 75) w) : F11_W R F11_p47 (a1 K 75) X f w := Eq.mp (by kernel_rfl) h
def F11_s26 (R : RT) (rec22 : V1) (v0 v1 v9 v10 v74 v75 : Value) (w : World) : Prop :=
  F11_s26_t R rec22 v0 v1 v9 v10 v74 v75 w
noncomputable def F11_s26_c : Code := (.seq F11_p47 .skip)
theorem F11_s26_ok (R : RT) (rec22 : V1) : OkW (F11_W R) (a6 (F11_s26 R rec22) 0 1 9 10 74 75) F11_s26_c (a1 rec22 75) (kxB 0 (a3 (F11_s5 R) 0 1 10) noX) :=
  fun f w h => cut F11_p47 .skip (K := (a1 rec22 75)) (fun f w h => skip_ok h) f w (F11_s26_st R rec22 _ f w h)
def F11_s27_t (R : RT) (K : V6) (v0 v1 v9 v10 v74 v75 : Value) (w : World) : Prop :=
  uv Tryz.prog R (Instr.indexAt 27 v9 v75) w (fun v80 w =>
  uv Tryz.prog R (Instr.fieldAt 42 v80 1) w (fun v81 w =>
  uu Tryz.prog R (Instr.storeAt 9 v81 (.string { data := #[42] })) w (fun w =>
  K v0 v1 v9 v10 v74 v75 w)))
theorem F11_s27_st (R : RT) (K : V6) (X : KX) (f : Fr) (w : World) (h : F11_s27_t R K (f 0) (f 1) (f 9) (f 10) (f 74) (f 75) w) : F11_W R (.seq F11_p50 F11_p51) (a6 K 0 1 9 10 74 75) X f w := Eq.mp (by kernel_rfl) h
def F11_s27 (R : RT) (rec22 : V1) (v0 v1 v9 v10 v74 v75 : Value) (w : World) : Prop :=
  F11_s27_t R (F11_s26 R rec22) v0 v1 v9 v10 v74 v75 w
noncomputable def F11_s27_c : Code := (.seq (.seq F11_p50 F11_p51) .skip)
theorem F11_s27_ok (R : RT) (rec22 : V1) : OkW (F11_W R) (a6 (F11_s27 R rec22) 0 1 9 10 74 75) F11_s27_c (a6 (F11_s26 R rec22) 0 1 9 10 74 75) (kxB 1 (a6 (F11_s26 R rec22) 0 1 9 10 74 75) (kxB 0 (a3 (F11_s5 R) 0 1 10) noX)) :=
  fun f w h => cut (.seq F11_p50 F11_p51) .skip (K := (a6 (F11_s26 R rec22) 0 1 9 10 74 75)) (fun f w h => skip_ok h) f w (F11_s27_st R (F11_s26 R rec22) _ f w h)
noncomputable def F11_s25_c : Code := (.seq F11_p48 F11_s26_c)
theorem F11_s25_e (R : RT) (K : KF) (X : KX) (f : Fr) (w : World) (h : F11_W R F11_s27_c K (kxB 1 K X) f w) : F11_W R F11_p48 K X f w := Eq.mp (by kernel_rfl) h
theorem F11_s25_ok (R : RT) (rec22 : V1) : OkW (F11_W R) (a6 (F11_s27 R rec22) 0 1 9 10 74 75) F11_s25_c (a1 rec22 75) (kxB 0 (a3 (F11_s5 R) 0 1 10) noX) :=
  fun f w h => cut F11_p48 F11_s26_c (K := (a6 (F11_s26 R rec22) 0 1 9 10 74 75)) (F11_s26_ok R rec22) f w (F11_s25_e R _ _ f w ((F11_s27_ok R rec22) f w h))
def F11_s24 (R : RT) (rec22 : V1) (v0 v1 v9 v10 v74 v75 v76 : Value) (w : World) : Prop :=
  Bc v76
    (F11_s27 R rec22 v0 v1 v9 v10 v74 v75 w)
    (F11_s5 R v0 v1 v10 w)
noncomputable def F11_s24_c : Code := (.seq F11_p52 F11_s25_c)
theorem F11_s24_e (R : RT) (K : KF) (X : KX) (f : Fr) (w : World) (h : Bc (f 76) (F11_W R .skip K X f w) (F11_W R (.exit 0) K X f w)) : (F11_W R F11_p52 K X f w) := Eq.mp (by kernel_rfl) h
theorem F11_s24_ok (R : RT) (rec22 : V1) : OkW (F11_W R) (a7 (F11_s24 R rec22) 0 1 9 10 74 75 76) F11_s24_c (a1 rec22 75) (kxB 0 (a3 (F11_s5 R) 0 1 10) noX) :=
  fun f w h => cut F11_p52 F11_s25_c (K := (a6 (F11_s27 R rec22) 0 1 9 10 74 75)) (F11_s25_ok R rec22) f w (F11_s24_e R _ _ f w (Bc_imp (x' := (F11_W R .skip (a6 (F11_s27 R rec22) 0 1 9 10 74 75) (kxB 0 (a3 (F11_s5 R) 0 1 10) noX) f w)) (y' := (F11_W R (.exit 0) (a6 (F11_s27 R rec22) 0 1 9 10 74 75) (kxB 0 (a3 (F11_s5 R) 0 1 10) noX) f w)) ((fun f w h => skip_ok h) f w) ((fun f w h => exit_hit h) f w) h))
def F11_s23_t (R : RT) (K : V7) (v0 v1 v9 v10 v74 v75 : Value) (w : World) : Prop :=
  uv Tryz.prog R (binS .lss 3 (.tmp 75) (.tmp 74) v75 v74) w (fun v76 w =>
  K v0 v1 v9 v10 v74 v75 v76 w)
theorem F11_s23_st (R : RT) (K : V7) (X : KX) (f : Fr) (w : World) (h : F11_s23_t R K (f 0) (f 1) (f 9) (f 10) (f 74) (f 75) w) : F11_W R F11_p53 (a7 K 0 1 9 10 74 75 76) X f w := Eq.mp (by kernel_rfl) h
def F11_s23 (R : RT) (rec22 : V1) (v0 v1 v9 v10 v74 v75 : Value) (w : World) : Prop :=
  F11_s23_t R (F11_s24 R rec22) v0 v1 v9 v10 v74 v75 w
noncomputable def F11_s23_c : Code := (.seq F11_p53 F11_s24_c)
theorem F11_s23_ok (R : RT) (rec22 : V1) : OkW (F11_W R) (a6 (F11_s23 R rec22) 0 1 9 10 74 75) F11_s23_c (a1 rec22 75) (kxB 0 (a3 (F11_s5 R) 0 1 10) noX) :=
  fun f w h => cut F11_p53 F11_s24_c (K := (a7 (F11_s24 R rec22) 0 1 9 10 74 75 76)) (F11_s24_ok R rec22) f w (F11_s23_st R (F11_s24 R rec22) _ f w h)
def F11_s22 (R : RT) (v0 v1 v9 v10 v74 v75 : Value) (w : World) : Prop :=
  Lp1 (fun rec22 v75 w => F11_s23 R rec22 v0 v1 v9 v10 v74 v75 w) v75 w
theorem F11_s22_e (R : RT) (K : KF) (X : KX) (f : Fr) (w : World) (h : F11_W R (.loop F11_p44) K X f w) : F11_W R F11_p43 K X f w := Eq.mp (by kernel_rfl) h
theorem F11_s22b_e (R : RT) (K : KF) (X : KX) (f : Fr) (w : World) (h : F11_W R F11_s23_c K X f w) : F11_W R F11_p44 K X f w := Eq.mp (by kernel_rfl) h
theorem F11_s22_ok (R : RT) : OkW (F11_W R) (a6 (F11_s22 R) 0 1 9 10 74 75) F11_p43 (a3 (F11_s5 R) 0 1 10) (kxB 0 (a3 (F11_s5 R) 0 1 10) noX) :=
  fun f w h => F11_s22_e R _ _ f w (loop1_ok (P := Tryz.prog) (dc := F11_dc) (kr := (F11_k R)) (pan := panK R) F11_p44 (kn := (a3 (F11_s5 R) 0 1 10)) (kx := (kxB 0 (a3 (F11_s5 R) 0 1 10) noX)) (s0 := 75) (fun rec22 v75 w => F11_s23 R rec22 (f 0) (f 1) (f 9) (f 10) (f 74) v75 w) f (fun rec22 f' w' hf h' => F11_s22b_e R _ _ f' w' ((F11_s23_ok R rec22) f' w' (by simp only [a6, hf 0 (by kernel_rfl), hf 1 (by kernel_rfl), hf 9 (by kernel_rfl), hf 10 (by kernel_rfl), hf 74 (by kernel_rfl)]; exact h'))) w h)
noncomputable def F11_s4_c : Code := (.seq F11_p42 F11_s5_c)
theorem F11_s4_e (R : RT) (K : KF) (X : KX) (f : Fr) (w : World) (h : F11_W R F11_p43 K (kxB 0 K X) f w) : F11_W R F11_p42 K X f w := Eq.mp (by kernel_rfl) h
theorem F11_s4_ok (R : RT) : OkW (F11_W R) (a6 (F11_s22 R) 0 1 9 10 74 75) F11_s4_c (F11_k R) noX :=
  fun f w h => cut F11_p42 F11_s5_c (K := (a3 (F11_s5 R) 0 1 10)) (F11_s5_ok R) f w (F11_s4_e R _ _ f w ((F11_s22_ok R) f w h))
def F11_s3_t (R : RT) (K : V6) (v0 v1 v9 v10 : Value) (w : World) : Prop :=
  un Tryz.prog R (builtin .len #[27] 3 #[false] #[v9]) w (fun v74 w =>
  K v0 v1 v9 v10 v74 (.int .i64 0) w)
theorem F11_s3_st (R : RT) (K : V6) (X : KX) (f : Fr) (w : World) (h : F11_s3_t R K (f 0) (f 1) (f 9) (f 10) w) : F11_W R F11_p54 (a6 K 0 1 9 10 74 75) X f w := Eq.mp (by kernel_rfl) h
def F11_s3 (R : RT) (v0 v1 v9 v10 : Value) (w : World) : Prop :=
  F11_s3_t R (F11_s22 R) v0 v1 v9 v10 w
noncomputable def F11_s3_c : Code := (.seq F11_p54 F11_s4_c)
theorem F11_s3_ok (R : RT) : OkW (F11_W R) (a4 (F11_s3 R) 0 1 9 10) F11_s3_c (F11_k R) noX :=
  fun f w h => cut F11_p54 F11_s4_c (K := (a6 (F11_s22 R) 0 1 9 10 74 75)) (F11_s4_ok R) f w (F11_s3_st R (F11_s22 R) _ f w h)
def F11_s28_t (R : RT) (w : World) : Prop :=
  R (.returned (.bool false)) w
theorem F11_s28_st (R : RT) (X : KX) (f : Fr) (w : World) (h : F11_s28_t R w) : F11_W R F11_p58 (F11_k R) X f w := Eq.mp (by kernel_rfl) h
def F11_s28 (R : RT) (w : World) : Prop :=
  F11_s28_t R w
noncomputable def F11_s28_c : Code := (.seq F11_p58 .ret)
theorem F11_s28_ok (R : RT) : OkW (F11_W R) ((fun f w => F11_s28 R w)) F11_s28_c (a4 (F11_s3 R) 0 1 9 10) noX :=
  fun f w h => cut F11_p58 .ret (K := (F11_k R)) (fun f w h => ret_ok h) f w (F11_s28_st R _ f w h)
def F11_s2 (R : RT) (v0 v1 v9 v10 v72 : Value) (w : World) : Prop :=
  Bc v72
    (F11_s28 R w)
    (F11_s3 R v0 v1 v9 v10 w)
noncomputable def F11_s2_c : Code := (.seq F11_p56 F11_s3_c)
theorem F11_s2_e (R : RT) (K : KF) (X : KX) (f : Fr) (w : World) (h : Bc (f 72) (F11_W R F11_s28_c K X f w) (F11_W R .skip K X f w)) : (F11_W R F11_p56 K X f w) := Eq.mp (by kernel_rfl) h
theorem F11_s2_ok (R : RT) : OkW (F11_W R) (a5 (F11_s2 R) 0 1 9 10 72) F11_s2_c (F11_k R) noX :=
  fun f w h => cut F11_p56 F11_s3_c (K := (a4 (F11_s3 R) 0 1 9 10)) (F11_s3_ok R) f w (F11_s2_e R _ _ f w (Bc_imp (x' := (F11_W R F11_s28_c (a4 (F11_s3 R) 0 1 9 10) noX f w)) (y' := (F11_W R .skip (a4 (F11_s3 R) 0 1 9 10) noX f w)) ((F11_s28_ok R) f w) ((fun f w h => skip_ok h) f w) h))
def F11_s1_t (R : RT) (K : V5) (v0 v1 v2 v3 : Value) (w : World) : Prop :=
  un Tryz.prog R (callFunc 16 #[v0]) w (fun v21 w =>
  un Tryz.prog R (callFunc 14 #[v0, v3]) w (fun v24 w =>
  un Tryz.prog R (callFunc 13 #[v0, v2]) w (fun v28 w =>
  uv Tryz.prog R (Instr.extract v28 0) w (fun v29 w =>
  uv Tryz.prog R (Instr.extract v28 1) w (fun v30 w =>
  uv Tryz.prog R (Instr.alloc 42 true (.tuple #[])) w (fun v11 w =>
  uu Tryz.prog R (Instr.storeAt 42 v11 v29) w (fun w =>
  un Tryz.prog R (callFunc 23 #[v1, v2]) w (fun v34 w =>
  uv Tryz.prog R (Instr.extract v34 0) w (fun v35 w =>
  uv Tryz.prog R (Instr.extract v34 1) w (fun v36 w =>
  uv Tryz.prog R (Instr.alloc 42 true (.tuple #[])) w (fun v13 w =>
  uu Tryz.prog R (Instr.storeAt 42 v13 v35) w (fun w =>
  un Tryz.prog R (nilS v1) w (fun v39 w =>
  uv Tryz.prog R (Instr.fieldAt 30 v39 0) w (fun v40 w =>
  uv Tryz.prog R (Instr.loadAt 27 v40) w (fun v41 w =>
  un Tryz.prog R (callFunc 36 #[v21, v41]) w (fun v42 w =>
  uv Tryz.prog R (Op.unary .not v42) w (fun v43 w =>
  Gk v43 false (fun k => k v24 w) w (fun v45 w =>
  Gk v43 false (fun k => k v1 w) w (fun v46 w =>
  Gk v43 false (fun k => k v3 w) w (fun v47 w =>
  Gk v43 false (fun k => un Tryz.prog R (callFunc 28 #[v46, v47]) w k) w (fun v48 w =>
  Gk v43 false (fun k => un Tryz.prog R (callFunc 36 #[v45, v48]) w k) w (fun v49 w =>
  Gk v43 false (fun k => uv Tryz.prog R (Op.unary .not v49) w k) w (fun v50 w =>
  uv Tryz.prog R (pickS v43 (.bool true) v50) w (fun v51 w =>
  Gk v51 false (fun k => uv Tryz.prog R (Instr.loadAt 42 v11) w k) w (fun v53 w =>
  Gk v51 false (fun k => uv Tryz.prog R (Instr.loadAt 42 v13) w k) w (fun v54 w =>
  Gk v51 false (fun k => uv Tryz.prog R (binS .neq 42 (.tmp 53) (.tmp 54) v53 v54) w k) w (fun v55 w =>
  uv Tryz.prog R (pickS v51 (.bool true) v55) w (fun v56 w =>
  Gk v56 false (fun k => k v30 w) w (fun v58 w =>
  Gk v56 false (fun k => k v36 w) w (fun v59 w =>
  Gk v56 false (fun k => uv Tryz.prog R (binS .neq 4 (.tmp 58) (.tmp 59) v58 v59) w k) w (fun v60 w =>
  uv Tryz.prog R (pickS v56 (.bool true) v60) w (fun v61 w =>
  Gk v61 false (fun k => k v0 w) w (fun v63 w =>
  Gk v61 false (fun k => k v2 w) w (fun v64 w =>
  Gk v61 false (fun k => k v3 w) w (fun v65 w =>
  Gk v61 false (fun k => un Tryz.prog R (callFunc 15 #[v63, v64, v65]) w k) w (fun v66 w =>
  Gk v61 false (fun k => k v1 w) w (fun v67 w =>
  Gk v61 false (fun k => k v2 w) w (fun v68 w =>
  Gk v61 false (fun k => k v3 w) w (fun v69 w =>
  Gk v61 false (fun k => un Tryz.prog R (callFunc 25 #[v67, v68, v69]) w k) w (fun v70 w =>
  Gk v61 false (fun k => uv Tryz.prog R (binS .neq 3 (.tmp 66) (.tmp 70) v66 v70) w k) w (fun v71 w =>
  uv Tryz.prog R (pickS v61 (.bool true) v71) w (fun v72 w =>
  K v0 v1 v21 v24 v72 w))))))))))))))))))))))))))))))))))))))))))
theorem F11_s1_st (R : RT) (K : V5) (X : KX) (f : Fr) (w : World) (h : F11_s1_t R K (f 0) (f 1) (f 2) (f 3) w) : F11_W R (.seq F11_p59 (.seq F11_p60 (.seq F11_p61 (.seq F11_p62 F11_p63)))) (a5 K 0 1 9 10 72) X f w := Eq.mp (by kernel_rfl) h
def F11_s1 (R : RT) (v0 v1 v2 v3 : Value) (w : World) : Prop :=
  F11_s1_t R (F11_s2 R) v0 v1 v2 v3 w
noncomputable def F11_s1_c : Code := (.seq (.seq F11_p59 (.seq F11_p60 (.seq F11_p61 (.seq F11_p62 F11_p63)))) F11_s2_c)
theorem F11_s1_ok (R : RT) : OkW (F11_W R) (a4 (F11_s1 R) 0 1 2 3) F11_s1_c (F11_k R) noX :=
  fun f w h => cut (.seq F11_p59 (.seq F11_p60 (.seq F11_p61 (.seq F11_p62 F11_p63)))) F11_s2_c (K := (a5 (F11_s2 R) 0 1 9 10 72)) (F11_s2_ok R) f w (F11_s1_st R (F11_s2 R) _ f w h)
theorem F11_all_e (R : RT) (K : KF) (X : KX) (f : Fr) (w : World) (h : F11_W R F11_s1_c K X f w) : F11_W R F11_b K X f w := Eq.mp (by kernel_rfl) h
theorem F11_calls (R : RT) (v0 v1 v2 v3 : Value) (w : World) (h : F11_s1 R v0 v1 v2 v3 w) : Calls Tryz.prog 11 #[v0, v1, v2, v3] w R :=
  calls_of_wpE (dc := F11_dc) (args := [v0, v1, v2, v3]) hmixed Tryz.func11 (c := F11_b) rfl (rs := [.tmp 8]) rfl (by kernel_rfl) (Nat.le_of_ble_eq_true (by kernel_rfl)) (F11_all_e R _ _ _ w ((F11_s1_ok R) (initFr [v0, v1, v2, v3]) w h))

/-! ### hasp/hasplaw10.LocksPlays -/
noncomputable def F3_b : Code := bodyOf Tryz.f3
def F3_dc : Nat → List (Nat × Bool)
  | 10 => [(0, true), (1, true), (2, true), (3, true), (4, true), (5, true), (6, true), (8, true), (9, true), (10, true), (11, true), (12, true), (13, true), (14, true), (7, false), (15, false), (16, true)]
  | 12 => [(0, true), (1, true), (2, true), (4, true), (5, true), (6, true), (3, false), (7, false), (8, false), (9, true)]
  | _ => []
abbrev F3_k (R : RT) := resK Tryz.prog [.tmp 2] R
abbrev F3_W (R : RT) := wpE Tryz.prog F3_dc (F3_k R) (panK R)
noncomputable def F3_p0 := cR F3_b
noncomputable def F3_p1 := cR F3_p0
noncomputable def F3_p2 := cR F3_p1
noncomputable def F3_p3 := cR F3_p2
noncomputable def F3_p4 := cR F3_p3
noncomputable def F3_p5 := cL F3_p4
noncomputable def F3_p6 := cL F3_p3
noncomputable def F3_p7 := cR F3_p6
noncomputable def F3_p8 := cI F3_p7
noncomputable def F3_p9 := cI F3_p8
noncomputable def F3_p10 := cR F3_p9
noncomputable def F3_p11 := cR F3_p10
noncomputable def F3_p12 := cR F3_p11
noncomputable def F3_p13 := cL F3_p11
noncomputable def F3_p14 := cI F3_p13
noncomputable def F3_p15 := cR F3_p14
noncomputable def F3_p16 := cR F3_p15
noncomputable def F3_p17 := cR F3_p16
noncomputable def F3_p18 := cT F3_p17
noncomputable def F3_p19 := cL F3_p18
noncomputable def F3_p20 := cL F3_p16
noncomputable def F3_p21 := cL F3_p15
noncomputable def F3_p22 := cR F3_p21
noncomputable def F3_p23 := cT F3_p22
noncomputable def F3_p24 := cR F3_p23
noncomputable def F3_p25 := cT F3_p24
noncomputable def F3_p26 := cL F3_p25
noncomputable def F3_p27 := cL F3_p23
noncomputable def F3_p28 := cF F3_p22
noncomputable def F3_p29 := cR F3_p28
noncomputable def F3_p30 := cT F3_p29
noncomputable def F3_p31 := cL F3_p30
noncomputable def F3_p32 := cL F3_p28
noncomputable def F3_p33 := cL F3_p14
noncomputable def F3_p34 := cL F3_p21
noncomputable def F3_p35 := cL F3_p10
noncomputable def F3_p36 := cL F3_p9
noncomputable def F3_p37 := cL F3_p6
noncomputable def F3_p38 := cL F3_p2
noncomputable def F3_p39 := cR F3_p38
noncomputable def F3_p40 := cT F3_p39
noncomputable def F3_p41 := cL F3_p40
noncomputable def F3_p42 := cL F3_p1
noncomputable def F3_p43 := cL F3_p38
noncomputable def F3_p44 := cL F3_p0
noncomputable def F3_p45 := cR F3_p44
noncomputable def F3_p46 := cT F3_p45
noncomputable def F3_p47 := cL F3_p46
noncomputable def F3_p48 := cL F3_b
noncomputable def F3_p49 := cL F3_p44
def F3_s7_t (R : RT) (v3 v4 : Value) (w : World) : Prop :=
  un Tryz.prog R (callFunc 11 #[v3, v4, (.int .i64 0), (.string { data := #[] })]) w (fun v62 w =>
  R (.returned v62) w)
theorem F3_s7_st (R : RT) (X : KX) (f : Fr) (w : World) (h : F3_s7_t R (f 3) (f 4) w) : F3_W R F3_p5 (F3_k R) X f w := Eq.mp (by kernel_rfl) h
def F3_s7 (R : RT) (v3 v4 : Value) (w : World) : Prop :=
  F3_s7_t R v3 v4 w
noncomputable def F3_s7_c : Code := (.seq F3_p5 .ret)
theorem F3_s7_ok (R : RT) : OkW (F3_W R) (a2 (F3_s7 R) 3 4) F3_s7_c (F3_k R) noX :=
  fun f w h => cut F3_p5 .ret (K := (F3_k R)) (fun f w h => ret_ok h) f w (F3_s7_st R _ f w h)
def F3_s12_t (R : RT) (K : V1) (v3 v4 v14 v15 v16 : Value) (w : World) : Prop :=
  uv Tryz.prog R (binS .add 3 (.tmp 16) (.const (.int .i64 1)) v16 (.int .i64 1)) w (fun v59 w =>
  K v59 w)
theorem F3_s12_st (R : RT) (K : V1) (X : KX) (f : Fr) (w : World) (h : F3_s12_t R K (f 3) (f 4) (f 14) (f 15) (f 16) w) : F3_W R F3_p12 (a1 K 16) X f w := Eq.mp (by kernel_rfl) h
def F3_s12 (R : RT) (rec8 : V1) (v3 v4 v14 v15 v16 : Value) (w : World) : Prop :=
  F3_s12_t R rec8 v3 v4 v14 v15 v16 w
noncomputable def F3_s12_c : Code := (.seq F3_p12 .skip)
theorem F3_s12_ok (R : RT) (rec8 : V1) : OkW (F3_W R) (a5 (F3_s12 R rec8) 3 4 14 15 16) F3_s12_c (a1 rec8 16) (kxB 0 (a2 (F3_s7 R) 3 4) noX) :=
  fun f w h => cut F3_p12 .skip (K := (a1 rec8 16)) (fun f w h => skip_ok h) f w (F3_s12_st R rec8 _ f w h)
def F3_s17_t (R : RT) (w : World) : Prop :=
  R (.returned (.bool false)) w
theorem F3_s17_st (R : RT) (X : KX) (f : Fr) (w : World) (h : F3_s17_t R w) : F3_W R F3_p19 (F3_k R) X f w := Eq.mp (by kernel_rfl) h
def F3_s17 (R : RT) (rec8 : V1) (w : World) : Prop :=
  F3_s17_t R w
noncomputable def F3_s17_c : Code := (.seq F3_p19 .ret)
theorem F3_s17_ok (R : RT) (rec8 : V1) : OkW (F3_W R) ((fun f w => F3_s17 R rec8 w)) F3_s17_c (a5 (F3_s12 R rec8) 3 4 14 15 16) (kxB 1 (a5 (F3_s12 R rec8) 3 4 14 15 16) (kxB 0 (a2 (F3_s7 R) 3 4) noX)) :=
  fun f w h => cut F3_p19 .ret (K := (F3_k R)) (fun f w h => ret_ok h) f w (F3_s17_st R _ f w h)
def F3_s16 (R : RT) (rec8 : V1) (v3 v4 v14 v15 v16 v58 : Value) (w : World) : Prop :=
  Bc v58
    (F3_s17 R rec8 w)
    (F3_s12 R rec8 v3 v4 v14 v15 v16 w)
noncomputable def F3_s16_c : Code := (.seq F3_p17 .skip)
theorem F3_s16_e (R : RT) (K : KF) (X : KX) (f : Fr) (w : World) (h : Bc (f 58) (F3_W R F3_s17_c K X f w) (F3_W R .skip K X f w)) : (F3_W R F3_p17 K X f w) := Eq.mp (by kernel_rfl) h
theorem F3_s16_ok (R : RT) (rec8 : V1) : OkW (F3_W R) (a6 (F3_s16 R rec8) 3 4 14 15 16 58) F3_s16_c (a5 (F3_s12 R rec8) 3 4 14 15 16) (kxB 1 (a5 (F3_s12 R rec8) 3 4 14 15 16) (kxB 0 (a2 (F3_s7 R) 3 4) noX)) :=
  fun f w h => cut F3_p17 .skip (K := (a5 (F3_s12 R rec8) 3 4 14 15 16)) (fun f w h => skip_ok h) f w (F3_s16_e R _ _ f w (Bc_imp (x' := (F3_W R F3_s17_c (a5 (F3_s12 R rec8) 3 4 14 15 16) (kxB 1 (a5 (F3_s12 R rec8) 3 4 14 15 16) (kxB 0 (a2 (F3_s7 R) 3 4) noX)) f w)) (y' := (F3_W R .skip (a5 (F3_s12 R rec8) 3 4 14 15 16) (kxB 1 (a5 (F3_s12 R rec8) 3 4 14 15 16) (kxB 0 (a2 (F3_s7 R) 3 4) noX)) f w)) ((F3_s17_ok R rec8) f w) ((fun f w h => skip_ok h) f w) h))
def F3_s15_t (R : RT) (K : V6) (v3 v4 v6 v14 v15 v16 : Value) (w : World) : Prop :=
  uv Tryz.prog R (Instr.fieldAt 32 v6 1) w (fun v53 w =>
  uv Tryz.prog R (Instr.loadAt 3 v53) w (fun v54 w =>
  uv Tryz.prog R (Instr.fieldAt 32 v6 3) w (fun v55 w =>
  uv Tryz.prog R (Instr.loadAt 9 v55) w (fun v56 w =>
  un Tryz.prog R (callFunc 11 #[v3, v4, v54, v56]) w (fun v57 w =>
  uv Tryz.prog R (Op.unary .not v57) w (fun v58 w =>
  K v3 v4 v14 v15 v16 v58 w))))))
theorem F3_s15_st (R : RT) (K : V6) (X : KX) (f : Fr) (w : World) (h : F3_s15_t R K (f 3) (f 4) (f 6) (f 14) (f 15) (f 16) w) : F3_W R F3_p20 (a6 K 3 4 14 15 16 58) X f w := Eq.mp (by kernel_rfl) h
def F3_s15 (R : RT) (rec8 : V1) (v3 v4 v6 v14 v15 v16 : Value) (w : World) : Prop :=
  F3_s15_t R (F3_s16 R rec8) v3 v4 v6 v14 v15 v16 w
noncomputable def F3_s15_c : Code := (.seq F3_p20 F3_s16_c)
theorem F3_s15_ok (R : RT) (rec8 : V1) : OkW (F3_W R) (a6 (F3_s15 R rec8) 3 4 6 14 15 16) F3_s15_c (a5 (F3_s12 R rec8) 3 4 14 15 16) (kxB 1 (a5 (F3_s12 R rec8) 3 4 14 15 16) (kxB 0 (a2 (F3_s7 R) 3 4) noX)) :=
  fun f w h => cut F3_p20 F3_s16_c (K := (a6 (F3_s16 R rec8) 3 4 14 15 16 58)) (F3_s16_ok R rec8) f w (F3_s15_st R (F3_s16 R rec8) _ f w h)
def F3_s20_t (R : RT) (w : World) : Prop :=
  R (.returned (.bool false)) w
theorem F3_s20_st (R : RT) (X : KX) (f : Fr) (w : World) (h : F3_s20_t R w) : F3_W R F3_p26 (F3_k R) X f w := Eq.mp (by kernel_rfl) h
def F3_s20 (R : RT) (rec8 : V1) (w : World) : Prop :=
  F3_s20_t R w
noncomputable def F3_s20_c : Code := (.seq F3_p26 .ret)
theorem F3_s20_ok (R : RT) (rec8 : V1) : OkW (F3_W R) ((fun f w => F3_s20 R rec8 w)) F3_s20_c (a6 (F3_s15 R rec8) 3 4 6 14 15 16) (kxB 1 (a5 (F3_s12 R rec8) 3 4 14 15 16) (kxB 0 (a2 (F3_s7 R) 3 4) noX)) :=
  fun f w h => cut F3_p26 .ret (K := (F3_k R)) (fun f w h => ret_ok h) f w (F3_s20_st R _ f w h)
def F3_s19 (R : RT) (rec8 : V1) (v3 v4 v6 v14 v15 v16 v40 : Value) (w : World) : Prop :=
  Bc v40
    (F3_s20 R rec8 w)
    (F3_s15 R rec8 v3 v4 v6 v14 v15 v16 w)
noncomputable def F3_s19_c : Code := (.seq F3_p24 .skip)
theorem F3_s19_e (R : RT) (K : KF) (X : KX) (f : Fr) (w : World) (h : Bc (f 40) (F3_W R F3_s20_c K X f w) (F3_W R .skip K X f w)) : (F3_W R F3_p24 K X f w) := Eq.mp (by kernel_rfl) h
theorem F3_s19_ok (R : RT) (rec8 : V1) : OkW (F3_W R) (a7 (F3_s19 R rec8) 3 4 6 14 15 16 40) F3_s19_c (a6 (F3_s15 R rec8) 3 4 6 14 15 16) (kxB 1 (a5 (F3_s12 R rec8) 3 4 14 15 16) (kxB 0 (a2 (F3_s7 R) 3 4) noX)) :=
  fun f w h => cut F3_p24 .skip (K := (a6 (F3_s15 R rec8) 3 4 6 14 15 16)) (fun f w h => skip_ok h) f w (F3_s19_e R _ _ f w (Bc_imp (x' := (F3_W R F3_s20_c (a6 (F3_s15 R rec8) 3 4 6 14 15 16) (kxB 1 (a5 (F3_s12 R rec8) 3 4 14 15 16) (kxB 0 (a2 (F3_s7 R) 3 4) noX)) f w)) (y' := (F3_W R .skip (a6 (F3_s15 R rec8) 3 4 6 14 15 16) (kxB 1 (a5 (F3_s12 R rec8) 3 4 14 15 16) (kxB 0 (a2 (F3_s7 R) 3 4) noX)) f w)) ((F3_s20_ok R rec8) f w) ((fun f w h => skip_ok h) f w) h))
def F3_s18_t (R : RT) (K : V7) (v3 v4 v6 v14 v15 v16 : Value) (w : World) : Prop :=
  Dr (fun S w =>
  HV Tryz.prog (fun _ => True) (Instr.fieldAt 32 v6 1) (fun v25 =>
  HV Tryz.prog S (Instr.loadAt 3 v25) (fun v26 =>
  HV Tryz.prog (fun _ => True) (Instr.fieldAt 32 v6 3) (fun v27 =>
  HV Tryz.prog S (Instr.loadAt 9 v27) (fun v28 =>
  HV Tryz.prog (fun _ => True) (Instr.fieldAt 32 v6 2) (fun v29 =>
  HV Tryz.prog S (Instr.loadAt 3 v29) (fun v30 =>
  HV Tryz.prog (fun _ => True) (Instr.fieldAt 32 v6 1) (fun v33 =>
  HV Tryz.prog S (Instr.loadAt 3 v33) (fun v34 =>
  HV Tryz.prog (fun _ => True) (Instr.fieldAt 32 v6 3) (fun v35 =>
  HV Tryz.prog S (Instr.loadAt 9 v35) (fun v36 =>
  HV Tryz.prog (fun _ => True) (Instr.fieldAt 32 v6 2) (fun v37 =>
  HV Tryz.prog S (Instr.loadAt 3 v37) (fun v38 =>
  un Tryz.prog R (callFunc 6 #[v3, v26, v28, v30]) w (fun v31 w =>
  S w ∧ (
  un Tryz.prog R (callFunc 7 #[v4, v34, v36, v38]) w (fun v39 w =>
  S w ∧ (
  HV Tryz.prog S (binS .neq 3 (.tmp 31) (.tmp 39) v31 v39) (fun v40 =>
  K v3 v4 v6 v14 v15 v16 v40 w)))))))))))))))))) w
theorem F3_s18_st (R : RT) (K : V7) (X : KX) (f : Fr) (w : World) (h : F3_s18_t R K (f 3) (f 4) (f 6) (f 14) (f 15) (f 16) w) : F3_W R F3_p27 (a7 K 3 4 6 14 15 16 40) X f w := Eq.mp (by kernel_rfl) h
def F3_s18 (R : RT) (rec8 : V1) (v3 v4 v6 v14 v15 v16 : Value) (w : World) : Prop :=
  F3_s18_t R (F3_s19 R rec8) v3 v4 v6 v14 v15 v16 w
noncomputable def F3_s18_c : Code := (.seq F3_p27 F3_s19_c)
theorem F3_s18_ok (R : RT) (rec8 : V1) : OkW (F3_W R) (a6 (F3_s18 R rec8) 3 4 6 14 15 16) F3_s18_c (a6 (F3_s15 R rec8) 3 4 6 14 15 16) (kxB 1 (a5 (F3_s12 R rec8) 3 4 14 15 16) (kxB 0 (a2 (F3_s7 R) 3 4) noX)) :=
  fun f w h => cut F3_p27 F3_s19_c (K := (a7 (F3_s19 R rec8) 3 4 6 14 15 16 40)) (F3_s19_ok R rec8) f w (F3_s18_st R (F3_s19 R rec8) _ f w h)
def F3_s23_t (R : RT) (w : World) : Prop :=
  R (.returned (.bool false)) w
theorem F3_s23_st (R : RT) (X : KX) (f : Fr) (w : World) (h : F3_s23_t R w) : F3_W R F3_p31 (F3_k R) X f w := Eq.mp (by kernel_rfl) h
def F3_s23 (R : RT) (rec8 : V1) (w : World) : Prop :=
  F3_s23_t R w
noncomputable def F3_s23_c : Code := (.seq F3_p31 .ret)
theorem F3_s23_ok (R : RT) (rec8 : V1) : OkW (F3_W R) ((fun f w => F3_s23 R rec8 w)) F3_s23_c (a6 (F3_s15 R rec8) 3 4 6 14 15 16) (kxB 1 (a5 (F3_s12 R rec8) 3 4 14 15 16) (kxB 0 (a2 (F3_s7 R) 3 4) noX)) :=
  fun f w h => cut F3_p31 .ret (K := (F3_k R)) (fun f w h => ret_ok h) f w (F3_s23_st R _ f w h)
def F3_s22 (R : RT) (rec8 : V1) (v3 v4 v6 v14 v15 v16 v50 : Value) (w : World) : Prop :=
  Bc v50
    (F3_s23 R rec8 w)
    (F3_s15 R rec8 v3 v4 v6 v14 v15 v16 w)
noncomputable def F3_s22_c : Code := (.seq F3_p29 .skip)
theorem F3_s22_e (R : RT) (K : KF) (X : KX) (f : Fr) (w : World) (h : Bc (f 50) (F3_W R F3_s23_c K X f w) (F3_W R .skip K X f w)) : (F3_W R F3_p29 K X f w) := Eq.mp (by kernel_rfl) h
theorem F3_s22_ok (R : RT) (rec8 : V1) : OkW (F3_W R) (a7 (F3_s22 R rec8) 3 4 6 14 15 16 50) F3_s22_c (a6 (F3_s15 R rec8) 3 4 6 14 15 16) (kxB 1 (a5 (F3_s12 R rec8) 3 4 14 15 16) (kxB 0 (a2 (F3_s7 R) 3 4) noX)) :=
  fun f w h => cut F3_p29 .skip (K := (a6 (F3_s15 R rec8) 3 4 6 14 15 16)) (fun f w h => skip_ok h) f w (F3_s22_e R _ _ f w (Bc_imp (x' := (F3_W R F3_s23_c (a6 (F3_s15 R rec8) 3 4 6 14 15 16) (kxB 1 (a5 (F3_s12 R rec8) 3 4 14 15 16) (kxB 0 (a2 (F3_s7 R) 3 4) noX)) f w)) (y' := (F3_W R .skip (a6 (F3_s15 R rec8) 3 4 6 14 15 16) (kxB 1 (a5 (F3_s12 R rec8) 3 4 14 15 16) (kxB 0 (a2 (F3_s7 R) 3 4) noX)) f w)) ((F3_s23_ok R rec8) f w) ((fun f w h => skip_ok h) f w) h))
def F3_s21_t (R : RT) (K : V7) (v3 v4 v6 v14 v15 v16 : Value) (w : World) : Prop :=
  Dr (fun S w =>
  HV Tryz.prog (fun _ => True) (Instr.fieldAt 32 v6 1) (fun v42 =>
  HV Tryz.prog S (Instr.loadAt 3 v42) (fun v43 =>
  HV Tryz.prog (fun _ => True) (Instr.fieldAt 32 v6 1) (fun v46 =>
  HV Tryz.prog S (Instr.loadAt 3 v46) (fun v47 =>
  un Tryz.prog R (callFunc 9 #[v3, v43]) w (fun v44 w =>
  S w ∧ (
  un Tryz.prog R (callFunc 10 #[v4, v47]) w (fun v48 w =>
  S w ∧ (
  un Tryz.prog R (callFunc 8 #[v44, v48]) w (fun v49 w =>
  S w ∧ (
  HV Tryz.prog S (Op.unary .not v49) (fun v50 =>
  K v3 v4 v6 v14 v15 v16 v50 w)))))))))))) w
theorem F3_s21_st (R : RT) (K : V7) (X : KX) (f : Fr) (w : World) (h : F3_s21_t R K (f 3) (f 4) (f 6) (f 14) (f 15) (f 16) w) : F3_W R F3_p32 (a7 K 3 4 6 14 15 16 50) X f w := Eq.mp (by kernel_rfl) h
def F3_s21 (R : RT) (rec8 : V1) (v3 v4 v6 v14 v15 v16 : Value) (w : World) : Prop :=
  F3_s21_t R (F3_s22 R rec8) v3 v4 v6 v14 v15 v16 w
noncomputable def F3_s21_c : Code := (.seq F3_p32 F3_s22_c)
theorem F3_s21_ok (R : RT) (rec8 : V1) : OkW (F3_W R) (a6 (F3_s21 R rec8) 3 4 6 14 15 16) F3_s21_c (a6 (F3_s15 R rec8) 3 4 6 14 15 16) (kxB 1 (a5 (F3_s12 R rec8) 3 4 14 15 16) (kxB 0 (a2 (F3_s7 R) 3 4) noX)) :=
  fun f w h => cut F3_p32 F3_s22_c (K := (a7 (F3_s22 R rec8) 3 4 6 14 15 16 50)) (F3_s22_ok R rec8) f w (F3_s21_st R (F3_s22 R rec8) _ f w h)
def F3_s14 (R : RT) (rec8 : V1) (v3 v4 v6 v14 v15 v16 v23 : Value) (w : World) : Prop :=
  Bc v23
    (F3_s18 R rec8 v3 v4 v6 v14 v15 v16 w)
    (F3_s21 R rec8 v3 v4 v6 v14 v15 v16 w)
noncomputable def F3_s14_c : Code := (.seq F3_p22 F3_s15_c)
theorem F3_s14_e (R : RT) (K : KF) (X : KX) (f : Fr) (w : World) (h : Bc (f 23) (F3_W R F3_s18_c K X f w) (F3_W R F3_s21_c K X f w)) : (F3_W R F3_p22 K X f w) := Eq.mp (by kernel_rfl) h
theorem F3_s14_ok (R : RT) (rec8 : V1) : OkW (F3_W R) (a7 (F3_s14 R rec8) 3 4 6 14 15 16 23) F3_s14_c (a5 (F3_s12 R rec8) 3 4 14 15 16) (kxB 1 (a5 (F3_s12 R rec8) 3 4 14 15 16) (kxB 0 (a2 (F3_s7 R) 3 4) noX)) :=
  fun f w h => cut F3_p22 F3_s15_c (K := (a6 (F3_s15 R rec8) 3 4 6 14 15 16)) (F3_s15_ok R rec8) f w (F3_s14_e R _ _ f w (Bc_imp (x' := (F3_W R F3_s18_c (a6 (F3_s15 R rec8) 3 4 6 14 15 16) (kxB 1 (a5 (F3_s12 R rec8) 3 4 14 15 16) (kxB 0 (a2 (F3_s7 R) 3 4) noX)) f w)) (y' := (F3_W R F3_s21_c (a6 (F3_s15 R rec8) 3 4 6 14 15 16) (kxB 1 (a5 (F3_s12 R rec8) 3 4 14 15 16) (kxB 0 (a2 (F3_s7 R) 3 4) noX)) f w)) ((F3_s18_ok R rec8) f w) ((F3_s21_ok R rec8) f w) h))
def F3_s13_t (R : RT) (K : V7) (v3 v4 v14 v15 v16 : Value) (w : World) : Prop :=
  uv Tryz.prog R (Instr.indexAt 22 v14 v16) w (fun v18 w =>
  uv Tryz.prog R (Instr.loadAt 32 v18) w (fun v19 w =>
  uv Tryz.prog R (Instr.alloc 32 true (.tuple #[])) w (fun v6 w =>
  uu Tryz.prog R (Instr.storeAt 32 v6 v19) w (fun w =>
  uv Tryz.prog R (Instr.fieldAt 32 v6 0) w (fun v20 w =>
  uv Tryz.prog R (Instr.loadAt 3 v20) w (fun v21 w =>
  uv Tryz.prog R (binS .and 3 (.tmp 21) (.const (.int .i64 3)) v21 (.int .i64 3)) w (fun v22 w =>
  uv Tryz.prog R (binS .lss 3 (.tmp 22) (.const (.int .i64 3)) v22 (.int .i64 3)) w (fun v23 w =>
  K v3 v4 v6 v14 v15 v16 v23 w))))))))
theorem F3_s13_st (R : RT) (K : V7) (X : KX) (f : Fr) (w : World) (h : F3_s13_t R K (f 3) (f 4) (f 14) (f 15) (f 16) w) : F3_W R (.seq F3_p33 F3_p34) (a7 K 3 4 6 14 15 16 23) X f w := Eq.mp (by kernel_rfl) h
def F3_s13 (R : RT) (rec8 : V1) (v3 v4 v14 v15 v16 : Value) (w : World) : Prop :=
  F3_s13_t R (F3_s14 R rec8) v3 v4 v14 v15 v16 w
noncomputable def F3_s13_c : Code := (.seq (.seq F3_p33 F3_p34) F3_s14_c)
theorem F3_s13_ok (R : RT) (rec8 : V1) : OkW (F3_W R) (a5 (F3_s13 R rec8) 3 4 14 15 16) F3_s13_c (a5 (F3_s12 R rec8) 3 4 14 15 16) (kxB 1 (a5 (F3_s12 R rec8) 3 4 14 15 16) (kxB 0 (a2 (F3_s7 R) 3 4) noX)) :=
  fun f w h => cut (.seq F3_p33 F3_p34) F3_s14_c (K := (a7 (F3_s14 R rec8) 3 4 6 14 15 16 23)) (F3_s14_ok R rec8) f w (F3_s13_st R (F3_s14 R rec8) _ f w h)
noncomputable def F3_s11_c : Code := (.seq F3_p13 F3_s12_c)
theorem F3_s11_e (R : RT) (K : KF) (X : KX) (f : Fr) (w : World) (h : F3_W R F3_s13_c K (kxB 1 K X) f w) : F3_W R F3_p13 K X f w := Eq.mp (by kernel_rfl) h
theorem F3_s11_ok (R : RT) (rec8 : V1) : OkW (F3_W R) (a5 (F3_s13 R rec8) 3 4 14 15 16) F3_s11_c (a1 rec8 16) (kxB 0 (a2 (F3_s7 R) 3 4) noX) :=
  fun f w h => cut F3_p13 F3_s12_c (K := (a5 (F3_s12 R rec8) 3 4 14 15 16)) (F3_s12_ok R rec8) f w (F3_s11_e R _ _ f w ((F3_s13_ok R rec8) f w h))
def F3_s10 (R : RT) (rec8 : V1) (v3 v4 v14 v15 v16 v17 : Value) (w : World) : Prop :=
  Bc v17
    (F3_s13 R rec8 v3 v4 v14 v15 v16 w)
    (F3_s7 R v3 v4 w)
noncomputable def F3_s10_c : Code := (.seq F3_p35 F3_s11_c)
theorem F3_s10_e (R : RT) (K : KF) (X : KX) (f : Fr) (w : World) (h : Bc (f 17) (F3_W R .skip K X f w) (F3_W R (.exit 0) K X f w)) : (F3_W R F3_p35 K X f w) := Eq.mp (by kernel_rfl) h
theorem F3_s10_ok (R : RT) (rec8 : V1) : OkW (F3_W R) (a6 (F3_s10 R rec8) 3 4 14 15 16 17) F3_s10_c (a1 rec8 16) (kxB 0 (a2 (F3_s7 R) 3 4) noX) :=
  fun f w h => cut F3_p35 F3_s11_c (K := (a5 (F3_s13 R rec8) 3 4 14 15 16)) (F3_s11_ok R rec8) f w (F3_s10_e R _ _ f w (Bc_imp (x' := (F3_W R .skip (a5 (F3_s13 R rec8) 3 4 14 15 16) (kxB 0 (a2 (F3_s7 R) 3 4) noX) f w)) (y' := (F3_W R (.exit 0) (a5 (F3_s13 R rec8) 3 4 14 15 16) (kxB 0 (a2 (F3_s7 R) 3 4) noX) f w)) ((fun f w h => skip_ok h) f w) ((fun f w h => exit_hit h) f w) h))
def F3_s9_t (R : RT) (K : V6) (v3 v4 v14 v15 v16 : Value) (w : World) : Prop :=
  uv Tryz.prog R (binS .lss 3 (.tmp 16) (.tmp 15) v16 v15) w (fun v17 w =>
  K v3 v4 v14 v15 v16 v17 w)
theorem F3_s9_st (R : RT) (K : V6) (X : KX) (f : Fr) (w : World) (h : F3_s9_t R K (f 3) (f 4) (f 14) (f 15) (f 16) w) : F3_W R F3_p36 (a6 K 3 4 14 15 16 17) X f w := Eq.mp (by kernel_rfl) h
def F3_s9 (R : RT) (rec8 : V1) (v3 v4 v14 v15 v16 : Value) (w : World) : Prop :=
  F3_s9_t R (F3_s10 R rec8) v3 v4 v14 v15 v16 w
noncomputable def F3_s9_c : Code := (.seq F3_p36 F3_s10_c)
theorem F3_s9_ok (R : RT) (rec8 : V1) : OkW (F3_W R) (a5 (F3_s9 R rec8) 3 4 14 15 16) F3_s9_c (a1 rec8 16) (kxB 0 (a2 (F3_s7 R) 3 4) noX) :=
  fun f w h => cut F3_p36 F3_s10_c (K := (a6 (F3_s10 R rec8) 3 4 14 15 16 17)) (F3_s10_ok R rec8) f w (F3_s9_st R (F3_s10 R rec8) _ f w h)
def F3_s8 (R : RT) (v3 v4 v14 v15 v16 : Value) (w : World) : Prop :=
  Lp1 (fun rec8 v16 w => F3_s9 R rec8 v3 v4 v14 v15 v16 w) v16 w
theorem F3_s8_e (R : RT) (K : KF) (X : KX) (f : Fr) (w : World) (h : F3_W R (.loop F3_p9) K X f w) : F3_W R F3_p8 K X f w := Eq.mp (by kernel_rfl) h
theorem F3_s8b_e (R : RT) (K : KF) (X : KX) (f : Fr) (w : World) (h : F3_W R F3_s9_c K X f w) : F3_W R F3_p9 K X f w := Eq.mp (by kernel_rfl) h
theorem F3_s8_ok (R : RT) : OkW (F3_W R) (a5 (F3_s8 R) 3 4 14 15 16) F3_p8 (a2 (F3_s7 R) 3 4) (kxB 0 (a2 (F3_s7 R) 3 4) noX) :=
  fun f w h => F3_s8_e R _ _ f w (loop1_ok (P := Tryz.prog) (dc := F3_dc) (kr := (F3_k R)) (pan := panK R) F3_p9 (kn := (a2 (F3_s7 R) 3 4)) (kx := (kxB 0 (a2 (F3_s7 R) 3 4) noX)) (s0 := 16) (fun rec8 v16 w => F3_s9 R rec8 (f 3) (f 4) (f 14) (f 15) v16 w) f (fun rec8 f' w' hf h' => F3_s8b_e R _ _ f' w' ((F3_s9_ok R rec8) f' w' (by simp only [a5, hf 3 (by kernel_rfl), hf 4 (by kernel_rfl), hf 14 (by kernel_rfl), hf 15 (by kernel_rfl)]; exact h'))) w h)
noncomputable def F3_s6_c : Code := (.seq F3_p7 F3_s7_c)
theorem F3_s6_e (R : RT) (K : KF) (X : KX) (f : Fr) (w : World) (h : F3_W R F3_p8 K (kxB 0 K X) f w) : F3_W R F3_p7 K X f w := Eq.mp (by kernel_rfl) h
theorem F3_s6_ok (R : RT) : OkW (F3_W R) (a5 (F3_s8 R) 3 4 14 15 16) F3_s6_c (F3_k R) noX :=
  fun f w h => cut F3_p7 F3_s7_c (K := (a2 (F3_s7 R) 3 4)) (F3_s7_ok R) f w (F3_s6_e R _ _ f w ((F3_s8_ok R) f w h))
def F3_s5_t (R : RT) (K : V5) (v0 v3 v4 : Value) (w : World) : Prop :=
  un Tryz.prog R (builtin .len #[22] 3 #[false] #[v0]) w (fun v15 w =>
  K v3 v4 v0 v15 (.int .i64 0) w)
theorem F3_s5_st (R : RT) (K : V5) (X : KX) (f : Fr) (w : World) (h : F3_s5_t R K (f 0) (f 3) (f 4) w) : F3_W R F3_p37 (a5 K 3 4 14 15 16) X f w := Eq.mp (by kernel_rfl) h
def F3_s5 (R : RT) (v0 v3 v4 : Value) (w : World) : Prop :=
  F3_s5_t R (F3_s8 R) v0 v3 v4 w
noncomputable def F3_s5_c : Code := (.seq F3_p37 F3_s6_c)
theorem F3_s5_ok (R : RT) : OkW (F3_W R) (a3 (F3_s5 R) 0 3 4) F3_s5_c (F3_k R) noX :=
  fun f w h => cut F3_p37 F3_s6_c (K := (a5 (F3_s8 R) 3 4 14 15 16)) (F3_s6_ok R) f w (F3_s5_st R (F3_s8 R) _ f w h)
def F3_s24_t (R : RT) (w : World) : Prop :=
  R (.returned (.bool false)) w
theorem F3_s24_st (R : RT) (X : KX) (f : Fr) (w : World) (h : F3_s24_t R w) : F3_W R F3_p41 (F3_k R) X f w := Eq.mp (by kernel_rfl) h
def F3_s24 (R : RT) (w : World) : Prop :=
  F3_s24_t R w
noncomputable def F3_s24_c : Code := (.seq F3_p41 .ret)
theorem F3_s24_ok (R : RT) : OkW (F3_W R) ((fun f w => F3_s24 R w)) F3_s24_c (a3 (F3_s5 R) 0 3 4) noX :=
  fun f w h => cut F3_p41 .ret (K := (F3_k R)) (fun f w h => ret_ok h) f w (F3_s24_st R _ f w h)
def F3_s4 (R : RT) (v0 v3 v4 v13 : Value) (w : World) : Prop :=
  Bc v13
    (F3_s24 R w)
    (F3_s5 R v0 v3 v4 w)
noncomputable def F3_s4_c : Code := (.seq F3_p39 F3_s5_c)
theorem F3_s4_e (R : RT) (K : KF) (X : KX) (f : Fr) (w : World) (h : Bc (f 13) (F3_W R F3_s24_c K X f w) (F3_W R .skip K X f w)) : (F3_W R F3_p39 K X f w) := Eq.mp (by kernel_rfl) h
theorem F3_s4_ok (R : RT) : OkW (F3_W R) (a4 (F3_s4 R) 0 3 4 13) F3_s4_c (F3_k R) noX :=
  fun f w h => cut F3_p39 F3_s5_c (K := (a3 (F3_s5 R) 0 3 4)) (F3_s5_ok R) f w (F3_s4_e R _ _ f w (Bc_imp (x' := (F3_W R F3_s24_c (a3 (F3_s5 R) 0 3 4) noX f w)) (y' := (F3_W R .skip (a3 (F3_s5 R) 0 3 4) noX f w)) ((F3_s24_ok R) f w) ((fun f w h => skip_ok h) f w) h))
def F3_s3_t (R : RT) (K : V4) (v0 : Value) (w : World) : Prop :=
  un Tryz.prog R (callFunc 5 #[]) w (fun v9 w =>
  uv Tryz.prog R (Instr.build 30 #[]) w (fun v10 w =>
  uv Tryz.prog R (Instr.box 30 v10) w (fun v11 w =>
  uv Tryz.prog R (binS .eql 24 (.tmp 12) (.const (.pointer none)) v9 (.pointer none)) w (fun v13 w =>
  K v0 v9 v11 v13 w))))
theorem F3_s3_st (R : RT) (K : V4) (X : KX) (f : Fr) (w : World) (h : F3_s3_t R K (f 0) w) : F3_W R (.seq F3_p42 F3_p43) (a4 K 0 3 4 13) X f w := Eq.mp (by kernel_rfl) h
def F3_s3 (R : RT) (v0 : Value) (w : World) : Prop :=
  F3_s3_t R (F3_s4 R) v0 w
noncomputable def F3_s3_c : Code := (.seq (.seq F3_p42 F3_p43) F3_s4_c)
theorem F3_s3_ok (R : RT) : OkW (F3_W R) (a1 (F3_s3 R) 0) F3_s3_c (F3_k R) noX :=
  fun f w h => cut (.seq F3_p42 F3_p43) F3_s4_c (K := (a4 (F3_s4 R) 0 3 4 13)) (F3_s4_ok R) f w (F3_s3_st R (F3_s4 R) _ f w h)
def F3_s25_t (R : RT) (w : World) : Prop :=
  R (.returned (.bool false)) w
theorem F3_s25_st (R : RT) (X : KX) (f : Fr) (w : World) (h : F3_s25_t R w) : F3_W R F3_p47 (F3_k R) X f w := Eq.mp (by kernel_rfl) h
def F3_s25 (R : RT) (w : World) : Prop :=
  F3_s25_t R w
noncomputable def F3_s25_c : Code := (.seq F3_p47 .ret)
theorem F3_s25_ok (R : RT) : OkW (F3_W R) ((fun f w => F3_s25 R w)) F3_s25_c (a1 (F3_s3 R) 0) noX :=
  fun f w h => cut F3_p47 .ret (K := (F3_k R)) (fun f w h => ret_ok h) f w (F3_s25_st R _ f w h)
def F3_s2 (R : RT) (v0 v8 : Value) (w : World) : Prop :=
  Bc v8
    (F3_s25 R w)
    (F3_s3 R v0 w)
noncomputable def F3_s2_c : Code := (.seq F3_p45 F3_s3_c)
theorem F3_s2_e (R : RT) (K : KF) (X : KX) (f : Fr) (w : World) (h : Bc (f 8) (F3_W R F3_s25_c K X f w) (F3_W R .skip K X f w)) : (F3_W R F3_p45 K X f w) := Eq.mp (by kernel_rfl) h
theorem F3_s2_ok (R : RT) : OkW (F3_W R) (a2 (F3_s2 R) 0 8) F3_s2_c (F3_k R) noX :=
  fun f w h => cut F3_p45 F3_s3_c (K := (a1 (F3_s3 R) 0)) (F3_s3_ok R) f w (F3_s2_e R _ _ f w (Bc_imp (x' := (F3_W R F3_s25_c (a1 (F3_s3 R) 0) noX f w)) (y' := (F3_W R .skip (a1 (F3_s3 R) 0) noX f w)) ((F3_s25_ok R) f w) ((fun f w h => skip_ok h) f w) h))
def F3_s1_t (R : RT) (K : V2) (v0 : Value) (w : World) : Prop :=
  un Tryz.prog R (callFunc 4 #[]) w (fun v7 w =>
  uv Tryz.prog R (Op.unary .not v7) w (fun v8 w =>
  K v0 v8 w))
theorem F3_s1_st (R : RT) (K : V2) (X : KX) (f : Fr) (w : World) (h : F3_s1_t R K (f 0) w) : F3_W R (.seq F3_p48 F3_p49) (a2 K 0 8) X f w := Eq.mp (by kernel_rfl) h
def F3_s1 (R : RT) (v0 : Value) (w : World) : Prop :=
  F3_s1_t R (F3_s2 R) v0 w
noncomputable def F3_s1_c : Code := (.seq (.seq F3_p48 F3_p49) F3_s2_c)
theorem F3_s1_ok (R : RT) : OkW (F3_W R) (a1 (F3_s1 R) 0) F3_s1_c (F3_k R) noX :=
  fun f w h => cut (.seq F3_p48 F3_p49) F3_s2_c (K := (a2 (F3_s2 R) 0 8)) (F3_s2_ok R) f w (F3_s1_st R (F3_s2 R) _ f w h)
theorem F3_all_e (R : RT) (K : KF) (X : KX) (f : Fr) (w : World) (h : F3_W R F3_s1_c K X f w) : F3_W R F3_b K X f w := Eq.mp (by kernel_rfl) h
theorem F3_calls (R : RT) (v0 : Value) (w : World) (h : F3_s1 R v0 w) : Calls Tryz.prog 3 #[v0] w R :=
  calls_of_wpE (dc := F3_dc) (args := [v0]) hmixed Tryz.func3 (c := F3_b) rfl (rs := [.tmp 2]) rfl (by kernel_rfl) (Nat.le_of_ble_eq_true (by kernel_rfl)) (F3_all_e R _ _ _ w ((F3_s1_ok R) (initFr [v0]) w h))

end Go.Proofs.YtpghlemcgjogpaaGreat
