import Derived.Test.YtpghlemcgjogpaaGreatProg
import Derived.Test.YtpghlemcgjogpaaGreatSx
import Derived.Test.YtpghlemcgjogpaaGreatT
set_option linter.unusedVariables false
set_option maxRecDepth 100000
set_option maxHeartbeats 400000
namespace Go.Proofs.YtpghlemcgjogpaaGreat
open Go.Sx
/-! ### hasp/locks.New -/
noncomputable def F5_b : Code := bodyOf Tryz.f5
def F5_dc : Nat → List (Nat × Bool)
  | _ => []
abbrev F5_k (R : RT) := resK Tryz.prog [.tmp 0] R
abbrev F5_W (R : RT) := wpE Tryz.prog F5_dc (F5_k R) (panK R)
noncomputable def F5_p0 := cL F5_b
noncomputable def F5_p1 := cR F5_b
noncomputable def F5_p2 := cL F5_p1
def F5_s1_t (R : RT) (w : World) : Prop :=
  uv Tryz.prog R (Instr.makeMap 48 none) w (fun v1 w =>
  uv Tryz.prog R (Instr.makeMap 49 none) w (fun v2 w =>
  uv Tryz.prog R (Instr.build 51 #[(0, v1), (1, v2)]) w (fun v3 w =>
  uv Tryz.prog R (Instr.box 51 v3) w (fun v4 w =>
  R (.returned v4) w))))
theorem F5_s1_st (R : RT) (X : KX) (f : Fr) (w : World) (h : F5_s1_t R w) : F5_W R (.seq F5_p0 F5_p2) (F5_k R) X f w := Eq.mp (by kernel_rfl) h
def F5_s1 (R : RT) (w : World) : Prop :=
  F5_s1_t R w
noncomputable def F5_s1_c : Code := (.seq (.seq F5_p0 F5_p2) .ret)
theorem F5_s1_ok (R : RT) : OkW (F5_W R) ((fun f w => F5_s1 R w)) F5_s1_c (F5_k R) noX :=
  fun f w h => cut (.seq F5_p0 F5_p2) .ret (K := (F5_k R)) (fun f w h => ret_ok h) f w (F5_s1_st R _ f w h)
theorem F5_all_e (R : RT) (K : KF) (X : KX) (f : Fr) (w : World) (h : F5_W R F5_s1_c K X f w) : F5_W R F5_b K X f w := Eq.mp (by kernel_rfl) h
theorem F5_calls (R : RT) (w : World) (h : F5_s1 R w) : Calls Tryz.prog 5 #[] w R :=
  calls_of_wpE (dc := F5_dc) (args := []) hmixed Tryz.func5 (c := F5_b) rfl (rs := [.tmp 0]) rfl (by kernel_rfl) (Nat.le_of_ble_eq_true (by kernel_rfl)) (F5_all_e R _ _ _ w ((F5_s1_ok R) (initFr []) w h))

/-! ### (*hasp/locks.Table).Ask -/
noncomputable def F6_b : Code := bodyOf Tryz.f6
def F6_dc : Nat → List (Nat × Bool)
  | 19 => [(0, true), (1, true), (2, true), (3, true), (4, true), (5, true), (6, true), (7, false), (8, false), (9, true), (10, true), (11, false)]
  | 12 => [(0, true), (1, true), (2, true), (3, true), (4, true), (5, true), (6, true), (7, false)]
  | _ => []
abbrev F6_k (R : RT) := resK Tryz.prog [.tmp 8] R
abbrev F6_W (R : RT) := wpE Tryz.prog F6_dc (F6_k R) (panK R)
noncomputable def F6_p0 := cR F6_b
noncomputable def F6_p1 := cR F6_p0
noncomputable def F6_p2 := cR F6_p1
noncomputable def F6_p3 := cR F6_p2
noncomputable def F6_p4 := cR F6_p3
noncomputable def F6_p5 := cR F6_p4
noncomputable def F6_p6 := cR F6_p5
noncomputable def F6_p7 := cR F6_p6
noncomputable def F6_p8 := cR F6_p7
noncomputable def F6_p9 := cR F6_p8
noncomputable def F6_p10 := cL F6_p9
noncomputable def F6_p11 := cR F6_p9
noncomputable def F6_p12 := cL F6_p11
noncomputable def F6_p13 := cR F6_p11
noncomputable def F6_p14 := cL F6_p13
noncomputable def F6_p15 := cL F6_p8
noncomputable def F6_p16 := cR F6_p15
noncomputable def F6_p17 := cT F6_p16
noncomputable def F6_p18 := cR F6_p17
noncomputable def F6_p19 := cR F6_p18
noncomputable def F6_p20 := cT F6_p19
noncomputable def F6_p21 := cL F6_p17
noncomputable def F6_p22 := cL F6_p18
noncomputable def F6_p23 := cL F6_p7
noncomputable def F6_p24 := cL F6_p15
noncomputable def F6_p25 := cL F6_p6
noncomputable def F6_p26 := cR F6_p25
noncomputable def F6_p27 := cT F6_p26
noncomputable def F6_p28 := cL F6_p27
noncomputable def F6_p29 := cR F6_p27
noncomputable def F6_p30 := cL F6_p29
noncomputable def F6_p31 := cL F6_p25
noncomputable def F6_p32 := cL F6_p5
noncomputable def F6_p33 := cR F6_p32
noncomputable def F6_p34 := cT F6_p33
noncomputable def F6_p35 := cL F6_p34
noncomputable def F6_p36 := cL F6_p3
noncomputable def F6_p37 := cL F6_p4
noncomputable def F6_p38 := cL F6_p32
noncomputable def F6_p39 := cL F6_p2
noncomputable def F6_p40 := cR F6_p39
noncomputable def F6_p41 := cT F6_p40
noncomputable def F6_p42 := cL F6_p41
noncomputable def F6_p43 := cR F6_p41
noncomputable def F6_p44 := cL F6_p1
noncomputable def F6_p45 := cL F6_p39
noncomputable def F6_p46 := cL F6_p0
noncomputable def F6_p47 := cR F6_p46
noncomputable def F6_p48 := cT F6_p47
noncomputable def F6_p49 := cL F6_p48
noncomputable def F6_p50 := cL F6_b
noncomputable def F6_p51 := cL F6_p46
def F6_s11_t (R : RT) (v0 v1 v2 v9 v11 v12 : Value) (w : World) : Prop :=
  Dr (fun S w =>
  HN Tryz.prog (fun _ => True) (nilS v9) (fun v102 =>
  HV Tryz.prog (fun _ => True) (Instr.fieldAt 58 v102 1) (fun v103 =>
  HV Tryz.prog S (Instr.loadAt 56 v103) (fun v104 =>
  HV Tryz.prog S (Instr.loadAt 61 v11) (fun v106 =>
  uv Tryz.prog R (Instr.buildSlice 56 1 #[(0, v106)]) w (fun v107 w =>
  S w ∧ (
  un Tryz.prog R (callFunc 22 #[v104, v12, v107]) w (fun v108 w =>
  HN Tryz.prog (fun _ => True) (nilS v9) (fun v109 =>
  HV Tryz.prog (fun _ => True) (Instr.fieldAt 58 v109 1) (fun v110 =>
  uu Tryz.prog R (Instr.storeAt 56 v110 v108) w (fun w =>
  un Tryz.prog R (nilS v0) w (fun v112 w =>
  uv Tryz.prog R (Instr.fieldAt 51 v112 1) w (fun v113 w =>
  uv Tryz.prog R (Instr.loadAt 49 v113) w (fun v114 w =>
  uv Tryz.prog R (Instr.build 66 #[(0, v2)]) w (fun v117 w =>
  uv Tryz.prog R (Instr.box 66 v117) w (fun v118 w =>
  uu Tryz.prog R (Instr.mapUpdate 49 v114 v1 v118) w (fun w =>
  R (.returned (.int .i64 2)) w))))))))))))))))) w
theorem F6_s11_st (R : RT) (X : KX) (f : Fr) (w : World) (h : F6_s11_t R (f 0) (f 1) (f 2) (f 9) (f 11) (f 12) w) : F6_W R (.seq F6_p10 (.seq F6_p12 F6_p14)) (F6_k R) X f w := Eq.mp (by kernel_rfl) h
def F6_s11 (R : RT) (v0 v1 v2 v9 v11 v12 : Value) (w : World) : Prop :=
  F6_s11_t R v0 v1 v2 v9 v11 v12 w
noncomputable def F6_s11_c : Code := (.seq (.seq F6_p10 (.seq F6_p12 F6_p14)) .ret)
theorem F6_s11_ok (R : RT) : OkW (F6_W R) (a6 (F6_s11 R) 0 1 2 9 11 12) F6_s11_c (F6_k R) noX :=
  fun f w h => cut (.seq F6_p10 (.seq F6_p12 F6_p14)) .ret (K := (F6_k R)) (fun f w h => ret_ok h) f w (F6_s11_st R _ f w h)
def F6_s14_t (R : RT) (K : V6) (v0 v1 v2 v9 v11 : Value) (w : World) : Prop :=
  un Tryz.prog R (nilS v9) w (fun v96 w =>
  uv Tryz.prog R (Instr.fieldAt 58 v96 1) w (fun v97 w =>
  uv Tryz.prog R (Instr.loadAt 56 v97) w (fun v98 w =>
  un Tryz.prog R (builtin .len #[56] 3 #[false] #[v98]) w (fun v99 w =>
  K v0 v1 v2 v9 v11 v99 w))))
theorem F6_s14_st (R : RT) (K : V6) (X : KX) (f : Fr) (w : World) (h : F6_s14_t R K (f 0) (f 1) (f 2) (f 9) (f 11) w) : F6_W R F6_p20 (a6 K 0 1 2 9 11 12) X f w := Eq.mp (by kernel_rfl) h
def F6_s14 (R : RT) (v0 v1 v2 v9 v11 : Value) (w : World) : Prop :=
  F6_s14_t R (F6_s11 R) v0 v1 v2 v9 v11 w
noncomputable def F6_s14_c : Code := (.seq F6_p20 .skip)
theorem F6_s14_ok (R : RT) : OkW (F6_W R) (a5 (F6_s14 R) 0 1 2 9 11) F6_s14_c (a6 (F6_s11 R) 0 1 2 9 11 12) noX :=
  fun f w h => cut F6_p20 .skip (K := (a6 (F6_s11 R) 0 1 2 9 11 12)) (fun f w h => skip_ok h) f w (F6_s14_st R (F6_s11 R) _ f w h)
def F6_s13 (R : RT) (v0 v1 v2 v9 v11 v12 v94 : Value) (w : World) : Prop :=
  Bc v94
    (F6_s14 R v0 v1 v2 v9 v11 w)
    (F6_s11 R v0 v1 v2 v9 v11 v12 w)
noncomputable def F6_s13_c : Code := (.seq F6_p19 .skip)
theorem F6_s13_e (R : RT) (K : KF) (X : KX) (f : Fr) (w : World) (h : Bc (f 94) (F6_W R F6_s14_c K X f w) (F6_W R .skip K X f w)) : (F6_W R F6_p19 K X f w) := Eq.mp (by kernel_rfl) h
theorem F6_s13_ok (R : RT) : OkW (F6_W R) (a7 (F6_s13 R) 0 1 2 9 11 12 94) F6_s13_c (a6 (F6_s11 R) 0 1 2 9 11 12) noX :=
  fun f w h => cut F6_p19 .skip (K := (a6 (F6_s11 R) 0 1 2 9 11 12)) (fun f w h => skip_ok h) f w (F6_s13_e R _ _ f w (Bc_imp (x' := (F6_W R F6_s14_c (a6 (F6_s11 R) 0 1 2 9 11 12) noX f w)) (y' := (F6_W R .skip (a6 (F6_s11 R) 0 1 2 9 11 12) noX f w)) ((F6_s14_ok R) f w) ((fun f w h => skip_ok h) f w) h))
def F6_s12_t (R : RT) (K : V7) (v0 v1 v2 v9 v11 : Value) (w : World) : Prop :=
  un Tryz.prog R (nilS v9) w (fun v89 w =>
  uv Tryz.prog R (Instr.fieldAt 58 v89 1) w (fun v90 w =>
  uv Tryz.prog R (Instr.loadAt 56 v90) w (fun v91 w =>
  un Tryz.prog R (callFunc 20 #[v91, (.func (.func 21) #[] #[])]) w (fun v92 w =>
  uv Tryz.prog R (binS .lss 3 (.tmp 93) (.const (.int .i64 0)) v92 (.int .i64 0)) w (fun v94 w =>
  K v0 v1 v2 v9 v11 v92 v94 w)))))
theorem F6_s12_st (R : RT) (K : V7) (X : KX) (f : Fr) (w : World) (h : F6_s12_t R K (f 0) (f 1) (f 2) (f 9) (f 11) w) : F6_W R (.seq F6_p21 F6_p22) (a7 K 0 1 2 9 11 12 94) X f w := Eq.mp (by kernel_rfl) h
def F6_s12 (R : RT) (v0 v1 v2 v9 v11 : Value) (w : World) : Prop :=
  F6_s12_t R (F6_s13 R) v0 v1 v2 v9 v11 w
noncomputable def F6_s12_c : Code := (.seq (.seq F6_p21 F6_p22) F6_s13_c)
theorem F6_s12_ok (R : RT) : OkW (F6_W R) (a5 (F6_s12 R) 0 1 2 9 11) F6_s12_c (a6 (F6_s11 R) 0 1 2 9 11 12) noX :=
  fun f w h => cut (.seq F6_p21 F6_p22) F6_s13_c (K := (a7 (F6_s13 R) 0 1 2 9 11 12 94)) (F6_s13_ok R) f w (F6_s12_st R (F6_s13 R) _ f w h)
def F6_s10 (R : RT) (v0 v1 v2 v9 v11 v12 v87 : Value) (w : World) : Prop :=
  Bc v87
    (F6_s12 R v0 v1 v2 v9 v11 w)
    (F6_s11 R v0 v1 v2 v9 v11 v12 w)
noncomputable def F6_s10_c : Code := (.seq F6_p16 F6_s11_c)
theorem F6_s10_e (R : RT) (K : KF) (X : KX) (f : Fr) (w : World) (h : Bc (f 87) (F6_W R F6_s12_c K X f w) (F6_W R .skip K X f w)) : (F6_W R F6_p16 K X f w) := Eq.mp (by kernel_rfl) h
theorem F6_s10_ok (R : RT) : OkW (F6_W R) (a7 (F6_s10 R) 0 1 2 9 11 12 87) F6_s10_c (F6_k R) noX :=
  fun f w h => cut F6_p16 F6_s11_c (K := (a6 (F6_s11 R) 0 1 2 9 11 12)) (F6_s11_ok R) f w (F6_s10_e R _ _ f w (Bc_imp (x' := (F6_W R F6_s12_c (a6 (F6_s11 R) 0 1 2 9 11 12) noX f w)) (y' := (F6_W R .skip (a6 (F6_s11 R) 0 1 2 9 11 12) noX f w)) ((F6_s12_ok R) f w) ((fun f w h => skip_ok h) f w) h))
def F6_s9_t (R : RT) (K : V7) (v0 v1 v2 v9 v11 : Value) (w : World) : Prop :=
  un Tryz.prog R (nilS v9) w (fun v82 w =>
  uv Tryz.prog R (Instr.fieldAt 58 v82 1) w (fun v83 w =>
  uv Tryz.prog R (Instr.loadAt 56 v83) w (fun v84 w =>
  un Tryz.prog R (builtin .len #[56] 3 #[false] #[v84]) w (fun v85 w =>
  uv Tryz.prog R (Instr.fieldAt 61 v11 2) w (fun v86 w =>
  uv Tryz.prog R (Instr.loadAt 4 v86) w (fun v87 w =>
  K v0 v1 v2 v9 v11 v85 v87 w))))))
theorem F6_s9_st (R : RT) (K : V7) (X : KX) (f : Fr) (w : World) (h : F6_s9_t R K (f 0) (f 1) (f 2) (f 9) (f 11) w) : F6_W R (.seq F6_p23 F6_p24) (a7 K 0 1 2 9 11 12 87) X f w := Eq.mp (by kernel_rfl) h
def F6_s9 (R : RT) (v0 v1 v2 v9 v11 : Value) (w : World) : Prop :=
  F6_s9_t R (F6_s10 R) v0 v1 v2 v9 v11 w
noncomputable def F6_s9_c : Code := (.seq (.seq F6_p23 F6_p24) F6_s10_c)
theorem F6_s9_ok (R : RT) : OkW (F6_W R) (a5 (F6_s9 R) 0 1 2 9 11) F6_s9_c (F6_k R) noX :=
  fun f w h => cut (.seq F6_p23 F6_p24) F6_s10_c (K := (a7 (F6_s10 R) 0 1 2 9 11 12 87)) (F6_s10_ok R) f w (F6_s9_st R (F6_s10 R) _ f w h)
def F6_s15_t (R : RT) (v1 v9 v11 : Value) (w : World) : Prop :=
  Dr (fun S w =>
  HN Tryz.prog (fun _ => True) (nilS v9) (fun v75 =>
  HV Tryz.prog (fun _ => True) (Instr.fieldAt 58 v75 0) (fun v76 =>
  HV Tryz.prog S (Instr.loadAt 55 v76) (fun v77 =>
  HV Tryz.prog (fun _ => True) (Instr.fieldAt 61 v11 1) (fun v79 =>
  HV Tryz.prog S (Instr.loadAt 3 v79) (fun v80 =>
  uu Tryz.prog R (Instr.mapUpdate 55 v77 v1 v80) w (fun w =>
  R (.returned (.int .i64 1)) w))))))) w
theorem F6_s15_st (R : RT) (X : KX) (f : Fr) (w : World) (h : F6_s15_t R (f 1) (f 9) (f 11) w) : F6_W R (.seq F6_p28 F6_p30) (F6_k R) X f w := Eq.mp (by kernel_rfl) h
def F6_s15 (R : RT) (v1 v9 v11 : Value) (w : World) : Prop :=
  F6_s15_t R v1 v9 v11 w
noncomputable def F6_s15_c : Code := (.seq (.seq F6_p28 F6_p30) .ret)
theorem F6_s15_ok (R : RT) : OkW (F6_W R) (a3 (F6_s15 R) 1 9 11) F6_s15_c (a5 (F6_s9 R) 0 1 2 9 11) noX :=
  fun f w h => cut (.seq F6_p28 F6_p30) .ret (K := (F6_k R)) (fun f w h => ret_ok h) f w (F6_s15_st R _ f w h)
def F6_s8 (R : RT) (v0 v1 v2 v9 v11 v73 : Value) (w : World) : Prop :=
  Bc v73
    (F6_s15 R v1 v9 v11 w)
    (F6_s9 R v0 v1 v2 v9 v11 w)
noncomputable def F6_s8_c : Code := (.seq F6_p26 F6_s9_c)
theorem F6_s8_e (R : RT) (K : KF) (X : KX) (f : Fr) (w : World) (h : Bc (f 73) (F6_W R F6_s15_c K X f w) (F6_W R .skip K X f w)) : (F6_W R F6_p26 K X f w) := Eq.mp (by kernel_rfl) h
theorem F6_s8_ok (R : RT) : OkW (F6_W R) (a6 (F6_s8 R) 0 1 2 9 11 73) F6_s8_c (F6_k R) noX :=
  fun f w h => cut F6_p26 F6_s9_c (K := (a5 (F6_s9 R) 0 1 2 9 11)) (F6_s9_ok R) f w (F6_s8_e R _ _ f w (Bc_imp (x' := (F6_W R F6_s15_c (a5 (F6_s9 R) 0 1 2 9 11) noX f w)) (y' := (F6_W R .skip (a5 (F6_s9 R) 0 1 2 9 11) noX f w)) ((F6_s15_ok R) f w) ((fun f w h => skip_ok h) f w) h))
def F6_s7_t (R : RT) (K : V6) (v0 v1 v2 v9 v11 : Value) (w : World) : Prop :=
  uv Tryz.prog R (Instr.fieldAt 61 v11 2) w (fun v59 w =>
  uv Tryz.prog R (Instr.loadAt 4 v59) w (fun v60 w =>
  Gk v60 false (fun k => k v9 w) w (fun v62 w =>
  Gk v60 false (fun k => un Tryz.prog R (nilS v62) w k) w (fun v63 w =>
  Gk v60 false (fun k => uv Tryz.prog R (Instr.fieldAt 58 v63 1) w k) w (fun v64 w =>
  Gk v60 false (fun k => uv Tryz.prog R (Instr.loadAt 56 v64) w k) w (fun v65 w =>
  Gk v60 false (fun k => un Tryz.prog R (builtin .len #[56] 3 #[false] #[v65]) w k) w (fun v66 w =>
  Gk v60 false (fun k => uv Tryz.prog R (binS .eql 3 (.tmp 66) (.const (.int .i64 0)) v66 (.int .i64 0)) w k) w (fun v67 w =>
  uv Tryz.prog R (pickS v60 (.bool true) v67) w (fun v68 w =>
  Gk v68 true (fun k => k v9 w) w (fun v70 w =>
  Gk v68 true (fun k => uv Tryz.prog R (Instr.loadAt 61 v11) w k) w (fun v71 w =>
  Gk v68 true (fun k => un Tryz.prog R (callFunc 19 #[v70, v71]) w k) w (fun v72 w =>
  uv Tryz.prog R (pickS v68 v72 (.bool false)) w (fun v73 w =>
  K v0 v1 v2 v9 v11 v73 w)))))))))))))
theorem F6_s7_st (R : RT) (K : V6) (X : KX) (f : Fr) (w : World) (h : F6_s7_t R K (f 0) (f 1) (f 2) (f 9) (f 11) w) : F6_W R F6_p31 (a6 K 0 1 2 9 11 73) X f w := Eq.mp (by kernel_rfl) h
def F6_s7 (R : RT) (v0 v1 v2 v9 v11 : Value) (w : World) : Prop :=
  F6_s7_t R (F6_s8 R) v0 v1 v2 v9 v11 w
noncomputable def F6_s7_c : Code := (.seq F6_p31 F6_s8_c)
theorem F6_s7_ok (R : RT) : OkW (F6_W R) (a5 (F6_s7 R) 0 1 2 9 11) F6_s7_c (F6_k R) noX :=
  fun f w h => cut F6_p31 F6_s8_c (K := (a6 (F6_s8 R) 0 1 2 9 11 73)) (F6_s8_ok R) f w (F6_s7_st R (F6_s8 R) _ f w h)
def F6_s16_t (R : RT) (w : World) : Prop :=
  R (.returned (.int .i64 1)) w
theorem F6_s16_st (R : RT) (X : KX) (f : Fr) (w : World) (h : F6_s16_t R w) : F6_W R F6_p35 (F6_k R) X f w := Eq.mp (by kernel_rfl) h
def F6_s16 (R : RT) (w : World) : Prop :=
  F6_s16_t R w
noncomputable def F6_s16_c : Code := (.seq F6_p35 .ret)
theorem F6_s16_ok (R : RT) : OkW (F6_W R) ((fun f w => F6_s16 R w)) F6_s16_c (a5 (F6_s7 R) 0 1 2 9 11) noX :=
  fun f w h => cut F6_p35 .ret (K := (F6_k R)) (fun f w h => ret_ok h) f w (F6_s16_st R _ f w h)
def F6_s6 (R : RT) (v0 v1 v2 v9 v11 v58 : Value) (w : World) : Prop :=
  Bc v58
    (F6_s16 R w)
    (F6_s7 R v0 v1 v2 v9 v11 w)
noncomputable def F6_s6_c : Code := (.seq F6_p33 F6_s7_c)
theorem F6_s6_e (R : RT) (K : KF) (X : KX) (f : Fr) (w : World) (h : Bc (f 58) (F6_W R F6_s16_c K X f w) (F6_W R .skip K X f w)) : (F6_W R F6_p33 K X f w) := Eq.mp (by kernel_rfl) h
theorem F6_s6_ok (R : RT) : OkW (F6_W R) (a6 (F6_s6 R) 0 1 2 9 11 58) F6_s6_c (F6_k R) noX :=
  fun f w h => cut F6_p33 F6_s7_c (K := (a5 (F6_s7 R) 0 1 2 9 11)) (F6_s7_ok R) f w (F6_s6_e R _ _ f w (Bc_imp (x' := (F6_W R F6_s16_c (a5 (F6_s7 R) 0 1 2 9 11) noX f w)) (y' := (F6_W R .skip (a5 (F6_s7 R) 0 1 2 9 11) noX f w)) ((F6_s16_ok R) f w) ((fun f w h => skip_ok h) f w) h))
def F6_s5_t (R : RT) (K : V6) (v0 v1 v2 v3 v9 : Value) (w : World) : Prop :=
  un Tryz.prog R (nilS v9) w (fun v43 w =>
  uv Tryz.prog R (Instr.fieldAt 58 v43 0) w (fun v44 w =>
  uv Tryz.prog R (Instr.loadAt 55 v44) w (fun v45 w =>
  uv Tryz.prog R (Instr.lookup 55 v45 v1 false) w (fun v47 w =>
  un Tryz.prog R (callFunc 18 #[v47, v3]) w (fun v51 w =>
  uv Tryz.prog R (binS .neq 3 (.tmp 52) (.const (.int .i64 0)) v47 (.int .i64 0)) w (fun v53 w =>
  uv Tryz.prog R (Instr.build 61 #[(0, v1), (1, v51), (2, v53)]) w (fun v54 w =>
  uv Tryz.prog R (Instr.alloc 61 true (.tuple #[])) w (fun v11 w =>
  uu Tryz.prog R (Instr.storeAt 61 v11 v54) w (fun w =>
  uv Tryz.prog R (Instr.fieldAt 61 v11 1) w (fun v55 w =>
  uv Tryz.prog R (Instr.loadAt 3 v55) w (fun v56 w =>
  uv Tryz.prog R (binS .eql 3 (.tmp 56) (.tmp 57) v56 v47) w (fun v58 w =>
  K v0 v1 v2 v9 v11 v58 w))))))))))))
theorem F6_s5_st (R : RT) (K : V6) (X : KX) (f : Fr) (w : World) (h : F6_s5_t R K (f 0) (f 1) (f 2) (f 3) (f 9) w) : F6_W R (.seq F6_p36 (.seq F6_p37 F6_p38)) (a6 K 0 1 2 9 11 58) X f w := Eq.mp (by kernel_rfl) h
def F6_s5 (R : RT) (v0 v1 v2 v3 v9 : Value) (w : World) : Prop :=
  F6_s5_t R (F6_s6 R) v0 v1 v2 v3 v9 w
noncomputable def F6_s5_c : Code := (.seq (.seq F6_p36 (.seq F6_p37 F6_p38)) F6_s6_c)
theorem F6_s5_ok (R : RT) : OkW (F6_W R) (a5 (F6_s5 R) 0 1 2 3 9) F6_s5_c (F6_k R) noX :=
  fun f w h => cut (.seq F6_p36 (.seq F6_p37 F6_p38)) F6_s6_c (K := (a6 (F6_s6 R) 0 1 2 9 11 58)) (F6_s6_ok R) f w (F6_s5_st R (F6_s6 R) _ f w h)
def F6_s17_t (R : RT) (K : V5) (v0 v1 v2 v3 : Value) (w : World) : Prop :=
  uv Tryz.prog R (Instr.makeMap 55 none) w (fun v33 w =>
  uv Tryz.prog R (Instr.build 58 #[(0, v33)]) w (fun v34 w =>
  uv Tryz.prog R (Instr.box 58 v34) w (fun v35 w =>
  un Tryz.prog R (nilS v0) w (fun v37 w =>
  uv Tryz.prog R (Instr.fieldAt 51 v37 0) w (fun v38 w =>
  uv Tryz.prog R (Instr.loadAt 48 v38) w (fun v39 w =>
  uu Tryz.prog R (Instr.mapUpdate 48 v39 v2 v35) w (fun w =>
  K v0 v1 v2 v3 v35 w)))))))
theorem F6_s17_st (R : RT) (K : V5) (X : KX) (f : Fr) (w : World) (h : F6_s17_t R K (f 0) (f 1) (f 2) (f 3) w) : F6_W R (.seq F6_p42 F6_p43) (a5 K 0 1 2 3 9) X f w := Eq.mp (by kernel_rfl) h
def F6_s17 (R : RT) (v0 v1 v2 v3 : Value) (w : World) : Prop :=
  F6_s17_t R (F6_s5 R) v0 v1 v2 v3 w
noncomputable def F6_s17_c : Code := (.seq (.seq F6_p42 F6_p43) .skip)
theorem F6_s17_ok (R : RT) : OkW (F6_W R) (a4 (F6_s17 R) 0 1 2 3) F6_s17_c (a5 (F6_s5 R) 0 1 2 3 9) noX :=
  fun f w h => cut (.seq F6_p42 F6_p43) .skip (K := (a5 (F6_s5 R) 0 1 2 3 9)) (fun f w h => skip_ok h) f w (F6_s17_st R (F6_s5 R) _ f w h)
def F6_s4 (R : RT) (v0 v1 v2 v3 v9 v32 : Value) (w : World) : Prop :=
  Bc v32
    (F6_s17 R v0 v1 v2 v3 w)
    (F6_s5 R v0 v1 v2 v3 v9 w)
noncomputable def F6_s4_c : Code := (.seq F6_p40 F6_s5_c)
theorem F6_s4_e (R : RT) (K : KF) (X : KX) (f : Fr) (w : World) (h : Bc (f 32) (F6_W R F6_s17_c K X f w) (F6_W R .skip K X f w)) : (F6_W R F6_p40 K X f w) := Eq.mp (by kernel_rfl) h
theorem F6_s4_ok (R : RT) : OkW (F6_W R) (a6 (F6_s4 R) 0 1 2 3 9 32) F6_s4_c (F6_k R) noX :=
  fun f w h => cut F6_p40 F6_s5_c (K := (a5 (F6_s5 R) 0 1 2 3 9)) (F6_s5_ok R) f w (F6_s4_e R _ _ f w (Bc_imp (x' := (F6_W R F6_s17_c (a5 (F6_s5 R) 0 1 2 3 9) noX f w)) (y' := (F6_W R .skip (a5 (F6_s5 R) 0 1 2 3 9) noX f w)) ((F6_s17_ok R) f w) ((fun f w h => skip_ok h) f w) h))
def F6_s3_t (R : RT) (K : V6) (v0 v1 v2 v3 : Value) (w : World) : Prop :=
  un Tryz.prog R (nilS v0) w (fun v26 w =>
  uv Tryz.prog R (Instr.fieldAt 51 v26 0) w (fun v27 w =>
  uv Tryz.prog R (Instr.loadAt 48 v27) w (fun v28 w =>
  uv Tryz.prog R (Instr.lookup 48 v28 v2 false) w (fun v30 w =>
  uv Tryz.prog R (binS .eql 54 (.tmp 31) (.const (.pointer none)) v30 (.pointer none)) w (fun v32 w =>
  K v0 v1 v2 v3 v30 v32 w)))))
theorem F6_s3_st (R : RT) (K : V6) (X : KX) (f : Fr) (w : World) (h : F6_s3_t R K (f 0) (f 1) (f 2) (f 3) w) : F6_W R (.seq F6_p44 F6_p45) (a6 K 0 1 2 3 9 32) X f w := Eq.mp (by kernel_rfl) h
def F6_s3 (R : RT) (v0 v1 v2 v3 : Value) (w : World) : Prop :=
  F6_s3_t R (F6_s4 R) v0 v1 v2 v3 w
noncomputable def F6_s3_c : Code := (.seq (.seq F6_p44 F6_p45) F6_s4_c)
theorem F6_s3_ok (R : RT) : OkW (F6_W R) (a4 (F6_s3 R) 0 1 2 3) F6_s3_c (F6_k R) noX :=
  fun f w h => cut (.seq F6_p44 F6_p45) F6_s4_c (K := (a6 (F6_s4 R) 0 1 2 3 9 32)) (F6_s4_ok R) f w (F6_s3_st R (F6_s4 R) _ f w h)
def F6_s18_t (R : RT) (w : World) : Prop :=
  R (.returned (.int .i64 0)) w
theorem F6_s18_st (R : RT) (X : KX) (f : Fr) (w : World) (h : F6_s18_t R w) : F6_W R F6_p49 (F6_k R) X f w := Eq.mp (by kernel_rfl) h
def F6_s18 (R : RT) (w : World) : Prop :=
  F6_s18_t R w
noncomputable def F6_s18_c : Code := (.seq F6_p49 .ret)
theorem F6_s18_ok (R : RT) : OkW (F6_W R) ((fun f w => F6_s18 R w)) F6_s18_c (a4 (F6_s3 R) 0 1 2 3) noX :=
  fun f w h => cut F6_p49 .ret (K := (F6_k R)) (fun f w h => ret_ok h) f w (F6_s18_st R _ f w h)
def F6_s2 (R : RT) (v0 v1 v2 v3 v24 : Value) (w : World) : Prop :=
  Bc v24
    (F6_s18 R w)
    (F6_s3 R v0 v1 v2 v3 w)
noncomputable def F6_s2_c : Code := (.seq F6_p47 F6_s3_c)
theorem F6_s2_e (R : RT) (K : KF) (X : KX) (f : Fr) (w : World) (h : Bc (f 24) (F6_W R F6_s18_c K X f w) (F6_W R .skip K X f w)) : (F6_W R F6_p47 K X f w) := Eq.mp (by kernel_rfl) h
theorem F6_s2_ok (R : RT) : OkW (F6_W R) (a5 (F6_s2 R) 0 1 2 3 24) F6_s2_c (F6_k R) noX :=
  fun f w h => cut F6_p47 F6_s3_c (K := (a4 (F6_s3 R) 0 1 2 3)) (F6_s3_ok R) f w (F6_s2_e R _ _ f w (Bc_imp (x' := (F6_W R F6_s18_c (a4 (F6_s3 R) 0 1 2 3) noX f w)) (y' := (F6_W R .skip (a4 (F6_s3 R) 0 1 2 3) noX f w)) ((F6_s18_ok R) f w) ((fun f w h => skip_ok h) f w) h))
def F6_s1_t (R : RT) (K : V5) (v0 v1 v2 v3 : Value) (w : World) : Prop :=
  un Tryz.prog R (callFunc 17 #[v3]) w (fun v14 w =>
  uv Tryz.prog R (Op.unary .not v14) w (fun v15 w =>
  Gk v15 false (fun k => k v0 w) w (fun v17 w =>
  Gk v15 false (fun k => un Tryz.prog R (nilS v17) w k) w (fun v18 w =>
  Gk v15 false (fun k => uv Tryz.prog R (Instr.fieldAt 51 v18 1) w k) w (fun v19 w =>
  Gk v15 false (fun k => uv Tryz.prog R (Instr.loadAt 49 v19) w k) w (fun v20 w =>
  Gk v15 false (fun k => k v1 w) w (fun v21 w =>
  Gk v15 false (fun k => uv Tryz.prog R (Instr.lookup 49 v20 v21 false) w k) w (fun v22 w =>
  Gk v15 false (fun k => uv Tryz.prog R (binS .neq 53 (.tmp 22) (.const (.pointer none)) v22 (.pointer none)) w k) w (fun v23 w =>
  uv Tryz.prog R (pickS v15 (.bool true) v23) w (fun v24 w =>
  K v0 v1 v2 v3 v24 w))))))))))
theorem F6_s1_st (R : RT) (K : V5) (X : KX) (f : Fr) (w : World) (h : F6_s1_t R K (f 0) (f 1) (f 2) (f 3) w) : F6_W R (.seq F6_p50 F6_p51) (a5 K 0 1 2 3 24) X f w := Eq.mp (by kernel_rfl) h
def F6_s1 (R : RT) (v0 v1 v2 v3 : Value) (w : World) : Prop :=
  F6_s1_t R (F6_s2 R) v0 v1 v2 v3 w
noncomputable def F6_s1_c : Code := (.seq (.seq F6_p50 F6_p51) F6_s2_c)
theorem F6_s1_ok (R : RT) : OkW (F6_W R) (a4 (F6_s1 R) 0 1 2 3) F6_s1_c (F6_k R) noX :=
  fun f w h => cut (.seq F6_p50 F6_p51) F6_s2_c (K := (a5 (F6_s2 R) 0 1 2 3 24)) (F6_s2_ok R) f w (F6_s1_st R (F6_s2 R) _ f w h)
theorem F6_all_e (R : RT) (K : KF) (X : KX) (f : Fr) (w : World) (h : F6_W R F6_s1_c K X f w) : F6_W R F6_b K X f w := Eq.mp (by kernel_rfl) h
theorem F6_calls (R : RT) (v0 v1 v2 v3 : Value) (w : World) (h : F6_s1 R v0 v1 v2 v3 w) : Calls Tryz.prog 6 #[v0, v1, v2, v3] w R :=
  calls_of_wpE (dc := F6_dc) (args := [v0, v1, v2, v3]) hmixed Tryz.func6 (c := F6_b) rfl (rs := [.tmp 8]) rfl (by kernel_rfl) (Nat.le_of_ble_eq_true (by kernel_rfl)) (F6_all_e R _ _ _ w ((F6_s1_ok R) (initFr [v0, v1, v2, v3]) w h))

/-! ### (*hasp/locks.Table).Ask$1 -/
noncomputable def F21_b : Code := bodyOf Tryz.f21
def F21_dc : Nat → List (Nat × Bool)
  | _ => []
abbrev F21_k (R : RT) := resK Tryz.prog [.tmp 2] R
abbrev F21_W (R : RT) := wpE Tryz.prog F21_dc (F21_k R) (panK R)
noncomputable def F21_p0 := cL F21_b
noncomputable def F21_p1 := cR F21_b
noncomputable def F21_p2 := cL F21_p1
def F21_s1_t (R : RT) (v0 : Value) (w : World) : Prop :=
  uv Tryz.prog R (Instr.box 61 v0) w (fun v1 w =>
  uv Tryz.prog R (Instr.fieldAt 61 v1 2) w (fun v3 w =>
  uv Tryz.prog R (Instr.loadAt 4 v3) w (fun v4 w =>
  uv Tryz.prog R (Op.unary .not v4) w (fun v5 w =>
  R (.returned v5) w))))
theorem F21_s1_st (R : RT) (X : KX) (f : Fr) (w : World) (h : F21_s1_t R (f 0) w) : F21_W R (.seq F21_p0 F21_p2) (F21_k R) X f w := Eq.mp (by kernel_rfl) h
def F21_s1 (R : RT) (v0 : Value) (w : World) : Prop :=
  F21_s1_t R v0 w
noncomputable def F21_s1_c : Code := (.seq (.seq F21_p0 F21_p2) .ret)
theorem F21_s1_ok (R : RT) : OkW (F21_W R) (a1 (F21_s1 R) 0) F21_s1_c (F21_k R) noX :=
  fun f w h => cut (.seq F21_p0 F21_p2) .ret (K := (F21_k R)) (fun f w h => ret_ok h) f w (F21_s1_st R _ f w h)
theorem F21_all_e (R : RT) (K : KF) (X : KX) (f : Fr) (w : World) (h : F21_W R F21_s1_c K X f w) : F21_W R F21_b K X f w := Eq.mp (by kernel_rfl) h
theorem F21_calls (R : RT) (v0 : Value) (w : World) (h : F21_s1 R v0 w) : Calls Tryz.prog 21 #[v0] w R :=
  calls_of_wpE (dc := F21_dc) (args := [v0]) hmixed Tryz.func21 (c := F21_b) rfl (rs := [.tmp 2]) rfl (by kernel_rfl) (Nat.le_of_ble_eq_true (by kernel_rfl)) (F21_all_e R _ _ _ w ((F21_s1_ok R) (initFr [v0]) w h))

/-! ### (*hasp/locks.Table).Drop -/
noncomputable def F9_b : Code := bodyOf Tryz.f9
def F9_dc : Nat → List (Nat × Bool)
  | 9 => [(0, true), (1, true), (2, true), (3, true), (4, true), (5, false)]
  | 7 => [(0, true), (1, true), (2, true), (3, true), (4, true), (5, true), (6, true), (7, true), (8, true), (9, true), (10, true)]
  | 1 => [(0, true), (1, true), (2, true), (3, true), (4, true), (5, true), (6, true)]
  | 2 => [(0, true), (1, true), (2, true), (3, true), (4, true), (5, false)]
  | _ => []
abbrev F9_k (R : RT) := resK Tryz.prog [.tmp 4] R
abbrev F9_W (R : RT) := wpE Tryz.prog F9_dc (F9_k R) (panK R)
noncomputable def F9_p0 := cR F9_b
noncomputable def F9_p1 := cR F9_p0
noncomputable def F9_p2 := cR F9_p1
noncomputable def F9_p3 := cR F9_p2
noncomputable def F9_p4 := cL F9_p3
noncomputable def F9_p5 := cL F9_p2
noncomputable def F9_p6 := cR F9_p5
noncomputable def F9_p7 := cI F9_p6
noncomputable def F9_p8 := cI F9_p7
noncomputable def F9_p9 := cR F9_p8
noncomputable def F9_p10 := cR F9_p9
noncomputable def F9_p11 := cR F9_p10
noncomputable def F9_p12 := cL F9_p10
noncomputable def F9_p13 := cI F9_p12
noncomputable def F9_p14 := cR F9_p13
noncomputable def F9_p15 := cR F9_p14
noncomputable def F9_p16 := cR F9_p15
noncomputable def F9_p17 := cR F9_p16
noncomputable def F9_p18 := cR F9_p17
noncomputable def F9_p19 := cR F9_p18
noncomputable def F9_p20 := cR F9_p19
noncomputable def F9_p21 := cR F9_p20
noncomputable def F9_p22 := cT F9_p21
noncomputable def F9_p23 := cL F9_p17
noncomputable def F9_p24 := cL F9_p18
noncomputable def F9_p25 := cL F9_p19
noncomputable def F9_p26 := cL F9_p20
noncomputable def F9_p27 := cL F9_p16
noncomputable def F9_p28 := cR F9_p27
noncomputable def F9_p29 := cL F9_p13
noncomputable def F9_p30 := cL F9_p14
noncomputable def F9_p31 := cL F9_p15
noncomputable def F9_p32 := cL F9_p27
noncomputable def F9_p33 := cL F9_p9
noncomputable def F9_p34 := cL F9_p8
noncomputable def F9_p35 := cL F9_b
noncomputable def F9_p36 := cL F9_p0
noncomputable def F9_p37 := cL F9_p1
noncomputable def F9_p38 := cL F9_p5
def F9_s3_t (R : RT) (v4 : Value) (w : World) : Prop :=
  R (.returned v4) w
theorem F9_s3_st (R : RT) (X : KX) (f : Fr) (w : World) (h : F9_s3_t R (f 4) w) : F9_W R F9_p4 (F9_k R) X f w := Eq.mp (by kernel_rfl) h
def F9_s3 (R : RT) (v4 : Value) (w : World) : Prop :=
  F9_s3_t R v4 w
noncomputable def F9_s3_c : Code := (.seq F9_p4 .ret)
theorem F9_s3_ok (R : RT) : OkW (F9_W R) (a1 (F9_s3 R) 4) F9_s3_c (F9_k R) noX :=
  fun f w h => cut F9_p4 .ret (K := (F9_k R)) (fun f w h => ret_ok h) f w (F9_s3_st R _ f w h)
def F9_s8_t (R : RT) (K : V2) (v0 v3 v4 v5 v27 v28 v29 : Value) (w : World) : Prop :=
  uv Tryz.prog R (binS .add 3 (.tmp 29) (.const (.int .i64 1)) v29 (.int .i64 1)) w (fun v92 w =>
  K v4 v92 w)
theorem F9_s8_st (R : RT) (K : V2) (X : KX) (f : Fr) (w : World) (h : F9_s8_t R K (f 0) (f 3) (f 4) (f 5) (f 27) (f 28) (f 29) w) : F9_W R F9_p11 (a2 K 4 29) X f w := Eq.mp (by kernel_rfl) h
def F9_s8 (R : RT) (rec4 : V2) (v0 v3 v4 v5 v27 v28 v29 : Value) (w : World) : Prop :=
  F9_s8_t R rec4 v0 v3 v4 v5 v27 v28 v29 w
noncomputable def F9_s8_c : Code := (.seq F9_p11 .skip)
theorem F9_s8_ok (R : RT) (rec4 : V2) : OkW (F9_W R) (a7 (F9_s8 R rec4) 0 3 4 5 27 28 29) F9_s8_c (a2 rec4 4 29) (kxB 0 (a1 (F9_s3 R) 4) noX) :=
  fun f w h => cut F9_p11 .skip (K := (a2 rec4 4 29)) (fun f w h => skip_ok h) f w (F9_s8_st R rec4 _ f w h)
def F9_s13_t (R : RT) (K : V7) (v0 v3 v4 v5 v7 v27 v28 v29 : Value) (w : World) : Prop :=
  un Tryz.prog R (nilS v0) w (fun v88 w =>
  uv Tryz.prog R (Instr.fieldAt 51 v88 0) w (fun v89 w =>
  uv Tryz.prog R (Instr.loadAt 48 v89) w (fun v90 w =>
  un Tryz.prog R (builtin .delete #[48, 9] 0 #[false, false] #[v90, v7]) w (fun _ w =>
  K v0 v3 v4 v5 v27 v28 v29 w))))
theorem F9_s13_st (R : RT) (K : V7) (X : KX) (f : Fr) (w : World) (h : F9_s13_t R K (f 0) (f 3) (f 4) (f 5) (f 7) (f 27) (f 28) (f 29) w) : F9_W R F9_p22 (a7 K 0 3 4 5 27 28 29) X f w := Eq.mp (by kernel_rfl) h
def F9_s13 (R : RT) (rec4 : V2) (v0 v3 v4 v5 v7 v27 v28 v29 : Value) (w : World) : Prop :=
  F9_s13_t R (F9_s8 R rec4) v0 v3 v4 v5 v7 v27 v28 v29 w
noncomputable def F9_s13_c : Code := (.seq F9_p22 .skip)
theorem F9_s13_ok (R : RT) (rec4 : V2) : OkW (F9_W R) (a8 (F9_s13 R rec4) 0 3 4 5 7 27 28 29) F9_s13_c (a7 (F9_s8 R rec4) 0 3 4 5 27 28 29) (kxB 1 (a7 (F9_s8 R rec4) 0 3 4 5 27 28 29) (kxB 0 (a1 (F9_s3 R) 4) noX)) :=
  fun f w h => cut F9_p22 .skip (K := (a7 (F9_s8 R rec4) 0 3 4 5 27 28 29)) (fun f w h => skip_ok h) f w (F9_s13_st R (F9_s8 R rec4) _ f w h)
def F9_s12 (R : RT) (rec4 : V2) (v0 v3 v4 v5 v7 v27 v28 v29 v86 : Value) (w : World) : Prop :=
  Bc v86
    (F9_s13 R rec4 v0 v3 v4 v5 v7 v27 v28 v29 w)
    (F9_s8 R rec4 v0 v3 v4 v5 v27 v28 v29 w)
noncomputable def F9_s12_c : Code := (.seq F9_p21 .skip)
theorem F9_s12_e (R : RT) (K : KF) (X : KX) (f : Fr) (w : World) (h : Bc (f 86) (F9_W R F9_s13_c K X f w) (F9_W R .skip K X f w)) : (F9_W R F9_p21 K X f w) := Eq.mp (by kernel_rfl) h
theorem F9_s12_ok (R : RT) (rec4 : V2) : OkW (F9_W R) (a9 (F9_s12 R rec4) 0 3 4 5 7 27 28 29 86) F9_s12_c (a7 (F9_s8 R rec4) 0 3 4 5 27 28 29) (kxB 1 (a7 (F9_s8 R rec4) 0 3 4 5 27 28 29) (kxB 0 (a1 (F9_s3 R) 4) noX)) :=
  fun f w h => cut F9_p21 .skip (K := (a7 (F9_s8 R rec4) 0 3 4 5 27 28 29)) (fun f w h => skip_ok h) f w (F9_s12_e R _ _ f w (Bc_imp (x' := (F9_W R F9_s13_c (a7 (F9_s8 R rec4) 0 3 4 5 27 28 29) (kxB 1 (a7 (F9_s8 R rec4) 0 3 4 5 27 28 29) (kxB 0 (a1 (F9_s3 R) 4) noX)) f w)) (y' := (F9_W R .skip (a7 (F9_s8 R rec4) 0 3 4 5 27 28 29) (kxB 1 (a7 (F9_s8 R rec4) 0 3 4 5 27 28 29) (kxB 0 (a1 (F9_s3 R) 4) noX)) f w)) ((F9_s13_ok R rec4) f w) ((fun f w h => skip_ok h) f w) h))
def F9_s11_t (R : RT) (K : V9) (v0 v3 v4 v5 v7 v8 v27 v28 v29 : Value) (w : World) : Prop :=
  Dr (fun S w =>
  HN Tryz.prog (fun _ => True) (nilS v8) (fun v63 =>
  HV Tryz.prog (fun _ => True) (Instr.fieldAt 58 v63 0) (fun v64 =>
  HV Tryz.prog S (Instr.loadAt 55 v64) (fun v65 =>
  HV Tryz.prog S (Instr.loadAt 3 v3) (fun v66 =>
  un Tryz.prog R (builtin .delete #[55, 3] 0 #[false, false] #[v65, v66]) w (fun _ w =>
  un Tryz.prog R (nilS v8) w (fun v69 w =>
  uv Tryz.prog R (Instr.fieldAt 58 v69 1) w (fun v70 w =>
  uv Tryz.prog R (Instr.loadAt 56 v70) w (fun v71 w =>
  uv Tryz.prog R (Instr.makeFunc (Go.Fn.func 33) #[] #[v3]) w (fun v72 w =>
  un Tryz.prog R (callFunc 32 #[v71, v72]) w (fun v73 w =>
  un Tryz.prog R (nilS v8) w (fun v74 w =>
  uv Tryz.prog R (Instr.fieldAt 58 v74 1) w (fun v75 w =>
  uu Tryz.prog R (Instr.storeAt 56 v75 v73) w (fun w =>
  un Tryz.prog R (callFunc 34 #[v0, v8]) w (fun v79 w =>
  un Tryz.prog R (builtin .append #[35, 35] 35 #[false, false] #[v4, v79]) w (fun v80 w =>
  un Tryz.prog R (nilS v8) w (fun v82 w =>
  uv Tryz.prog R (Instr.fieldAt 58 v82 0) w (fun v83 w =>
  uv Tryz.prog R (Instr.loadAt 55 v83) w (fun v84 w =>
  un Tryz.prog R (builtin .len #[55] 3 #[false] #[v84]) w (fun v85 w =>
  uv Tryz.prog R (binS .eql 3 (.tmp 85) (.const (.int .i64 0)) v85 (.int .i64 0)) w (fun v86 w =>
  K v0 v3 v80 v5 v7 v27 v28 v29 v86 w))))))))))))))))))))) w
theorem F9_s11_st (R : RT) (K : V9) (X : KX) (f : Fr) (w : World) (h : F9_s11_t R K (f 0) (f 3) (f 4) (f 5) (f 7) (f 8) (f 27) (f 28) (f 29) w) : F9_W R (.seq F9_p23 (.seq F9_p24 (.seq F9_p25 F9_p26))) (a9 K 0 3 4 5 7 27 28 29 86) X f w := Eq.mp (by kernel_rfl) h
def F9_s11 (R : RT) (rec4 : V2) (v0 v3 v4 v5 v7 v8 v27 v28 v29 : Value) (w : World) : Prop :=
  F9_s11_t R (F9_s12 R rec4) v0 v3 v4 v5 v7 v8 v27 v28 v29 w
noncomputable def F9_s11_c : Code := (.seq (.seq F9_p23 (.seq F9_p24 (.seq F9_p25 F9_p26))) F9_s12_c)
theorem F9_s11_ok (R : RT) (rec4 : V2) : OkW (F9_W R) (a9 (F9_s11 R rec4) 0 3 4 5 7 8 27 28 29) F9_s11_c (a7 (F9_s8 R rec4) 0 3 4 5 27 28 29) (kxB 1 (a7 (F9_s8 R rec4) 0 3 4 5 27 28 29) (kxB 0 (a1 (F9_s3 R) 4) noX)) :=
  fun f w h => cut (.seq F9_p23 (.seq F9_p24 (.seq F9_p25 F9_p26))) F9_s12_c (K := (a9 (F9_s12 R rec4) 0 3 4 5 7 27 28 29 86)) (F9_s12_ok R rec4) f w (F9_s11_st R (F9_s12 R rec4) _ f w h)
def F9_s10 (R : RT) (rec4 : V2) (v0 v3 v4 v5 v7 v8 v27 v28 v29 v61 : Value) (w : World) : Prop :=
  Bc v61
    (F9_s8 R rec4 v0 v3 v4 v5 v27 v28 v29 w)
    (F9_s11 R rec4 v0 v3 v4 v5 v7 v8 v27 v28 v29 w)
noncomputable def F9_s10_c : Code := (.seq F9_p28 F9_s11_c)
theorem F9_s10_e (R : RT) (K : KF) (X : KX) (f : Fr) (w : World) (h : Bc (f 61) (F9_W R (.exit 1) K X f w) (F9_W R .skip K X f w)) : (F9_W R F9_p28 K X f w) := Eq.mp (by kernel_rfl) h
theorem F9_s10_ok (R : RT) (rec4 : V2) : OkW (F9_W R) (a10 (F9_s10 R rec4) 0 3 4 5 7 8 27 28 29 61) F9_s10_c (a7 (F9_s8 R rec4) 0 3 4 5 27 28 29) (kxB 1 (a7 (F9_s8 R rec4) 0 3 4 5 27 28 29) (kxB 0 (a1 (F9_s3 R) 4) noX)) :=
  fun f w h => cut F9_p28 F9_s11_c (K := (a9 (F9_s11 R rec4) 0 3 4 5 7 8 27 28 29)) (F9_s11_ok R rec4) f w (F9_s10_e R _ _ f w (Bc_imp (x' := (F9_W R (.exit 1) (a9 (F9_s11 R rec4) 0 3 4 5 7 8 27 28 29) (kxB 1 (a7 (F9_s8 R rec4) 0 3 4 5 27 28 29) (kxB 0 (a1 (F9_s3 R) 4) noX)) f w)) (y' := (F9_W R .skip (a9 (F9_s11 R rec4) 0 3 4 5 7 8 27 28 29) (kxB 1 (a7 (F9_s8 R rec4) 0 3 4 5 27 28 29) (kxB 0 (a1 (F9_s3 R) 4) noX)) f w)) ((fun f w h => exit_hit h) f w) ((fun f w h => skip_ok h) f w) h))
def F9_s9_t (R : RT) (K : V10) (v0 v3 v4 v5 v27 v28 v29 : Value) (w : World) : Prop :=
  uv Tryz.prog R (Instr.indexAt 71 v27 v29) w (fun v31 w =>
  uv Tryz.prog R (Instr.loadAt 9 v31) w (fun v32 w =>
  un Tryz.prog R (nilS v0) w (fun v34 w =>
  uv Tryz.prog R (Instr.fieldAt 51 v34 0) w (fun v35 w =>
  uv Tryz.prog R (Instr.loadAt 48 v35) w (fun v36 w =>
  uv Tryz.prog R (Instr.lookup 48 v36 v32 false) w (fun v38 w =>
  Dr (fun S w =>
  HN Tryz.prog (fun _ => True) (nilS v38) (fun v41 =>
  HV Tryz.prog (fun _ => True) (Instr.fieldAt 58 v41 0) (fun v42 =>
  HV Tryz.prog S (Instr.loadAt 55 v42) (fun v43 =>
  HV Tryz.prog S (Instr.loadAt 3 v3) (fun v44 =>
  HV Tryz.prog S (Instr.lookup 55 v43 v44 true) (fun v45 =>
  HV Tryz.prog S (Instr.extract v45 0) (fun v46 =>
  HV Tryz.prog S (Instr.extract v45 1) (fun v47 =>
  uv Tryz.prog R (Op.unary .not v47) w (fun v49 w =>
  Gk v49 true (fun k => k v5 w) w (fun v51 w =>
  Gk v49 true (fun k => uv Tryz.prog R (binS .eql 53 (.tmp 51) (.const (.pointer none)) v51 (.pointer none)) w k) w (fun v52 w =>
  Gk v49 true (fun k => k v52 w) w (fun v53 w =>
  Gk v53 false (fun k => k v5 w) w (fun v54 w =>
  Gk v53 false (fun k => un Tryz.prog R (nilS v54) w k) w (fun v55 w =>
  Gk v53 false (fun k => uv Tryz.prog R (Instr.fieldAt 66 v55 0) w k) w (fun v56 w =>
  Gk v53 false (fun k => uv Tryz.prog R (Instr.loadAt 9 v56) w k) w (fun v57 w =>
  Gk v53 false (fun k => k v32 w) w (fun v58 w =>
  Gk v53 false (fun k => uv Tryz.prog R (binS .neq 9 (.tmp 57) (.tmp 58) v57 v58) w k) w (fun v59 w =>
  Gk v49 true (fun k => uv Tryz.prog R (pickS v53 (.bool true) v59) w k) w (fun v60 w =>
  uv Tryz.prog R (pickS v49 v60 (.bool false)) w (fun v61 w =>
  K v0 v3 v4 v5 v32 v38 v27 v28 v29 v61 w)))))))))))))))))))) w))))))
theorem F9_s9_st (R : RT) (K : V10) (X : KX) (f : Fr) (w : World) (h : F9_s9_t R K (f 0) (f 3) (f 4) (f 5) (f 27) (f 28) (f 29) w) : F9_W R (.seq F9_p29 (.seq F9_p30 (.seq F9_p31 F9_p32))) (a10 K 0 3 4 5 7 8 27 28 29 61) X f w := Eq.mp (by kernel_rfl) h
def F9_s9 (R : RT) (rec4 : V2) (v0 v3 v4 v5 v27 v28 v29 : Value) (w : World) : Prop :=
  F9_s9_t R (F9_s10 R rec4) v0 v3 v4 v5 v27 v28 v29 w
noncomputable def F9_s9_c : Code := (.seq (.seq F9_p29 (.seq F9_p30 (.seq F9_p31 F9_p32))) F9_s10_c)
theorem F9_s9_ok (R : RT) (rec4 : V2) : OkW (F9_W R) (a7 (F9_s9 R rec4) 0 3 4 5 27 28 29) F9_s9_c (a7 (F9_s8 R rec4) 0 3 4 5 27 28 29) (kxB 1 (a7 (F9_s8 R rec4) 0 3 4 5 27 28 29) (kxB 0 (a1 (F9_s3 R) 4) noX)) :=
  fun f w h => cut (.seq F9_p29 (.seq F9_p30 (.seq F9_p31 F9_p32))) F9_s10_c (K := (a10 (F9_s10 R rec4) 0 3 4 5 7 8 27 28 29 61)) (F9_s10_ok R rec4) f w (F9_s9_st R (F9_s10 R rec4) _ f w h)
noncomputable def F9_s7_c : Code := (.seq F9_p12 F9_s8_c)
theorem F9_s7_e (R : RT) (K : KF) (X : KX) (f : Fr) (w : World) (h : F9_W R F9_s9_c K (kxB 1 K X) f w) : F9_W R F9_p12 K X f w := Eq.mp (by kernel_rfl) h
theorem F9_s7_ok (R : RT) (rec4 : V2) : OkW (F9_W R) (a7 (F9_s9 R rec4) 0 3 4 5 27 28 29) F9_s7_c (a2 rec4 4 29) (kxB 0 (a1 (F9_s3 R) 4) noX) :=
  fun f w h => cut F9_p12 F9_s8_c (K := (a7 (F9_s8 R rec4) 0 3 4 5 27 28 29)) (F9_s8_ok R rec4) f w (F9_s7_e R _ _ f w ((F9_s9_ok R rec4) f w h))
def F9_s6 (R : RT) (rec4 : V2) (v0 v3 v4 v5 v27 v28 v29 v30 : Value) (w : World) : Prop :=
  Bc v30
    (F9_s9 R rec4 v0 v3 v4 v5 v27 v28 v29 w)
    (F9_s3 R v4 w)
noncomputable def F9_s6_c : Code := (.seq F9_p33 F9_s7_c)
theorem F9_s6_e (R : RT) (K : KF) (X : KX) (f : Fr) (w : World) (h : Bc (f 30) (F9_W R .skip K X f w) (F9_W R (.exit 0) K X f w)) : (F9_W R F9_p33 K X f w) := Eq.mp (by kernel_rfl) h
theorem F9_s6_ok (R : RT) (rec4 : V2) : OkW (F9_W R) (a8 (F9_s6 R rec4) 0 3 4 5 27 28 29 30) F9_s6_c (a2 rec4 4 29) (kxB 0 (a1 (F9_s3 R) 4) noX) :=
  fun f w h => cut F9_p33 F9_s7_c (K := (a7 (F9_s9 R rec4) 0 3 4 5 27 28 29)) (F9_s7_ok R rec4) f w (F9_s6_e R _ _ f w (Bc_imp (x' := (F9_W R .skip (a7 (F9_s9 R rec4) 0 3 4 5 27 28 29) (kxB 0 (a1 (F9_s3 R) 4) noX) f w)) (y' := (F9_W R (.exit 0) (a7 (F9_s9 R rec4) 0 3 4 5 27 28 29) (kxB 0 (a1 (F9_s3 R) 4) noX) f w)) ((fun f w h => skip_ok h) f w) ((fun f w h => exit_hit h) f w) h))
def F9_s5_t (R : RT) (K : V8) (v0 v3 v4 v5 v27 v28 v29 : Value) (w : World) : Prop :=
  uv Tryz.prog R (binS .lss 3 (.tmp 29) (.tmp 28) v29 v28) w (fun v30 w =>
  K v0 v3 v4 v5 v27 v28 v29 v30 w)
theorem F9_s5_st (R : RT) (K : V8) (X : KX) (f : Fr) (w : World) (h : F9_s5_t R K (f 0) (f 3) (f 4) (f 5) (f 27) (f 28) (f 29) w) : F9_W R F9_p34 (a8 K 0 3 4 5 27 28 29 30) X f w := Eq.mp (by kernel_rfl) h
def F9_s5 (R : RT) (rec4 : V2) (v0 v3 v4 v5 v27 v28 v29 : Value) (w : World) : Prop :=
  F9_s5_t R (F9_s6 R rec4) v0 v3 v4 v5 v27 v28 v29 w
noncomputable def F9_s5_c : Code := (.seq F9_p34 F9_s6_c)
theorem F9_s5_ok (R : RT) (rec4 : V2) : OkW (F9_W R) (a7 (F9_s5 R rec4) 0 3 4 5 27 28 29) F9_s5_c (a2 rec4 4 29) (kxB 0 (a1 (F9_s3 R) 4) noX) :=
  fun f w h => cut F9_p34 F9_s6_c (K := (a8 (F9_s6 R rec4) 0 3 4 5 27 28 29 30)) (F9_s6_ok R rec4) f w (F9_s5_st R (F9_s6 R rec4) _ f w h)
def F9_s4 (R : RT) (v0 v3 v4 v5 v27 v28 v29 : Value) (w : World) : Prop :=
  Lp2 (fun rec4 v4 v29 w => F9_s5 R rec4 v0 v3 v4 v5 v27 v28 v29 w) v4 v29 w
theorem F9_s4_e (R : RT) (K : KF) (X : KX) (f : Fr) (w : World) (h : F9_W R (.loop F9_p8) K X f w) : F9_W R F9_p7 K X f w := Eq.mp (by kernel_rfl) h
theorem F9_s4b_e (R : RT) (K : KF) (X : KX) (f : Fr) (w : World) (h : F9_W R F9_s5_c K X f w) : F9_W R F9_p8 K X f w := Eq.mp (by kernel_rfl) h
theorem F9_s4_ok (R : RT) : OkW (F9_W R) (a7 (F9_s4 R) 0 3 4 5 27 28 29) F9_p7 (a1 (F9_s3 R) 4) (kxB 0 (a1 (F9_s3 R) 4) noX) :=
  fun f w h => F9_s4_e R _ _ f w (loop2_ok (P := Tryz.prog) (dc := F9_dc) (kr := (F9_k R)) (pan := panK R) F9_p8 (kn := (a1 (F9_s3 R) 4)) (kx := (kxB 0 (a1 (F9_s3 R) 4) noX)) (s0 := 4) (s1 := 29) (fun rec4 v4 v29 w => F9_s5 R rec4 (f 0) (f 3) v4 (f 5) (f 27) (f 28) v29 w) f (fun rec4 f' w' hf h' => F9_s4b_e R _ _ f' w' ((F9_s5_ok R rec4) f' w' (by simp only [a7, hf 0 (by kernel_rfl), hf 3 (by kernel_rfl), hf 5 (by kernel_rfl), hf 27 (by kernel_rfl), hf 28 (by kernel_rfl)]; exact h'))) w h)
noncomputable def F9_s2_c : Code := (.seq F9_p6 F9_s3_c)
theorem F9_s2_e (R : RT) (K : KF) (X : KX) (f : Fr) (w : World) (h : F9_W R F9_p7 K (kxB 0 K X) f w) : F9_W R F9_p6 K X f w := Eq.mp (by kernel_rfl) h
theorem F9_s2_ok (R : RT) : OkW (F9_W R) (a7 (F9_s4 R) 0 3 4 5 27 28 29) F9_s2_c (F9_k R) noX :=
  fun f w h => cut F9_p6 F9_s3_c (K := (a1 (F9_s3 R) 4)) (F9_s3_ok R) f w (F9_s2_e R _ _ f w ((F9_s4_ok R) f w h))
def F9_s1_t (R : RT) (K : V7) (v0 v1 : Value) (w : World) : Prop :=
  uv Tryz.prog R (Instr.box 3 v1) w (fun v3 w =>
  Dr (fun S w =>
  HN Tryz.prog (fun _ => True) (nilS v0) (fun v12 =>
  HV Tryz.prog (fun _ => True) (Instr.fieldAt 51 v12 1) (fun v13 =>
  HV Tryz.prog S (Instr.loadAt 49 v13) (fun v14 =>
  HV Tryz.prog S (Instr.loadAt 3 v3) (fun v15 =>
  HV Tryz.prog S (Instr.lookup 49 v14 v15 false) (fun v16 =>
  Dr (fun S w =>
  HN Tryz.prog (fun _ => True) (nilS v0) (fun v18 =>
  HV Tryz.prog (fun _ => True) (Instr.fieldAt 51 v18 1) (fun v19 =>
  HV Tryz.prog S (Instr.loadAt 49 v19) (fun v20 =>
  HV Tryz.prog S (Instr.loadAt 3 v3) (fun v21 =>
  un Tryz.prog R (builtin .delete #[49, 3] 0 #[false, false] #[v20, v21]) w (fun _ w =>
  un Tryz.prog R (nilS v0) w (fun v23 w =>
  uv Tryz.prog R (Instr.fieldAt 51 v23 0) w (fun v24 w =>
  uv Tryz.prog R (Instr.loadAt 48 v24) w (fun v25 w =>
  un Tryz.prog R (callFunc 31 #[v25]) w (fun v26 w =>
  un Tryz.prog R (callFunc 30 #[v26]) w (fun v27 w =>
  un Tryz.prog R (builtin .len #[71] 3 #[false] #[v27]) w (fun v28 w =>
  K v0 v3 (.slice none 0 0) v16 v27 v28 (.int .i64 0) w)))))))))))) w)))))) w)
theorem F9_s1_st (R : RT) (K : V7) (X : KX) (f : Fr) (w : World) (h : F9_s1_t R K (f 0) (f 1) w) : F9_W R (.seq F9_p35 (.seq F9_p36 (.seq F9_p37 F9_p38))) (a7 K 0 3 4 5 27 28 29) X f w := Eq.mp (by kernel_rfl) h
def F9_s1 (R : RT) (v0 v1 : Value) (w : World) : Prop :=
  F9_s1_t R (F9_s4 R) v0 v1 w
noncomputable def F9_s1_c : Code := (.seq (.seq F9_p35 (.seq F9_p36 (.seq F9_p37 F9_p38))) F9_s2_c)
theorem F9_s1_ok (R : RT) : OkW (F9_W R) (a2 (F9_s1 R) 0 1) F9_s1_c (F9_k R) noX :=
  fun f w h => cut (.seq F9_p35 (.seq F9_p36 (.seq F9_p37 F9_p38))) F9_s2_c (K := (a7 (F9_s4 R) 0 3 4 5 27 28 29)) (F9_s2_ok R) f w (F9_s1_st R (F9_s4 R) _ f w h)
theorem F9_all_e (R : RT) (K : KF) (X : KX) (f : Fr) (w : World) (h : F9_W R F9_s1_c K X f w) : F9_W R F9_b K X f w := Eq.mp (by kernel_rfl) h
theorem F9_calls (R : RT) (v0 v1 : Value) (w : World) (h : F9_s1 R v0 v1 w) : Calls Tryz.prog 9 #[v0, v1] w R :=
  calls_of_wpE (dc := F9_dc) (args := [v0, v1]) hmixed Tryz.func9 (c := F9_b) rfl (rs := [.tmp 4]) rfl (by kernel_rfl) (Nat.le_of_ble_eq_true (by kernel_rfl)) (F9_all_e R _ _ _ w ((F9_s1_ok R) (initFr [v0, v1]) w h))

/-! ### (*hasp/locks.Table).Drop$1 -/
noncomputable def F33_b : Code := bodyOf Tryz.f33
def F33_dc : Nat → List (Nat × Bool)
  | _ => []
abbrev F33_k (R : RT) := resK Tryz.prog [.tmp 3] R
abbrev F33_W (R : RT) := wpE Tryz.prog F33_dc (F33_k R) (panK R)
noncomputable def F33_p0 := cL F33_b
noncomputable def F33_p1 := cR F33_b
noncomputable def F33_p2 := cL F33_p1
def F33_s1_t (R : RT) (v0 v1 : Value) (w : World) : Prop :=
  uv Tryz.prog R (Instr.box 61 v0) w (fun v2 w =>
  uv Tryz.prog R (Instr.fieldAt 61 v2 0) w (fun v4 w =>
  uv Tryz.prog R (Instr.loadAt 3 v4) w (fun v5 w =>
  uv Tryz.prog R (Instr.loadAt 3 v1) w (fun v6 w =>
  uv Tryz.prog R (binS .eql 3 (.tmp 5) (.tmp 6) v5 v6) w (fun v7 w =>
  R (.returned v7) w)))))
theorem F33_s1_st (R : RT) (X : KX) (f : Fr) (w : World) (h : F33_s1_t R (f 0) (f 1) w) : F33_W R (.seq F33_p0 F33_p2) (F33_k R) X f w := Eq.mp (by kernel_rfl) h
def F33_s1 (R : RT) (v0 v1 : Value) (w : World) : Prop :=
  F33_s1_t R v0 v1 w
noncomputable def F33_s1_c : Code := (.seq (.seq F33_p0 F33_p2) .ret)
theorem F33_s1_ok (R : RT) : OkW (F33_W R) (a2 (F33_s1 R) 0 1) F33_s1_c (F33_k R) noX :=
  fun f w h => cut (.seq F33_p0 F33_p2) .ret (K := (F33_k R)) (fun f w h => ret_ok h) f w (F33_s1_st R _ f w h)
theorem F33_all_e (R : RT) (K : KF) (X : KX) (f : Fr) (w : World) (h : F33_W R F33_s1_c K X f w) : F33_W R F33_b K X f w := Eq.mp (by kernel_rfl) h
theorem F33_calls (R : RT) (v0 v1 : Value) (w : World) (h : F33_s1 R v0 v1 w) : Calls Tryz.prog 33 #[v0, v1] w R :=
  calls_of_wpE (dc := F33_dc) (args := [v0, v1]) hmixed Tryz.func33 (c := F33_b) rfl (rs := [.tmp 3]) rfl (by kernel_rfl) (Nat.le_of_ble_eq_true (by kernel_rfl)) (F33_all_e R _ _ _ w ((F33_s1_ok R) (initFr [v0, v1]) w h))

/-! ### (*hasp/locks.Table).serve -/
noncomputable def F34_b : Code := bodyOf Tryz.f34
def F34_dc : Nat → List (Nat × Bool)
  | 4 => [(0, true), (1, true), (2, true), (3, true), (4, true), (5, true), (6, true), (7, true), (8, false)]
  | 5 => [(0, true), (1, true), (2, true), (3, true), (4, true), (5, true), (6, false)]
  | _ => []
abbrev F34_k (R : RT) := resK Tryz.prog [.tmp 4] R
abbrev F34_W (R : RT) := wpE Tryz.prog F34_dc (F34_k R) (panK R)
noncomputable def F34_p0 := cR F34_b
noncomputable def F34_p1 := cR F34_p0
noncomputable def F34_p2 := cL F34_p1
noncomputable def F34_p3 := cL F34_p0
noncomputable def F34_p4 := cI F34_p3
noncomputable def F34_p5 := cI F34_p4
noncomputable def F34_p6 := cR F34_p5
noncomputable def F34_p7 := cI F34_p6
noncomputable def F34_p8 := cL F34_p7
noncomputable def F34_p9 := cR F34_p7
noncomputable def F34_p10 := cL F34_p9
noncomputable def F34_p11 := cR F34_p9
noncomputable def F34_p12 := cL F34_p11
noncomputable def F34_p13 := cR F34_p11
noncomputable def F34_p14 := cL F34_p13
noncomputable def F34_p15 := cR F34_p13
noncomputable def F34_p16 := cL F34_p5
noncomputable def F34_p17 := cR F34_p16
noncomputable def F34_p18 := cL F34_p16
noncomputable def F34_p19 := cL F34_b
def F34_s3_t (R : RT) (v4 : Value) (w : World) : Prop :=
  R (.returned v4) w
theorem F34_s3_st (R : RT) (X : KX) (f : Fr) (w : World) (h : F34_s3_t R (f 4) w) : F34_W R F34_p2 (F34_k R) X f w := Eq.mp (by kernel_rfl) h
def F34_s3 (R : RT) (v4 : Value) (w : World) : Prop :=
  F34_s3_t R v4 w
noncomputable def F34_s3_c : Code := (.seq F34_p2 .ret)
theorem F34_s3_ok (R : RT) : OkW (F34_W R) (a1 (F34_s3 R) 4) F34_s3_c (F34_k R) noX :=
  fun f w h => cut F34_p2 .ret (K := (F34_k R)) (fun f w h => ret_ok h) f w (F34_s3_st R _ f w h)
def F34_s8_t (R : RT) (K : V1) (v0 v1 v4 : Value) (w : World) : Prop :=
  un Tryz.prog R (nilS v1) w (fun v23 w =>
  uv Tryz.prog R (Instr.fieldAt 58 v23 1) w (fun v24 w =>
  uv Tryz.prog R (Instr.loadAt 56 v24) w (fun v25 w =>
  uv Tryz.prog R (Instr.indexAt 56 v25 (.int .i64 0)) w (fun v26 w =>
  uv Tryz.prog R (Instr.loadAt 61 v26) w (fun v27 w =>
  uv Tryz.prog R (Instr.alloc 61 true (.tuple #[])) w (fun v5 w =>
  uu Tryz.prog R (Instr.storeAt 61 v5 v27) w (fun w =>
  un Tryz.prog R (nilS v1) w (fun v30 w =>
  uv Tryz.prog R (Instr.fieldAt 58 v30 1) w (fun v31 w =>
  uv Tryz.prog R (Instr.loadAt 56 v31) w (fun v32 w =>
  uv Tryz.prog R (Instr.sliceAt 56 v32 (some (.int .i64 1)) none none) w (fun v33 w =>
  un Tryz.prog R (nilS v1) w (fun v34 w =>
  uv Tryz.prog R (Instr.fieldAt 58 v34 1) w (fun v35 w =>
  uu Tryz.prog R (Instr.storeAt 56 v35 v33) w (fun w =>
  Dr (fun S w =>
  HN Tryz.prog (fun _ => True) (nilS v1) (fun v37 =>
  HV Tryz.prog (fun _ => True) (Instr.fieldAt 58 v37 0) (fun v38 =>
  HV Tryz.prog S (Instr.loadAt 55 v38) (fun v39 =>
  HV Tryz.prog (fun _ => True) (Instr.fieldAt 61 v5 0) (fun v40 =>
  HV Tryz.prog S (Instr.loadAt 3 v40) (fun v41 =>
  HV Tryz.prog (fun _ => True) (Instr.fieldAt 61 v5 1) (fun v42 =>
  HV Tryz.prog S (Instr.loadAt 3 v42) (fun v43 =>
  uu Tryz.prog R (Instr.mapUpdate 55 v39 v41 v43) w (fun w =>
  Dr (fun S w =>
  HN Tryz.prog (fun _ => True) (nilS v0) (fun v45 =>
  HV Tryz.prog (fun _ => True) (Instr.fieldAt 51 v45 1) (fun v46 =>
  HV Tryz.prog S (Instr.loadAt 49 v46) (fun v47 =>
  HV Tryz.prog (fun _ => True) (Instr.fieldAt 61 v5 0) (fun v48 =>
  HV Tryz.prog S (Instr.loadAt 3 v48) (fun v49 =>
  un Tryz.prog R (builtin .delete #[49, 3] 0 #[false, false] #[v47, v49]) w (fun _ w =>
  uv Tryz.prog R (Instr.fieldAt 61 v5 0) w (fun v51 w =>
  uv Tryz.prog R (Instr.loadAt 3 v51) w (fun v52 w =>
  uv Tryz.prog R (Instr.buildSlice 35 1 #[(0, v52)]) w (fun v53 w =>
  un Tryz.prog R (builtin .append #[35, 35] 35 #[false, false] #[v4, v53]) w (fun v54 w =>
  K v54 w))))))))))) w))))))))) w))))))))))))))
theorem F34_s8_st (R : RT) (K : V1) (X : KX) (f : Fr) (w : World) (h : F34_s8_t R K (f 0) (f 1) (f 4) w) : F34_W R (.seq F34_p8 (.seq F34_p10 (.seq F34_p12 (.seq F34_p14 F34_p15)))) (a1 K 4) X f w := Eq.mp (by kernel_rfl) h
def F34_s8 (R : RT) (rec4 : V1) (v0 v1 v4 : Value) (w : World) : Prop :=
  F34_s8_t R rec4 v0 v1 v4 w
noncomputable def F34_s8_c : Code := (.seq (.seq F34_p8 (.seq F34_p10 (.seq F34_p12 (.seq F34_p14 F34_p15)))) .skip)
theorem F34_s8_ok (R : RT) (rec4 : V1) : OkW (F34_W R) (a3 (F34_s8 R rec4) 0 1 4) F34_s8_c (a1 rec4 4) (kxB 1 ((a1 rec4 4)) (kxB 0 (a1 (F34_s3 R) 4) noX)) :=
  fun f w h => cut (.seq F34_p8 (.seq F34_p10 (.seq F34_p12 (.seq F34_p14 F34_p15)))) .skip (K := (a1 rec4 4)) (fun f w h => skip_ok h) f w (F34_s8_st R rec4 _ f w h)
noncomputable def F34_s7_c : Code := (.seq F34_p6 .skip)
theorem F34_s7_e (R : RT) (K : KF) (X : KX) (f : Fr) (w : World) (h : F34_W R F34_s8_c K (kxB 1 K X) f w) : F34_W R F34_p6 K X f w := Eq.mp (by kernel_rfl) h
theorem F34_s7_ok (R : RT) (rec4 : V1) : OkW (F34_W R) (a3 (F34_s8 R rec4) 0 1 4) F34_s7_c (a1 rec4 4) (kxB 0 (a1 (F34_s3 R) 4) noX) :=
  fun f w h => cut F34_p6 .skip (K := (a1 rec4 4)) (fun f w h => skip_ok h) f w (F34_s7_e R _ _ f w ((F34_s8_ok R rec4) f w h))
def F34_s6 (R : RT) (rec4 : V1) (v0 v1 v4 v21 : Value) (w : World) : Prop :=
  Bc v21
    (F34_s8 R rec4 v0 v1 v4 w)
    (F34_s3 R v4 w)
noncomputable def F34_s6_c : Code := (.seq F34_p17 F34_s7_c)
theorem F34_s6_e (R : RT) (K : KF) (X : KX) (f : Fr) (w : World) (h : Bc (f 21) (F34_W R .skip K X f w) (F34_W R (.exit 0) K X f w)) : (F34_W R F34_p17 K X f w) := Eq.mp (by kernel_rfl) h
theorem F34_s6_ok (R : RT) (rec4 : V1) : OkW (F34_W R) (a4 (F34_s6 R rec4) 0 1 4 21) F34_s6_c (a1 rec4 4) (kxB 0 (a1 (F34_s3 R) 4) noX) :=
  fun f w h => cut F34_p17 F34_s7_c (K := (a3 (F34_s8 R rec4) 0 1 4)) (F34_s7_ok R rec4) f w (F34_s6_e R _ _ f w (Bc_imp (x' := (F34_W R .skip (a3 (F34_s8 R rec4) 0 1 4) (kxB 0 (a1 (F34_s3 R) 4) noX) f w)) (y' := (F34_W R (.exit 0) (a3 (F34_s8 R rec4) 0 1 4) (kxB 0 (a1 (F34_s3 R) 4) noX) f w)) ((fun f w h => skip_ok h) f w) ((fun f w h => exit_hit h) f w) h))
def F34_s5_t (R : RT) (K : V4) (v0 v1 v4 : Value) (w : World) : Prop :=
  un Tryz.prog R (nilS v1) w (fun v7 w =>
  uv Tryz.prog R (Instr.fieldAt 58 v7 1) w (fun v8 w =>
  uv Tryz.prog R (Instr.loadAt 56 v8) w (fun v9 w =>
  un Tryz.prog R (builtin .len #[56] 3 #[false] #[v9]) w (fun v10 w =>
  uv Tryz.prog R (binS .gtr 3 (.tmp 10) (.const (.int .i64 0)) v10 (.int .i64 0)) w (fun v11 w =>
  Gk v11 true (fun k => k v1 w) w (fun v13 w =>
  Gk v11 true (fun k => k v1 w) w (fun v14 w =>
  Gk v11 true (fun k => un Tryz.prog R (nilS v14) w k) w (fun v15 w =>
  Gk v11 true (fun k => uv Tryz.prog R (Instr.fieldAt 58 v15 1) w k) w (fun v16 w =>
  Gk v11 true (fun k => uv Tryz.prog R (Instr.loadAt 56 v16) w k) w (fun v17 w =>
  Gk v11 true (fun k => uv Tryz.prog R (Instr.indexAt 56 v17 (.int .i64 0)) w k) w (fun v18 w =>
  Gk v11 true (fun k => uv Tryz.prog R (Instr.loadAt 61 v18) w k) w (fun v19 w =>
  Gk v11 true (fun k => un Tryz.prog R (callFunc 19 #[v13, v19]) w k) w (fun v20 w =>
  uv Tryz.prog R (pickS v11 v20 (.bool false)) w (fun v21 w =>
  K v0 v1 v4 v21 w))))))))))))))
theorem F34_s5_st (R : RT) (K : V4) (X : KX) (f : Fr) (w : World) (h : F34_s5_t R K (f 0) (f 1) (f 4) w) : F34_W R F34_p18 (a4 K 0 1 4 21) X f w := Eq.mp (by kernel_rfl) h
def F34_s5 (R : RT) (rec4 : V1) (v0 v1 v4 : Value) (w : World) : Prop :=
  F34_s5_t R (F34_s6 R rec4) v0 v1 v4 w
noncomputable def F34_s5_c : Code := (.seq F34_p18 F34_s6_c)
theorem F34_s5_ok (R : RT) (rec4 : V1) : OkW (F34_W R) (a3 (F34_s5 R rec4) 0 1 4) F34_s5_c (a1 rec4 4) (kxB 0 (a1 (F34_s3 R) 4) noX) :=
  fun f w h => cut F34_p18 F34_s6_c (K := (a4 (F34_s6 R rec4) 0 1 4 21)) (F34_s6_ok R rec4) f w (F34_s5_st R (F34_s6 R rec4) _ f w h)
def F34_s4 (R : RT) (v0 v1 v4 : Value) (w : World) : Prop :=
  Lp1 (fun rec4 v4 w => F34_s5 R rec4 v0 v1 v4 w) v4 w
theorem F34_s4_e (R : RT) (K : KF) (X : KX) (f : Fr) (w : World) (h : F34_W R (.loop F34_p5) K X f w) : F34_W R F34_p4 K X f w := Eq.mp (by kernel_rfl) h
theorem F34_s4b_e (R : RT) (K : KF) (X : KX) (f : Fr) (w : World) (h : F34_W R F34_s5_c K X f w) : F34_W R F34_p5 K X f w := Eq.mp (by kernel_rfl) h
theorem F34_s4_ok (R : RT) : OkW (F34_W R) (a3 (F34_s4 R) 0 1 4) F34_p4 (a1 (F34_s3 R) 4) (kxB 0 (a1 (F34_s3 R) 4) noX) :=
  fun f w h => F34_s4_e R _ _ f w (loop1_ok (P := Tryz.prog) (dc := F34_dc) (kr := (F34_k R)) (pan := panK R) F34_p5 (kn := (a1 (F34_s3 R) 4)) (kx := (kxB 0 (a1 (F34_s3 R) 4) noX)) (s0 := 4) (fun rec4 v4 w => F34_s5 R rec4 (f 0) (f 1) v4 w) f (fun rec4 f' w' hf h' => F34_s4b_e R _ _ f' w' ((F34_s5_ok R rec4) f' w' (by simp only [a3, hf 0 (by kernel_rfl), hf 1 (by kernel_rfl)]; exact h'))) w h)
noncomputable def F34_s2_c : Code := (.seq F34_p3 F34_s3_c)
theorem F34_s2_e (R : RT) (K : KF) (X : KX) (f : Fr) (w : World) (h : F34_W R F34_p4 K (kxB 0 K X) f w) : F34_W R F34_p3 K X f w := Eq.mp (by kernel_rfl) h
theorem F34_s2_ok (R : RT) : OkW (F34_W R) (a3 (F34_s4 R) 0 1 4) F34_s2_c (F34_k R) noX :=
  fun f w h => cut F34_p3 F34_s3_c (K := (a1 (F34_s3 R) 4)) (F34_s3_ok R) f w (F34_s2_e R _ _ f w ((F34_s4_ok R) f w h))
def F34_s1_t (R : RT) (K : V3) (v0 v1 : Value) (w : World) : Prop :=
  K v0 v1 (.slice none 0 0) w
theorem F34_s1_st (R : RT) (K : V3) (X : KX) (f : Fr) (w : World) (h : F34_s1_t R K (f 0) (f 1) w) : F34_W R F34_p19 (a3 K 0 1 4) X f w := Eq.mp (by kernel_rfl) h
def F34_s1 (R : RT) (v0 v1 : Value) (w : World) : Prop :=
  F34_s1_t R (F34_s4 R) v0 v1 w
noncomputable def F34_s1_c : Code := (.seq F34_p19 F34_s2_c)
theorem F34_s1_ok (R : RT) : OkW (F34_W R) (a2 (F34_s1 R) 0 1) F34_s1_c (F34_k R) noX :=
  fun f w h => cut F34_p19 F34_s2_c (K := (a3 (F34_s4 R) 0 1 4)) (F34_s2_ok R) f w (F34_s1_st R (F34_s4 R) _ f w h)
theorem F34_all_e (R : RT) (K : KF) (X : KX) (f : Fr) (w : World) (h : F34_W R F34_s1_c K X f w) : F34_W R F34_b K X f w := Eq.mp (by kernel_rfl) h
theorem F34_calls (R : RT) (v0 v1 : Value) (w : World) (h : F34_s1 R v0 v1 w) : Calls Tryz.prog 34 #[v0, v1] w R :=
  calls_of_wpE (dc := F34_dc) (args := [v0, v1]) hmixed Tryz.func34 (c := F34_b) rfl (rs := [.tmp 4]) rfl (by kernel_rfl) (Nat.le_of_ble_eq_true (by kernel_rfl)) (F34_all_e R _ _ _ w ((F34_s1_ok R) (initFr [v0, v1]) w h))

/-! ### (*hasp/locks.Table).Locks -/
noncomputable def F16_b : Code := bodyOf Tryz.f16
def F16_dc : Nat → List (Nat × Bool)
  | _ => []
abbrev F16_k (R : RT) := resK Tryz.prog [.tmp 2] R
abbrev F16_W (R : RT) := wpE Tryz.prog F16_dc (F16_k R) (panK R)
noncomputable def F16_p0 := cR F16_b
noncomputable def F16_p1 := cR F16_p0
noncomputable def F16_p2 := cL F16_p1
noncomputable def F16_p3 := cL F16_p0
noncomputable def F16_p4 := cR F16_p3
noncomputable def F16_p5 := cI F16_p4
noncomputable def F16_p6 := cI F16_p5
noncomputable def F16_p7 := cR F16_p6
noncomputable def F16_p8 := cR F16_p7
noncomputable def F16_p9 := cR F16_p8
noncomputable def F16_p10 := cL F16_p8
noncomputable def F16_p11 := cI F16_p10
noncomputable def F16_p12 := cR F16_p11
noncomputable def F16_p13 := cR F16_p12
noncomputable def F16_p14 := cR F16_p13
noncomputable def F16_p15 := cI F16_p14
noncomputable def F16_p16 := cI F16_p15
noncomputable def F16_p17 := cR F16_p16
noncomputable def F16_p18 := cR F16_p17
noncomputable def F16_p19 := cR F16_p18
noncomputable def F16_p20 := cL F16_p18
noncomputable def F16_p21 := cI F16_p20
noncomputable def F16_p22 := cL F16_p21
noncomputable def F16_p23 := cR F16_p21
noncomputable def F16_p24 := cL F16_p17
noncomputable def F16_p25 := cL F16_p16
noncomputable def F16_p26 := cL F16_p11
noncomputable def F16_p27 := cL F16_p12
noncomputable def F16_p28 := cL F16_p13
noncomputable def F16_p29 := cL F16_p7
noncomputable def F16_p30 := cL F16_p6
noncomputable def F16_p31 := cL F16_b
noncomputable def F16_p32 := cL F16_p3
def F16_s3_t (R : RT) (v2 : Value) (w : World) : Prop :=
  R (.returned v2) w
theorem F16_s3_st (R : RT) (X : KX) (f : Fr) (w : World) (h : F16_s3_t R (f 2) w) : F16_W R F16_p2 (F16_k R) X f w := Eq.mp (by kernel_rfl) h
def F16_s3 (R : RT) (v2 : Value) (w : World) : Prop :=
  F16_s3_t R v2 w
noncomputable def F16_s3_c : Code := (.seq F16_p2 .ret)
theorem F16_s3_ok (R : RT) : OkW (F16_W R) (a1 (F16_s3 R) 2) F16_s3_c (F16_k R) noX :=
  fun f w h => cut F16_p2 .ret (K := (F16_k R)) (fun f w h => ret_ok h) f w (F16_s3_st R _ f w h)
def F16_s8_t (R : RT) (K : V2) (v0 v2 v13 v14 v15 : Value) (w : World) : Prop :=
  uv Tryz.prog R (binS .add 3 (.tmp 15) (.const (.int .i64 1)) v15 (.int .i64 1)) w (fun v49 w =>
  K v2 v49 w)
theorem F16_s8_st (R : RT) (K : V2) (X : KX) (f : Fr) (w : World) (h : F16_s8_t R K (f 0) (f 2) (f 13) (f 14) (f 15) w) : F16_W R F16_p9 (a2 K 2 15) X f w := Eq.mp (by kernel_rfl) h
def F16_s8 (R : RT) (rec4 : V2) (v0 v2 v13 v14 v15 : Value) (w : World) : Prop :=
  F16_s8_t R rec4 v0 v2 v13 v14 v15 w
noncomputable def F16_s8_c : Code := (.seq F16_p9 .skip)
theorem F16_s8_ok (R : RT) (rec4 : V2) : OkW (F16_W R) (a5 (F16_s8 R rec4) 0 2 13 14 15) F16_s8_c (a2 rec4 2 15) (kxB 0 (a1 (F16_s3 R) 2) noX) :=
  fun f w h => cut F16_p9 .skip (K := (a2 rec4 2 15)) (fun f w h => skip_ok h) f w (F16_s8_st R rec4 _ f w h)
def F16_s15_t (R : RT) (K : V2) (v0 v2 v4 v5 v13 v14 v15 v30 v31 v32 : Value) (w : World) : Prop :=
  uv Tryz.prog R (binS .add 3 (.tmp 32) (.const (.int .i64 1)) v32 (.int .i64 1)) w (fun v48 w =>
  K v2 v48 w)
theorem F16_s15_st (R : RT) (K : V2) (X : KX) (f : Fr) (w : World) (h : F16_s15_t R K (f 0) (f 2) (f 4) (f 5) (f 13) (f 14) (f 15) (f 30) (f 31) (f 32) w) : F16_W R F16_p19 (a2 K 2 32) X f w := Eq.mp (by kernel_rfl) h
def F16_s15 (R : RT) (rec4 : V2) (rec11 : V2) (v0 v2 v4 v5 v13 v14 v15 v30 v31 v32 : Value) (w : World) : Prop :=
  F16_s15_t R rec11 v0 v2 v4 v5 v13 v14 v15 v30 v31 v32 w
noncomputable def F16_s15_c : Code := (.seq F16_p19 .skip)
theorem F16_s15_ok (R : RT) (rec4 : V2) (rec11 : V2) : OkW (F16_W R) (a10 (F16_s15 R rec4 rec11) 0 2 4 5 13 14 15 30 31 32) F16_s15_c (a2 rec11 2 32) (kxB 2 (a5 (F16_s8 R rec4) 0 2 13 14 15) (kxB 1 (a5 (F16_s8 R rec4) 0 2 13 14 15) (kxB 0 (a1 (F16_s3 R) 2) noX))) :=
  fun f w h => cut F16_p19 .skip (K := (a2 rec11 2 32)) (fun f w h => skip_ok h) f w (F16_s15_st R rec11 _ f w h)
def F16_s16_t (R : RT) (K : V10) (v0 v2 v4 v5 v13 v14 v15 v30 v31 v32 : Value) (w : World) : Prop :=
  uv Tryz.prog R (Instr.indexAt 35 v30 v32) w (fun v34 w =>
  uv Tryz.prog R (Instr.loadAt 3 v34) w (fun v35 w =>
  un Tryz.prog R (nilS v5) w (fun v40 w =>
  uv Tryz.prog R (Instr.fieldAt 58 v40 0) w (fun v41 w =>
  uv Tryz.prog R (Instr.loadAt 55 v41) w (fun v42 w =>
  uv Tryz.prog R (Instr.lookup 55 v42 v35 false) w (fun v44 w =>
  uv Tryz.prog R (Instr.build 42 #[(0, v35), (1, v4), (2, v44)]) w (fun v45 w =>
  uv Tryz.prog R (Instr.buildSlice 27 1 #[(0, v45)]) w (fun v46 w =>
  un Tryz.prog R (builtin .append #[27, 27] 27 #[false, false] #[v2, v46]) w (fun v47 w =>
  K v0 v47 v4 v5 v13 v14 v15 v30 v31 v32 w)))))))))
theorem F16_s16_st (R : RT) (K : V10) (X : KX) (f : Fr) (w : World) (h : F16_s16_t R K (f 0) (f 2) (f 4) (f 5) (f 13) (f 14) (f 15) (f 30) (f 31) (f 32) w) : F16_W R (.seq F16_p22 F16_p23) (a10 K 0 2 4 5 13 14 15 30 31 32) X f w := Eq.mp (by kernel_rfl) h
def F16_s16 (R : RT) (rec4 : V2) (rec11 : V2) (v0 v2 v4 v5 v13 v14 v15 v30 v31 v32 : Value) (w : World) : Prop :=
  F16_s16_t R (F16_s15 R rec4 rec11) v0 v2 v4 v5 v13 v14 v15 v30 v31 v32 w
noncomputable def F16_s16_c : Code := (.seq (.seq F16_p22 F16_p23) .skip)
theorem F16_s16_ok (R : RT) (rec4 : V2) (rec11 : V2) : OkW (F16_W R) (a10 (F16_s16 R rec4 rec11) 0 2 4 5 13 14 15 30 31 32) F16_s16_c (a10 (F16_s15 R rec4 rec11) 0 2 4 5 13 14 15 30 31 32) (kxB 3 (a10 (F16_s15 R rec4 rec11) 0 2 4 5 13 14 15 30 31 32) (kxB 2 (a5 (F16_s8 R rec4) 0 2 13 14 15) (kxB 1 (a5 (F16_s8 R rec4) 0 2 13 14 15) (kxB 0 (a1 (F16_s3 R) 2) noX)))) :=
  fun f w h => cut (.seq F16_p22 F16_p23) .skip (K := (a10 (F16_s15 R rec4 rec11) 0 2 4 5 13 14 15 30 31 32)) (fun f w h => skip_ok h) f w (F16_s16_st R (F16_s15 R rec4 rec11) _ f w h)
noncomputable def F16_s14_c : Code := (.seq F16_p20 F16_s15_c)
theorem F16_s14_e (R : RT) (K : KF) (X : KX) (f : Fr) (w : World) (h : F16_W R F16_s16_c K (kxB 3 K X) f w) : F16_W R F16_p20 K X f w := Eq.mp (by kernel_rfl) h
theorem F16_s14_ok (R : RT) (rec4 : V2) (rec11 : V2) : OkW (F16_W R) (a10 (F16_s16 R rec4 rec11) 0 2 4 5 13 14 15 30 31 32) F16_s14_c (a2 rec11 2 32) (kxB 2 (a5 (F16_s8 R rec4) 0 2 13 14 15) (kxB 1 (a5 (F16_s8 R rec4) 0 2 13 14 15) (kxB 0 (a1 (F16_s3 R) 2) noX))) :=
  fun f w h => cut F16_p20 F16_s15_c (K := (a10 (F16_s15 R rec4 rec11) 0 2 4 5 13 14 15 30 31 32)) (F16_s15_ok R rec4 rec11) f w (F16_s14_e R _ _ f w ((F16_s16_ok R rec4 rec11) f w h))
def F16_s13 (R : RT) (rec4 : V2) (rec11 : V2) (v0 v2 v4 v5 v13 v14 v15 v30 v31 v32 v33 : Value) (w : World) : Prop :=
  Bc v33
    (F16_s16 R rec4 rec11 v0 v2 v4 v5 v13 v14 v15 v30 v31 v32 w)
    (F16_s8 R rec4 v0 v2 v13 v14 v15 w)
noncomputable def F16_s13_c : Code := (.seq F16_p24 F16_s14_c)
theorem F16_s13_e (R : RT) (K : KF) (X : KX) (f : Fr) (w : World) (h : Bc (f 33) (F16_W R .skip K X f w) (F16_W R (.exit 2) K X f w)) : (F16_W R F16_p24 K X f w) := Eq.mp (by kernel_rfl) h
theorem F16_s13_ok (R : RT) (rec4 : V2) (rec11 : V2) : OkW (F16_W R) (a11 (F16_s13 R rec4 rec11) 0 2 4 5 13 14 15 30 31 32 33) F16_s13_c (a2 rec11 2 32) (kxB 2 (a5 (F16_s8 R rec4) 0 2 13 14 15) (kxB 1 (a5 (F16_s8 R rec4) 0 2 13 14 15) (kxB 0 (a1 (F16_s3 R) 2) noX))) :=
  fun f w h => cut F16_p24 F16_s14_c (K := (a10 (F16_s16 R rec4 rec11) 0 2 4 5 13 14 15 30 31 32)) (F16_s14_ok R rec4 rec11) f w (F16_s13_e R _ _ f w (Bc_imp (x' := (F16_W R .skip (a10 (F16_s16 R rec4 rec11) 0 2 4 5 13 14 15 30 31 32) (kxB 2 (a5 (F16_s8 R rec4) 0 2 13 14 15) (kxB 1 (a5 (F16_s8 R rec4) 0 2 13 14 15) (kxB 0 (a1 (F16_s3 R) 2) noX))) f w)) (y' := (F16_W R (.exit 2) (a10 (F16_s16 R rec4 rec11) 0 2 4 5 13 14 15 30 31 32) (kxB 2 (a5 (F16_s8 R rec4) 0 2 13 14 15) (kxB 1 (a5 (F16_s8 R rec4) 0 2 13 14 15) (kxB 0 (a1 (F16_s3 R) 2) noX))) f w)) ((fun f w h => skip_ok h) f w) ((fun f w h => exit_hit h) f w) h))
def F16_s12_t (R : RT) (K : V11) (v0 v2 v4 v5 v13 v14 v15 v30 v31 v32 : Value) (w : World) : Prop :=
  uv Tryz.prog R (binS .lss 3 (.tmp 32) (.tmp 31) v32 v31) w (fun v33 w =>
  K v0 v2 v4 v5 v13 v14 v15 v30 v31 v32 v33 w)
theorem F16_s12_st (R : RT) (K : V11) (X : KX) (f : Fr) (w : World) (h : F16_s12_t R K (f 0) (f 2) (f 4) (f 5) (f 13) (f 14) (f 15) (f 30) (f 31) (f 32) w) : F16_W R F16_p25 (a11 K 0 2 4 5 13 14 15 30 31 32 33) X f w := Eq.mp (by kernel_rfl) h
def F16_s12 (R : RT) (rec4 : V2) (rec11 : V2) (v0 v2 v4 v5 v13 v14 v15 v30 v31 v32 : Value) (w : World) : Prop :=
  F16_s12_t R (F16_s13 R rec4 rec11) v0 v2 v4 v5 v13 v14 v15 v30 v31 v32 w
noncomputable def F16_s12_c : Code := (.seq F16_p25 F16_s13_c)
theorem F16_s12_ok (R : RT) (rec4 : V2) (rec11 : V2) : OkW (F16_W R) (a10 (F16_s12 R rec4 rec11) 0 2 4 5 13 14 15 30 31 32) F16_s12_c (a2 rec11 2 32) (kxB 2 (a5 (F16_s8 R rec4) 0 2 13 14 15) (kxB 1 (a5 (F16_s8 R rec4) 0 2 13 14 15) (kxB 0 (a1 (F16_s3 R) 2) noX))) :=
  fun f w h => cut F16_p25 F16_s13_c (K := (a11 (F16_s13 R rec4 rec11) 0 2 4 5 13 14 15 30 31 32 33)) (F16_s13_ok R rec4 rec11) f w (F16_s12_st R (F16_s13 R rec4 rec11) _ f w h)
def F16_s11 (R : RT) (rec4 : V2) (v0 v2 v4 v5 v13 v14 v15 v30 v31 v32 : Value) (w : World) : Prop :=
  Lp2 (fun rec11 v2 v32 w => F16_s12 R rec4 rec11 v0 v2 v4 v5 v13 v14 v15 v30 v31 v32 w) v2 v32 w
theorem F16_s11_e (R : RT) (K : KF) (X : KX) (f : Fr) (w : World) (h : F16_W R (.loop F16_p16) K X f w) : F16_W R F16_p15 K X f w := Eq.mp (by kernel_rfl) h
theorem F16_s11b_e (R : RT) (K : KF) (X : KX) (f : Fr) (w : World) (h : F16_W R F16_s12_c K X f w) : F16_W R F16_p16 K X f w := Eq.mp (by kernel_rfl) h
theorem F16_s11_ok (R : RT) (rec4 : V2) : OkW (F16_W R) (a10 (F16_s11 R rec4) 0 2 4 5 13 14 15 30 31 32) F16_p15 (a5 (F16_s8 R rec4) 0 2 13 14 15) (kxB 2 (a5 (F16_s8 R rec4) 0 2 13 14 15) (kxB 1 (a5 (F16_s8 R rec4) 0 2 13 14 15) (kxB 0 (a1 (F16_s3 R) 2) noX))) :=
  fun f w h => F16_s11_e R _ _ f w (loop2_ok (P := Tryz.prog) (dc := F16_dc) (kr := (F16_k R)) (pan := panK R) F16_p16 (kn := (a5 (F16_s8 R rec4) 0 2 13 14 15)) (kx := (kxB 2 (a5 (F16_s8 R rec4) 0 2 13 14 15) (kxB 1 (a5 (F16_s8 R rec4) 0 2 13 14 15) (kxB 0 (a1 (F16_s3 R) 2) noX)))) (s0 := 2) (s1 := 32) (fun rec11 v2 v32 w => F16_s12 R rec4 rec11 (f 0) v2 (f 4) (f 5) (f 13) (f 14) (f 15) (f 30) (f 31) v32 w) f (fun rec11 f' w' hf h' => F16_s11b_e R _ _ f' w' ((F16_s12_ok R rec4 rec11) f' w' (by simp only [a10, hf 0 (by kernel_rfl), hf 4 (by kernel_rfl), hf 5 (by kernel_rfl), hf 13 (by kernel_rfl), hf 14 (by kernel_rfl), hf 15 (by kernel_rfl), hf 30 (by kernel_rfl), hf 31 (by kernel_rfl)]; exact h'))) w h)
noncomputable def F16_s10_c : Code := (.seq F16_p14 .skip)
theorem F16_s10_e (R : RT) (K : KF) (X : KX) (f : Fr) (w : World) (h : F16_W R F16_p15 K (kxB 2 K X) f w) : F16_W R F16_p14 K X f w := Eq.mp (by kernel_rfl) h
theorem F16_s10_ok (R : RT) (rec4 : V2) : OkW (F16_W R) (a10 (F16_s11 R rec4) 0 2 4 5 13 14 15 30 31 32) F16_s10_c (a5 (F16_s8 R rec4) 0 2 13 14 15) (kxB 1 (a5 (F16_s8 R rec4) 0 2 13 14 15) (kxB 0 (a1 (F16_s3 R) 2) noX)) :=
  fun f w h => cut F16_p14 .skip (K := (a5 (F16_s8 R rec4) 0 2 13 14 15)) (fun f w h => skip_ok h) f w (F16_s10_e R _ _ f w ((F16_s11_ok R rec4) f w h))
def F16_s9_t (R : RT) (K : V10) (v0 v2 v13 v14 v15 : Value) (w : World) : Prop :=
  uv Tryz.prog R (Instr.indexAt 71 v13 v15) w (fun v17 w =>
  uv Tryz.prog R (Instr.loadAt 9 v17) w (fun v18 w =>
  un Tryz.prog R (nilS v0) w (fun v20 w =>
  uv Tryz.prog R (Instr.fieldAt 51 v20 0) w (fun v21 w =>
  uv Tryz.prog R (Instr.loadAt 48 v21) w (fun v22 w =>
  uv Tryz.prog R (Instr.lookup 48 v22 v18 false) w (fun v24 w =>
  un Tryz.prog R (nilS v24) w (fun v26 w =>
  uv Tryz.prog R (Instr.fieldAt 58 v26 0) w (fun v27 w =>
  uv Tryz.prog R (Instr.loadAt 55 v27) w (fun v28 w =>
  un Tryz.prog R (callFunc 47 #[v28]) w (fun v29 w =>
  un Tryz.prog R (callFunc 46 #[v29]) w (fun v30 w =>
  un Tryz.prog R (builtin .len #[35] 3 #[false] #[v30]) w (fun v31 w =>
  K v0 v2 v18 v24 v13 v14 v15 v30 v31 (.int .i64 0) w))))))))))))
theorem F16_s9_st (R : RT) (K : V10) (X : KX) (f : Fr) (w : World) (h : F16_s9_t R K (f 0) (f 2) (f 13) (f 14) (f 15) w) : F16_W R (.seq F16_p26 (.seq F16_p27 F16_p28)) (a10 K 0 2 4 5 13 14 15 30 31 32) X f w := Eq.mp (by kernel_rfl) h
def F16_s9 (R : RT) (rec4 : V2) (v0 v2 v13 v14 v15 : Value) (w : World) : Prop :=
  F16_s9_t R (F16_s11 R rec4) v0 v2 v13 v14 v15 w
noncomputable def F16_s9_c : Code := (.seq (.seq F16_p26 (.seq F16_p27 F16_p28)) F16_s10_c)
theorem F16_s9_ok (R : RT) (rec4 : V2) : OkW (F16_W R) (a5 (F16_s9 R rec4) 0 2 13 14 15) F16_s9_c (a5 (F16_s8 R rec4) 0 2 13 14 15) (kxB 1 (a5 (F16_s8 R rec4) 0 2 13 14 15) (kxB 0 (a1 (F16_s3 R) 2) noX)) :=
  fun f w h => cut (.seq F16_p26 (.seq F16_p27 F16_p28)) F16_s10_c (K := (a10 (F16_s11 R rec4) 0 2 4 5 13 14 15 30 31 32)) (F16_s10_ok R rec4) f w (F16_s9_st R (F16_s11 R rec4) _ f w h)
noncomputable def F16_s7_c : Code := (.seq F16_p10 F16_s8_c)
theorem F16_s7_e (R : RT) (K : KF) (X : KX) (f : Fr) (w : World) (h : F16_W R F16_s9_c K (kxB 1 K X) f w) : F16_W R F16_p10 K X f w := Eq.mp (by kernel_rfl) h
theorem F16_s7_ok (R : RT) (rec4 : V2) : OkW (F16_W R) (a5 (F16_s9 R rec4) 0 2 13 14 15) F16_s7_c (a2 rec4 2 15) (kxB 0 (a1 (F16_s3 R) 2) noX) :=
  fun f w h => cut F16_p10 F16_s8_c (K := (a5 (F16_s8 R rec4) 0 2 13 14 15)) (F16_s8_ok R rec4) f w (F16_s7_e R _ _ f w ((F16_s9_ok R rec4) f w h))
def F16_s6 (R : RT) (rec4 : V2) (v0 v2 v13 v14 v15 v16 : Value) (w : World) : Prop :=
  Bc v16
    (F16_s9 R rec4 v0 v2 v13 v14 v15 w)
    (F16_s3 R v2 w)
noncomputable def F16_s6_c : Code := (.seq F16_p29 F16_s7_c)
theorem F16_s6_e (R : RT) (K : KF) (X : KX) (f : Fr) (w : World) (h : Bc (f 16) (F16_W R .skip K X f w) (F16_W R (.exit 0) K X f w)) : (F16_W R F16_p29 K X f w) := Eq.mp (by kernel_rfl) h
theorem F16_s6_ok (R : RT) (rec4 : V2) : OkW (F16_W R) (a6 (F16_s6 R rec4) 0 2 13 14 15 16) F16_s6_c (a2 rec4 2 15) (kxB 0 (a1 (F16_s3 R) 2) noX) :=
  fun f w h => cut F16_p29 F16_s7_c (K := (a5 (F16_s9 R rec4) 0 2 13 14 15)) (F16_s7_ok R rec4) f w (F16_s6_e R _ _ f w (Bc_imp (x' := (F16_W R .skip (a5 (F16_s9 R rec4) 0 2 13 14 15) (kxB 0 (a1 (F16_s3 R) 2) noX) f w)) (y' := (F16_W R (.exit 0) (a5 (F16_s9 R rec4) 0 2 13 14 15) (kxB 0 (a1 (F16_s3 R) 2) noX) f w)) ((fun f w h => skip_ok h) f w) ((fun f w h => exit_hit h) f w) h))
def F16_s5_t (R : RT) (K : V6) (v0 v2 v13 v14 v15 : Value) (w : World) : Prop :=
  uv Tryz.prog R (binS .lss 3 (.tmp 15) (.tmp 14) v15 v14) w (fun v16 w =>
  K v0 v2 v13 v14 v15 v16 w)
theorem F16_s5_st (R : RT) (K : V6) (X : KX) (f : Fr) (w : World) (h : F16_s5_t R K (f 0) (f 2) (f 13) (f 14) (f 15) w) : F16_W R F16_p30 (a6 K 0 2 13 14 15 16) X f w := Eq.mp (by kernel_rfl) h
def F16_s5 (R : RT) (rec4 : V2) (v0 v2 v13 v14 v15 : Value) (w : World) : Prop :=
  F16_s5_t R (F16_s6 R rec4) v0 v2 v13 v14 v15 w
noncomputable def F16_s5_c : Code := (.seq F16_p30 F16_s6_c)
theorem F16_s5_ok (R : RT) (rec4 : V2) : OkW (F16_W R) (a5 (F16_s5 R rec4) 0 2 13 14 15) F16_s5_c (a2 rec4 2 15) (kxB 0 (a1 (F16_s3 R) 2) noX) :=
  fun f w h => cut F16_p30 F16_s6_c (K := (a6 (F16_s6 R rec4) 0 2 13 14 15 16)) (F16_s6_ok R rec4) f w (F16_s5_st R (F16_s6 R rec4) _ f w h)
def F16_s4 (R : RT) (v0 v2 v13 v14 v15 : Value) (w : World) : Prop :=
  Lp2 (fun rec4 v2 v15 w => F16_s5 R rec4 v0 v2 v13 v14 v15 w) v2 v15 w
theorem F16_s4_e (R : RT) (K : KF) (X : KX) (f : Fr) (w : World) (h : F16_W R (.loop F16_p6) K X f w) : F16_W R F16_p5 K X f w := Eq.mp (by kernel_rfl) h
theorem F16_s4b_e (R : RT) (K : KF) (X : KX) (f : Fr) (w : World) (h : F16_W R F16_s5_c K X f w) : F16_W R F16_p6 K X f w := Eq.mp (by kernel_rfl) h
theorem F16_s4_ok (R : RT) : OkW (F16_W R) (a5 (F16_s4 R) 0 2 13 14 15) F16_p5 (a1 (F16_s3 R) 2) (kxB 0 (a1 (F16_s3 R) 2) noX) :=
  fun f w h => F16_s4_e R _ _ f w (loop2_ok (P := Tryz.prog) (dc := F16_dc) (kr := (F16_k R)) (pan := panK R) F16_p6 (kn := (a1 (F16_s3 R) 2)) (kx := (kxB 0 (a1 (F16_s3 R) 2) noX)) (s0 := 2) (s1 := 15) (fun rec4 v2 v15 w => F16_s5 R rec4 (f 0) v2 (f 13) (f 14) v15 w) f (fun rec4 f' w' hf h' => F16_s4b_e R _ _ f' w' ((F16_s5_ok R rec4) f' w' (by simp only [a5, hf 0 (by kernel_rfl), hf 13 (by kernel_rfl), hf 14 (by kernel_rfl)]; exact h'))) w h)
noncomputable def F16_s2_c : Code := (.seq F16_p4 F16_s3_c)
theorem F16_s2_e (R : RT) (K : KF) (X : KX) (f : Fr) (w : World) (h : F16_W R F16_p5 K (kxB 0 K X) f w) : F16_W R F16_p4 K X f w := Eq.mp (by kernel_rfl) h
theorem F16_s2_ok (R : RT) : OkW (F16_W R) (a5 (F16_s4 R) 0 2 13 14 15) F16_s2_c (F16_k R) noX :=
  fun f w h => cut F16_p4 F16_s3_c (K := (a1 (F16_s3 R) 2)) (F16_s3_ok R) f w (F16_s2_e R _ _ f w ((F16_s4_ok R) f w h))
def F16_s1_t (R : RT) (K : V5) (v0 : Value) (w : World) : Prop :=
  un Tryz.prog R (nilS v0) w (fun v9 w =>
  uv Tryz.prog R (Instr.fieldAt 51 v9 0) w (fun v10 w =>
  uv Tryz.prog R (Instr.loadAt 48 v10) w (fun v11 w =>
  un Tryz.prog R (callFunc 31 #[v11]) w (fun v12 w =>
  un Tryz.prog R (callFunc 30 #[v12]) w (fun v13 w =>
  un Tryz.prog R (builtin .len #[71] 3 #[false] #[v13]) w (fun v14 w =>
  K v0 (.slice none 0 0) v13 v14 (.int .i64 0) w))))))
theorem F16_s1_st (R : RT) (K : V5) (X : KX) (f : Fr) (w : World) (h : F16_s1_t R K (f 0) w) : F16_W R (.seq F16_p31 F16_p32) (a5 K 0 2 13 14 15) X f w := Eq.mp (by kernel_rfl) h
def F16_s1 (R : RT) (v0 : Value) (w : World) : Prop :=
  F16_s1_t R (F16_s4 R) v0 w
noncomputable def F16_s1_c : Code := (.seq (.seq F16_p31 F16_p32) F16_s2_c)
theorem F16_s1_ok (R : RT) : OkW (F16_W R) (a1 (F16_s1 R) 0) F16_s1_c (F16_k R) noX :=
  fun f w h => cut (.seq F16_p31 F16_p32) F16_s2_c (K := (a5 (F16_s4 R) 0 2 13 14 15)) (F16_s2_ok R) f w (F16_s1_st R (F16_s4 R) _ f w h)
theorem F16_all_e (R : RT) (K : KF) (X : KX) (f : Fr) (w : World) (h : F16_W R F16_s1_c K X f w) : F16_W R F16_b K X f w := Eq.mp (by kernel_rfl) h
theorem F16_calls (R : RT) (v0 : Value) (w : World) (h : F16_s1 R v0 w) : Calls Tryz.prog 16 #[v0] w R :=
  calls_of_wpE (dc := F16_dc) (args := [v0]) hmixed Tryz.func16 (c := F16_b) rfl (rs := [.tmp 2]) rfl (by kernel_rfl) (Nat.le_of_ble_eq_true (by kernel_rfl)) (F16_all_e R _ _ _ w ((F16_s1_ok R) (initFr [v0]) w h))

/-! ### (*hasp/locks.Table).Edges -/
noncomputable def F12_b : Code := bodyOf Tryz.f12
def F12_dc : Nat → List (Nat × Bool)
  | 4 => [(0, true), (1, true), (2, true), (3, true), (4, true), (5, true), (6, true), (7, true), (8, true), (9, true)]
  | _ => []
abbrev F12_k (R : RT) := resK Tryz.prog [.tmp 2] R
abbrev F12_W (R : RT) := wpE Tryz.prog F12_dc (F12_k R) (panK R)
noncomputable def F12_p0 := cR F12_b
noncomputable def F12_p1 := cR F12_p0
noncomputable def F12_p2 := cL F12_p1
noncomputable def F12_p3 := cR F12_p1
noncomputable def F12_p4 := cL F12_p3
noncomputable def F12_p5 := cL F12_p0
noncomputable def F12_p6 := cR F12_p5
noncomputable def F12_p7 := cI F12_p6
noncomputable def F12_p8 := cI F12_p7
noncomputable def F12_p9 := cR F12_p8
noncomputable def F12_p10 := cR F12_p9
noncomputable def F12_p11 := cI F12_p10
noncomputable def F12_p12 := cR F12_p11
noncomputable def F12_p13 := cR F12_p12
noncomputable def F12_p14 := cR F12_p13
noncomputable def F12_p15 := cR F12_p14
noncomputable def F12_p16 := cR F12_p15
noncomputable def F12_p17 := cI F12_p16
noncomputable def F12_p18 := cI F12_p17
noncomputable def F12_p19 := cR F12_p18
noncomputable def F12_p20 := cR F12_p19
noncomputable def F12_p21 := cR F12_p20
noncomputable def F12_p22 := cL F12_p20
noncomputable def F12_p23 := cI F12_p22
noncomputable def F12_p24 := cL F12_p23
noncomputable def F12_p25 := cR F12_p23
noncomputable def F12_p26 := cL F12_p19
noncomputable def F12_p27 := cL F12_p18
noncomputable def F12_p28 := cL F12_p15
noncomputable def F12_p29 := cL F12_p14
noncomputable def F12_p30 := cR F12_p29
noncomputable def F12_p31 := cI F12_p30
noncomputable def F12_p32 := cI F12_p31
noncomputable def F12_p33 := cR F12_p32
noncomputable def F12_p34 := cR F12_p33
noncomputable def F12_p35 := cI F12_p34
noncomputable def F12_p36 := cR F12_p35
noncomputable def F12_p37 := cR F12_p36
noncomputable def F12_p38 := cT F12_p37
noncomputable def F12_p39 := cL F12_p35
noncomputable def F12_p40 := cL F12_p36
noncomputable def F12_p41 := cL F12_p33
noncomputable def F12_p42 := cL F12_p32
noncomputable def F12_p43 := cL F12_p11
noncomputable def F12_p44 := cL F12_p12
noncomputable def F12_p45 := cL F12_p13
noncomputable def F12_p46 := cL F12_p29
noncomputable def F12_p47 := cL F12_p9
noncomputable def F12_p48 := cL F12_p8
noncomputable def F12_p49 := cL F12_b
noncomputable def F12_p50 := cL F12_p5
def F12_s3_t (R : RT) (v2 : Value) (w : World) : Prop :=
  un Tryz.prog R (callFunc 41 #[v2, (.func (.func 42) #[] #[])]) w (fun v88 w =>
  un Tryz.prog R (callFunc 45 #[v2]) w (fun v90 w =>
  R (.returned v90) w))
theorem F12_s3_st (R : RT) (X : KX) (f : Fr) (w : World) (h : F12_s3_t R (f 2) w) : F12_W R (.seq F12_p2 F12_p4) (F12_k R) X f w := Eq.mp (by kernel_rfl) h
def F12_s3 (R : RT) (v2 : Value) (w : World) : Prop :=
  F12_s3_t R v2 w
noncomputable def F12_s3_c : Code := (.seq (.seq F12_p2 F12_p4) .ret)
theorem F12_s3_ok (R : RT) : OkW (F12_W R) (a1 (F12_s3 R) 2) F12_s3_c (F12_k R) noX :=
  fun f w h => cut (.seq F12_p2 F12_p4) .ret (K := (F12_k R)) (fun f w h => ret_ok h) f w (F12_s3_st R _ f w h)
def F12_s16_t (R : RT) (K : V2) (v0 v2 v3 v15 v73 v74 v75 : Value) (w : World) : Prop :=
  uv Tryz.prog R (binS .add 3 (.tmp 75) (.const (.int .i64 1)) v75 (.int .i64 1)) w (fun v86 w =>
  K v2 v86 w)
theorem F12_s16_st (R : RT) (K : V2) (X : KX) (f : Fr) (w : World) (h : F12_s16_t R K (f 0) (f 2) (f 3) (f 15) (f 73) (f 74) (f 75) w) : F12_W R F12_p21 (a2 K 2 75) X f w := Eq.mp (by kernel_rfl) h
def F12_s16 (R : RT) (rec4 : V1) (rec12 : V2) (v0 v2 v3 v15 v73 v74 v75 : Value) (w : World) : Prop :=
  F12_s16_t R rec12 v0 v2 v3 v15 v73 v74 v75 w
noncomputable def F12_s16_c : Code := (.seq F12_p21 .skip)
theorem F12_s16_ok (R : RT) (rec4 : V1) (rec12 : V2) : OkW (F12_W R) (a7 (F12_s16 R rec4 rec12) 0 2 3 15 73 74 75) F12_s16_c (a2 rec12 2 75) (kxB 4 ((a1 rec4 2)) (kxB 1 ((a1 rec4 2)) (kxB 0 (a1 (F12_s3 R) 2) noX))) :=
  fun f w h => cut F12_p21 .skip (K := (a2 rec12 2 75)) (fun f w h => skip_ok h) f w (F12_s16_st R rec12 _ f w h)
def F12_s17_t (R : RT) (K : V7) (v0 v2 v3 v15 v73 v74 v75 : Value) (w : World) : Prop :=
  uv Tryz.prog R (Instr.indexAt 56 v73 v75) w (fun v77 w =>
  uv Tryz.prog R (Instr.loadAt 61 v77) w (fun v78 w =>
  uv Tryz.prog R (Instr.alloc 61 true (.tuple #[])) w (fun v10 w =>
  uu Tryz.prog R (Instr.storeAt 61 v10 v78) w (fun w =>
  uv Tryz.prog R (Instr.loadAt 3 v3) w (fun v80 w =>
  uv Tryz.prog R (Instr.fieldAt 61 v10 0) w (fun v81 w =>
  uv Tryz.prog R (Instr.loadAt 3 v81) w (fun v82 w =>
  uv Tryz.prog R (Instr.build 83 #[(0, v80), (1, v82)]) w (fun v83 w =>
  uv Tryz.prog R (Instr.buildSlice 39 1 #[(0, v83)]) w (fun v84 w =>
  un Tryz.prog R (builtin .append #[39, 39] 39 #[false, false] #[v2, v84]) w (fun v85 w =>
  K v0 v85 v3 v15 v73 v74 v75 w))))))))))
theorem F12_s17_st (R : RT) (K : V7) (X : KX) (f : Fr) (w : World) (h : F12_s17_t R K (f 0) (f 2) (f 3) (f 15) (f 73) (f 74) (f 75) w) : F12_W R (.seq F12_p24 F12_p25) (a7 K 0 2 3 15 73 74 75) X f w := Eq.mp (by kernel_rfl) h
def F12_s17 (R : RT) (rec4 : V1) (rec12 : V2) (v0 v2 v3 v15 v73 v74 v75 : Value) (w : World) : Prop :=
  F12_s17_t R (F12_s16 R rec4 rec12) v0 v2 v3 v15 v73 v74 v75 w
noncomputable def F12_s17_c : Code := (.seq (.seq F12_p24 F12_p25) .skip)
theorem F12_s17_ok (R : RT) (rec4 : V1) (rec12 : V2) : OkW (F12_W R) (a7 (F12_s17 R rec4 rec12) 0 2 3 15 73 74 75) F12_s17_c (a7 (F12_s16 R rec4 rec12) 0 2 3 15 73 74 75) (kxB 5 (a7 (F12_s16 R rec4 rec12) 0 2 3 15 73 74 75) (kxB 4 ((a1 rec4 2)) (kxB 1 ((a1 rec4 2)) (kxB 0 (a1 (F12_s3 R) 2) noX)))) :=
  fun f w h => cut (.seq F12_p24 F12_p25) .skip (K := (a7 (F12_s16 R rec4 rec12) 0 2 3 15 73 74 75)) (fun f w h => skip_ok h) f w (F12_s17_st R (F12_s16 R rec4 rec12) _ f w h)
noncomputable def F12_s15_c : Code := (.seq F12_p22 F12_s16_c)
theorem F12_s15_e (R : RT) (K : KF) (X : KX) (f : Fr) (w : World) (h : F12_W R F12_s17_c K (kxB 5 K X) f w) : F12_W R F12_p22 K X f w := Eq.mp (by kernel_rfl) h
theorem F12_s15_ok (R : RT) (rec4 : V1) (rec12 : V2) : OkW (F12_W R) (a7 (F12_s17 R rec4 rec12) 0 2 3 15 73 74 75) F12_s15_c (a2 rec12 2 75) (kxB 4 ((a1 rec4 2)) (kxB 1 ((a1 rec4 2)) (kxB 0 (a1 (F12_s3 R) 2) noX))) :=
  fun f w h => cut F12_p22 F12_s16_c (K := (a7 (F12_s16 R rec4 rec12) 0 2 3 15 73 74 75)) (F12_s16_ok R rec4 rec12) f w (F12_s15_e R _ _ f w ((F12_s17_ok R rec4 rec12) f w h))
def F12_s14 (R : RT) (rec4 : V1) (rec12 : V2) (v0 v2 v3 v15 v73 v74 v75 v76 : Value) (w : World) : Prop :=
  Bc v76
    (F12_s17 R rec4 rec12 v0 v2 v3 v15 v73 v74 v75 w)
    (rec4 v2 w)
noncomputable def F12_s14_c : Code := (.seq F12_p26 F12_s15_c)
theorem F12_s14_e (R : RT) (K : KF) (X : KX) (f : Fr) (w : World) (h : Bc (f 76) (F12_W R .skip K X f w) (F12_W R (.exit 4) K X f w)) : (F12_W R F12_p26 K X f w) := Eq.mp (by kernel_rfl) h
theorem F12_s14_ok (R : RT) (rec4 : V1) (rec12 : V2) : OkW (F12_W R) (a8 (F12_s14 R rec4 rec12) 0 2 3 15 73 74 75 76) F12_s14_c (a2 rec12 2 75) (kxB 4 ((a1 rec4 2)) (kxB 1 ((a1 rec4 2)) (kxB 0 (a1 (F12_s3 R) 2) noX))) :=
  fun f w h => cut F12_p26 F12_s15_c (K := (a7 (F12_s17 R rec4 rec12) 0 2 3 15 73 74 75)) (F12_s15_ok R rec4 rec12) f w (F12_s14_e R _ _ f w (Bc_imp (x' := (F12_W R .skip (a7 (F12_s17 R rec4 rec12) 0 2 3 15 73 74 75) (kxB 4 ((a1 rec4 2)) (kxB 1 ((a1 rec4 2)) (kxB 0 (a1 (F12_s3 R) 2) noX))) f w)) (y' := (F12_W R (.exit 4) (a7 (F12_s17 R rec4 rec12) 0 2 3 15 73 74 75) (kxB 4 ((a1 rec4 2)) (kxB 1 ((a1 rec4 2)) (kxB 0 (a1 (F12_s3 R) 2) noX))) f w)) ((fun f w h => skip_ok h) f w) ((fun f w h => exit_hit h) f w) h))
def F12_s13_t (R : RT) (K : V8) (v0 v2 v3 v15 v73 v74 v75 : Value) (w : World) : Prop :=
  uv Tryz.prog R (binS .lss 3 (.tmp 75) (.tmp 74) v75 v74) w (fun v76 w =>
  K v0 v2 v3 v15 v73 v74 v75 v76 w)
theorem F12_s13_st (R : RT) (K : V8) (X : KX) (f : Fr) (w : World) (h : F12_s13_t R K (f 0) (f 2) (f 3) (f 15) (f 73) (f 74) (f 75) w) : F12_W R F12_p27 (a8 K 0 2 3 15 73 74 75 76) X f w := Eq.mp (by kernel_rfl) h
def F12_s13 (R : RT) (rec4 : V1) (rec12 : V2) (v0 v2 v3 v15 v73 v74 v75 : Value) (w : World) : Prop :=
  F12_s13_t R (F12_s14 R rec4 rec12) v0 v2 v3 v15 v73 v74 v75 w
noncomputable def F12_s13_c : Code := (.seq F12_p27 F12_s14_c)
theorem F12_s13_ok (R : RT) (rec4 : V1) (rec12 : V2) : OkW (F12_W R) (a7 (F12_s13 R rec4 rec12) 0 2 3 15 73 74 75) F12_s13_c (a2 rec12 2 75) (kxB 4 ((a1 rec4 2)) (kxB 1 ((a1 rec4 2)) (kxB 0 (a1 (F12_s3 R) 2) noX))) :=
  fun f w h => cut F12_p27 F12_s14_c (K := (a8 (F12_s14 R rec4 rec12) 0 2 3 15 73 74 75 76)) (F12_s14_ok R rec4 rec12) f w (F12_s13_st R (F12_s14 R rec4 rec12) _ f w h)
def F12_s12 (R : RT) (rec4 : V1) (v0 v2 v3 v15 v73 v74 v75 : Value) (w : World) : Prop :=
  Lp2 (fun rec12 v2 v75 w => F12_s13 R rec4 rec12 v0 v2 v3 v15 v73 v74 v75 w) v2 v75 w
theorem F12_s12_e (R : RT) (K : KF) (X : KX) (f : Fr) (w : World) (h : F12_W R (.loop F12_p18) K X f w) : F12_W R F12_p17 K X f w := Eq.mp (by kernel_rfl) h
theorem F12_s12b_e (R : RT) (K : KF) (X : KX) (f : Fr) (w : World) (h : F12_W R F12_s13_c K X f w) : F12_W R F12_p18 K X f w := Eq.mp (by kernel_rfl) h
theorem F12_s12_ok (R : RT) (rec4 : V1) : OkW (F12_W R) (a7 (F12_s12 R rec4) 0 2 3 15 73 74 75) F12_p17 (a1 rec4 2) (kxB 4 ((a1 rec4 2)) (kxB 1 ((a1 rec4 2)) (kxB 0 (a1 (F12_s3 R) 2) noX))) :=
  fun f w h => F12_s12_e R _ _ f w (loop2_ok (P := Tryz.prog) (dc := F12_dc) (kr := (F12_k R)) (pan := panK R) F12_p18 (kn := (a1 rec4 2)) (kx := (kxB 4 ((a1 rec4 2)) (kxB 1 ((a1 rec4 2)) (kxB 0 (a1 (F12_s3 R) 2) noX)))) (s0 := 2) (s1 := 75) (fun rec12 v2 v75 w => F12_s13 R rec4 rec12 (f 0) v2 (f 3) (f 15) (f 73) (f 74) v75 w) f (fun rec12 f' w' hf h' => F12_s12b_e R _ _ f' w' ((F12_s13_ok R rec4 rec12) f' w' (by simp only [a7, hf 0 (by kernel_rfl), hf 3 (by kernel_rfl), hf 15 (by kernel_rfl), hf 73 (by kernel_rfl), hf 74 (by kernel_rfl)]; exact h'))) w h)
noncomputable def F12_s11_c : Code := (.seq F12_p16 .skip)
theorem F12_s11_e (R : RT) (K : KF) (X : KX) (f : Fr) (w : World) (h : F12_W R F12_p17 K (kxB 4 K X) f w) : F12_W R F12_p16 K X f w := Eq.mp (by kernel_rfl) h
theorem F12_s11_ok (R : RT) (rec4 : V1) : OkW (F12_W R) (a7 (F12_s12 R rec4) 0 2 3 15 73 74 75) F12_s11_c (a1 rec4 2) (kxB 1 ((a1 rec4 2)) (kxB 0 (a1 (F12_s3 R) 2) noX)) :=
  fun f w h => cut F12_p16 .skip (K := (a1 rec4 2)) (fun f w h => skip_ok h) f w (F12_s11_e R _ _ f w ((F12_s12_ok R rec4) f w h))
def F12_s10_t (R : RT) (K : V7) (v0 v2 v3 v5 v6 v15 : Value) (w : World) : Prop :=
  un Tryz.prog R (nilS v5) w (fun v69 w =>
  uv Tryz.prog R (Instr.fieldAt 58 v69 1) w (fun v70 w =>
  uv Tryz.prog R (Instr.loadAt 56 v70) w (fun v71 w =>
  uv Tryz.prog R (Instr.sliceAt 56 v71 none (some v6) none) w (fun v73 w =>
  un Tryz.prog R (builtin .len #[56] 3 #[false] #[v73]) w (fun v74 w =>
  K v0 v2 v3 v15 v73 v74 (.int .i64 0) w)))))
theorem F12_s10_st (R : RT) (K : V7) (X : KX) (f : Fr) (w : World) (h : F12_s10_t R K (f 0) (f 2) (f 3) (f 5) (f 6) (f 15) w) : F12_W R F12_p28 (a7 K 0 2 3 15 73 74 75) X f w := Eq.mp (by kernel_rfl) h
def F12_s10 (R : RT) (rec4 : V1) (v0 v2 v3 v5 v6 v15 : Value) (w : World) : Prop :=
  F12_s10_t R (F12_s12 R rec4) v0 v2 v3 v5 v6 v15 w
noncomputable def F12_s10_c : Code := (.seq F12_p28 F12_s11_c)
theorem F12_s10_ok (R : RT) (rec4 : V1) : OkW (F12_W R) (a6 (F12_s10 R rec4) 0 2 3 5 6 15) F12_s10_c (a1 rec4 2) (kxB 1 ((a1 rec4 2)) (kxB 0 (a1 (F12_s3 R) 2) noX)) :=
  fun f w h => cut F12_p28 F12_s11_c (K := (a7 (F12_s12 R rec4) 0 2 3 15 73 74 75)) (F12_s11_ok R rec4) f w (F12_s10_st R (F12_s12 R rec4) _ f w h)
def F12_s24_t (R : RT) (K : V1) (v0 v2 v3 v5 v6 v7 v15 v40 : Value) (w : World) : Prop :=
  uv Tryz.prog R (Instr.loadAt 3 v3) w (fun v63 w =>
  uv Tryz.prog R (Instr.build 83 #[(0, v63), (1, v7)]) w (fun v65 w =>
  uv Tryz.prog R (Instr.buildSlice 39 1 #[(0, v65)]) w (fun v66 w =>
  un Tryz.prog R (builtin .append #[39, 39] 39 #[false, false] #[v2, v66]) w (fun v67 w =>
  K v67 w))))
theorem F12_s24_st (R : RT) (K : V1) (X : KX) (f : Fr) (w : World) (h : F12_s24_t R K (f 0) (f 2) (f 3) (f 5) (f 6) (f 7) (f 15) (f 40) w) : F12_W R F12_p38 (a1 K 2) X f w := Eq.mp (by kernel_rfl) h
def F12_s24 (R : RT) (rec4 : V1) (rec18 : V1) (v0 v2 v3 v5 v6 v7 v15 v40 : Value) (w : World) : Prop :=
  F12_s24_t R rec18 v0 v2 v3 v5 v6 v7 v15 v40 w
noncomputable def F12_s24_c : Code := (.seq F12_p38 .skip)
theorem F12_s24_ok (R : RT) (rec4 : V1) (rec18 : V1) : OkW (F12_W R) (a8 (F12_s24 R rec4 rec18) 0 2 3 5 6 7 15 40) F12_s24_c (a1 rec18 2) (kxB 3 ((a1 rec18 2)) (kxB 2 (a6 (F12_s10 R rec4) 0 2 3 5 6 15) (kxB 1 ((a1 rec4 2)) (kxB 0 (a1 (F12_s3 R) 2) noX)))) :=
  fun f w h => cut F12_p38 .skip (K := (a1 rec18 2)) (fun f w h => skip_ok h) f w (F12_s24_st R rec18 _ f w h)
def F12_s23 (R : RT) (rec4 : V1) (rec18 : V1) (v0 v2 v3 v5 v6 v7 v15 v40 v61 : Value) (w : World) : Prop :=
  Bc v61
    (F12_s24 R rec4 rec18 v0 v2 v3 v5 v6 v7 v15 v40 w)
    (rec18 v2 w)
noncomputable def F12_s23_c : Code := (.seq F12_p37 .skip)
theorem F12_s23_e (R : RT) (K : KF) (X : KX) (f : Fr) (w : World) (h : Bc (f 61) (F12_W R F12_s24_c K X f w) (F12_W R .skip K X f w)) : (F12_W R F12_p37 K X f w) := Eq.mp (by kernel_rfl) h
theorem F12_s23_ok (R : RT) (rec4 : V1) (rec18 : V1) : OkW (F12_W R) (a9 (F12_s23 R rec4 rec18) 0 2 3 5 6 7 15 40 61) F12_s23_c (a1 rec18 2) (kxB 3 ((a1 rec18 2)) (kxB 2 (a6 (F12_s10 R rec4) 0 2 3 5 6 15) (kxB 1 ((a1 rec4 2)) (kxB 0 (a1 (F12_s3 R) 2) noX)))) :=
  fun f w h => cut F12_p37 .skip (K := (a1 rec18 2)) (fun f w h => skip_ok h) f w (F12_s23_e R _ _ f w (Bc_imp (x' := (F12_W R F12_s24_c (a1 rec18 2) (kxB 3 ((a1 rec18 2)) (kxB 2 (a6 (F12_s10 R rec4) 0 2 3 5 6 15) (kxB 1 ((a1 rec4 2)) (kxB 0 (a1 (F12_s3 R) 2) noX)))) f w)) (y' := (F12_W R .skip (a1 rec18 2) (kxB 3 ((a1 rec18 2)) (kxB 2 (a6 (F12_s10 R rec4) 0 2 3 5 6 15) (kxB 1 ((a1 rec4 2)) (kxB 0 (a1 (F12_s3 R) 2) noX)))) f w)) ((F12_s24_ok R rec4 rec18) f w) ((fun f w h => skip_ok h) f w) h))
def F12_s22_t (R : RT) (K : V9) (v0 v2 v3 v5 v6 v15 v40 : Value) (w : World) : Prop :=
  uv Tryz.prog R (Instr.entry v40) w (fun v43 w =>
  uv Tryz.prog R (Instr.extract v43 0) w (fun v44 w =>
  uv Tryz.prog R (Instr.extract v43 1) w (fun v45 w =>
  uv Tryz.prog R (Instr.loadAt 3 v3) w (fun v47 w =>
  uv Tryz.prog R (binS .neq 3 (.tmp 46) (.tmp 47) v44 v47) w (fun v48 w =>
  Gk v48 true (fun k => k v45 w) w (fun v50 w =>
  Gk v48 true (fun k => k v5 w) w (fun v51 w =>
  Gk v48 true (fun k => un Tryz.prog R (nilS v51) w k) w (fun v52 w =>
  Gk v48 true (fun k => uv Tryz.prog R (Instr.fieldAt 58 v52 1) w k) w (fun v53 w =>
  Gk v48 true (fun k => uv Tryz.prog R (Instr.loadAt 56 v53) w k) w (fun v54 w =>
  Gk v48 true (fun k => k v6 w) w (fun v55 w =>
  Gk v48 true (fun k => uv Tryz.prog R (Instr.indexAt 56 v54 v55) w k) w (fun v56 w =>
  Gk v48 true (fun k => uv Tryz.prog R (Instr.fieldAt 61 v56 1) w k) w (fun v57 w =>
  Gk v48 true (fun k => uv Tryz.prog R (Instr.loadAt 3 v57) w k) w (fun v58 w =>
  Gk v48 true (fun k => un Tryz.prog R (callFunc 40 #[v50, v58]) w k) w (fun v59 w =>
  Gk v48 true (fun k => uv Tryz.prog R (Op.unary .not v59) w k) w (fun v60 w =>
  uv Tryz.prog R (pickS v48 v60 (.bool false)) w (fun v61 w =>
  K v0 v2 v3 v5 v6 v44 v15 v40 v61 w)))))))))))))))))
theorem F12_s22_st (R : RT) (K : V9) (X : KX) (f : Fr) (w : World) (h : F12_s22_t R K (f 0) (f 2) (f 3) (f 5) (f 6) (f 15) (f 40) w) : F12_W R (.seq F12_p39 F12_p40) (a9 K 0 2 3 5 6 7 15 40 61) X f w := Eq.mp (by kernel_rfl) h
def F12_s22 (R : RT) (rec4 : V1) (rec18 : V1) (v0 v2 v3 v5 v6 v15 v40 : Value) (w : World) : Prop :=
  F12_s22_t R (F12_s23 R rec4 rec18) v0 v2 v3 v5 v6 v15 v40 w
noncomputable def F12_s22_c : Code := (.seq (.seq F12_p39 F12_p40) F12_s23_c)
theorem F12_s22_ok (R : RT) (rec4 : V1) (rec18 : V1) : OkW (F12_W R) (a7 (F12_s22 R rec4 rec18) 0 2 3 5 6 15 40) F12_s22_c (a1 rec18 2) (kxB 3 ((a1 rec18 2)) (kxB 2 (a6 (F12_s10 R rec4) 0 2 3 5 6 15) (kxB 1 ((a1 rec4 2)) (kxB 0 (a1 (F12_s3 R) 2) noX)))) :=
  fun f w h => cut (.seq F12_p39 F12_p40) F12_s23_c (K := (a9 (F12_s23 R rec4 rec18) 0 2 3 5 6 7 15 40 61)) (F12_s23_ok R rec4 rec18) f w (F12_s22_st R (F12_s23 R rec4 rec18) _ f w h)
noncomputable def F12_s21_c : Code := (.seq F12_p34 .skip)
theorem F12_s21_e (R : RT) (K : KF) (X : KX) (f : Fr) (w : World) (h : F12_W R F12_s22_c K (kxB 3 K X) f w) : F12_W R F12_p34 K X f w := Eq.mp (by kernel_rfl) h
theorem F12_s21_ok (R : RT) (rec4 : V1) (rec18 : V1) : OkW (F12_W R) (a7 (F12_s22 R rec4 rec18) 0 2 3 5 6 15 40) F12_s21_c (a1 rec18 2) (kxB 2 (a6 (F12_s10 R rec4) 0 2 3 5 6 15) (kxB 1 ((a1 rec4 2)) (kxB 0 (a1 (F12_s3 R) 2) noX))) :=
  fun f w h => cut F12_p34 .skip (K := (a1 rec18 2)) (fun f w h => skip_ok h) f w (F12_s21_e R _ _ f w ((F12_s22_ok R rec4 rec18) f w h))
def F12_s20 (R : RT) (rec4 : V1) (rec18 : V1) (v0 v2 v3 v5 v6 v15 v40 v42 : Value) (w : World) : Prop :=
  Bc v42
    (F12_s22 R rec4 rec18 v0 v2 v3 v5 v6 v15 v40 w)
    (F12_s10 R rec4 v0 v2 v3 v5 v6 v15 w)
noncomputable def F12_s20_c : Code := (.seq F12_p41 F12_s21_c)
theorem F12_s20_e (R : RT) (K : KF) (X : KX) (f : Fr) (w : World) (h : Bc (f 42) (F12_W R .skip K X f w) (F12_W R (.exit 2) K X f w)) : (F12_W R F12_p41 K X f w) := Eq.mp (by kernel_rfl) h
theorem F12_s20_ok (R : RT) (rec4 : V1) (rec18 : V1) : OkW (F12_W R) (a8 (F12_s20 R rec4 rec18) 0 2 3 5 6 15 40 42) F12_s20_c (a1 rec18 2) (kxB 2 (a6 (F12_s10 R rec4) 0 2 3 5 6 15) (kxB 1 ((a1 rec4 2)) (kxB 0 (a1 (F12_s3 R) 2) noX))) :=
  fun f w h => cut F12_p41 F12_s21_c (K := (a7 (F12_s22 R rec4 rec18) 0 2 3 5 6 15 40)) (F12_s21_ok R rec4 rec18) f w (F12_s20_e R _ _ f w (Bc_imp (x' := (F12_W R .skip (a7 (F12_s22 R rec4 rec18) 0 2 3 5 6 15 40) (kxB 2 (a6 (F12_s10 R rec4) 0 2 3 5 6 15) (kxB 1 ((a1 rec4 2)) (kxB 0 (a1 (F12_s3 R) 2) noX))) f w)) (y' := (F12_W R (.exit 2) (a7 (F12_s22 R rec4 rec18) 0 2 3 5 6 15 40) (kxB 2 (a6 (F12_s10 R rec4) 0 2 3 5 6 15) (kxB 1 ((a1 rec4 2)) (kxB 0 (a1 (F12_s3 R) 2) noX))) f w)) ((fun f w h => skip_ok h) f w) ((fun f w h => exit_hit h) f w) h))
def F12_s19_t (R : RT) (K : V8) (v0 v2 v3 v5 v6 v15 v40 : Value) (w : World) : Prop :=
  uv Tryz.prog R (Instr.next v40 false 0) w (fun v41 w =>
  uv Tryz.prog R (Instr.extract v41 0) w (fun v42 w =>
  K v0 v2 v3 v5 v6 v15 v40 v42 w))
theorem F12_s19_st (R : RT) (K : V8) (X : KX) (f : Fr) (w : World) (h : F12_s19_t R K (f 0) (f 2) (f 3) (f 5) (f 6) (f 15) (f 40) w) : F12_W R F12_p42 (a8 K 0 2 3 5 6 15 40 42) X f w := Eq.mp (by kernel_rfl) h
def F12_s19 (R : RT) (rec4 : V1) (rec18 : V1) (v0 v2 v3 v5 v6 v15 v40 : Value) (w : World) : Prop :=
  F12_s19_t R (F12_s20 R rec4 rec18) v0 v2 v3 v5 v6 v15 v40 w
noncomputable def F12_s19_c : Code := (.seq F12_p42 F12_s20_c)
theorem F12_s19_ok (R : RT) (rec4 : V1) (rec18 : V1) : OkW (F12_W R) (a7 (F12_s19 R rec4 rec18) 0 2 3 5 6 15 40) F12_s19_c (a1 rec18 2) (kxB 2 (a6 (F12_s10 R rec4) 0 2 3 5 6 15) (kxB 1 ((a1 rec4 2)) (kxB 0 (a1 (F12_s3 R) 2) noX))) :=
  fun f w h => cut F12_p42 F12_s20_c (K := (a8 (F12_s20 R rec4 rec18) 0 2 3 5 6 15 40 42)) (F12_s20_ok R rec4 rec18) f w (F12_s19_st R (F12_s20 R rec4 rec18) _ f w h)
def F12_s18 (R : RT) (rec4 : V1) (v0 v2 v3 v5 v6 v15 v40 : Value) (w : World) : Prop :=
  Lp1 (fun rec18 v2 w => F12_s19 R rec4 rec18 v0 v2 v3 v5 v6 v15 v40 w) v2 w
theorem F12_s18_e (R : RT) (K : KF) (X : KX) (f : Fr) (w : World) (h : F12_W R (.loop F12_p32) K X f w) : F12_W R F12_p31 K X f w := Eq.mp (by kernel_rfl) h
theorem F12_s18b_e (R : RT) (K : KF) (X : KX) (f : Fr) (w : World) (h : F12_W R F12_s19_c K X f w) : F12_W R F12_p32 K X f w := Eq.mp (by kernel_rfl) h
theorem F12_s18_ok (R : RT) (rec4 : V1) : OkW (F12_W R) (a7 (F12_s18 R rec4) 0 2 3 5 6 15 40) F12_p31 (a6 (F12_s10 R rec4) 0 2 3 5 6 15) (kxB 2 (a6 (F12_s10 R rec4) 0 2 3 5 6 15) (kxB 1 ((a1 rec4 2)) (kxB 0 (a1 (F12_s3 R) 2) noX))) :=
  fun f w h => F12_s18_e R _ _ f w (loop1_ok (P := Tryz.prog) (dc := F12_dc) (kr := (F12_k R)) (pan := panK R) F12_p32 (kn := (a6 (F12_s10 R rec4) 0 2 3 5 6 15)) (kx := (kxB 2 (a6 (F12_s10 R rec4) 0 2 3 5 6 15) (kxB 1 ((a1 rec4 2)) (kxB 0 (a1 (F12_s3 R) 2) noX)))) (s0 := 2) (fun rec18 v2 w => F12_s19 R rec4 rec18 (f 0) v2 (f 3) (f 5) (f 6) (f 15) (f 40) w) f (fun rec18 f' w' hf h' => F12_s18b_e R _ _ f' w' ((F12_s19_ok R rec4 rec18) f' w' (by simp only [a7, hf 0 (by kernel_rfl), hf 3 (by kernel_rfl), hf 5 (by kernel_rfl), hf 6 (by kernel_rfl), hf 15 (by kernel_rfl), hf 40 (by kernel_rfl)]; exact h'))) w h)
noncomputable def F12_s9_c : Code := (.seq F12_p30 F12_s10_c)
theorem F12_s9_e (R : RT) (K : KF) (X : KX) (f : Fr) (w : World) (h : F12_W R F12_p31 K (kxB 2 K X) f w) : F12_W R F12_p30 K X f w := Eq.mp (by kernel_rfl) h
theorem F12_s9_ok (R : RT) (rec4 : V1) : OkW (F12_W R) (a7 (F12_s18 R rec4) 0 2 3 5 6 15 40) F12_s9_c (a1 rec4 2) (kxB 1 ((a1 rec4 2)) (kxB 0 (a1 (F12_s3 R) 2) noX)) :=
  fun f w h => cut F12_p30 F12_s10_c (K := (a6 (F12_s10 R rec4) 0 2 3 5 6 15)) (F12_s10_ok R rec4) f w (F12_s9_e R _ _ f w ((F12_s18_ok R rec4) f w h))
def F12_s8_t (R : RT) (K : V7) (v0 v2 v15 : Value) (w : World) : Prop :=
  uv Tryz.prog R (Instr.entry v15) w (fun v18 w =>
  uv Tryz.prog R (Instr.extract v18 0) w (fun v19 w =>
  uv Tryz.prog R (Instr.extract v18 1) w (fun v20 w =>
  uv Tryz.prog R (Instr.alloc 3 true (.tuple #[])) w (fun v3 w =>
  uu Tryz.prog R (Instr.storeAt 3 v3 v19) w (fun w =>
  Dr (fun S w =>
  HN Tryz.prog (fun _ => True) (nilS v0) (fun v22 =>
  HV Tryz.prog (fun _ => True) (Instr.fieldAt 51 v22 0) (fun v23 =>
  HV Tryz.prog S (Instr.loadAt 48 v23) (fun v24 =>
  HN Tryz.prog (fun _ => True) (nilS v20) (fun v26 =>
  HV Tryz.prog (fun _ => True) (Instr.fieldAt 66 v26 0) (fun v27 =>
  HV Tryz.prog S (Instr.loadAt 9 v27) (fun v28 =>
  HV Tryz.prog S (Instr.lookup 48 v24 v28 false) (fun v29 =>
  un Tryz.prog R (nilS v29) w (fun v31 w =>
  uv Tryz.prog R (Instr.fieldAt 58 v31 1) w (fun v32 w =>
  uv Tryz.prog R (Instr.loadAt 56 v32) w (fun v33 w =>
  uv Tryz.prog R (Instr.makeFunc (Go.Fn.func 39) #[] #[v3]) w (fun v34 w =>
  un Tryz.prog R (callFunc 20 #[v33, v34]) w (fun v35 w =>
  un Tryz.prog R (nilS v29) w (fun v37 w =>
  uv Tryz.prog R (Instr.fieldAt 58 v37 0) w (fun v38 w =>
  uv Tryz.prog R (Instr.loadAt 55 v38) w (fun v39 w =>
  uv Tryz.prog R (Instr.range 55 v39) w (fun v40 w =>
  K v0 v2 v3 v29 v35 v15 v40 w))))))))))))))))) w)))))
theorem F12_s8_st (R : RT) (K : V7) (X : KX) (f : Fr) (w : World) (h : F12_s8_t R K (f 0) (f 2) (f 15) w) : F12_W R (.seq F12_p43 (.seq F12_p44 (.seq F12_p45 F12_p46))) (a7 K 0 2 3 5 6 15 40) X f w := Eq.mp (by kernel_rfl) h
def F12_s8 (R : RT) (rec4 : V1) (v0 v2 v15 : Value) (w : World) : Prop :=
  F12_s8_t R (F12_s18 R rec4) v0 v2 v15 w
noncomputable def F12_s8_c : Code := (.seq (.seq F12_p43 (.seq F12_p44 (.seq F12_p45 F12_p46))) F12_s9_c)
theorem F12_s8_ok (R : RT) (rec4 : V1) : OkW (F12_W R) (a3 (F12_s8 R rec4) 0 2 15) F12_s8_c (a1 rec4 2) (kxB 1 ((a1 rec4 2)) (kxB 0 (a1 (F12_s3 R) 2) noX)) :=
  fun f w h => cut (.seq F12_p43 (.seq F12_p44 (.seq F12_p45 F12_p46))) F12_s9_c (K := (a7 (F12_s18 R rec4) 0 2 3 5 6 15 40)) (F12_s9_ok R rec4) f w (F12_s8_st R (F12_s18 R rec4) _ f w h)
noncomputable def F12_s7_c : Code := (.seq F12_p10 .skip)
theorem F12_s7_e (R : RT) (K : KF) (X : KX) (f : Fr) (w : World) (h : F12_W R F12_s8_c K (kxB 1 K X) f w) : F12_W R F12_p10 K X f w := Eq.mp (by kernel_rfl) h
theorem F12_s7_ok (R : RT) (rec4 : V1) : OkW (F12_W R) (a3 (F12_s8 R rec4) 0 2 15) F12_s7_c (a1 rec4 2) (kxB 0 (a1 (F12_s3 R) 2) noX) :=
  fun f w h => cut F12_p10 .skip (K := (a1 rec4 2)) (fun f w h => skip_ok h) f w (F12_s7_e R _ _ f w ((F12_s8_ok R rec4) f w h))
def F12_s6 (R : RT) (rec4 : V1) (v0 v2 v15 v17 : Value) (w : World) : Prop :=
  Bc v17
    (F12_s8 R rec4 v0 v2 v15 w)
    (F12_s3 R v2 w)
noncomputable def F12_s6_c : Code := (.seq F12_p47 F12_s7_c)
theorem F12_s6_e (R : RT) (K : KF) (X : KX) (f : Fr) (w : World) (h : Bc (f 17) (F12_W R .skip K X f w) (F12_W R (.exit 0) K X f w)) : (F12_W R F12_p47 K X f w) := Eq.mp (by kernel_rfl) h
theorem F12_s6_ok (R : RT) (rec4 : V1) : OkW (F12_W R) (a4 (F12_s6 R rec4) 0 2 15 17) F12_s6_c (a1 rec4 2) (kxB 0 (a1 (F12_s3 R) 2) noX) :=
  fun f w h => cut F12_p47 F12_s7_c (K := (a3 (F12_s8 R rec4) 0 2 15)) (F12_s7_ok R rec4) f w (F12_s6_e R _ _ f w (Bc_imp (x' := (F12_W R .skip (a3 (F12_s8 R rec4) 0 2 15) (kxB 0 (a1 (F12_s3 R) 2) noX) f w)) (y' := (F12_W R (.exit 0) (a3 (F12_s8 R rec4) 0 2 15) (kxB 0 (a1 (F12_s3 R) 2) noX) f w)) ((fun f w h => skip_ok h) f w) ((fun f w h => exit_hit h) f w) h))
def F12_s5_t (R : RT) (K : V4) (v0 v2 v15 : Value) (w : World) : Prop :=
  uv Tryz.prog R (Instr.next v15 false 0) w (fun v16 w =>
  uv Tryz.prog R (Instr.extract v16 0) w (fun v17 w =>
  K v0 v2 v15 v17 w))
theorem F12_s5_st (R : RT) (K : V4) (X : KX) (f : Fr) (w : World) (h : F12_s5_t R K (f 0) (f 2) (f 15) w) : F12_W R F12_p48 (a4 K 0 2 15 17) X f w := Eq.mp (by kernel_rfl) h
def F12_s5 (R : RT) (rec4 : V1) (v0 v2 v15 : Value) (w : World) : Prop :=
  F12_s5_t R (F12_s6 R rec4) v0 v2 v15 w
noncomputable def F12_s5_c : Code := (.seq F12_p48 F12_s6_c)
theorem F12_s5_ok (R : RT) (rec4 : V1) : OkW (F12_W R) (a3 (F12_s5 R rec4) 0 2 15) F12_s5_c (a1 rec4 2) (kxB 0 (a1 (F12_s3 R) 2) noX) :=
  fun f w h => cut F12_p48 F12_s6_c (K := (a4 (F12_s6 R rec4) 0 2 15 17)) (F12_s6_ok R rec4) f w (F12_s5_st R (F12_s6 R rec4) _ f w h)
def F12_s4 (R : RT) (v0 v2 v15 : Value) (w : World) : Prop :=
  Lp1 (fun rec4 v2 w => F12_s5 R rec4 v0 v2 v15 w) v2 w
theorem F12_s4_e (R : RT) (K : KF) (X : KX) (f : Fr) (w : World) (h : F12_W R (.loop F12_p8) K X f w) : F12_W R F12_p7 K X f w := Eq.mp (by kernel_rfl) h
theorem F12_s4b_e (R : RT) (K : KF) (X : KX) (f : Fr) (w : World) (h : F12_W R F12_s5_c K X f w) : F12_W R F12_p8 K X f w := Eq.mp (by kernel_rfl) h
theorem F12_s4_ok (R : RT) : OkW (F12_W R) (a3 (F12_s4 R) 0 2 15) F12_p7 (a1 (F12_s3 R) 2) (kxB 0 (a1 (F12_s3 R) 2) noX) :=
  fun f w h => F12_s4_e R _ _ f w (loop1_ok (P := Tryz.prog) (dc := F12_dc) (kr := (F12_k R)) (pan := panK R) F12_p8 (kn := (a1 (F12_s3 R) 2)) (kx := (kxB 0 (a1 (F12_s3 R) 2) noX)) (s0 := 2) (fun rec4 v2 w => F12_s5 R rec4 (f 0) v2 (f 15) w) f (fun rec4 f' w' hf h' => F12_s4b_e R _ _ f' w' ((F12_s5_ok R rec4) f' w' (by simp only [a3, hf 0 (by kernel_rfl), hf 15 (by kernel_rfl)]; exact h'))) w h)
noncomputable def F12_s2_c : Code := (.seq F12_p6 F12_s3_c)
theorem F12_s2_e (R : RT) (K : KF) (X : KX) (f : Fr) (w : World) (h : F12_W R F12_p7 K (kxB 0 K X) f w) : F12_W R F12_p6 K X f w := Eq.mp (by kernel_rfl) h
theorem F12_s2_ok (R : RT) : OkW (F12_W R) (a3 (F12_s4 R) 0 2 15) F12_s2_c (F12_k R) noX :=
  fun f w h => cut F12_p6 F12_s3_c (K := (a1 (F12_s3 R) 2)) (F12_s3_ok R) f w (F12_s2_e R _ _ f w ((F12_s4_ok R) f w h))
def F12_s1_t (R : RT) (K : V3) (v0 : Value) (w : World) : Prop :=
  un Tryz.prog R (nilS v0) w (fun v12 w =>
  uv Tryz.prog R (Instr.fieldAt 51 v12 1) w (fun v13 w =>
  uv Tryz.prog R (Instr.loadAt 49 v13) w (fun v14 w =>
  uv Tryz.prog R (Instr.range 49 v14) w (fun v15 w =>
  K v0 (.slice none 0 0) v15 w))))
theorem F12_s1_st (R : RT) (K : V3) (X : KX) (f : Fr) (w : World) (h : F12_s1_t R K (f 0) w) : F12_W R (.seq F12_p49 F12_p50) (a3 K 0 2 15) X f w := Eq.mp (by kernel_rfl) h
def F12_s1 (R : RT) (v0 : Value) (w : World) : Prop :=
  F12_s1_t R (F12_s4 R) v0 w
noncomputable def F12_s1_c : Code := (.seq (.seq F12_p49 F12_p50) F12_s2_c)
theorem F12_s1_ok (R : RT) : OkW (F12_W R) (a1 (F12_s1 R) 0) F12_s1_c (F12_k R) noX :=
  fun f w h => cut (.seq F12_p49 F12_p50) F12_s2_c (K := (a3 (F12_s4 R) 0 2 15)) (F12_s2_ok R) f w (F12_s1_st R (F12_s4 R) _ f w h)
theorem F12_all_e (R : RT) (K : KF) (X : KX) (f : Fr) (w : World) (h : F12_W R F12_s1_c K X f w) : F12_W R F12_b K X f w := Eq.mp (by kernel_rfl) h
theorem F12_calls (R : RT) (v0 : Value) (w : World) (h : F12_s1 R v0 w) : Calls Tryz.prog 12 #[v0] w R :=
  calls_of_wpE (dc := F12_dc) (args := [v0]) hmixed Tryz.func12 (c := F12_b) rfl (rs := [.tmp 2]) rfl (by kernel_rfl) (Nat.le_of_ble_eq_true (by kernel_rfl)) (F12_all_e R _ _ _ w ((F12_s1_ok R) (initFr [v0]) w h))

/-! ### (*hasp/locks.Table).Edges$1 -/
noncomputable def F39_b : Code := bodyOf Tryz.f39
def F39_dc : Nat → List (Nat × Bool)
  | _ => []
abbrev F39_k (R : RT) := resK Tryz.prog [.tmp 3] R
abbrev F39_W (R : RT) := wpE Tryz.prog F39_dc (F39_k R) (panK R)
noncomputable def F39_p0 := cL F39_b
noncomputable def F39_p1 := cR F39_b
noncomputable def F39_p2 := cL F39_p1
def F39_s1_t (R : RT) (v0 v1 : Value) (w : World) : Prop :=
  uv Tryz.prog R (Instr.box 61 v0) w (fun v2 w =>
  uv Tryz.prog R (Instr.fieldAt 61 v2 0) w (fun v4 w =>
  uv Tryz.prog R (Instr.loadAt 3 v4) w (fun v5 w =>
  uv Tryz.prog R (Instr.loadAt 3 v1) w (fun v6 w =>
  uv Tryz.prog R (binS .eql 3 (.tmp 5) (.tmp 6) v5 v6) w (fun v7 w =>
  R (.returned v7) w)))))
theorem F39_s1_st (R : RT) (X : KX) (f : Fr) (w : World) (h : F39_s1_t R (f 0) (f 1) w) : F39_W R (.seq F39_p0 F39_p2) (F39_k R) X f w := Eq.mp (by kernel_rfl) h
def F39_s1 (R : RT) (v0 v1 : Value) (w : World) : Prop :=
  F39_s1_t R v0 v1 w
noncomputable def F39_s1_c : Code := (.seq (.seq F39_p0 F39_p2) .ret)
theorem F39_s1_ok (R : RT) : OkW (F39_W R) (a2 (F39_s1 R) 0 1) F39_s1_c (F39_k R) noX :=
  fun f w h => cut (.seq F39_p0 F39_p2) .ret (K := (F39_k R)) (fun f w h => ret_ok h) f w (F39_s1_st R _ f w h)
theorem F39_all_e (R : RT) (K : KF) (X : KX) (f : Fr) (w : World) (h : F39_W R F39_s1_c K X f w) : F39_W R F39_b K X f w := Eq.mp (by kernel_rfl) h
theorem F39_calls (R : RT) (v0 v1 : Value) (w : World) (h : F39_s1 R v0 v1 w) : Calls Tryz.prog 39 #[v0, v1] w R :=
  calls_of_wpE (dc := F39_dc) (args := [v0, v1]) hmixed Tryz.func39 (c := F39_b) rfl (rs := [.tmp 3]) rfl (by kernel_rfl) (Nat.le_of_ble_eq_true (by kernel_rfl)) (F39_all_e R _ _ _ w ((F39_s1_ok R) (initFr [v0, v1]) w h))

/-! ### (*hasp/locks.Table).Edges$2 -/
noncomputable def F42_b : Code := bodyOf Tryz.f42
def F42_dc : Nat → List (Nat × Bool)
  | 1 => [(0, true), (1, true), (2, true), (3, true), (5, true), (6, true), (7, true), (8, true), (4, false), (9, false), (10, false), (11, false), (12, true)]
  | _ => []
abbrev F42_k (R : RT) := resK Tryz.prog [.tmp 4] R
abbrev F42_W (R : RT) := wpE Tryz.prog F42_dc (F42_k R) (panK R)
noncomputable def F42_p0 := cL F42_b
noncomputable def F42_p1 := cR F42_b
noncomputable def F42_p2 := cL F42_p1
def F42_s1_t (R : RT) (v0 v1 : Value) (w : World) : Prop :=
  uv Tryz.prog R (Instr.box 83 v0) w (fun v2 w =>
  uv Tryz.prog R (Instr.box 83 v1) w (fun v3 w =>
  Dr (fun S w =>
  HV Tryz.prog (fun _ => True) (Instr.fieldAt 83 v2 0) (fun v5 =>
  HV Tryz.prog S (Instr.loadAt 3 v5) (fun v6 =>
  HV Tryz.prog (fun _ => True) (Instr.fieldAt 83 v3 0) (fun v7 =>
  HV Tryz.prog S (Instr.loadAt 3 v7) (fun v8 =>
  HV Tryz.prog (fun _ => True) (Instr.fieldAt 83 v2 1) (fun v10 =>
  HV Tryz.prog S (Instr.loadAt 3 v10) (fun v11 =>
  HV Tryz.prog (fun _ => True) (Instr.fieldAt 83 v3 1) (fun v12 =>
  HV Tryz.prog S (Instr.loadAt 3 v12) (fun v13 =>
  un Tryz.prog R (callFunc 44 #[v6, v8]) w (fun v9 w =>
  S w ∧ (
  un Tryz.prog R (callFunc 44 #[v11, v13]) w (fun v14 w =>
  uv Tryz.prog R (Instr.buildSlice 35 2 #[(0, v9), (1, v14)]) w (fun v15 w =>
  un Tryz.prog R (callFunc 43 #[v15]) w (fun v16 w =>
  R (.returned v16) w)))))))))))))) w))
theorem F42_s1_st (R : RT) (X : KX) (f : Fr) (w : World) (h : F42_s1_t R (f 0) (f 1) w) : F42_W R (.seq F42_p0 F42_p2) (F42_k R) X f w := Eq.mp (by kernel_rfl) h
def F42_s1 (R : RT) (v0 v1 : Value) (w : World) : Prop :=
  F42_s1_t R v0 v1 w
noncomputable def F42_s1_c : Code := (.seq (.seq F42_p0 F42_p2) .ret)
theorem F42_s1_ok (R : RT) : OkW (F42_W R) (a2 (F42_s1 R) 0 1) F42_s1_c (F42_k R) noX :=
  fun f w h => cut (.seq F42_p0 F42_p2) .ret (K := (F42_k R)) (fun f w h => ret_ok h) f w (F42_s1_st R _ f w h)
theorem F42_all_e (R : RT) (K : KF) (X : KX) (f : Fr) (w : World) (h : F42_W R F42_s1_c K X f w) : F42_W R F42_b K X f w := Eq.mp (by kernel_rfl) h
theorem F42_calls (R : RT) (v0 v1 : Value) (w : World) (h : F42_s1 R v0 v1 w) : Calls Tryz.prog 42 #[v0, v1] w R :=
  calls_of_wpE (dc := F42_dc) (args := [v0, v1]) hmixed Tryz.func42 (c := F42_b) rfl (rs := [.tmp 4]) rfl (by kernel_rfl) (Nat.le_of_ble_eq_true (by kernel_rfl)) (F42_all_e R _ _ _ w ((F42_s1_ok R) (initFr [v0, v1]) w h))

/-! ### (*hasp/locks.Table).Mode -/
noncomputable def F15_b : Code := bodyOf Tryz.f15
def F15_dc : Nat → List (Nat × Bool)
  | _ => []
abbrev F15_k (R : RT) := resK Tryz.prog [.tmp 6] R
abbrev F15_W (R : RT) := wpE Tryz.prog F15_dc (F15_k R) (panK R)
noncomputable def F15_p0 := cR F15_b
noncomputable def F15_p1 := cR F15_p0
noncomputable def F15_p2 := cL F15_p1
noncomputable def F15_p3 := cL F15_p0
noncomputable def F15_p4 := cR F15_p3
noncomputable def F15_p5 := cR F15_p4
noncomputable def F15_p6 := cT F15_p5
noncomputable def F15_p7 := cL F15_p6
noncomputable def F15_p8 := cL F15_b
noncomputable def F15_p9 := cL F15_p3
noncomputable def F15_p10 := cL F15_p4
def F15_s3_t (R : RT) (w : World) : Prop :=
  R (.returned (.int .i64 0)) w
theorem F15_s3_st (R : RT) (X : KX) (f : Fr) (w : World) (h : F15_s3_t R w) : F15_W R F15_p2 (F15_k R) X f w := Eq.mp (by kernel_rfl) h
def F15_s3 (R : RT) (w : World) : Prop :=
  F15_s3_t R w
noncomputable def F15_s3_c : Code := (.seq F15_p2 .ret)
theorem F15_s3_ok (R : RT) : OkW (F15_W R) ((fun f w => F15_s3 R w)) F15_s3_c (F15_k R) noX :=
  fun f w h => cut F15_p2 .ret (K := (F15_k R)) (fun f w h => ret_ok h) f w (F15_s3_st R _ f w h)
def F15_s4_t (R : RT) (v1 v7 : Value) (w : World) : Prop :=
  un Tryz.prog R (nilS v7) w (fun v17 w =>
  uv Tryz.prog R (Instr.fieldAt 58 v17 0) w (fun v18 w =>
  uv Tryz.prog R (Instr.loadAt 55 v18) w (fun v19 w =>
  uv Tryz.prog R (Instr.lookup 55 v19 v1 false) w (fun v21 w =>
  R (.returned v21) w))))
theorem F15_s4_st (R : RT) (X : KX) (f : Fr) (w : World) (h : F15_s4_t R (f 1) (f 7) w) : F15_W R F15_p7 (F15_k R) X f w := Eq.mp (by kernel_rfl) h
def F15_s4 (R : RT) (v1 v7 : Value) (w : World) : Prop :=
  F15_s4_t R v1 v7 w
noncomputable def F15_s4_c : Code := (.seq F15_p7 .ret)
theorem F15_s4_ok (R : RT) : OkW (F15_W R) (a2 (F15_s4 R) 1 7) F15_s4_c (fun f w => F15_s3 R w) noX :=
  fun f w h => cut F15_p7 .ret (K := (F15_k R)) (fun f w h => ret_ok h) f w (F15_s4_st R _ f w h)
def F15_s2 (R : RT) (v1 v7 v15 : Value) (w : World) : Prop :=
  Bc v15
    (F15_s4 R v1 v7 w)
    (F15_s3 R w)
noncomputable def F15_s2_c : Code := (.seq F15_p5 F15_s3_c)
theorem F15_s2_e (R : RT) (K : KF) (X : KX) (f : Fr) (w : World) (h : Bc (f 15) (F15_W R F15_s4_c K X f w) (F15_W R .skip K X f w)) : (F15_W R F15_p5 K X f w) := Eq.mp (by kernel_rfl) h
theorem F15_s2_ok (R : RT) : OkW (F15_W R) (a3 (F15_s2 R) 1 7 15) F15_s2_c (F15_k R) noX :=
  fun f w h => cut F15_p5 F15_s3_c (K := (fun f w => F15_s3 R w)) (F15_s3_ok R) f w (F15_s2_e R _ _ f w (Bc_imp (x' := (F15_W R F15_s4_c (fun f w => F15_s3 R w) noX f w)) (y' := (F15_W R .skip (fun f w => F15_s3 R w) noX f w)) ((F15_s4_ok R) f w) ((fun f w h => skip_ok h) f w) h))
def F15_s1_t (R : RT) (K : V3) (v0 v1 v2 : Value) (w : World) : Prop :=
  un Tryz.prog R (nilS v0) w (fun v9 w =>
  uv Tryz.prog R (Instr.fieldAt 51 v9 0) w (fun v10 w =>
  uv Tryz.prog R (Instr.loadAt 48 v10) w (fun v11 w =>
  uv Tryz.prog R (Instr.lookup 48 v11 v2 false) w (fun v13 w =>
  uv Tryz.prog R (binS .neq 54 (.tmp 14) (.const (.pointer none)) v13 (.pointer none)) w (fun v15 w =>
  K v1 v13 v15 w)))))
theorem F15_s1_st (R : RT) (K : V3) (X : KX) (f : Fr) (w : World) (h : F15_s1_t R K (f 0) (f 1) (f 2) w) : F15_W R (.seq F15_p8 (.seq F15_p9 F15_p10)) (a3 K 1 7 15) X f w := Eq.mp (by kernel_rfl) h
def F15_s1 (R : RT) (v0 v1 v2 : Value) (w : World) : Prop :=
  F15_s1_t R (F15_s2 R) v0 v1 v2 w
noncomputable def F15_s1_c : Code := (.seq (.seq F15_p8 (.seq F15_p9 F15_p10)) F15_s2_c)
theorem F15_s1_ok (R : RT) : OkW (F15_W R) (a3 (F15_s1 R) 0 1 2) F15_s1_c (F15_k R) noX :=
  fun f w h => cut (.seq F15_p8 (.seq F15_p9 F15_p10)) F15_s2_c (K := (a3 (F15_s2 R) 1 7 15)) (F15_s2_ok R) f w (F15_s1_st R (F15_s2 R) _ f w h)
theorem F15_all_e (R : RT) (K : KF) (X : KX) (f : Fr) (w : World) (h : F15_W R F15_s1_c K X f w) : F15_W R F15_b K X f w := Eq.mp (by kernel_rfl) h
theorem F15_calls (R : RT) (v0 v1 v2 : Value) (w : World) (h : F15_s1 R v0 v1 v2 w) : Calls Tryz.prog 15 #[v0, v1, v2] w R :=
  calls_of_wpE (dc := F15_dc) (args := [v0, v1, v2]) hmixed Tryz.func15 (c := F15_b) rfl (rs := [.tmp 6]) rfl (by kernel_rfl) (Nat.le_of_ble_eq_true (by kernel_rfl)) (F15_all_e R _ _ _ w ((F15_s1_ok R) (initFr [v0, v1, v2]) w h))

/-! ### (*hasp/locks.Table).Wish -/
noncomputable def F13_b : Code := bodyOf Tryz.f13
def F13_dc : Nat → List (Nat × Bool)
  | _ => []
abbrev F13_k (R : RT) := resK Tryz.prog [.cell 4 42, .tmp 5] R
abbrev F13_W (R : RT) := wpE Tryz.prog F13_dc (F13_k R) (panK R)
noncomputable def F13_p0 := cR F13_b
noncomputable def F13_p1 := cR F13_p0
noncomputable def F13_p2 := cR F13_p1
noncomputable def F13_p3 := cR F13_p2
noncomputable def F13_p4 := cL F13_p3
noncomputable def F13_p5 := cL F13_p2
noncomputable def F13_p6 := cR F13_p5
noncomputable def F13_p7 := cI F13_p6
noncomputable def F13_p8 := cI F13_p7
noncomputable def F13_p9 := cR F13_p8
noncomputable def F13_p10 := cR F13_p9
noncomputable def F13_p11 := cR F13_p10
noncomputable def F13_p12 := cL F13_p10
noncomputable def F13_p13 := cI F13_p12
noncomputable def F13_p14 := cR F13_p13
noncomputable def F13_p15 := cR F13_p14
noncomputable def F13_p16 := cT F13_p15
noncomputable def F13_p17 := cL F13_p16
noncomputable def F13_p18 := cL F13_p13
noncomputable def F13_p19 := cL F13_p14
noncomputable def F13_p20 := cL F13_p9
noncomputable def F13_p21 := cL F13_p8
noncomputable def F13_p22 := cL F13_p5
noncomputable def F13_p23 := cL F13_p1
noncomputable def F13_p24 := cR F13_p23
noncomputable def F13_p25 := cT F13_p24
noncomputable def F13_p26 := cL F13_p25
noncomputable def F13_p27 := cL F13_b
noncomputable def F13_p28 := cL F13_p0
noncomputable def F13_p29 := cL F13_p23
def F13_s5_t (R : RT) (v4 : Value) (w : World) : Prop :=
  uv Tryz.prog R (Instr.build 42 #[]) w (fun v35 w =>
  uu Tryz.prog R (Instr.storeAt 42 v4 v35) w (fun w =>
  Rc Tryz.prog 42 v4 w (fun r0 => R (.returned (.tuple #[r0, (.bool false)])) w)))
theorem F13_s5_st (R : RT) (X : KX) (f : Fr) (w : World) (h : F13_s5_t R (f 4) w) : F13_W R F13_p4 (F13_k R) X f w := Eq.mp (by kernel_rfl) h
def F13_s5 (R : RT) (v4 : Value) (w : World) : Prop :=
  F13_s5_t R v4 w
noncomputable def F13_s5_c : Code := (.seq F13_p4 .ret)
theorem F13_s5_ok (R : RT) : OkW (F13_W R) (a1 (F13_s5 R) 4) F13_s5_c (F13_k R) noX :=
  fun f w h => cut F13_p4 .ret (K := (F13_k R)) (fun f w h => ret_ok h) f w (F13_s5_st R _ f w h)
def F13_s10_t (R : RT) (K : V1) (v1 v4 v23 v24 v25 : Value) (w : World) : Prop :=
  uv Tryz.prog R (binS .add 3 (.tmp 25) (.const (.int .i64 1)) v25 (.int .i64 1)) w (fun v34 w =>
  K v34 w)
theorem F13_s10_st (R : RT) (K : V1) (X : KX) (f : Fr) (w : World) (h : F13_s10_t R K (f 1) (f 4) (f 23) (f 24) (f 25) w) : F13_W R F13_p11 (a1 K 25) X f w := Eq.mp (by kernel_rfl) h
def F13_s10 (R : RT) (rec6 : V1) (v1 v4 v23 v24 v25 : Value) (w : World) : Prop :=
  F13_s10_t R rec6 v1 v4 v23 v24 v25 w
noncomputable def F13_s10_c : Code := (.seq F13_p11 .skip)
theorem F13_s10_ok (R : RT) (rec6 : V1) : OkW (F13_W R) (a5 (F13_s10 R rec6) 1 4 23 24 25) F13_s10_c (a1 rec6 25) (kxB 0 (a1 (F13_s5 R) 4) noX) :=
  fun f w h => cut F13_p11 .skip (K := (a1 rec6 25)) (fun f w h => skip_ok h) f w (F13_s10_st R rec6 _ f w h)
def F13_s13_t (R : RT) (v4 v8 : Value) (w : World) : Prop :=
  uv Tryz.prog R (Instr.loadAt 42 v8) w (fun v33 w =>
  uu Tryz.prog R (Instr.storeAt 42 v4 v33) w (fun w =>
  Rc Tryz.prog 42 v4 w (fun r0 => R (.returned (.tuple #[r0, (.bool true)])) w)))
theorem F13_s13_st (R : RT) (X : KX) (f : Fr) (w : World) (h : F13_s13_t R (f 4) (f 8) w) : F13_W R F13_p17 (F13_k R) X f w := Eq.mp (by kernel_rfl) h
def F13_s13 (R : RT) (rec6 : V1) (v4 v8 : Value) (w : World) : Prop :=
  F13_s13_t R v4 v8 w
noncomputable def F13_s13_c : Code := (.seq F13_p17 .ret)
theorem F13_s13_ok (R : RT) (rec6 : V1) : OkW (F13_W R) (a2 (F13_s13 R rec6) 4 8) F13_s13_c (a5 (F13_s10 R rec6) 1 4 23 24 25) (kxB 1 (a5 (F13_s10 R rec6) 1 4 23 24 25) (kxB 0 (a1 (F13_s5 R) 4) noX)) :=
  fun f w h => cut F13_p17 .ret (K := (F13_k R)) (fun f w h => ret_ok h) f w (F13_s13_st R _ f w h)
def F13_s12 (R : RT) (rec6 : V1) (v1 v4 v8 v23 v24 v25 v32 : Value) (w : World) : Prop :=
  Bc v32
    (F13_s13 R rec6 v4 v8 w)
    (F13_s10 R rec6 v1 v4 v23 v24 v25 w)
noncomputable def F13_s12_c : Code := (.seq F13_p15 .skip)
theorem F13_s12_e (R : RT) (K : KF) (X : KX) (f : Fr) (w : World) (h : Bc (f 32) (F13_W R F13_s13_c K X f w) (F13_W R .skip K X f w)) : (F13_W R F13_p15 K X f w) := Eq.mp (by kernel_rfl) h
theorem F13_s12_ok (R : RT) (rec6 : V1) : OkW (F13_W R) (a7 (F13_s12 R rec6) 1 4 8 23 24 25 32) F13_s12_c (a5 (F13_s10 R rec6) 1 4 23 24 25) (kxB 1 (a5 (F13_s10 R rec6) 1 4 23 24 25) (kxB 0 (a1 (F13_s5 R) 4) noX)) :=
  fun f w h => cut F13_p15 .skip (K := (a5 (F13_s10 R rec6) 1 4 23 24 25)) (fun f w h => skip_ok h) f w (F13_s12_e R _ _ f w (Bc_imp (x' := (F13_W R F13_s13_c (a5 (F13_s10 R rec6) 1 4 23 24 25) (kxB 1 (a5 (F13_s10 R rec6) 1 4 23 24 25) (kxB 0 (a1 (F13_s5 R) 4) noX)) f w)) (y' := (F13_W R .skip (a5 (F13_s10 R rec6) 1 4 23 24 25) (kxB 1 (a5 (F13_s10 R rec6) 1 4 23 24 25) (kxB 0 (a1 (F13_s5 R) 4) noX)) f w)) ((F13_s13_ok R rec6) f w) ((fun f w h => skip_ok h) f w) h))
def F13_s11_t (R : RT) (K : V7) (v1 v4 v23 v24 v25 : Value) (w : World) : Prop :=
  uv Tryz.prog R (Instr.indexAt 27 v23 v25) w (fun v27 w =>
  uv Tryz.prog R (Instr.loadAt 42 v27) w (fun v28 w =>
  uv Tryz.prog R (Instr.alloc 42 true (.tuple #[])) w (fun v8 w =>
  uu Tryz.prog R (Instr.storeAt 42 v8 v28) w (fun w =>
  uv Tryz.prog R (Instr.fieldAt 42 v8 0) w (fun v29 w =>
  uv Tryz.prog R (Instr.loadAt 3 v29) w (fun v30 w =>
  uv Tryz.prog R (binS .eql 3 (.tmp 30) (.tmp 31) v30 v1) w (fun v32 w =>
  K v1 v4 v8 v23 v24 v25 v32 w)))))))
theorem F13_s11_st (R : RT) (K : V7) (X : KX) (f : Fr) (w : World) (h : F13_s11_t R K (f 1) (f 4) (f 23) (f 24) (f 25) w) : F13_W R (.seq F13_p18 F13_p19) (a7 K 1 4 8 23 24 25 32) X f w := Eq.mp (by kernel_rfl) h
def F13_s11 (R : RT) (rec6 : V1) (v1 v4 v23 v24 v25 : Value) (w : World) : Prop :=
  F13_s11_t R (F13_s12 R rec6) v1 v4 v23 v24 v25 w
noncomputable def F13_s11_c : Code := (.seq (.seq F13_p18 F13_p19) F13_s12_c)
theorem F13_s11_ok (R : RT) (rec6 : V1) : OkW (F13_W R) (a5 (F13_s11 R rec6) 1 4 23 24 25) F13_s11_c (a5 (F13_s10 R rec6) 1 4 23 24 25) (kxB 1 (a5 (F13_s10 R rec6) 1 4 23 24 25) (kxB 0 (a1 (F13_s5 R) 4) noX)) :=
  fun f w h => cut (.seq F13_p18 F13_p19) F13_s12_c (K := (a7 (F13_s12 R rec6) 1 4 8 23 24 25 32)) (F13_s12_ok R rec6) f w (F13_s11_st R (F13_s12 R rec6) _ f w h)
noncomputable def F13_s9_c : Code := (.seq F13_p12 F13_s10_c)
theorem F13_s9_e (R : RT) (K : KF) (X : KX) (f : Fr) (w : World) (h : F13_W R F13_s11_c K (kxB 1 K X) f w) : F13_W R F13_p12 K X f w := Eq.mp (by kernel_rfl) h
theorem F13_s9_ok (R : RT) (rec6 : V1) : OkW (F13_W R) (a5 (F13_s11 R rec6) 1 4 23 24 25) F13_s9_c (a1 rec6 25) (kxB 0 (a1 (F13_s5 R) 4) noX) :=
  fun f w h => cut F13_p12 F13_s10_c (K := (a5 (F13_s10 R rec6) 1 4 23 24 25)) (F13_s10_ok R rec6) f w (F13_s9_e R _ _ f w ((F13_s11_ok R rec6) f w h))
def F13_s8 (R : RT) (rec6 : V1) (v1 v4 v23 v24 v25 v26 : Value) (w : World) : Prop :=
  Bc v26
    (F13_s11 R rec6 v1 v4 v23 v24 v25 w)
    (F13_s5 R v4 w)
noncomputable def F13_s8_c : Code := (.seq F13_p20 F13_s9_c)
theorem F13_s8_e (R : RT) (K : KF) (X : KX) (f : Fr) (w : World) (h : Bc (f 26) (F13_W R .skip K X f w) (F13_W R (.exit 0) K X f w)) : (F13_W R F13_p20 K X f w) := Eq.mp (by kernel_rfl) h
theorem F13_s8_ok (R : RT) (rec6 : V1) : OkW (F13_W R) (a6 (F13_s8 R rec6) 1 4 23 24 25 26) F13_s8_c (a1 rec6 25) (kxB 0 (a1 (F13_s5 R) 4) noX) :=
  fun f w h => cut F13_p20 F13_s9_c (K := (a5 (F13_s11 R rec6) 1 4 23 24 25)) (F13_s9_ok R rec6) f w (F13_s8_e R _ _ f w (Bc_imp (x' := (F13_W R .skip (a5 (F13_s11 R rec6) 1 4 23 24 25) (kxB 0 (a1 (F13_s5 R) 4) noX) f w)) (y' := (F13_W R (.exit 0) (a5 (F13_s11 R rec6) 1 4 23 24 25) (kxB 0 (a1 (F13_s5 R) 4) noX) f w)) ((fun f w h => skip_ok h) f w) ((fun f w h => exit_hit h) f w) h))
def F13_s7_t (R : RT) (K : V6) (v1 v4 v23 v24 v25 : Value) (w : World) : Prop :=
  uv Tryz.prog R (binS .lss 3 (.tmp 25) (.tmp 24) v25 v24) w (fun v26 w =>
  K v1 v4 v23 v24 v25 v26 w)
theorem F13_s7_st (R : RT) (K : V6) (X : KX) (f : Fr) (w : World) (h : F13_s7_t R K (f 1) (f 4) (f 23) (f 24) (f 25) w) : F13_W R F13_p21 (a6 K 1 4 23 24 25 26) X f w := Eq.mp (by kernel_rfl) h
def F13_s7 (R : RT) (rec6 : V1) (v1 v4 v23 v24 v25 : Value) (w : World) : Prop :=
  F13_s7_t R (F13_s8 R rec6) v1 v4 v23 v24 v25 w
noncomputable def F13_s7_c : Code := (.seq F13_p21 F13_s8_c)
theorem F13_s7_ok (R : RT) (rec6 : V1) : OkW (F13_W R) (a5 (F13_s7 R rec6) 1 4 23 24 25) F13_s7_c (a1 rec6 25) (kxB 0 (a1 (F13_s5 R) 4) noX) :=
  fun f w h => cut F13_p21 F13_s8_c (K := (a6 (F13_s8 R rec6) 1 4 23 24 25 26)) (F13_s8_ok R rec6) f w (F13_s7_st R (F13_s8 R rec6) _ f w h)
def F13_s6 (R : RT) (v1 v4 v23 v24 v25 : Value) (w : World) : Prop :=
  Lp1 (fun rec6 v25 w => F13_s7 R rec6 v1 v4 v23 v24 v25 w) v25 w
theorem F13_s6_e (R : RT) (K : KF) (X : KX) (f : Fr) (w : World) (h : F13_W R (.loop F13_p8) K X f w) : F13_W R F13_p7 K X f w := Eq.mp (by kernel_rfl) h
theorem F13_s6b_e (R : RT) (K : KF) (X : KX) (f : Fr) (w : World) (h : F13_W R F13_s7_c K X f w) : F13_W R F13_p8 K X f w := Eq.mp (by kernel_rfl) h
theorem F13_s6_ok (R : RT) : OkW (F13_W R) (a5 (F13_s6 R) 1 4 23 24 25) F13_p7 (a1 (F13_s5 R) 4) (kxB 0 (a1 (F13_s5 R) 4) noX) :=
  fun f w h => F13_s6_e R _ _ f w (loop1_ok (P := Tryz.prog) (dc := F13_dc) (kr := (F13_k R)) (pan := panK R) F13_p8 (kn := (a1 (F13_s5 R) 4)) (kx := (kxB 0 (a1 (F13_s5 R) 4) noX)) (s0 := 25) (fun rec6 v25 w => F13_s7 R rec6 (f 1) (f 4) (f 23) (f 24) v25 w) f (fun rec6 f' w' hf h' => F13_s6b_e R _ _ f' w' ((F13_s7_ok R rec6) f' w' (by simp only [a5, hf 1 (by kernel_rfl), hf 4 (by kernel_rfl), hf 23 (by kernel_rfl), hf 24 (by kernel_rfl)]; exact h'))) w h)
noncomputable def F13_s4_c : Code := (.seq F13_p6 F13_s5_c)
theorem F13_s4_e (R : RT) (K : KF) (X : KX) (f : Fr) (w : World) (h : F13_W R F13_p7 K (kxB 0 K X) f w) : F13_W R F13_p6 K X f w := Eq.mp (by kernel_rfl) h
theorem F13_s4_ok (R : RT) : OkW (F13_W R) (a5 (F13_s6 R) 1 4 23 24 25) F13_s4_c (F13_k R) noX :=
  fun f w h => cut F13_p6 F13_s5_c (K := (a1 (F13_s5 R) 4)) (F13_s5_ok R) f w (F13_s4_e R _ _ f w ((F13_s6_ok R) f w h))
def F13_s3_t (R : RT) (K : V5) (v0 v1 v4 v6 : Value) (w : World) : Prop :=
  un Tryz.prog R (nilS v6) w (fun v20 w =>
  uv Tryz.prog R (Instr.fieldAt 66 v20 0) w (fun v21 w =>
  uv Tryz.prog R (Instr.loadAt 9 v21) w (fun v22 w =>
  un Tryz.prog R (callFunc 14 #[v0, v22]) w (fun v23 w =>
  un Tryz.prog R (builtin .len #[27] 3 #[false] #[v23]) w (fun v24 w =>
  K v1 v4 v23 v24 (.int .i64 0) w)))))
theorem F13_s3_st (R : RT) (K : V5) (X : KX) (f : Fr) (w : World) (h : F13_s3_t R K (f 0) (f 1) (f 4) (f 6) w) : F13_W R F13_p22 (a5 K 1 4 23 24 25) X f w := Eq.mp (by kernel_rfl) h
def F13_s3 (R : RT) (v0 v1 v4 v6 : Value) (w : World) : Prop :=
  F13_s3_t R (F13_s6 R) v0 v1 v4 v6 w
noncomputable def F13_s3_c : Code := (.seq F13_p22 F13_s4_c)
theorem F13_s3_ok (R : RT) : OkW (F13_W R) (a4 (F13_s3 R) 0 1 4 6) F13_s3_c (F13_k R) noX :=
  fun f w h => cut F13_p22 F13_s4_c (K := (a5 (F13_s6 R) 1 4 23 24 25)) (F13_s4_ok R) f w (F13_s3_st R (F13_s6 R) _ f w h)
def F13_s14_t (R : RT) (v4 : Value) (w : World) : Prop :=
  uv Tryz.prog R (Instr.build 42 #[]) w (fun v17 w =>
  uu Tryz.prog R (Instr.storeAt 42 v4 v17) w (fun w =>
  Rc Tryz.prog 42 v4 w (fun r0 => R (.returned (.tuple #[r0, (.bool false)])) w)))
theorem F13_s14_st (R : RT) (X : KX) (f : Fr) (w : World) (h : F13_s14_t R (f 4) w) : F13_W R F13_p26 (F13_k R) X f w := Eq.mp (by kernel_rfl) h
def F13_s14 (R : RT) (v4 : Value) (w : World) : Prop :=
  F13_s14_t R v4 w
noncomputable def F13_s14_c : Code := (.seq F13_p26 .ret)
theorem F13_s14_ok (R : RT) : OkW (F13_W R) (a1 (F13_s14 R) 4) F13_s14_c (a4 (F13_s3 R) 0 1 4 6) noX :=
  fun f w h => cut F13_p26 .ret (K := (F13_k R)) (fun f w h => ret_ok h) f w (F13_s14_st R _ f w h)
def F13_s2 (R : RT) (v0 v1 v4 v6 v16 : Value) (w : World) : Prop :=
  Bc v16
    (F13_s14 R v4 w)
    (F13_s3 R v0 v1 v4 v6 w)
noncomputable def F13_s2_c : Code := (.seq F13_p24 F13_s3_c)
theorem F13_s2_e (R : RT) (K : KF) (X : KX) (f : Fr) (w : World) (h : Bc (f 16) (F13_W R F13_s14_c K X f w) (F13_W R .skip K X f w)) : (F13_W R F13_p24 K X f w) := Eq.mp (by kernel_rfl) h
theorem F13_s2_ok (R : RT) : OkW (F13_W R) (a5 (F13_s2 R) 0 1 4 6 16) F13_s2_c (F13_k R) noX :=
  fun f w h => cut F13_p24 F13_s3_c (K := (a4 (F13_s3 R) 0 1 4 6)) (F13_s3_ok R) f w (F13_s2_e R _ _ f w (Bc_imp (x' := (F13_W R F13_s14_c (a4 (F13_s3 R) 0 1 4 6) noX f w)) (y' := (F13_W R .skip (a4 (F13_s3 R) 0 1 4 6) noX f w)) ((F13_s14_ok R) f w) ((fun f w h => skip_ok h) f w) h))
def F13_s1_t (R : RT) (K : V5) (v0 v1 : Value) (w : World) : Prop :=
  uv Tryz.prog R (Instr.alloc 42 true (.tuple #[])) w (fun v4 w =>
  un Tryz.prog R (nilS v0) w (fun v10 w =>
  uv Tryz.prog R (Instr.fieldAt 51 v10 1) w (fun v11 w =>
  uv Tryz.prog R (Instr.loadAt 49 v11) w (fun v12 w =>
  uv Tryz.prog R (Instr.lookup 49 v12 v1 false) w (fun v14 w =>
  uv Tryz.prog R (binS .eql 53 (.tmp 15) (.const (.pointer none)) v14 (.pointer none)) w (fun v16 w =>
  K v0 v1 v4 v14 v16 w))))))
theorem F13_s1_st (R : RT) (K : V5) (X : KX) (f : Fr) (w : World) (h : F13_s1_t R K (f 0) (f 1) w) : F13_W R (.seq F13_p27 (.seq F13_p28 F13_p29)) (a5 K 0 1 4 6 16) X f w := Eq.mp (by kernel_rfl) h
def F13_s1 (R : RT) (v0 v1 : Value) (w : World) : Prop :=
  F13_s1_t R (F13_s2 R) v0 v1 w
noncomputable def F13_s1_c : Code := (.seq (.seq F13_p27 (.seq F13_p28 F13_p29)) F13_s2_c)
theorem F13_s1_ok (R : RT) : OkW (F13_W R) (a2 (F13_s1 R) 0 1) F13_s1_c (F13_k R) noX :=
  fun f w h => cut (.seq F13_p27 (.seq F13_p28 F13_p29)) F13_s2_c (K := (a5 (F13_s2 R) 0 1 4 6 16)) (F13_s2_ok R) f w (F13_s1_st R (F13_s2 R) _ f w h)
theorem F13_all_e (R : RT) (K : KF) (X : KX) (f : Fr) (w : World) (h : F13_W R F13_s1_c K X f w) : F13_W R F13_b K X f w := Eq.mp (by kernel_rfl) h
theorem F13_calls (R : RT) (v0 v1 : Value) (w : World) (h : F13_s1 R v0 v1 w) : Calls Tryz.prog 13 #[v0, v1] w R :=
  calls_of_wpE (dc := F13_dc) (args := [v0, v1]) hmixed Tryz.func13 (c := F13_b) rfl (rs := [.cell 4 42, .tmp 5]) rfl (by kernel_rfl) (Nat.le_of_ble_eq_true (by kernel_rfl)) (F13_all_e R _ _ _ w ((F13_s1_ok R) (initFr [v0, v1]) w h))

/-! ### (*hasp/locks.Table).Queue -/
noncomputable def F14_b : Code := bodyOf Tryz.f14
def F14_dc : Nat → List (Nat × Bool)
  | _ => []
abbrev F14_k (R : RT) := resK Tryz.prog [.tmp 4] R
abbrev F14_W (R : RT) := wpE Tryz.prog F14_dc (F14_k R) (panK R)
noncomputable def F14_p0 := cR F14_b
noncomputable def F14_p1 := cR F14_p0
noncomputable def F14_p2 := cL F14_p1
noncomputable def F14_p3 := cL F14_p0
noncomputable def F14_p4 := cR F14_p3
noncomputable def F14_p5 := cR F14_p4
noncomputable def F14_p6 := cT F14_p5
noncomputable def F14_p7 := cR F14_p6
noncomputable def F14_p8 := cI F14_p7
noncomputable def F14_p9 := cI F14_p8
noncomputable def F14_p10 := cR F14_p9
noncomputable def F14_p11 := cR F14_p10
noncomputable def F14_p12 := cR F14_p11
noncomputable def F14_p13 := cL F14_p11
noncomputable def F14_p14 := cI F14_p13
noncomputable def F14_p15 := cL F14_p14
noncomputable def F14_p16 := cR F14_p14
noncomputable def F14_p17 := cL F14_p10
noncomputable def F14_p18 := cL F14_p9
noncomputable def F14_p19 := cL F14_p6
noncomputable def F14_p20 := cL F14_b
noncomputable def F14_p21 := cL F14_p3
noncomputable def F14_p22 := cL F14_p4
def F14_s3_t (R : RT) (v4 : Value) (w : World) : Prop :=
  R (.returned v4) w
theorem F14_s3_st (R : RT) (X : KX) (f : Fr) (w : World) (h : F14_s3_t R (f 4) w) : F14_W R F14_p2 (F14_k R) X f w := Eq.mp (by kernel_rfl) h
def F14_s3 (R : RT) (v4 : Value) (w : World) : Prop :=
  F14_s3_t R v4 w
noncomputable def F14_s3_c : Code := (.seq F14_p2 .ret)
theorem F14_s3_ok (R : RT) : OkW (F14_W R) (a1 (F14_s3 R) 4) F14_s3_c (F14_k R) noX :=
  fun f w h => cut F14_p2 .ret (K := (F14_k R)) (fun f w h => ret_ok h) f w (F14_s3_st R _ f w h)
def F14_s10_t (R : RT) (K : V2) (v1 v4 v19 v20 v21 : Value) (w : World) : Prop :=
  uv Tryz.prog R (binS .add 3 (.tmp 21) (.const (.int .i64 1)) v21 (.int .i64 1)) w (fun v34 w =>
  K v4 v34 w)
theorem F14_s10_st (R : RT) (K : V2) (X : KX) (f : Fr) (w : World) (h : F14_s10_t R K (f 1) (f 4) (f 19) (f 20) (f 21) w) : F14_W R F14_p12 (a2 K 4 21) X f w := Eq.mp (by kernel_rfl) h
def F14_s10 (R : RT) (rec6 : V2) (v1 v4 v19 v20 v21 : Value) (w : World) : Prop :=
  F14_s10_t R rec6 v1 v4 v19 v20 v21 w
noncomputable def F14_s10_c : Code := (.seq F14_p12 .skip)
theorem F14_s10_ok (R : RT) (rec6 : V2) : OkW (F14_W R) (a5 (F14_s10 R rec6) 1 4 19 20 21) F14_s10_c (a2 rec6 4 21) (kxB 0 (a1 (F14_s3 R) 4) noX) :=
  fun f w h => cut F14_p12 .skip (K := (a2 rec6 4 21)) (fun f w h => skip_ok h) f w (F14_s10_st R rec6 _ f w h)
def F14_s11_t (R : RT) (K : V5) (v1 v4 v19 v20 v21 : Value) (w : World) : Prop :=
  uv Tryz.prog R (Instr.indexAt 56 v19 v21) w (fun v23 w =>
  uv Tryz.prog R (Instr.loadAt 61 v23) w (fun v24 w =>
  uv Tryz.prog R (Instr.alloc 61 true (.tuple #[])) w (fun v7 w =>
  uu Tryz.prog R (Instr.storeAt 61 v7 v24) w (fun w =>
  uv Tryz.prog R (Instr.fieldAt 61 v7 0) w (fun v26 w =>
  uv Tryz.prog R (Instr.loadAt 3 v26) w (fun v27 w =>
  uv Tryz.prog R (Instr.fieldAt 61 v7 1) w (fun v29 w =>
  uv Tryz.prog R (Instr.loadAt 3 v29) w (fun v30 w =>
  uv Tryz.prog R (Instr.build 42 #[(0, v27), (1, v1), (2, v30)]) w (fun v31 w =>
  uv Tryz.prog R (Instr.buildSlice 27 1 #[(0, v31)]) w (fun v32 w =>
  un Tryz.prog R (builtin .append #[27, 27] 27 #[false, false] #[v4, v32]) w (fun v33 w =>
  K v1 v33 v19 v20 v21 w)))))))))))
theorem F14_s11_st (R : RT) (K : V5) (X : KX) (f : Fr) (w : World) (h : F14_s11_t R K (f 1) (f 4) (f 19) (f 20) (f 21) w) : F14_W R (.seq F14_p15 F14_p16) (a5 K 1 4 19 20 21) X f w := Eq.mp (by kernel_rfl) h
def F14_s11 (R : RT) (rec6 : V2) (v1 v4 v19 v20 v21 : Value) (w : World) : Prop :=
  F14_s11_t R (F14_s10 R rec6) v1 v4 v19 v20 v21 w
noncomputable def F14_s11_c : Code := (.seq (.seq F14_p15 F14_p16) .skip)
theorem F14_s11_ok (R : RT) (rec6 : V2) : OkW (F14_W R) (a5 (F14_s11 R rec6) 1 4 19 20 21) F14_s11_c (a5 (F14_s10 R rec6) 1 4 19 20 21) (kxB 1 (a5 (F14_s10 R rec6) 1 4 19 20 21) (kxB 0 (a1 (F14_s3 R) 4) noX)) :=
  fun f w h => cut (.seq F14_p15 F14_p16) .skip (K := (a5 (F14_s10 R rec6) 1 4 19 20 21)) (fun f w h => skip_ok h) f w (F14_s11_st R (F14_s10 R rec6) _ f w h)
noncomputable def F14_s9_c : Code := (.seq F14_p13 F14_s10_c)
theorem F14_s9_e (R : RT) (K : KF) (X : KX) (f : Fr) (w : World) (h : F14_W R F14_s11_c K (kxB 1 K X) f w) : F14_W R F14_p13 K X f w := Eq.mp (by kernel_rfl) h
theorem F14_s9_ok (R : RT) (rec6 : V2) : OkW (F14_W R) (a5 (F14_s11 R rec6) 1 4 19 20 21) F14_s9_c (a2 rec6 4 21) (kxB 0 (a1 (F14_s3 R) 4) noX) :=
  fun f w h => cut F14_p13 F14_s10_c (K := (a5 (F14_s10 R rec6) 1 4 19 20 21)) (F14_s10_ok R rec6) f w (F14_s9_e R _ _ f w ((F14_s11_ok R rec6) f w h))
def F14_s8 (R : RT) (rec6 : V2) (v1 v4 v19 v20 v21 v22 : Value) (w : World) : Prop :=
  Bc v22
    (F14_s11 R rec6 v1 v4 v19 v20 v21 w)
    (F14_s3 R v4 w)
noncomputable def F14_s8_c : Code := (.seq F14_p17 F14_s9_c)
theorem F14_s8_e (R : RT) (K : KF) (X : KX) (f : Fr) (w : World) (h : Bc (f 22) (F14_W R .skip K X f w) (F14_W R (.exit 0) K X f w)) : (F14_W R F14_p17 K X f w) := Eq.mp (by kernel_rfl) h
theorem F14_s8_ok (R : RT) (rec6 : V2) : OkW (F14_W R) (a6 (F14_s8 R rec6) 1 4 19 20 21 22) F14_s8_c (a2 rec6 4 21) (kxB 0 (a1 (F14_s3 R) 4) noX) :=
  fun f w h => cut F14_p17 F14_s9_c (K := (a5 (F14_s11 R rec6) 1 4 19 20 21)) (F14_s9_ok R rec6) f w (F14_s8_e R _ _ f w (Bc_imp (x' := (F14_W R .skip (a5 (F14_s11 R rec6) 1 4 19 20 21) (kxB 0 (a1 (F14_s3 R) 4) noX) f w)) (y' := (F14_W R (.exit 0) (a5 (F14_s11 R rec6) 1 4 19 20 21) (kxB 0 (a1 (F14_s3 R) 4) noX) f w)) ((fun f w h => skip_ok h) f w) ((fun f w h => exit_hit h) f w) h))
def F14_s7_t (R : RT) (K : V6) (v1 v4 v19 v20 v21 : Value) (w : World) : Prop :=
  uv Tryz.prog R (binS .lss 3 (.tmp 21) (.tmp 20) v21 v20) w (fun v22 w =>
  K v1 v4 v19 v20 v21 v22 w)
theorem F14_s7_st (R : RT) (K : V6) (X : KX) (f : Fr) (w : World) (h : F14_s7_t R K (f 1) (f 4) (f 19) (f 20) (f 21) w) : F14_W R F14_p18 (a6 K 1 4 19 20 21 22) X f w := Eq.mp (by kernel_rfl) h
def F14_s7 (R : RT) (rec6 : V2) (v1 v4 v19 v20 v21 : Value) (w : World) : Prop :=
  F14_s7_t R (F14_s8 R rec6) v1 v4 v19 v20 v21 w
noncomputable def F14_s7_c : Code := (.seq F14_p18 F14_s8_c)
theorem F14_s7_ok (R : RT) (rec6 : V2) : OkW (F14_W R) (a5 (F14_s7 R rec6) 1 4 19 20 21) F14_s7_c (a2 rec6 4 21) (kxB 0 (a1 (F14_s3 R) 4) noX) :=
  fun f w h => cut F14_p18 F14_s8_c (K := (a6 (F14_s8 R rec6) 1 4 19 20 21 22)) (F14_s8_ok R rec6) f w (F14_s7_st R (F14_s8 R rec6) _ f w h)
def F14_s6 (R : RT) (v1 v4 v19 v20 v21 : Value) (w : World) : Prop :=
  Lp2 (fun rec6 v4 v21 w => F14_s7 R rec6 v1 v4 v19 v20 v21 w) v4 v21 w
theorem F14_s6_e (R : RT) (K : KF) (X : KX) (f : Fr) (w : World) (h : F14_W R (.loop F14_p9) K X f w) : F14_W R F14_p8 K X f w := Eq.mp (by kernel_rfl) h
theorem F14_s6b_e (R : RT) (K : KF) (X : KX) (f : Fr) (w : World) (h : F14_W R F14_s7_c K X f w) : F14_W R F14_p9 K X f w := Eq.mp (by kernel_rfl) h
theorem F14_s6_ok (R : RT) : OkW (F14_W R) (a5 (F14_s6 R) 1 4 19 20 21) F14_p8 (a1 (F14_s3 R) 4) (kxB 0 (a1 (F14_s3 R) 4) noX) :=
  fun f w h => F14_s6_e R _ _ f w (loop2_ok (P := Tryz.prog) (dc := F14_dc) (kr := (F14_k R)) (pan := panK R) F14_p9 (kn := (a1 (F14_s3 R) 4)) (kx := (kxB 0 (a1 (F14_s3 R) 4) noX)) (s0 := 4) (s1 := 21) (fun rec6 v4 v21 w => F14_s7 R rec6 (f 1) v4 (f 19) (f 20) v21 w) f (fun rec6 f' w' hf h' => F14_s6b_e R _ _ f' w' ((F14_s7_ok R rec6) f' w' (by simp only [a5, hf 1 (by kernel_rfl), hf 19 (by kernel_rfl), hf 20 (by kernel_rfl)]; exact h'))) w h)
noncomputable def F14_s5_c : Code := (.seq F14_p7 .skip)
theorem F14_s5_e (R : RT) (K : KF) (X : KX) (f : Fr) (w : World) (h : F14_W R F14_p8 K (kxB 0 K X) f w) : F14_W R F14_p7 K X f w := Eq.mp (by kernel_rfl) h
theorem F14_s5_ok (R : RT) : OkW (F14_W R) (a5 (F14_s6 R) 1 4 19 20 21) F14_s5_c (a1 (F14_s3 R) 4) noX :=
  fun f w h => cut F14_p7 .skip (K := (a1 (F14_s3 R) 4)) (fun f w h => skip_ok h) f w (F14_s5_e R _ _ f w ((F14_s6_ok R) f w h))
def F14_s4_t (R : RT) (K : V5) (v1 v4 v5 : Value) (w : World) : Prop :=
  un Tryz.prog R (nilS v5) w (fun v17 w =>
  uv Tryz.prog R (Instr.fieldAt 58 v17 1) w (fun v18 w =>
  uv Tryz.prog R (Instr.loadAt 56 v18) w (fun v19 w =>
  un Tryz.prog R (builtin .len #[56] 3 #[false] #[v19]) w (fun v20 w =>
  K v1 v4 v19 v20 (.int .i64 0) w))))
theorem F14_s4_st (R : RT) (K : V5) (X : KX) (f : Fr) (w : World) (h : F14_s4_t R K (f 1) (f 4) (f 5) w) : F14_W R F14_p19 (a5 K 1 4 19 20 21) X f w := Eq.mp (by kernel_rfl) h
def F14_s4 (R : RT) (v1 v4 v5 : Value) (w : World) : Prop :=
  F14_s4_t R (F14_s6 R) v1 v4 v5 w
noncomputable def F14_s4_c : Code := (.seq F14_p19 F14_s5_c)
theorem F14_s4_ok (R : RT) : OkW (F14_W R) (a3 (F14_s4 R) 1 4 5) F14_s4_c (a1 (F14_s3 R) 4) noX :=
  fun f w h => cut F14_p19 F14_s5_c (K := (a5 (F14_s6 R) 1 4 19 20 21)) (F14_s5_ok R) f w (F14_s4_st R (F14_s6 R) _ f w h)
def F14_s2 (R : RT) (v1 v4 v5 v15 : Value) (w : World) : Prop :=
  Bc v15
    (F14_s4 R v1 v4 v5 w)
    (F14_s3 R v4 w)
noncomputable def F14_s2_c : Code := (.seq F14_p5 F14_s3_c)
theorem F14_s2_e (R : RT) (K : KF) (X : KX) (f : Fr) (w : World) (h : Bc (f 15) (F14_W R F14_s4_c K X f w) (F14_W R .skip K X f w)) : (F14_W R F14_p5 K X f w) := Eq.mp (by kernel_rfl) h
theorem F14_s2_ok (R : RT) : OkW (F14_W R) (a4 (F14_s2 R) 1 4 5 15) F14_s2_c (F14_k R) noX :=
  fun f w h => cut F14_p5 F14_s3_c (K := (a1 (F14_s3 R) 4)) (F14_s3_ok R) f w (F14_s2_e R _ _ f w (Bc_imp (x' := (F14_W R F14_s4_c (a1 (F14_s3 R) 4) noX f w)) (y' := (F14_W R .skip (a1 (F14_s3 R) 4) noX f w)) ((F14_s4_ok R) f w) ((fun f w h => skip_ok h) f w) h))
def F14_s1_t (R : RT) (K : V4) (v0 v1 : Value) (w : World) : Prop :=
  un Tryz.prog R (nilS v0) w (fun v9 w =>
  uv Tryz.prog R (Instr.fieldAt 51 v9 0) w (fun v10 w =>
  uv Tryz.prog R (Instr.loadAt 48 v10) w (fun v11 w =>
  uv Tryz.prog R (Instr.lookup 48 v11 v1 false) w (fun v13 w =>
  uv Tryz.prog R (binS .neq 54 (.tmp 14) (.const (.pointer none)) v13 (.pointer none)) w (fun v15 w =>
  K v1 (.slice none 0 0) v13 v15 w)))))
theorem F14_s1_st (R : RT) (K : V4) (X : KX) (f : Fr) (w : World) (h : F14_s1_t R K (f 0) (f 1) w) : F14_W R (.seq F14_p20 (.seq F14_p21 F14_p22)) (a4 K 1 4 5 15) X f w := Eq.mp (by kernel_rfl) h
def F14_s1 (R : RT) (v0 v1 : Value) (w : World) : Prop :=
  F14_s1_t R (F14_s2 R) v0 v1 w
noncomputable def F14_s1_c : Code := (.seq (.seq F14_p20 (.seq F14_p21 F14_p22)) F14_s2_c)
theorem F14_s1_ok (R : RT) : OkW (F14_W R) (a2 (F14_s1 R) 0 1) F14_s1_c (F14_k R) noX :=
  fun f w h => cut (.seq F14_p20 (.seq F14_p21 F14_p22)) F14_s2_c (K := (a4 (F14_s2 R) 1 4 5 15)) (F14_s2_ok R) f w (F14_s1_st R (F14_s2 R) _ f w h)
theorem F14_all_e (R : RT) (K : KF) (X : KX) (f : Fr) (w : World) (h : F14_W R F14_s1_c K X f w) : F14_W R F14_b K X f w := Eq.mp (by kernel_rfl) h
theorem F14_calls (R : RT) (v0 v1 : Value) (w : World) (h : F14_s1 R v0 v1 w) : Calls Tryz.prog 14 #[v0, v1] w R :=
  calls_of_wpE (dc := F14_dc) (args := [v0, v1]) hmixed Tryz.func14 (c := F14_b) rfl (rs := [.tmp 4]) rfl (by kernel_rfl) (Nat.le_of_ble_eq_true (by kernel_rfl)) (F14_all_e R _ _ _ w ((F14_s1_ok R) (initFr [v0, v1]) w h))

/-! ### (*hasp/locks.thing).can -/
noncomputable def F19_b : Code := bodyOf Tryz.f19
def F19_dc : Nat → List (Nat × Bool)
  | _ => []
abbrev F19_k (R : RT) := resK Tryz.prog [.tmp 4] R
abbrev F19_W (R : RT) := wpE Tryz.prog F19_dc (F19_k R) (panK R)
noncomputable def F19_p0 := cR F19_b
noncomputable def F19_p1 := cR F19_p0
noncomputable def F19_p2 := cL F19_p1
noncomputable def F19_p3 := cL F19_p0
noncomputable def F19_p4 := cR F19_p3
noncomputable def F19_p5 := cI F19_p4
noncomputable def F19_p6 := cI F19_p5
noncomputable def F19_p7 := cR F19_p6
noncomputable def F19_p8 := cR F19_p7
noncomputable def F19_p9 := cI F19_p8
noncomputable def F19_p10 := cR F19_p9
noncomputable def F19_p11 := cR F19_p10
noncomputable def F19_p12 := cT F19_p11
noncomputable def F19_p13 := cL F19_p12
noncomputable def F19_p14 := cL F19_p9
noncomputable def F19_p15 := cL F19_p10
noncomputable def F19_p16 := cL F19_p7
noncomputable def F19_p17 := cL F19_p6
noncomputable def F19_p18 := cL F19_b
noncomputable def F19_p19 := cL F19_p3
def F19_s3_t (R : RT) (w : World) : Prop :=
  R (.returned (.bool true)) w
theorem F19_s3_st (R : RT) (X : KX) (f : Fr) (w : World) (h : F19_s3_t R w) : F19_W R F19_p2 (F19_k R) X f w := Eq.mp (by kernel_rfl) h
def F19_s3 (R : RT) (w : World) : Prop :=
  F19_s3_t R w
noncomputable def F19_s3_c : Code := (.seq F19_p2 .ret)
theorem F19_s3_ok (R : RT) : OkW (F19_W R) ((fun f w => F19_s3 R w)) F19_s3_c (F19_k R) noX :=
  fun f w h => cut F19_p2 .ret (K := (F19_k R)) (fun f w h => ret_ok h) f w (F19_s3_st R _ f w h)
def F19_s10_t (R : RT) (w : World) : Prop :=
  R (.returned (.bool false)) w
theorem F19_s10_st (R : RT) (X : KX) (f : Fr) (w : World) (h : F19_s10_t R w) : F19_W R F19_p13 (F19_k R) X f w := Eq.mp (by kernel_rfl) h
def F19_s10 (R : RT) (rec4 : V0) (w : World) : Prop :=
  F19_s10_t R w
noncomputable def F19_s10_c : Code := (.seq F19_p13 .ret)
theorem F19_s10_ok (R : RT) (rec4 : V0) : OkW (F19_W R) ((fun f w => F19_s10 R rec4 w)) F19_s10_c (fun f w => rec4 w) (kxB 1 ((fun f w => rec4 w)) (kxB 0 ((fun f w => F19_s3 R w)) noX)) :=
  fun f w h => cut F19_p13 .ret (K := (F19_k R)) (fun f w h => ret_ok h) f w (F19_s10_st R _ f w h)
def F19_s9 (R : RT) (rec4 : V0) (v3 v11 v27 : Value) (w : World) : Prop :=
  Bc v27
    (F19_s10 R rec4 w)
    (rec4 w)
noncomputable def F19_s9_c : Code := (.seq F19_p11 .skip)
theorem F19_s9_e (R : RT) (K : KF) (X : KX) (f : Fr) (w : World) (h : Bc (f 27) (F19_W R F19_s10_c K X f w) (F19_W R .skip K X f w)) : (F19_W R F19_p11 K X f w) := Eq.mp (by kernel_rfl) h
theorem F19_s9_ok (R : RT) (rec4 : V0) : OkW (F19_W R) (a3 (F19_s9 R rec4) 3 11 27) F19_s9_c (fun f w => rec4 w) (kxB 1 ((fun f w => rec4 w)) (kxB 0 ((fun f w => F19_s3 R w)) noX)) :=
  fun f w h => cut F19_p11 .skip (K := (fun f w => rec4 w)) (fun f w h => skip_ok h) f w (F19_s9_e R _ _ f w (Bc_imp (x' := (F19_W R F19_s10_c (fun f w => rec4 w) (kxB 1 ((fun f w => rec4 w)) (kxB 0 ((fun f w => F19_s3 R w)) noX)) f w)) (y' := (F19_W R .skip (fun f w => rec4 w) (kxB 1 ((fun f w => rec4 w)) (kxB 0 ((fun f w => F19_s3 R w)) noX)) f w)) ((F19_s10_ok R rec4) f w) ((fun f w h => skip_ok h) f w) h))
def F19_s8_t (R : RT) (K : V3) (v3 v11 : Value) (w : World) : Prop :=
  uv Tryz.prog R (Instr.entry v11) w (fun v14 w =>
  uv Tryz.prog R (Instr.extract v14 0) w (fun v15 w =>
  uv Tryz.prog R (Instr.extract v14 1) w (fun v16 w =>
  uv Tryz.prog R (Instr.fieldAt 61 v3 0) w (fun v18 w =>
  uv Tryz.prog R (Instr.loadAt 3 v18) w (fun v19 w =>
  uv Tryz.prog R (binS .neq 3 (.tmp 17) (.tmp 19) v15 v19) w (fun v20 w =>
  Gk v20 true (fun k => k v16 w) w (fun v22 w =>
  Gk v20 true (fun k => uv Tryz.prog R (Instr.fieldAt 61 v3 1) w k) w (fun v23 w =>
  Gk v20 true (fun k => uv Tryz.prog R (Instr.loadAt 3 v23) w k) w (fun v24 w =>
  Gk v20 true (fun k => un Tryz.prog R (callFunc 40 #[v22, v24]) w k) w (fun v25 w =>
  Gk v20 true (fun k => uv Tryz.prog R (Op.unary .not v25) w k) w (fun v26 w =>
  uv Tryz.prog R (pickS v20 v26 (.bool false)) w (fun v27 w =>
  K v3 v11 v27 w))))))))))))
theorem F19_s8_st (R : RT) (K : V3) (X : KX) (f : Fr) (w : World) (h : F19_s8_t R K (f 3) (f 11) w) : F19_W R (.seq F19_p14 F19_p15) (a3 K 3 11 27) X f w := Eq.mp (by kernel_rfl) h
def F19_s8 (R : RT) (rec4 : V0) (v3 v11 : Value) (w : World) : Prop :=
  F19_s8_t R (F19_s9 R rec4) v3 v11 w
noncomputable def F19_s8_c : Code := (.seq (.seq F19_p14 F19_p15) F19_s9_c)
theorem F19_s8_ok (R : RT) (rec4 : V0) : OkW (F19_W R) (a2 (F19_s8 R rec4) 3 11) F19_s8_c (fun f w => rec4 w) (kxB 1 ((fun f w => rec4 w)) (kxB 0 ((fun f w => F19_s3 R w)) noX)) :=
  fun f w h => cut (.seq F19_p14 F19_p15) F19_s9_c (K := (a3 (F19_s9 R rec4) 3 11 27)) (F19_s9_ok R rec4) f w (F19_s8_st R (F19_s9 R rec4) _ f w h)
noncomputable def F19_s7_c : Code := (.seq F19_p8 .skip)
theorem F19_s7_e (R : RT) (K : KF) (X : KX) (f : Fr) (w : World) (h : F19_W R F19_s8_c K (kxB 1 K X) f w) : F19_W R F19_p8 K X f w := Eq.mp (by kernel_rfl) h
theorem F19_s7_ok (R : RT) (rec4 : V0) : OkW (F19_W R) (a2 (F19_s8 R rec4) 3 11) F19_s7_c (fun f w => rec4 w) (kxB 0 ((fun f w => F19_s3 R w)) noX) :=
  fun f w h => cut F19_p8 .skip (K := (fun f w => rec4 w)) (fun f w h => skip_ok h) f w (F19_s7_e R _ _ f w ((F19_s8_ok R rec4) f w h))
def F19_s6 (R : RT) (rec4 : V0) (v3 v11 v13 : Value) (w : World) : Prop :=
  Bc v13
    (F19_s8 R rec4 v3 v11 w)
    (F19_s3 R w)
noncomputable def F19_s6_c : Code := (.seq F19_p16 F19_s7_c)
theorem F19_s6_e (R : RT) (K : KF) (X : KX) (f : Fr) (w : World) (h : Bc (f 13) (F19_W R .skip K X f w) (F19_W R (.exit 0) K X f w)) : (F19_W R F19_p16 K X f w) := Eq.mp (by kernel_rfl) h
theorem F19_s6_ok (R : RT) (rec4 : V0) : OkW (F19_W R) (a3 (F19_s6 R rec4) 3 11 13) F19_s6_c (fun f w => rec4 w) (kxB 0 ((fun f w => F19_s3 R w)) noX) :=
  fun f w h => cut F19_p16 F19_s7_c (K := (a2 (F19_s8 R rec4) 3 11)) (F19_s7_ok R rec4) f w (F19_s6_e R _ _ f w (Bc_imp (x' := (F19_W R .skip (a2 (F19_s8 R rec4) 3 11) (kxB 0 ((fun f w => F19_s3 R w)) noX) f w)) (y' := (F19_W R (.exit 0) (a2 (F19_s8 R rec4) 3 11) (kxB 0 ((fun f w => F19_s3 R w)) noX) f w)) ((fun f w h => skip_ok h) f w) ((fun f w h => exit_hit h) f w) h))
def F19_s5_t (R : RT) (K : V3) (v3 v11 : Value) (w : World) : Prop :=
  uv Tryz.prog R (Instr.next v11 false 0) w (fun v12 w =>
  uv Tryz.prog R (Instr.extract v12 0) w (fun v13 w =>
  K v3 v11 v13 w))
theorem F19_s5_st (R : RT) (K : V3) (X : KX) (f : Fr) (w : World) (h : F19_s5_t R K (f 3) (f 11) w) : F19_W R F19_p17 (a3 K 3 11 13) X f w := Eq.mp (by kernel_rfl) h
def F19_s5 (R : RT) (rec4 : V0) (v3 v11 : Value) (w : World) : Prop :=
  F19_s5_t R (F19_s6 R rec4) v3 v11 w
noncomputable def F19_s5_c : Code := (.seq F19_p17 F19_s6_c)
theorem F19_s5_ok (R : RT) (rec4 : V0) : OkW (F19_W R) (a2 (F19_s5 R rec4) 3 11) F19_s5_c (fun f w => rec4 w) (kxB 0 ((fun f w => F19_s3 R w)) noX) :=
  fun f w h => cut F19_p17 F19_s6_c (K := (a3 (F19_s6 R rec4) 3 11 13)) (F19_s6_ok R rec4) f w (F19_s5_st R (F19_s6 R rec4) _ f w h)
def F19_s4 (R : RT) (v3 v11 : Value) (w : World) : Prop :=
  Lp0 (fun rec4 w => F19_s5 R rec4 v3 v11 w) w
theorem F19_s4_e (R : RT) (K : KF) (X : KX) (f : Fr) (w : World) (h : F19_W R (.loop F19_p6) K X f w) : F19_W R F19_p5 K X f w := Eq.mp (by kernel_rfl) h
theorem F19_s4b_e (R : RT) (K : KF) (X : KX) (f : Fr) (w : World) (h : F19_W R F19_s5_c K X f w) : F19_W R F19_p6 K X f w := Eq.mp (by kernel_rfl) h
theorem F19_s4_ok (R : RT) : OkW (F19_W R) (a2 (F19_s4 R) 3 11) F19_p5 (fun f w => F19_s3 R w) (kxB 0 ((fun f w => F19_s3 R w)) noX) :=
  fun f w h => F19_s4_e R _ _ f w (loop0_ok (P := Tryz.prog) (dc := F19_dc) (kr := (F19_k R)) (pan := panK R) F19_p6 (kn := (fun f w => F19_s3 R w)) (kx := (kxB 0 ((fun f w => F19_s3 R w)) noX)) (fun rec4 w => F19_s5 R rec4 (f 3) (f 11) w) f (fun rec4 f' w' hf h' => F19_s4b_e R _ _ f' w' ((F19_s5_ok R rec4) f' w' (by simp only [a2, hf 3 (by kernel_rfl), hf 11 (by kernel_rfl)]; exact h'))) w h)
noncomputable def F19_s2_c : Code := (.seq F19_p4 F19_s3_c)
theorem F19_s2_e (R : RT) (K : KF) (X : KX) (f : Fr) (w : World) (h : F19_W R F19_p5 K (kxB 0 K X) f w) : F19_W R F19_p4 K X f w := Eq.mp (by kernel_rfl) h
theorem F19_s2_ok (R : RT) : OkW (F19_W R) (a2 (F19_s4 R) 3 11) F19_s2_c (F19_k R) noX :=
  fun f w h => cut F19_p4 F19_s3_c (K := (fun f w => F19_s3 R w)) (F19_s3_ok R) f w (F19_s2_e R _ _ f w ((F19_s4_ok R) f w h))
def F19_s1_t (R : RT) (K : V2) (v0 v1 : Value) (w : World) : Prop :=
  uv Tryz.prog R (Instr.box 61 v1) w (fun v3 w =>
  un Tryz.prog R (nilS v0) w (fun v8 w =>
  uv Tryz.prog R (Instr.fieldAt 58 v8 0) w (fun v9 w =>
  uv Tryz.prog R (Instr.loadAt 55 v9) w (fun v10 w =>
  uv Tryz.prog R (Instr.range 55 v10) w (fun v11 w =>
  K v3 v11 w)))))
theorem F19_s1_st (R : RT) (K : V2) (X : KX) (f : Fr) (w : World) (h : F19_s1_t R K (f 0) (f 1) w) : F19_W R (.seq F19_p18 F19_p19) (a2 K 3 11) X f w := Eq.mp (by kernel_rfl) h
def F19_s1 (R : RT) (v0 v1 : Value) (w : World) : Prop :=
  F19_s1_t R (F19_s4 R) v0 v1 w
noncomputable def F19_s1_c : Code := (.seq (.seq F19_p18 F19_p19) F19_s2_c)
theorem F19_s1_ok (R : RT) : OkW (F19_W R) (a2 (F19_s1 R) 0 1) F19_s1_c (F19_k R) noX :=
  fun f w h => cut (.seq F19_p18 F19_p19) F19_s2_c (K := (a2 (F19_s4 R) 3 11)) (F19_s2_ok R) f w (F19_s1_st R (F19_s4 R) _ f w h)
theorem F19_all_e (R : RT) (K : KF) (X : KX) (f : Fr) (w : World) (h : F19_W R F19_s1_c K X f w) : F19_W R F19_b K X f w := Eq.mp (by kernel_rfl) h
theorem F19_calls (R : RT) (v0 v1 : Value) (w : World) (h : F19_s1 R v0 v1 w) : Calls Tryz.prog 19 #[v0, v1] w R :=
  calls_of_wpE (dc := F19_dc) (args := [v0, v1]) hmixed Tryz.func19 (c := F19_b) rfl (rs := [.tmp 4]) rfl (by kernel_rfl) (Nat.le_of_ble_eq_true (by kernel_rfl)) (F19_all_e R _ _ _ w ((F19_s1_ok R) (initFr [v0, v1]) w h))

end Go.Proofs.YtpghlemcgjogpaaGreat
