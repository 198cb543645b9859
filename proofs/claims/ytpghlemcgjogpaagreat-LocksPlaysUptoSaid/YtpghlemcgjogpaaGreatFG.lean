import Derived.Test.YtpghlemcgjogpaaGreatProg
import Derived.Test.YtpghlemcgjogpaaGreatSx
import Derived.Test.YtpghlemcgjogpaaGreatT
set_option linter.unusedVariables false
set_option maxRecDepth 100000
set_option maxHeartbeats 400000
namespace Go.Proofs.YtpghlemcgjogpaaGreat
open Go.Sx
/-! ### (*hasp/haspref10.Table).give -/
noncomputable def F29_b : Code := bodyOf Tryz.f29
def F29_dc : Nat → List (Nat × Bool)
  | 11 => [(0, true), (1, true), (2, true), (3, true), (4, true), (5, true), (6, true), (7, true), (8, true), (9, true), (10, true), (11, true), (12, true), (13, true), (14, false)]
  | 12 => [(0, true), (1, true), (2, true), (3, true), (4, true), (5, true), (6, true), (7, true), (8, false)]
  | 8 => [(0, true), (1, true), (2, true), (3, true), (4, true), (5, true), (6, true), (7, true), (8, true), (9, true), (10, true), (11, true), (12, true), (13, true), (14, true), (15, true), (16, true), (17, true), (18, false), (19, true)]
  | 6 => [(0, true), (1, true), (2, true), (3, true), (4, true), (5, true), (6, false), (7, false), (8, true), (9, true), (10, false)]
  | 5 => [(0, true), (1, true), (2, true), (3, true), (4, true), (5, true), (6, true), (7, true), (8, true), (9, false)]
  | 4 => [(0, true), (1, true), (2, true), (3, true), (4, true), (5, true), (6, true), (7, true), (8, true), (9, true), (10, true), (11, true), (12, true), (13, true), (14, true), (15, true), (16, true), (17, true), (18, true), (19, true), (20, true), (21, true), (22, true), (23, true)]
  | _ => []
abbrev F29_k (R : RT) := resK Tryz.prog [] R
abbrev F29_W (R : RT) := wpE Tryz.prog F29_dc (F29_k R) (panK R)
noncomputable def F29_p0 := cR F29_b
noncomputable def F29_p1 := cR F29_p0
noncomputable def F29_p2 := cR F29_p1
noncomputable def F29_p3 := cR F29_p2
noncomputable def F29_p4 := cI F29_p3
noncomputable def F29_p5 := cI F29_p4
noncomputable def F29_p6 := cR F29_p5
noncomputable def F29_p7 := cR F29_p6
noncomputable def F29_p8 := cL F29_p6
noncomputable def F29_p9 := cI F29_p8
noncomputable def F29_p10 := cL F29_p9
noncomputable def F29_p11 := cR F29_p9
noncomputable def F29_p12 := cL F29_p11
noncomputable def F29_p13 := cR F29_p11
noncomputable def F29_p14 := cL F29_p5
noncomputable def F29_p15 := cR F29_p14
noncomputable def F29_p16 := cL F29_p14
noncomputable def F29_p17 := cL F29_p1
noncomputable def F29_p18 := cL F29_p2
noncomputable def F29_p19 := cL F29_p0
noncomputable def F29_p20 := cR F29_p19
noncomputable def F29_p21 := cI F29_p20
noncomputable def F29_p22 := cI F29_p21
noncomputable def F29_p23 := cR F29_p22
noncomputable def F29_p24 := cR F29_p23
noncomputable def F29_p25 := cL F29_p23
noncomputable def F29_p26 := cI F29_p25
noncomputable def F29_p27 := cR F29_p26
noncomputable def F29_p28 := cT F29_p27
noncomputable def F29_p29 := cL F29_p28
noncomputable def F29_p30 := cL F29_p26
noncomputable def F29_p31 := cL F29_p22
noncomputable def F29_p32 := cR F29_p31
noncomputable def F29_p33 := cL F29_p31
noncomputable def F29_p34 := cL F29_b
noncomputable def F29_p35 := cL F29_p19
def F29_s9_t (R : RT) (K : V1) (v0 v5 : Value) (w : World) : Prop :=
  uv Tryz.prog R (binS .sub 3 (.tmp 85) (.const (.int .i64 1)) v5 (.int .i64 1)) w (fun v86 w =>
  K v86 w)
theorem F29_s9_st (R : RT) (K : V1) (X : KX) (f : Fr) (w : World) (h : F29_s9_t R K (f 0) (f 5) w) : F29_W R F29_p7 (a1 K 5) X f w := Eq.mp (by kernel_rfl) h
def F29_s9 (R : RT) (rec5 : V1) (v0 v5 : Value) (w : World) : Prop :=
  F29_s9_t R rec5 v0 v5 w
noncomputable def F29_s9_c : Code := (.seq F29_p7 .skip)
theorem F29_s9_ok (R : RT) (rec5 : V1) : OkW (F29_W R) (a2 (F29_s9 R rec5) 0 5) F29_s9_c (a1 rec5 5) (kxB 2 ((F29_k R)) noX) :=
  fun f w h => cut F29_p7 .skip (K := (a1 rec5 5)) (fun f w h => skip_ok h) f w (F29_s9_st R rec5 _ f w h)
def F29_s10_t (R : RT) (K : V2) (v0 v5 : Value) (w : World) : Prop :=
  un Tryz.prog R (nilS v0) w (fun v88 w =>
  uv Tryz.prog R (Instr.fieldAt 30 v88 0) w (fun v89 w =>
  uv Tryz.prog R (Instr.loadAt 27 v89) w (fun v90 w =>
  uv Tryz.prog R (Instr.indexAt 27 v90 v5) w (fun v92 w =>
  uv Tryz.prog R (Instr.loadAt 42 v92) w (fun v93 w =>
  uv Tryz.prog R (Instr.alloc 42 true (.tuple #[])) w (fun v6 w =>
  uu Tryz.prog R (Instr.storeAt 42 v6 v93) w (fun w =>
  Dr (fun S w =>
  HN Tryz.prog (fun _ => True) (nilS v0) (fun v95 =>
  HV Tryz.prog (fun _ => True) (Instr.fieldAt 30 v95 0) (fun v96 =>
  HV Tryz.prog S (Instr.loadAt 27 v96) (fun v97 =>
  HN Tryz.prog (fun _ => True) (nilS v0) (fun v100 =>
  HV Tryz.prog (fun _ => True) (Instr.fieldAt 30 v100 0) (fun v101 =>
  HV Tryz.prog S (Instr.loadAt 27 v101) (fun v102 =>
  HV Tryz.prog S (binS .sub 3 (.tmp 103) (.const (.int .i64 1)) v5 (.int .i64 1)) (fun v104 =>
  HV Tryz.prog S (Instr.indexAt 27 v102 v104) (fun v105 =>
  HV Tryz.prog S (Instr.loadAt 42 v105) (fun v106 =>
  HV Tryz.prog S (Instr.indexAt 27 v97 v5) (fun v107 =>
  uu Tryz.prog R (Instr.storeAt 42 v107 v106) w (fun w =>
  Dr (fun S w =>
  HN Tryz.prog (fun _ => True) (nilS v0) (fun v109 =>
  HV Tryz.prog (fun _ => True) (Instr.fieldAt 30 v109 0) (fun v110 =>
  HV Tryz.prog S (Instr.loadAt 27 v110) (fun v111 =>
  HV Tryz.prog S (binS .sub 3 (.tmp 112) (.const (.int .i64 1)) v5 (.int .i64 1)) (fun v113 =>
  HV Tryz.prog S (Instr.loadAt 42 v6) (fun v114 =>
  HV Tryz.prog S (Instr.indexAt 27 v111 v113) (fun v115 =>
  uu Tryz.prog R (Instr.storeAt 42 v115 v114) w (fun w =>
  K v0 v5 w)))))))) w)))))))))))) w)))))))
theorem F29_s10_st (R : RT) (K : V2) (X : KX) (f : Fr) (w : World) (h : F29_s10_t R K (f 0) (f 5) w) : F29_W R (.seq F29_p10 (.seq F29_p12 F29_p13)) (a2 K 0 5) X f w := Eq.mp (by kernel_rfl) h
def F29_s10 (R : RT) (rec5 : V1) (v0 v5 : Value) (w : World) : Prop :=
  F29_s10_t R (F29_s9 R rec5) v0 v5 w
noncomputable def F29_s10_c : Code := (.seq (.seq F29_p10 (.seq F29_p12 F29_p13)) .skip)
theorem F29_s10_ok (R : RT) (rec5 : V1) : OkW (F29_W R) (a2 (F29_s10 R rec5) 0 5) F29_s10_c (a2 (F29_s9 R rec5) 0 5) (kxB 3 (a2 (F29_s9 R rec5) 0 5) (kxB 2 ((F29_k R)) noX)) :=
  fun f w h => cut (.seq F29_p10 (.seq F29_p12 F29_p13)) .skip (K := (a2 (F29_s9 R rec5) 0 5)) (fun f w h => skip_ok h) f w (F29_s10_st R (F29_s9 R rec5) _ f w h)
noncomputable def F29_s8_c : Code := (.seq F29_p8 F29_s9_c)
theorem F29_s8_e (R : RT) (K : KF) (X : KX) (f : Fr) (w : World) (h : F29_W R F29_s10_c K (kxB 3 K X) f w) : F29_W R F29_p8 K X f w := Eq.mp (by kernel_rfl) h
theorem F29_s8_ok (R : RT) (rec5 : V1) : OkW (F29_W R) (a2 (F29_s10 R rec5) 0 5) F29_s8_c (a1 rec5 5) (kxB 2 ((F29_k R)) noX) :=
  fun f w h => cut F29_p8 F29_s9_c (K := (a2 (F29_s9 R rec5) 0 5)) (F29_s9_ok R rec5) f w (F29_s8_e R _ _ f w ((F29_s10_ok R rec5) f w h))
def F29_s7 (R : RT) (rec5 : V1) (v0 v5 v84 : Value) (w : World) : Prop :=
  Bc v84
    (F29_s10 R rec5 v0 v5 w)
    (R (.returned (.tuple #[])) w)
noncomputable def F29_s7_c : Code := (.seq F29_p15 F29_s8_c)
theorem F29_s7_e (R : RT) (K : KF) (X : KX) (f : Fr) (w : World) (h : Bc (f 84) (F29_W R .skip K X f w) (F29_W R (.exit 2) K X f w)) : (F29_W R F29_p15 K X f w) := Eq.mp (by kernel_rfl) h
theorem F29_s7_ok (R : RT) (rec5 : V1) : OkW (F29_W R) (a3 (F29_s7 R rec5) 0 5 84) F29_s7_c (a1 rec5 5) (kxB 2 ((F29_k R)) noX) :=
  fun f w h => cut F29_p15 F29_s8_c (K := (a2 (F29_s10 R rec5) 0 5)) (F29_s8_ok R rec5) f w (F29_s7_e R _ _ f w (Bc_imp (x' := (F29_W R .skip (a2 (F29_s10 R rec5) 0 5) (kxB 2 ((F29_k R)) noX) f w)) (y' := (F29_W R (.exit 2) (a2 (F29_s10 R rec5) 0 5) (kxB 2 ((F29_k R)) noX) f w)) ((fun f w h => skip_ok h) f w) ((fun f w h => exit_hit h) f w) h))
def F29_s6_t (R : RT) (K : V3) (v0 v5 : Value) (w : World) : Prop :=
  Dr (fun S w =>
  HV Tryz.prog S (binS .gtr 3 (.tmp 65) (.const (.int .i64 0)) v5 (.int .i64 0)) (fun v66 =>
  GH v66 true (fun k => k v0) (fun v68 =>
  GH v66 true (fun k => HN Tryz.prog (fun _ => True) (nilS v68) k) (fun v69 =>
  GH v66 true (fun k => HV Tryz.prog (fun _ => True) (Instr.fieldAt 30 v69 0) k) (fun v70 =>
  GH v66 true (fun k => HV Tryz.prog S (Instr.loadAt 27 v70) k) (fun v71 =>
  GH v66 true (fun k => k v5) (fun v72 =>
  GH v66 true (fun k => HV Tryz.prog S (Instr.indexAt 27 v71 v72) k) (fun v73 =>
  GH v66 true (fun k => HV Tryz.prog S (Instr.loadAt 42 v73) k) (fun v74 =>
  GH v66 true (fun k => k v0) (fun v75 =>
  GH v66 true (fun k => HN Tryz.prog (fun _ => True) (nilS v75) k) (fun v76 =>
  GH v66 true (fun k => HV Tryz.prog (fun _ => True) (Instr.fieldAt 30 v76 0) k) (fun v77 =>
  GH v66 true (fun k => HV Tryz.prog S (Instr.loadAt 27 v77) k) (fun v78 =>
  GH v66 true (fun k => k v5) (fun v79 =>
  GH v66 true (fun k => HV Tryz.prog S (binS .sub 3 (.tmp 79) (.const (.int .i64 1)) v79 (.int .i64 1)) k) (fun v80 =>
  GH v66 true (fun k => HV Tryz.prog S (Instr.indexAt 27 v78 v80) k) (fun v81 =>
  GH v66 true (fun k => HV Tryz.prog S (Instr.loadAt 42 v81) k) (fun v82 =>
  Gk v66 true (fun k => un Tryz.prog R (callFunc 54 #[v74, v82]) w k) w (fun v83 w =>
  S w ∧ (
  HV Tryz.prog S (pickS v66 v83 (.bool false)) (fun v84 =>
  K v0 v5 v84 w)))))))))))))))))))) w
theorem F29_s6_st (R : RT) (K : V3) (X : KX) (f : Fr) (w : World) (h : F29_s6_t R K (f 0) (f 5) w) : F29_W R F29_p16 (a3 K 0 5 84) X f w := Eq.mp (by kernel_rfl) h
def F29_s6 (R : RT) (rec5 : V1) (v0 v5 : Value) (w : World) : Prop :=
  F29_s6_t R (F29_s7 R rec5) v0 v5 w
noncomputable def F29_s6_c : Code := (.seq F29_p16 F29_s7_c)
theorem F29_s6_ok (R : RT) (rec5 : V1) : OkW (F29_W R) (a2 (F29_s6 R rec5) 0 5) F29_s6_c (a1 rec5 5) (kxB 2 ((F29_k R)) noX) :=
  fun f w h => cut F29_p16 F29_s7_c (K := (a3 (F29_s7 R rec5) 0 5 84)) (F29_s7_ok R rec5) f w (F29_s6_st R (F29_s7 R rec5) _ f w h)
def F29_s5 (R : RT) (v0 v5 : Value) (w : World) : Prop :=
  Lp1 (fun rec5 v5 w => F29_s6 R rec5 v0 v5 w) v5 w
theorem F29_s5_e (R : RT) (K : KF) (X : KX) (f : Fr) (w : World) (h : F29_W R (.loop F29_p5) K X f w) : F29_W R F29_p4 K X f w := Eq.mp (by kernel_rfl) h
theorem F29_s5b_e (R : RT) (K : KF) (X : KX) (f : Fr) (w : World) (h : F29_W R F29_s6_c K X f w) : F29_W R F29_p5 K X f w := Eq.mp (by kernel_rfl) h
theorem F29_s5_ok (R : RT) : OkW (F29_W R) (a2 (F29_s5 R) 0 5) F29_p4 (F29_k R) (kxB 2 ((F29_k R)) noX) :=
  fun f w h => F29_s5_e R _ _ f w (loop1_ok (P := Tryz.prog) (dc := F29_dc) (kr := (F29_k R)) (pan := panK R) F29_p5 (kn := (F29_k R)) (kx := (kxB 2 ((F29_k R)) noX)) (s0 := 5) (fun rec5 v5 w => F29_s6 R rec5 (f 0) v5 w) f (fun rec5 f' w' hf h' => F29_s5b_e R _ _ f' w' ((F29_s6_ok R rec5) f' w' (by simp only [a2, hf 0 (by kernel_rfl)]; exact h'))) w h)
noncomputable def F29_s4_c : Code := (.seq F29_p3 .skip)
theorem F29_s4_e (R : RT) (K : KF) (X : KX) (f : Fr) (w : World) (h : F29_W R F29_p4 K (kxB 2 K X) f w) : F29_W R F29_p3 K X f w := Eq.mp (by kernel_rfl) h
theorem F29_s4_ok (R : RT) : OkW (F29_W R) (a2 (F29_s5 R) 0 5) F29_s4_c (F29_k R) noX :=
  fun f w h => cut F29_p3 .skip (K := (F29_k R)) (fun f w h => skip_ok h) f w (F29_s4_e R _ _ f w ((F29_s5_ok R) f w h))
def F29_s3_t (R : RT) (K : V2) (v0 v3 : Value) (w : World) : Prop :=
  Dr (fun S w =>
  HN Tryz.prog (fun _ => True) (nilS v0) (fun v51 =>
  HV Tryz.prog (fun _ => True) (Instr.fieldAt 30 v51 0) (fun v52 =>
  HV Tryz.prog S (Instr.loadAt 27 v52) (fun v53 =>
  HV Tryz.prog S (Instr.loadAt 42 v3) (fun v54 =>
  uv Tryz.prog R (Instr.buildSlice 27 1 #[(0, v54)]) w (fun v55 w =>
  S w ∧ (
  un Tryz.prog R (builtin .append #[27, 27] 27 #[false, false] #[v53, v55]) w (fun v56 w =>
  HN Tryz.prog (fun _ => True) (nilS v0) (fun v57 =>
  HV Tryz.prog (fun _ => True) (Instr.fieldAt 30 v57 0) (fun v58 =>
  uu Tryz.prog R (Instr.storeAt 27 v58 v56) w (fun w =>
  un Tryz.prog R (nilS v0) w (fun v60 w =>
  uv Tryz.prog R (Instr.fieldAt 30 v60 0) w (fun v61 w =>
  uv Tryz.prog R (Instr.loadAt 27 v61) w (fun v62 w =>
  un Tryz.prog R (builtin .len #[27] 3 #[false] #[v62]) w (fun v63 w =>
  uv Tryz.prog R (binS .sub 3 (.tmp 63) (.const (.int .i64 1)) v63 (.int .i64 1)) w (fun v64 w =>
  K v0 v64 w)))))))))))))))) w
theorem F29_s3_st (R : RT) (K : V2) (X : KX) (f : Fr) (w : World) (h : F29_s3_t R K (f 0) (f 3) w) : F29_W R (.seq F29_p17 F29_p18) (a2 K 0 5) X f w := Eq.mp (by kernel_rfl) h
def F29_s3 (R : RT) (v0 v3 : Value) (w : World) : Prop :=
  F29_s3_t R (F29_s5 R) v0 v3 w
noncomputable def F29_s3_c : Code := (.seq (.seq F29_p17 F29_p18) F29_s4_c)
theorem F29_s3_ok (R : RT) : OkW (F29_W R) (a2 (F29_s3 R) 0 3) F29_s3_c (F29_k R) noX :=
  fun f w h => cut (.seq F29_p17 F29_p18) F29_s4_c (K := (a2 (F29_s5 R) 0 5)) (F29_s4_ok R) f w (F29_s3_st R (F29_s5 R) _ f w h)
def F29_s15_t (R : RT) (K : V1) (v0 v3 v4 : Value) (w : World) : Prop :=
  uv Tryz.prog R (binS .add 3 (.tmp 14) (.const (.int .i64 1)) v4 (.int .i64 1)) w (fun v15 w =>
  K v15 w)
theorem F29_s15_st (R : RT) (K : V1) (X : KX) (f : Fr) (w : World) (h : F29_s15_t R K (f 0) (f 3) (f 4) w) : F29_W R F29_p24 (a1 K 4) X f w := Eq.mp (by kernel_rfl) h
def F29_s15 (R : RT) (rec11 : V1) (v0 v3 v4 : Value) (w : World) : Prop :=
  F29_s15_t R rec11 v0 v3 v4 w
noncomputable def F29_s15_c : Code := (.seq F29_p24 .skip)
theorem F29_s15_ok (R : RT) (rec11 : V1) : OkW (F29_W R) (a3 (F29_s15 R rec11) 0 3 4) F29_s15_c (a1 rec11 4) (kxB 0 (a2 (F29_s3 R) 0 3) noX) :=
  fun f w h => cut F29_p24 .skip (K := (a1 rec11 4)) (fun f w h => skip_ok h) f w (F29_s15_st R rec11 _ f w h)
def F29_s18_t (R : RT) (v0 v3 v4 : Value) (w : World) : Prop :=
  Dr (fun S w =>
  HN Tryz.prog (fun _ => True) (nilS v0) (fun v41 =>
  HV Tryz.prog (fun _ => True) (Instr.fieldAt 30 v41 0) (fun v42 =>
  HV Tryz.prog S (Instr.loadAt 27 v42) (fun v43 =>
  HV Tryz.prog (fun _ => True) (Instr.fieldAt 42 v3 2) (fun v45 =>
  HV Tryz.prog S (Instr.loadAt 3 v45) (fun v46 =>
  HV Tryz.prog S (Instr.indexAt 27 v43 v4) (fun v47 =>
  HV Tryz.prog (fun _ => True) (Instr.fieldAt 42 v47 2) (fun v48 =>
  uu Tryz.prog R (Instr.storeAt 3 v48 v46) w (fun w =>
  R (.returned (.tuple #[])) w))))))))) w
theorem F29_s18_st (R : RT) (X : KX) (f : Fr) (w : World) (h : F29_s18_t R (f 0) (f 3) (f 4) w) : F29_W R F29_p29 (F29_k R) X f w := Eq.mp (by kernel_rfl) h
def F29_s18 (R : RT) (rec11 : V1) (v0 v3 v4 : Value) (w : World) : Prop :=
  F29_s18_t R v0 v3 v4 w
noncomputable def F29_s18_c : Code := (.seq F29_p29 .ret)
theorem F29_s18_ok (R : RT) (rec11 : V1) : OkW (F29_W R) (a3 (F29_s18 R rec11) 0 3 4) F29_s18_c (a3 (F29_s15 R rec11) 0 3 4) (kxB 1 (a3 (F29_s15 R rec11) 0 3 4) (kxB 0 (a2 (F29_s3 R) 0 3) noX)) :=
  fun f w h => cut F29_p29 .ret (K := (F29_k R)) (fun f w h => ret_ok h) f w (F29_s18_st R _ f w h)
def F29_s17 (R : RT) (rec11 : V1) (v0 v3 v4 v39 : Value) (w : World) : Prop :=
  Bc v39
    (F29_s18 R rec11 v0 v3 v4 w)
    (F29_s15 R rec11 v0 v3 v4 w)
noncomputable def F29_s17_c : Code := (.seq F29_p27 .skip)
theorem F29_s17_e (R : RT) (K : KF) (X : KX) (f : Fr) (w : World) (h : Bc (f 39) (F29_W R F29_s18_c K X f w) (F29_W R .skip K X f w)) : (F29_W R F29_p27 K X f w) := Eq.mp (by kernel_rfl) h
theorem F29_s17_ok (R : RT) (rec11 : V1) : OkW (F29_W R) (a4 (F29_s17 R rec11) 0 3 4 39) F29_s17_c (a3 (F29_s15 R rec11) 0 3 4) (kxB 1 (a3 (F29_s15 R rec11) 0 3 4) (kxB 0 (a2 (F29_s3 R) 0 3) noX)) :=
  fun f w h => cut F29_p27 .skip (K := (a3 (F29_s15 R rec11) 0 3 4)) (fun f w h => skip_ok h) f w (F29_s17_e R _ _ f w (Bc_imp (x' := (F29_W R F29_s18_c (a3 (F29_s15 R rec11) 0 3 4) (kxB 1 (a3 (F29_s15 R rec11) 0 3 4) (kxB 0 (a2 (F29_s3 R) 0 3) noX)) f w)) (y' := (F29_W R .skip (a3 (F29_s15 R rec11) 0 3 4) (kxB 1 (a3 (F29_s15 R rec11) 0 3 4) (kxB 0 (a2 (F29_s3 R) 0 3) noX)) f w)) ((F29_s18_ok R rec11) f w) ((fun f w h => skip_ok h) f w) h))
def F29_s16_t (R : RT) (K : V4) (v0 v3 v4 : Value) (w : World) : Prop :=
  Dr (fun S w =>
  HN Tryz.prog (fun _ => True) (nilS v0) (fun v17 =>
  HV Tryz.prog (fun _ => True) (Instr.fieldAt 30 v17 0) (fun v18 =>
  HV Tryz.prog S (Instr.loadAt 27 v18) (fun v19 =>
  HV Tryz.prog S (Instr.indexAt 27 v19 v4) (fun v21 =>
  HV Tryz.prog (fun _ => True) (Instr.fieldAt 42 v21 0) (fun v22 =>
  HV Tryz.prog S (Instr.loadAt 3 v22) (fun v23 =>
  HV Tryz.prog (fun _ => True) (Instr.fieldAt 42 v3 0) (fun v24 =>
  HV Tryz.prog S (Instr.loadAt 3 v24) (fun v25 =>
  HV Tryz.prog S (binS .eql 3 (.tmp 23) (.tmp 25) v23 v25) (fun v26 =>
  GH v26 true (fun k => k v0) (fun v28 =>
  GH v26 true (fun k => HN Tryz.prog (fun _ => True) (nilS v28) k) (fun v29 =>
  GH v26 true (fun k => HV Tryz.prog (fun _ => True) (Instr.fieldAt 30 v29 0) k) (fun v30 =>
  GH v26 true (fun k => HV Tryz.prog S (Instr.loadAt 27 v30) k) (fun v31 =>
  GH v26 true (fun k => k v4) (fun v32 =>
  GH v26 true (fun k => HV Tryz.prog S (Instr.indexAt 27 v31 v32) k) (fun v33 =>
  GH v26 true (fun k => HV Tryz.prog (fun _ => True) (Instr.fieldAt 42 v33 1) k) (fun v34 =>
  GH v26 true (fun k => HV Tryz.prog S (Instr.loadAt 9 v34) k) (fun v35 =>
  GH v26 true (fun k => HV Tryz.prog (fun _ => True) (Instr.fieldAt 42 v3 1) k) (fun v36 =>
  GH v26 true (fun k => HV Tryz.prog S (Instr.loadAt 9 v36) k) (fun v37 =>
  GH v26 true (fun k => HV Tryz.prog S (binS .eql 9 (.tmp 35) (.tmp 37) v35 v37) k) (fun v38 =>
  HV Tryz.prog S (pickS v26 v38 (.bool false)) (fun v39 =>
  K v0 v3 v4 v39 w)))))))))))))))))))))) w
theorem F29_s16_st (R : RT) (K : V4) (X : KX) (f : Fr) (w : World) (h : F29_s16_t R K (f 0) (f 3) (f 4) w) : F29_W R F29_p30 (a4 K 0 3 4 39) X f w := Eq.mp (by kernel_rfl) h
def F29_s16 (R : RT) (rec11 : V1) (v0 v3 v4 : Value) (w : World) : Prop :=
  F29_s16_t R (F29_s17 R rec11) v0 v3 v4 w
noncomputable def F29_s16_c : Code := (.seq F29_p30 F29_s17_c)
theorem F29_s16_ok (R : RT) (rec11 : V1) : OkW (F29_W R) (a3 (F29_s16 R rec11) 0 3 4) F29_s16_c (a3 (F29_s15 R rec11) 0 3 4) (kxB 1 (a3 (F29_s15 R rec11) 0 3 4) (kxB 0 (a2 (F29_s3 R) 0 3) noX)) :=
  fun f w h => cut F29_p30 F29_s17_c (K := (a4 (F29_s17 R rec11) 0 3 4 39)) (F29_s17_ok R rec11) f w (F29_s16_st R (F29_s17 R rec11) _ f w h)
noncomputable def F29_s14_c : Code := (.seq F29_p25 F29_s15_c)
theorem F29_s14_e (R : RT) (K : KF) (X : KX) (f : Fr) (w : World) (h : F29_W R F29_s16_c K (kxB 1 K X) f w) : F29_W R F29_p25 K X f w := Eq.mp (by kernel_rfl) h
theorem F29_s14_ok (R : RT) (rec11 : V1) : OkW (F29_W R) (a3 (F29_s16 R rec11) 0 3 4) F29_s14_c (a1 rec11 4) (kxB 0 (a2 (F29_s3 R) 0 3) noX) :=
  fun f w h => cut F29_p25 F29_s15_c (K := (a3 (F29_s15 R rec11) 0 3 4)) (F29_s15_ok R rec11) f w (F29_s14_e R _ _ f w ((F29_s16_ok R rec11) f w h))
def F29_s13 (R : RT) (rec11 : V1) (v0 v3 v4 v13 : Value) (w : World) : Prop :=
  Bc v13
    (F29_s16 R rec11 v0 v3 v4 w)
    (F29_s3 R v0 v3 w)
noncomputable def F29_s13_c : Code := (.seq F29_p32 F29_s14_c)
theorem F29_s13_e (R : RT) (K : KF) (X : KX) (f : Fr) (w : World) (h : Bc (f 13) (F29_W R .skip K X f w) (F29_W R (.exit 0) K X f w)) : (F29_W R F29_p32 K X f w) := Eq.mp (by kernel_rfl) h
theorem F29_s13_ok (R : RT) (rec11 : V1) : OkW (F29_W R) (a4 (F29_s13 R rec11) 0 3 4 13) F29_s13_c (a1 rec11 4) (kxB 0 (a2 (F29_s3 R) 0 3) noX) :=
  fun f w h => cut F29_p32 F29_s14_c (K := (a3 (F29_s16 R rec11) 0 3 4)) (F29_s14_ok R rec11) f w (F29_s13_e R _ _ f w (Bc_imp (x' := (F29_W R .skip (a3 (F29_s16 R rec11) 0 3 4) (kxB 0 (a2 (F29_s3 R) 0 3) noX) f w)) (y' := (F29_W R (.exit 0) (a3 (F29_s16 R rec11) 0 3 4) (kxB 0 (a2 (F29_s3 R) 0 3) noX) f w)) ((fun f w h => skip_ok h) f w) ((fun f w h => exit_hit h) f w) h))
def F29_s12_t (R : RT) (K : V4) (v0 v3 v4 : Value) (w : World) : Prop :=
  un Tryz.prog R (nilS v0) w (fun v9 w =>
  uv Tryz.prog R (Instr.fieldAt 30 v9 0) w (fun v10 w =>
  uv Tryz.prog R (Instr.loadAt 27 v10) w (fun v11 w =>
  un Tryz.prog R (builtin .len #[27] 3 #[false] #[v11]) w (fun v12 w =>
  uv Tryz.prog R (binS .lss 3 (.tmp 7) (.tmp 12) v4 v12) w (fun v13 w =>
  K v0 v3 v4 v13 w)))))
theorem F29_s12_st (R : RT) (K : V4) (X : KX) (f : Fr) (w : World) (h : F29_s12_t R K (f 0) (f 3) (f 4) w) : F29_W R F29_p33 (a4 K 0 3 4 13) X f w := Eq.mp (by kernel_rfl) h
def F29_s12 (R : RT) (rec11 : V1) (v0 v3 v4 : Value) (w : World) : Prop :=
  F29_s12_t R (F29_s13 R rec11) v0 v3 v4 w
noncomputable def F29_s12_c : Code := (.seq F29_p33 F29_s13_c)
theorem F29_s12_ok (R : RT) (rec11 : V1) : OkW (F29_W R) (a3 (F29_s12 R rec11) 0 3 4) F29_s12_c (a1 rec11 4) (kxB 0 (a2 (F29_s3 R) 0 3) noX) :=
  fun f w h => cut F29_p33 F29_s13_c (K := (a4 (F29_s13 R rec11) 0 3 4 13)) (F29_s13_ok R rec11) f w (F29_s12_st R (F29_s13 R rec11) _ f w h)
def F29_s11 (R : RT) (v0 v3 v4 : Value) (w : World) : Prop :=
  Lp1 (fun rec11 v4 w => F29_s12 R rec11 v0 v3 v4 w) v4 w
theorem F29_s11_e (R : RT) (K : KF) (X : KX) (f : Fr) (w : World) (h : F29_W R (.loop F29_p22) K X f w) : F29_W R F29_p21 K X f w := Eq.mp (by kernel_rfl) h
theorem F29_s11b_e (R : RT) (K : KF) (X : KX) (f : Fr) (w : World) (h : F29_W R F29_s12_c K X f w) : F29_W R F29_p22 K X f w := Eq.mp (by kernel_rfl) h
theorem F29_s11_ok (R : RT) : OkW (F29_W R) (a3 (F29_s11 R) 0 3 4) F29_p21 (a2 (F29_s3 R) 0 3) (kxB 0 (a2 (F29_s3 R) 0 3) noX) :=
  fun f w h => F29_s11_e R _ _ f w (loop1_ok (P := Tryz.prog) (dc := F29_dc) (kr := (F29_k R)) (pan := panK R) F29_p22 (kn := (a2 (F29_s3 R) 0 3)) (kx := (kxB 0 (a2 (F29_s3 R) 0 3) noX)) (s0 := 4) (fun rec11 v4 w => F29_s12 R rec11 (f 0) (f 3) v4 w) f (fun rec11 f' w' hf h' => F29_s11b_e R _ _ f' w' ((F29_s12_ok R rec11) f' w' (by simp only [a3, hf 0 (by kernel_rfl), hf 3 (by kernel_rfl)]; exact h'))) w h)
noncomputable def F29_s2_c : Code := (.seq F29_p20 F29_s3_c)
theorem F29_s2_e (R : RT) (K : KF) (X : KX) (f : Fr) (w : World) (h : F29_W R F29_p21 K (kxB 0 K X) f w) : F29_W R F29_p20 K X f w := Eq.mp (by kernel_rfl) h
theorem F29_s2_ok (R : RT) : OkW (F29_W R) (a3 (F29_s11 R) 0 3 4) F29_s2_c (F29_k R) noX :=
  fun f w h => cut F29_p20 F29_s3_c (K := (a2 (F29_s3 R) 0 3)) (F29_s3_ok R) f w (F29_s2_e R _ _ f w ((F29_s11_ok R) f w h))
def F29_s1_t (R : RT) (K : V3) (v0 v1 : Value) (w : World) : Prop :=
  uv Tryz.prog R (Instr.box 42 v1) w (fun v3 w =>
  K v0 v3 (.int .i64 0) w)
theorem F29_s1_st (R : RT) (K : V3) (X : KX) (f : Fr) (w : World) (h : F29_s1_t R K (f 0) (f 1) w) : F29_W R (.seq F29_p34 F29_p35) (a3 K 0 3 4) X f w := Eq.mp (by kernel_rfl) h
def F29_s1 (R : RT) (v0 v1 : Value) (w : World) : Prop :=
  F29_s1_t R (F29_s11 R) v0 v1 w
noncomputable def F29_s1_c : Code := (.seq (.seq F29_p34 F29_p35) F29_s2_c)
theorem F29_s1_ok (R : RT) : OkW (F29_W R) (a2 (F29_s1 R) 0 1) F29_s1_c (F29_k R) noX :=
  fun f w h => cut (.seq F29_p34 F29_p35) F29_s2_c (K := (a3 (F29_s11 R) 0 3 4)) (F29_s2_ok R) f w (F29_s1_st R (F29_s11 R) _ f w h)
theorem F29_all_e (R : RT) (K : KF) (X : KX) (f : Fr) (w : World) (h : F29_W R F29_s1_c K X f w) : F29_W R F29_b K X f w := Eq.mp (by kernel_rfl) h
theorem F29_calls (R : RT) (v0 v1 : Value) (w : World) (h : F29_s1 R v0 v1 w) : Calls Tryz.prog 29 #[v0, v1] w R :=
  calls_of_wpE (dc := F29_dc) (args := [v0, v1]) hmixed Tryz.func29 (c := F29_b) rfl (rs := []) rfl (by kernel_rfl) (Nat.le_of_ble_eq_true (by kernel_rfl)) (F29_all_e R _ _ _ w ((F29_s1_ok R) (initFr [v0, v1]) w h))

/-! ### (*hasp/haspref10.Table).forget -/
noncomputable def F35_b : Code := bodyOf Tryz.f35
def F35_dc : Nat → List (Nat × Bool)
  | _ => []
abbrev F35_k (R : RT) := resK Tryz.prog [] R
abbrev F35_W (R : RT) := wpE Tryz.prog F35_dc (F35_k R) (panK R)
noncomputable def F35_p0 := cR F35_b
noncomputable def F35_p1 := cR F35_p0
noncomputable def F35_p2 := cL F35_p0
noncomputable def F35_p3 := cR F35_p2
noncomputable def F35_p4 := cI F35_p3
noncomputable def F35_p5 := cI F35_p4
noncomputable def F35_p6 := cR F35_p5
noncomputable def F35_p7 := cR F35_p6
noncomputable def F35_p8 := cL F35_p6
noncomputable def F35_p9 := cI F35_p8
noncomputable def F35_p10 := cR F35_p9
noncomputable def F35_p11 := cT F35_p10
noncomputable def F35_p12 := cL F35_p9
noncomputable def F35_p13 := cL F35_p5
noncomputable def F35_p14 := cR F35_p13
noncomputable def F35_p15 := cL F35_p13
noncomputable def F35_p16 := cL F35_b
noncomputable def F35_p17 := cL F35_p2
def F35_s3_t (R : RT) (v0 v4 : Value) (w : World) : Prop :=
  un Tryz.prog R (nilS v0) w (fun v39 w =>
  uv Tryz.prog R (Instr.fieldAt 30 v39 1) w (fun v40 w =>
  uu Tryz.prog R (Instr.storeAt 28 v40 v4) w (fun w =>
  R (.returned (.tuple #[])) w)))
theorem F35_s3_st (R : RT) (X : KX) (f : Fr) (w : World) (h : F35_s3_t R (f 0) (f 4) w) : F35_W R F35_p1 (F35_k R) X f w := Eq.mp (by kernel_rfl) h
def F35_s3 (R : RT) (v0 v4 : Value) (w : World) : Prop :=
  F35_s3_t R v0 v4 w
noncomputable def F35_s3_c : Code := (.seq F35_p1 .skip)
theorem F35_s3_ok (R : RT) : OkW (F35_W R) (a2 (F35_s3 R) 0 4) F35_s3_c (F35_k R) noX :=
  fun f w h => cut F35_p1 .skip (K := (F35_k R)) (fun f w h => skip_ok h) f w (F35_s3_st R _ f w h)
def F35_s8_t (R : RT) (K : V2) (v0 v1 v4 v5 : Value) (w : World) : Prop :=
  uv Tryz.prog R (binS .add 3 (.tmp 14) (.const (.int .i64 1)) v5 (.int .i64 1)) w (fun v15 w =>
  K v4 v15 w)
theorem F35_s8_st (R : RT) (K : V2) (X : KX) (f : Fr) (w : World) (h : F35_s8_t R K (f 0) (f 1) (f 4) (f 5) w) : F35_W R F35_p7 (a2 K 4 5) X f w := Eq.mp (by kernel_rfl) h
def F35_s8 (R : RT) (rec4 : V2) (v0 v1 v4 v5 : Value) (w : World) : Prop :=
  F35_s8_t R rec4 v0 v1 v4 v5 w
noncomputable def F35_s8_c : Code := (.seq F35_p7 .skip)
theorem F35_s8_ok (R : RT) (rec4 : V2) : OkW (F35_W R) (a4 (F35_s8 R rec4) 0 1 4 5) F35_s8_c (a2 rec4 4 5) (kxB 0 (a2 (F35_s3 R) 0 4) noX) :=
  fun f w h => cut F35_p7 .skip (K := (a2 rec4 4 5)) (fun f w h => skip_ok h) f w (F35_s8_st R rec4 _ f w h)
def F35_s11_t (R : RT) (K : V4) (v0 v1 v4 v5 : Value) (w : World) : Prop :=
  un Tryz.prog R (nilS v0) w (fun v29 w =>
  uv Tryz.prog R (Instr.fieldAt 30 v29 1) w (fun v30 w =>
  uv Tryz.prog R (Instr.loadAt 28 v30) w (fun v31 w =>
  uv Tryz.prog R (Instr.indexAt 28 v31 v5) w (fun v33 w =>
  uv Tryz.prog R (Instr.loadAt 70 v33) w (fun v34 w =>
  uv Tryz.prog R (Instr.buildSlice 28 1 #[(0, v34)]) w (fun v35 w =>
  un Tryz.prog R (builtin .append #[28, 28] 28 #[false, false] #[v4, v35]) w (fun v36 w =>
  K v0 v1 v36 v5 w)))))))
theorem F35_s11_st (R : RT) (K : V4) (X : KX) (f : Fr) (w : World) (h : F35_s11_t R K (f 0) (f 1) (f 4) (f 5) w) : F35_W R F35_p11 (a4 K 0 1 4 5) X f w := Eq.mp (by kernel_rfl) h
def F35_s11 (R : RT) (rec4 : V2) (v0 v1 v4 v5 : Value) (w : World) : Prop :=
  F35_s11_t R (F35_s8 R rec4) v0 v1 v4 v5 w
noncomputable def F35_s11_c : Code := (.seq F35_p11 .skip)
theorem F35_s11_ok (R : RT) (rec4 : V2) : OkW (F35_W R) (a4 (F35_s11 R rec4) 0 1 4 5) F35_s11_c (a4 (F35_s8 R rec4) 0 1 4 5) (kxB 1 (a4 (F35_s8 R rec4) 0 1 4 5) (kxB 0 (a2 (F35_s3 R) 0 4) noX)) :=
  fun f w h => cut F35_p11 .skip (K := (a4 (F35_s8 R rec4) 0 1 4 5)) (fun f w h => skip_ok h) f w (F35_s11_st R (F35_s8 R rec4) _ f w h)
def F35_s10 (R : RT) (rec4 : V2) (v0 v1 v4 v5 v26 : Value) (w : World) : Prop :=
  Bc v26
    (F35_s11 R rec4 v0 v1 v4 v5 w)
    (F35_s8 R rec4 v0 v1 v4 v5 w)
noncomputable def F35_s10_c : Code := (.seq F35_p10 .skip)
theorem F35_s10_e (R : RT) (K : KF) (X : KX) (f : Fr) (w : World) (h : Bc (f 26) (F35_W R F35_s11_c K X f w) (F35_W R .skip K X f w)) : (F35_W R F35_p10 K X f w) := Eq.mp (by kernel_rfl) h
theorem F35_s10_ok (R : RT) (rec4 : V2) : OkW (F35_W R) (a5 (F35_s10 R rec4) 0 1 4 5 26) F35_s10_c (a4 (F35_s8 R rec4) 0 1 4 5) (kxB 1 (a4 (F35_s8 R rec4) 0 1 4 5) (kxB 0 (a2 (F35_s3 R) 0 4) noX)) :=
  fun f w h => cut F35_p10 .skip (K := (a4 (F35_s8 R rec4) 0 1 4 5)) (fun f w h => skip_ok h) f w (F35_s10_e R _ _ f w (Bc_imp (x' := (F35_W R F35_s11_c (a4 (F35_s8 R rec4) 0 1 4 5) (kxB 1 (a4 (F35_s8 R rec4) 0 1 4 5) (kxB 0 (a2 (F35_s3 R) 0 4) noX)) f w)) (y' := (F35_W R .skip (a4 (F35_s8 R rec4) 0 1 4 5) (kxB 1 (a4 (F35_s8 R rec4) 0 1 4 5) (kxB 0 (a2 (F35_s3 R) 0 4) noX)) f w)) ((F35_s11_ok R rec4) f w) ((fun f w h => skip_ok h) f w) h))
def F35_s9_t (R : RT) (K : V5) (v0 v1 v4 v5 : Value) (w : World) : Prop :=
  un Tryz.prog R (nilS v0) w (fun v17 w =>
  uv Tryz.prog R (Instr.fieldAt 30 v17 1) w (fun v18 w =>
  uv Tryz.prog R (Instr.loadAt 28 v18) w (fun v19 w =>
  uv Tryz.prog R (Instr.indexAt 28 v19 v5) w (fun v21 w =>
  uv Tryz.prog R (Instr.fieldAt 70 v21 0) w (fun v22 w =>
  uv Tryz.prog R (Instr.fieldAt 42 v22 0) w (fun v23 w =>
  uv Tryz.prog R (Instr.loadAt 3 v23) w (fun v24 w =>
  uv Tryz.prog R (binS .neq 3 (.tmp 24) (.tmp 25) v24 v1) w (fun v26 w =>
  K v0 v1 v4 v5 v26 w))))))))
theorem F35_s9_st (R : RT) (K : V5) (X : KX) (f : Fr) (w : World) (h : F35_s9_t R K (f 0) (f 1) (f 4) (f 5) w) : F35_W R F35_p12 (a5 K 0 1 4 5 26) X f w := Eq.mp (by kernel_rfl) h
def F35_s9 (R : RT) (rec4 : V2) (v0 v1 v4 v5 : Value) (w : World) : Prop :=
  F35_s9_t R (F35_s10 R rec4) v0 v1 v4 v5 w
noncomputable def F35_s9_c : Code := (.seq F35_p12 F35_s10_c)
theorem F35_s9_ok (R : RT) (rec4 : V2) : OkW (F35_W R) (a4 (F35_s9 R rec4) 0 1 4 5) F35_s9_c (a4 (F35_s8 R rec4) 0 1 4 5) (kxB 1 (a4 (F35_s8 R rec4) 0 1 4 5) (kxB 0 (a2 (F35_s3 R) 0 4) noX)) :=
  fun f w h => cut F35_p12 F35_s10_c (K := (a5 (F35_s10 R rec4) 0 1 4 5 26)) (F35_s10_ok R rec4) f w (F35_s9_st R (F35_s10 R rec4) _ f w h)
noncomputable def F35_s7_c : Code := (.seq F35_p8 F35_s8_c)
theorem F35_s7_e (R : RT) (K : KF) (X : KX) (f : Fr) (w : World) (h : F35_W R F35_s9_c K (kxB 1 K X) f w) : F35_W R F35_p8 K X f w := Eq.mp (by kernel_rfl) h
theorem F35_s7_ok (R : RT) (rec4 : V2) : OkW (F35_W R) (a4 (F35_s9 R rec4) 0 1 4 5) F35_s7_c (a2 rec4 4 5) (kxB 0 (a2 (F35_s3 R) 0 4) noX) :=
  fun f w h => cut F35_p8 F35_s8_c (K := (a4 (F35_s8 R rec4) 0 1 4 5)) (F35_s8_ok R rec4) f w (F35_s7_e R _ _ f w ((F35_s9_ok R rec4) f w h))
def F35_s6 (R : RT) (rec4 : V2) (v0 v1 v4 v5 v13 : Value) (w : World) : Prop :=
  Bc v13
    (F35_s9 R rec4 v0 v1 v4 v5 w)
    (F35_s3 R v0 v4 w)
noncomputable def F35_s6_c : Code := (.seq F35_p14 F35_s7_c)
theorem F35_s6_e (R : RT) (K : KF) (X : KX) (f : Fr) (w : World) (h : Bc (f 13) (F35_W R .skip K X f w) (F35_W R (.exit 0) K X f w)) : (F35_W R F35_p14 K X f w) := Eq.mp (by kernel_rfl) h
theorem F35_s6_ok (R : RT) (rec4 : V2) : OkW (F35_W R) (a5 (F35_s6 R rec4) 0 1 4 5 13) F35_s6_c (a2 rec4 4 5) (kxB 0 (a2 (F35_s3 R) 0 4) noX) :=
  fun f w h => cut F35_p14 F35_s7_c (K := (a4 (F35_s9 R rec4) 0 1 4 5)) (F35_s7_ok R rec4) f w (F35_s6_e R _ _ f w (Bc_imp (x' := (F35_W R .skip (a4 (F35_s9 R rec4) 0 1 4 5) (kxB 0 (a2 (F35_s3 R) 0 4) noX) f w)) (y' := (F35_W R (.exit 0) (a4 (F35_s9 R rec4) 0 1 4 5) (kxB 0 (a2 (F35_s3 R) 0 4) noX) f w)) ((fun f w h => skip_ok h) f w) ((fun f w h => exit_hit h) f w) h))
def F35_s5_t (R : RT) (K : V5) (v0 v1 v4 v5 : Value) (w : World) : Prop :=
  un Tryz.prog R (nilS v0) w (fun v9 w =>
  uv Tryz.prog R (Instr.fieldAt 30 v9 1) w (fun v10 w =>
  uv Tryz.prog R (Instr.loadAt 28 v10) w (fun v11 w =>
  un Tryz.prog R (builtin .len #[28] 3 #[false] #[v11]) w (fun v12 w =>
  uv Tryz.prog R (binS .lss 3 (.tmp 7) (.tmp 12) v5 v12) w (fun v13 w =>
  K v0 v1 v4 v5 v13 w)))))
theorem F35_s5_st (R : RT) (K : V5) (X : KX) (f : Fr) (w : World) (h : F35_s5_t R K (f 0) (f 1) (f 4) (f 5) w) : F35_W R F35_p15 (a5 K 0 1 4 5 13) X f w := Eq.mp (by kernel_rfl) h
def F35_s5 (R : RT) (rec4 : V2) (v0 v1 v4 v5 : Value) (w : World) : Prop :=
  F35_s5_t R (F35_s6 R rec4) v0 v1 v4 v5 w
noncomputable def F35_s5_c : Code := (.seq F35_p15 F35_s6_c)
theorem F35_s5_ok (R : RT) (rec4 : V2) : OkW (F35_W R) (a4 (F35_s5 R rec4) 0 1 4 5) F35_s5_c (a2 rec4 4 5) (kxB 0 (a2 (F35_s3 R) 0 4) noX) :=
  fun f w h => cut F35_p15 F35_s6_c (K := (a5 (F35_s6 R rec4) 0 1 4 5 13)) (F35_s6_ok R rec4) f w (F35_s5_st R (F35_s6 R rec4) _ f w h)
def F35_s4 (R : RT) (v0 v1 v4 v5 : Value) (w : World) : Prop :=
  Lp2 (fun rec4 v4 v5 w => F35_s5 R rec4 v0 v1 v4 v5 w) v4 v5 w
theorem F35_s4_e (R : RT) (K : KF) (X : KX) (f : Fr) (w : World) (h : F35_W R (.loop F35_p5) K X f w) : F35_W R F35_p4 K X f w := Eq.mp (by kernel_rfl) h
theorem F35_s4b_e (R : RT) (K : KF) (X : KX) (f : Fr) (w : World) (h : F35_W R F35_s5_c K X f w) : F35_W R F35_p5 K X f w := Eq.mp (by kernel_rfl) h
theorem F35_s4_ok (R : RT) : OkW (F35_W R) (a4 (F35_s4 R) 0 1 4 5) F35_p4 (a2 (F35_s3 R) 0 4) (kxB 0 (a2 (F35_s3 R) 0 4) noX) :=
  fun f w h => F35_s4_e R _ _ f w (loop2_ok (P := Tryz.prog) (dc := F35_dc) (kr := (F35_k R)) (pan := panK R) F35_p5 (kn := (a2 (F35_s3 R) 0 4)) (kx := (kxB 0 (a2 (F35_s3 R) 0 4) noX)) (s0 := 4) (s1 := 5) (fun rec4 v4 v5 w => F35_s5 R rec4 (f 0) (f 1) v4 v5 w) f (fun rec4 f' w' hf h' => F35_s4b_e R _ _ f' w' ((F35_s5_ok R rec4) f' w' (by simp only [a4, hf 0 (by kernel_rfl), hf 1 (by kernel_rfl)]; exact h'))) w h)
noncomputable def F35_s2_c : Code := (.seq F35_p3 F35_s3_c)
theorem F35_s2_e (R : RT) (K : KF) (X : KX) (f : Fr) (w : World) (h : F35_W R F35_p4 K (kxB 0 K X) f w) : F35_W R F35_p3 K X f w := Eq.mp (by kernel_rfl) h
theorem F35_s2_ok (R : RT) : OkW (F35_W R) (a4 (F35_s4 R) 0 1 4 5) F35_s2_c (F35_k R) noX :=
  fun f w h => cut F35_p3 F35_s3_c (K := (a2 (F35_s3 R) 0 4)) (F35_s3_ok R) f w (F35_s2_e R _ _ f w ((F35_s4_ok R) f w h))
def F35_s1_t (R : RT) (K : V4) (v0 v1 : Value) (w : World) : Prop :=
  uv Tryz.prog R (Instr.buildSlice 28 0 #[]) w (fun v6 w =>
  K v0 v1 v6 (.int .i64 0) w)
theorem F35_s1_st (R : RT) (K : V4) (X : KX) (f : Fr) (w : World) (h : F35_s1_t R K (f 0) (f 1) w) : F35_W R (.seq F35_p16 F35_p17) (a4 K 0 1 4 5) X f w := Eq.mp (by kernel_rfl) h
def F35_s1 (R : RT) (v0 v1 : Value) (w : World) : Prop :=
  F35_s1_t R (F35_s4 R) v0 v1 w
noncomputable def F35_s1_c : Code := (.seq (.seq F35_p16 F35_p17) F35_s2_c)
theorem F35_s1_ok (R : RT) : OkW (F35_W R) (a2 (F35_s1 R) 0 1) F35_s1_c (F35_k R) noX :=
  fun f w h => cut (.seq F35_p16 F35_p17) F35_s2_c (K := (a4 (F35_s4 R) 0 1 4 5)) (F35_s2_ok R) f w (F35_s1_st R (F35_s4 R) _ f w h)
theorem F35_all_e (R : RT) (K : KF) (X : KX) (f : Fr) (w : World) (h : F35_W R F35_s1_c K X f w) : F35_W R F35_b K X f w := Eq.mp (by kernel_rfl) h
theorem F35_calls (R : RT) (v0 v1 : Value) (w : World) (h : F35_s1 R v0 v1 w) : Calls Tryz.prog 35 #[v0, v1] w R :=
  calls_of_wpE (dc := F35_dc) (args := [v0, v1]) hmixed Tryz.func35 (c := F35_b) rfl (rs := []) rfl (by kernel_rfl) (Nat.le_of_ble_eq_true (by kernel_rfl)) (F35_all_e R _ _ _ w ((F35_s1_ok R) (initFr [v0, v1]) w h))

/-! ### hasp/haspref10.ahead -/
noncomputable def F54_b : Code := bodyOf Tryz.f54
def F54_dc : Nat → List (Nat × Bool)
  | _ => []
abbrev F54_k (R : RT) := resK Tryz.prog [.tmp 4] R
abbrev F54_W (R : RT) := wpE Tryz.prog F54_dc (F54_k R) (panK R)
noncomputable def F54_p0 := cR F54_b
noncomputable def F54_p1 := cR F54_p0
noncomputable def F54_p2 := cL F54_p1
noncomputable def F54_p3 := cL F54_p0
noncomputable def F54_p4 := cR F54_p3
noncomputable def F54_p5 := cT F54_p4
noncomputable def F54_p6 := cL F54_p5
noncomputable def F54_p7 := cL F54_b
noncomputable def F54_p8 := cL F54_p3
def F54_s3_t (R : RT) (v2 v3 : Value) (w : World) : Prop :=
  uv Tryz.prog R (Instr.fieldAt 42 v2 0) w (fun v15 w =>
  uv Tryz.prog R (Instr.loadAt 3 v15) w (fun v16 w =>
  uv Tryz.prog R (Instr.fieldAt 42 v3 0) w (fun v17 w =>
  uv Tryz.prog R (Instr.loadAt 3 v17) w (fun v18 w =>
  uv Tryz.prog R (binS .lss 3 (.tmp 16) (.tmp 18) v16 v18) w (fun v19 w =>
  R (.returned v19) w)))))
theorem F54_s3_st (R : RT) (X : KX) (f : Fr) (w : World) (h : F54_s3_t R (f 2) (f 3) w) : F54_W R F54_p2 (F54_k R) X f w := Eq.mp (by kernel_rfl) h
def F54_s3 (R : RT) (v2 v3 : Value) (w : World) : Prop :=
  F54_s3_t R v2 v3 w
noncomputable def F54_s3_c : Code := (.seq F54_p2 .ret)
theorem F54_s3_ok (R : RT) : OkW (F54_W R) (a2 (F54_s3 R) 2 3) F54_s3_c (F54_k R) noX :=
  fun f w h => cut F54_p2 .ret (K := (F54_k R)) (fun f w h => ret_ok h) f w (F54_s3_st R _ f w h)
def F54_s4_t (R : RT) (v2 v3 : Value) (w : World) : Prop :=
  uv Tryz.prog R (Instr.fieldAt 42 v2 1) w (fun v10 w =>
  uv Tryz.prog R (Instr.loadAt 9 v10) w (fun v11 w =>
  uv Tryz.prog R (Instr.fieldAt 42 v3 1) w (fun v12 w =>
  uv Tryz.prog R (Instr.loadAt 9 v12) w (fun v13 w =>
  uv Tryz.prog R (binS .lss 9 (.tmp 11) (.tmp 13) v11 v13) w (fun v14 w =>
  R (.returned v14) w)))))
theorem F54_s4_st (R : RT) (X : KX) (f : Fr) (w : World) (h : F54_s4_t R (f 2) (f 3) w) : F54_W R F54_p6 (F54_k R) X f w := Eq.mp (by kernel_rfl) h
def F54_s4 (R : RT) (v2 v3 : Value) (w : World) : Prop :=
  F54_s4_t R v2 v3 w
noncomputable def F54_s4_c : Code := (.seq F54_p6 .ret)
theorem F54_s4_ok (R : RT) : OkW (F54_W R) (a2 (F54_s4 R) 2 3) F54_s4_c (a2 (F54_s3 R) 2 3) noX :=
  fun f w h => cut F54_p6 .ret (K := (F54_k R)) (fun f w h => ret_ok h) f w (F54_s4_st R _ f w h)
def F54_s2 (R : RT) (v2 v3 v9 : Value) (w : World) : Prop :=
  Bc v9
    (F54_s4 R v2 v3 w)
    (F54_s3 R v2 v3 w)
noncomputable def F54_s2_c : Code := (.seq F54_p4 F54_s3_c)
theorem F54_s2_e (R : RT) (K : KF) (X : KX) (f : Fr) (w : World) (h : Bc (f 9) (F54_W R F54_s4_c K X f w) (F54_W R .skip K X f w)) : (F54_W R F54_p4 K X f w) := Eq.mp (by kernel_rfl) h
theorem F54_s2_ok (R : RT) : OkW (F54_W R) (a3 (F54_s2 R) 2 3 9) F54_s2_c (F54_k R) noX :=
  fun f w h => cut F54_p4 F54_s3_c (K := (a2 (F54_s3 R) 2 3)) (F54_s3_ok R) f w (F54_s2_e R _ _ f w (Bc_imp (x' := (F54_W R F54_s4_c (a2 (F54_s3 R) 2 3) noX f w)) (y' := (F54_W R .skip (a2 (F54_s3 R) 2 3) noX f w)) ((F54_s4_ok R) f w) ((fun f w h => skip_ok h) f w) h))
def F54_s1_t (R : RT) (K : V3) (v0 v1 : Value) (w : World) : Prop :=
  uv Tryz.prog R (Instr.box 42 v0) w (fun v2 w =>
  uv Tryz.prog R (Instr.box 42 v1) w (fun v3 w =>
  uv Tryz.prog R (Instr.fieldAt 42 v2 1) w (fun v5 w =>
  uv Tryz.prog R (Instr.loadAt 9 v5) w (fun v6 w =>
  uv Tryz.prog R (Instr.fieldAt 42 v3 1) w (fun v7 w =>
  uv Tryz.prog R (Instr.loadAt 9 v7) w (fun v8 w =>
  uv Tryz.prog R (binS .neq 9 (.tmp 6) (.tmp 8) v6 v8) w (fun v9 w =>
  K v2 v3 v9 w)))))))
theorem F54_s1_st (R : RT) (K : V3) (X : KX) (f : Fr) (w : World) (h : F54_s1_t R K (f 0) (f 1) w) : F54_W R (.seq F54_p7 F54_p8) (a3 K 2 3 9) X f w := Eq.mp (by kernel_rfl) h
def F54_s1 (R : RT) (v0 v1 : Value) (w : World) : Prop :=
  F54_s1_t R (F54_s2 R) v0 v1 w
noncomputable def F54_s1_c : Code := (.seq (.seq F54_p7 F54_p8) F54_s2_c)
theorem F54_s1_ok (R : RT) : OkW (F54_W R) (a2 (F54_s1 R) 0 1) F54_s1_c (F54_k R) noX :=
  fun f w h => cut (.seq F54_p7 F54_p8) F54_s2_c (K := (a3 (F54_s2 R) 2 3 9)) (F54_s2_ok R) f w (F54_s1_st R (F54_s2 R) _ f w h)
theorem F54_all_e (R : RT) (K : KF) (X : KX) (f : Fr) (w : World) (h : F54_W R F54_s1_c K X f w) : F54_W R F54_b K X f w := Eq.mp (by kernel_rfl) h
theorem F54_calls (R : RT) (v0 v1 : Value) (w : World) (h : F54_s1 R v0 v1 w) : Calls Tryz.prog 54 #[v0, v1] w R :=
  calls_of_wpE (dc := F54_dc) (args := [v0, v1]) hmixed Tryz.func54 (c := F54_b) rfl (rs := [.tmp 4]) rfl (by kernel_rfl) (Nat.le_of_ble_eq_true (by kernel_rfl)) (F54_all_e R _ _ _ w ((F54_s1_ok R) (initFr [v0, v1]) w h))

end Go.Proofs.YtpghlemcgjogpaaGreat
