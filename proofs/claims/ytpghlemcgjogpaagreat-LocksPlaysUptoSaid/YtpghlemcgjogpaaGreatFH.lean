import Derived.Test.YtpghlemcgjogpaaGreatProg
import Derived.Test.YtpghlemcgjogpaaGreatSx
import Derived.Test.YtpghlemcgjogpaaGreatT
set_option linter.unusedVariables false
set_option maxRecDepth 100000
set_option maxHeartbeats 400000
namespace Go.Proofs.YtpghlemcgjogpaaGreat
open Go.Sx
/-! ### (*hasp/haspref10.Table).Drop -/
noncomputable def F10_b : Code := bodyOf Tryz.f10
def F10_dc : Nat → List (Nat × Bool)
  | 12 => [(0, true), (1, true), (2, true), (3, true), (4, true), (5, true), (6, true), (7, true), (8, true), (9, true), (10, true), (11, true), (12, true), (13, true)]
  | _ => []
abbrev F10_k (R : RT) := resK Tryz.prog [.tmp 4] R
abbrev F10_W (R : RT) := wpE Tryz.prog F10_dc (F10_k R) (panK R)
noncomputable def F10_p0 := cR F10_b
noncomputable def F10_p1 := cR F10_p0
noncomputable def F10_p2 := cR F10_p1
noncomputable def F10_p3 := cR F10_p2
noncomputable def F10_p4 := cR F10_p3
noncomputable def F10_p5 := cR F10_p4
noncomputable def F10_p6 := cR F10_p5
noncomputable def F10_p7 := cR F10_p6
noncomputable def F10_p8 := cL F10_p7
noncomputable def F10_p9 := cL F10_p6
noncomputable def F10_p10 := cR F10_p9
noncomputable def F10_p11 := cI F10_p10
noncomputable def F10_p12 := cI F10_p11
noncomputable def F10_p13 := cR F10_p12
noncomputable def F10_p14 := cR F10_p13
noncomputable def F10_p15 := cL F10_p13
noncomputable def F10_p16 := cI F10_p15
noncomputable def F10_p17 := cR F10_p16
noncomputable def F10_p18 := cR F10_p17
noncomputable def F10_p19 := cI F10_p18
noncomputable def F10_p20 := cI F10_p19
noncomputable def F10_p21 := cR F10_p20
noncomputable def F10_p22 := cR F10_p21
noncomputable def F10_p23 := cL F10_p21
noncomputable def F10_p24 := cI F10_p23
noncomputable def F10_p25 := cL F10_p24
noncomputable def F10_p26 := cR F10_p24
noncomputable def F10_p27 := cL F10_p26
noncomputable def F10_p28 := cR F10_p26
noncomputable def F10_p29 := cL F10_p20
noncomputable def F10_p30 := cR F10_p29
noncomputable def F10_p31 := cL F10_p29
noncomputable def F10_p32 := cL F10_p16
noncomputable def F10_p33 := cL F10_p17
noncomputable def F10_p34 := cL F10_p12
noncomputable def F10_p35 := cR F10_p34
noncomputable def F10_p36 := cL F10_p34
noncomputable def F10_p37 := cL F10_p4
noncomputable def F10_p38 := cL F10_p5
noncomputable def F10_p39 := cL F10_p9
noncomputable def F10_p40 := cL F10_p3
noncomputable def F10_p41 := cR F10_p40
noncomputable def F10_p42 := cT F10_p41
noncomputable def F10_p43 := cR F10_p42
noncomputable def F10_p44 := cR F10_p43
noncomputable def F10_p45 := cI F10_p44
noncomputable def F10_p46 := cI F10_p45
noncomputable def F10_p47 := cR F10_p46
noncomputable def F10_p48 := cR F10_p47
noncomputable def F10_p49 := cL F10_p47
noncomputable def F10_p50 := cI F10_p49
noncomputable def F10_p51 := cL F10_p50
noncomputable def F10_p52 := cR F10_p50
noncomputable def F10_p53 := cL F10_p52
noncomputable def F10_p54 := cR F10_p52
noncomputable def F10_p55 := cL F10_p46
noncomputable def F10_p56 := cR F10_p55
noncomputable def F10_p57 := cL F10_p55
noncomputable def F10_p58 := cL F10_p42
noncomputable def F10_p59 := cL F10_p43
noncomputable def F10_p60 := cL F10_p40
noncomputable def F10_p61 := cL F10_p2
noncomputable def F10_p62 := cR F10_p61
noncomputable def F10_p63 := cI F10_p62
noncomputable def F10_p64 := cI F10_p63
noncomputable def F10_p65 := cR F10_p64
noncomputable def F10_p66 := cR F10_p65
noncomputable def F10_p67 := cL F10_p65
noncomputable def F10_p68 := cI F10_p67
noncomputable def F10_p69 := cR F10_p68
noncomputable def F10_p70 := cT F10_p69
noncomputable def F10_p71 := cF F10_p69
noncomputable def F10_p72 := cL F10_p68
noncomputable def F10_p73 := cL F10_p64
noncomputable def F10_p74 := cR F10_p73
noncomputable def F10_p75 := cL F10_p73
noncomputable def F10_p76 := cL F10_b
noncomputable def F10_p77 := cL F10_p0
noncomputable def F10_p78 := cL F10_p1
noncomputable def F10_p79 := cL F10_p61
def F10_s7_t (R : RT) (v7 : Value) (w : World) : Prop :=
  R (.returned v7) w
theorem F10_s7_st (R : RT) (X : KX) (f : Fr) (w : World) (h : F10_s7_t R (f 7) w) : F10_W R F10_p8 (F10_k R) X f w := Eq.mp (by kernel_rfl) h
def F10_s7 (R : RT) (v7 : Value) (w : World) : Prop :=
  F10_s7_t R v7 w
noncomputable def F10_s7_c : Code := (.seq F10_p8 .ret)
theorem F10_s7_ok (R : RT) : OkW (F10_W R) (a1 (F10_s7 R) 7) F10_s7_c (F10_k R) noX :=
  fun f w h => cut F10_p8 .ret (K := (F10_k R)) (fun f w h => ret_ok h) f w (F10_s7_st R _ f w h)
def F10_s12_t (R : RT) (K : V2) (v0 v5 v7 v13 : Value) (w : World) : Prop :=
  uv Tryz.prog R (binS .add 3 (.tmp 126) (.const (.int .i64 1)) v13 (.int .i64 1)) w (fun v127 w =>
  K v7 v127 w)
theorem F10_s12_st (R : RT) (K : V2) (X : KX) (f : Fr) (w : World) (h : F10_s12_t R K (f 0) (f 5) (f 7) (f 13) w) : F10_W R F10_p14 (a2 K 7 13) X f w := Eq.mp (by kernel_rfl) h
def F10_s12 (R : RT) (rec8 : V2) (v0 v5 v7 v13 : Value) (w : World) : Prop :=
  F10_s12_t R rec8 v0 v5 v7 v13 w
noncomputable def F10_s12_c : Code := (.seq F10_p14 .skip)
theorem F10_s12_ok (R : RT) (rec8 : V2) : OkW (F10_W R) (a4 (F10_s12 R rec8) 0 5 7 13) F10_s12_c (a2 rec8 7 13) (kxB 4 (a1 (F10_s7 R) 7) noX) :=
  fun f w h => cut F10_p14 .skip (K := (a2 rec8 7 13)) (fun f w h => skip_ok h) f w (F10_s12_st R rec8 _ f w h)
def F10_s19_t (R : RT) (K : V2) (v0 v5 v7 v13 v14 v15 : Value) (w : World) : Prop :=
  uv Tryz.prog R (binS .add 3 (.tmp 146) (.const (.int .i64 1)) v15 (.int .i64 1)) w (fun v147 w =>
  K v7 v147 w)
theorem F10_s19_st (R : RT) (K : V2) (X : KX) (f : Fr) (w : World) (h : F10_s19_t R K (f 0) (f 5) (f 7) (f 13) (f 14) (f 15) w) : F10_W R F10_p22 (a2 K 7 15) X f w := Eq.mp (by kernel_rfl) h
def F10_s19 (R : RT) (rec8 : V2) (rec15 : V2) (v0 v5 v7 v13 v14 v15 : Value) (w : World) : Prop :=
  F10_s19_t R rec15 v0 v5 v7 v13 v14 v15 w
noncomputable def F10_s19_c : Code := (.seq F10_p22 .skip)
theorem F10_s19_ok (R : RT) (rec8 : V2) (rec15 : V2) : OkW (F10_W R) (a6 (F10_s19 R rec8 rec15) 0 5 7 13 14 15) F10_s19_c (a2 rec15 7 15) (kxB 6 (a4 (F10_s12 R rec8) 0 5 7 13) (kxB 5 (a4 (F10_s12 R rec8) 0 5 7 13) (kxB 4 (a1 (F10_s7 R) 7) noX))) :=
  fun f w h => cut F10_p22 .skip (K := (a2 rec15 7 15)) (fun f w h => skip_ok h) f w (F10_s19_st R rec15 _ f w h)
def F10_s20_t (R : RT) (K : V6) (v0 v5 v7 v13 v14 v15 : Value) (w : World) : Prop :=
  uv Tryz.prog R (Instr.indexAt 27 v14 v15) w (fun v151 w =>
  uv Tryz.prog R (Instr.fieldAt 42 v151 0) w (fun v152 w =>
  uv Tryz.prog R (Instr.loadAt 3 v152) w (fun v153 w =>
  un Tryz.prog R (callFunc 35 #[v0, v153]) w (fun v154 w =>
  uv Tryz.prog R (Instr.indexAt 27 v14 v15) w (fun v158 w =>
  uv Tryz.prog R (Instr.loadAt 42 v158) w (fun v159 w =>
  un Tryz.prog R (callFunc 29 #[v0, v159]) w (fun v160 w =>
  uv Tryz.prog R (Instr.indexAt 27 v14 v15) w (fun v164 w =>
  uv Tryz.prog R (Instr.fieldAt 42 v164 0) w (fun v165 w =>
  uv Tryz.prog R (Instr.loadAt 3 v165) w (fun v166 w =>
  uv Tryz.prog R (Instr.buildSlice 35 1 #[(0, v166)]) w (fun v167 w =>
  un Tryz.prog R (builtin .append #[35, 35] 35 #[false, false] #[v7, v167]) w (fun v168 w =>
  K v0 v5 v168 v13 v14 v15 w))))))))))))
theorem F10_s20_st (R : RT) (K : V6) (X : KX) (f : Fr) (w : World) (h : F10_s20_t R K (f 0) (f 5) (f 7) (f 13) (f 14) (f 15) w) : F10_W R (.seq F10_p25 (.seq F10_p27 F10_p28)) (a6 K 0 5 7 13 14 15) X f w := Eq.mp (by kernel_rfl) h
def F10_s20 (R : RT) (rec8 : V2) (rec15 : V2) (v0 v5 v7 v13 v14 v15 : Value) (w : World) : Prop :=
  F10_s20_t R (F10_s19 R rec8 rec15) v0 v5 v7 v13 v14 v15 w
noncomputable def F10_s20_c : Code := (.seq (.seq F10_p25 (.seq F10_p27 F10_p28)) .skip)
theorem F10_s20_ok (R : RT) (rec8 : V2) (rec15 : V2) : OkW (F10_W R) (a6 (F10_s20 R rec8 rec15) 0 5 7 13 14 15) F10_s20_c (a6 (F10_s19 R rec8 rec15) 0 5 7 13 14 15) (kxB 7 (a6 (F10_s19 R rec8 rec15) 0 5 7 13 14 15) (kxB 6 (a4 (F10_s12 R rec8) 0 5 7 13) (kxB 5 (a4 (F10_s12 R rec8) 0 5 7 13) (kxB 4 (a1 (F10_s7 R) 7) noX)))) :=
  fun f w h => cut (.seq F10_p25 (.seq F10_p27 F10_p28)) .skip (K := (a6 (F10_s19 R rec8 rec15) 0 5 7 13 14 15)) (fun f w h => skip_ok h) f w (F10_s20_st R (F10_s19 R rec8 rec15) _ f w h)
noncomputable def F10_s18_c : Code := (.seq F10_p23 F10_s19_c)
theorem F10_s18_e (R : RT) (K : KF) (X : KX) (f : Fr) (w : World) (h : F10_W R F10_s20_c K (kxB 7 K X) f w) : F10_W R F10_p23 K X f w := Eq.mp (by kernel_rfl) h
theorem F10_s18_ok (R : RT) (rec8 : V2) (rec15 : V2) : OkW (F10_W R) (a6 (F10_s20 R rec8 rec15) 0 5 7 13 14 15) F10_s18_c (a2 rec15 7 15) (kxB 6 (a4 (F10_s12 R rec8) 0 5 7 13) (kxB 5 (a4 (F10_s12 R rec8) 0 5 7 13) (kxB 4 (a1 (F10_s7 R) 7) noX))) :=
  fun f w h => cut F10_p23 F10_s19_c (K := (a6 (F10_s19 R rec8 rec15) 0 5 7 13 14 15)) (F10_s19_ok R rec8 rec15) f w (F10_s18_e R _ _ f w ((F10_s20_ok R rec8 rec15) f w h))
def F10_s17 (R : RT) (rec8 : V2) (rec15 : V2) (v0 v5 v7 v13 v14 v15 v145 : Value) (w : World) : Prop :=
  Bc v145
    (F10_s20 R rec8 rec15 v0 v5 v7 v13 v14 v15 w)
    (F10_s12 R rec8 v0 v5 v7 v13 w)
noncomputable def F10_s17_c : Code := (.seq F10_p30 F10_s18_c)
theorem F10_s17_e (R : RT) (K : KF) (X : KX) (f : Fr) (w : World) (h : Bc (f 145) (F10_W R .skip K X f w) (F10_W R (.exit 6) K X f w)) : (F10_W R F10_p30 K X f w) := Eq.mp (by kernel_rfl) h
theorem F10_s17_ok (R : RT) (rec8 : V2) (rec15 : V2) : OkW (F10_W R) (a7 (F10_s17 R rec8 rec15) 0 5 7 13 14 15 145) F10_s17_c (a2 rec15 7 15) (kxB 6 (a4 (F10_s12 R rec8) 0 5 7 13) (kxB 5 (a4 (F10_s12 R rec8) 0 5 7 13) (kxB 4 (a1 (F10_s7 R) 7) noX))) :=
  fun f w h => cut F10_p30 F10_s18_c (K := (a6 (F10_s20 R rec8 rec15) 0 5 7 13 14 15)) (F10_s18_ok R rec8 rec15) f w (F10_s17_e R _ _ f w (Bc_imp (x' := (F10_W R .skip (a6 (F10_s20 R rec8 rec15) 0 5 7 13 14 15) (kxB 6 (a4 (F10_s12 R rec8) 0 5 7 13) (kxB 5 (a4 (F10_s12 R rec8) 0 5 7 13) (kxB 4 (a1 (F10_s7 R) 7) noX))) f w)) (y' := (F10_W R (.exit 6) (a6 (F10_s20 R rec8 rec15) 0 5 7 13 14 15) (kxB 6 (a4 (F10_s12 R rec8) 0 5 7 13) (kxB 5 (a4 (F10_s12 R rec8) 0 5 7 13) (kxB 4 (a1 (F10_s7 R) 7) noX))) f w)) ((fun f w h => skip_ok h) f w) ((fun f w h => exit_hit h) f w) h))
def F10_s16_t (R : RT) (K : V7) (v0 v5 v7 v13 v14 v15 : Value) (w : World) : Prop :=
  un Tryz.prog R (builtin .len #[27] 3 #[false] #[v14]) w (fun v136 w =>
  uv Tryz.prog R (binS .lss 3 (.tmp 134) (.tmp 136) v15 v136) w (fun v137 w =>
  Gk v137 true (fun k => k v0 w) w (fun v139 w =>
  Gk v137 true (fun k => k v14 w) w (fun v140 w =>
  Gk v137 true (fun k => k v15 w) w (fun v141 w =>
  Gk v137 true (fun k => uv Tryz.prog R (Instr.indexAt 27 v140 v141) w k) w (fun v142 w =>
  Gk v137 true (fun k => uv Tryz.prog R (Instr.loadAt 42 v142) w k) w (fun v143 w =>
  Gk v137 true (fun k => un Tryz.prog R (callFunc 27 #[v139, v143]) w k) w (fun v144 w =>
  uv Tryz.prog R (pickS v137 v144 (.bool false)) w (fun v145 w =>
  K v0 v5 v7 v13 v14 v15 v145 w)))))))))
theorem F10_s16_st (R : RT) (K : V7) (X : KX) (f : Fr) (w : World) (h : F10_s16_t R K (f 0) (f 5) (f 7) (f 13) (f 14) (f 15) w) : F10_W R F10_p31 (a7 K 0 5 7 13 14 15 145) X f w := Eq.mp (by kernel_rfl) h
def F10_s16 (R : RT) (rec8 : V2) (rec15 : V2) (v0 v5 v7 v13 v14 v15 : Value) (w : World) : Prop :=
  F10_s16_t R (F10_s17 R rec8 rec15) v0 v5 v7 v13 v14 v15 w
noncomputable def F10_s16_c : Code := (.seq F10_p31 F10_s17_c)
theorem F10_s16_ok (R : RT) (rec8 : V2) (rec15 : V2) : OkW (F10_W R) (a6 (F10_s16 R rec8 rec15) 0 5 7 13 14 15) F10_s16_c (a2 rec15 7 15) (kxB 6 (a4 (F10_s12 R rec8) 0 5 7 13) (kxB 5 (a4 (F10_s12 R rec8) 0 5 7 13) (kxB 4 (a1 (F10_s7 R) 7) noX))) :=
  fun f w h => cut F10_p31 F10_s17_c (K := (a7 (F10_s17 R rec8 rec15) 0 5 7 13 14 15 145)) (F10_s17_ok R rec8 rec15) f w (F10_s16_st R (F10_s17 R rec8 rec15) _ f w h)
def F10_s15 (R : RT) (rec8 : V2) (v0 v5 v7 v13 v14 v15 : Value) (w : World) : Prop :=
  Lp2 (fun rec15 v7 v15 w => F10_s16 R rec8 rec15 v0 v5 v7 v13 v14 v15 w) v7 v15 w
theorem F10_s15_e (R : RT) (K : KF) (X : KX) (f : Fr) (w : World) (h : F10_W R (.loop F10_p20) K X f w) : F10_W R F10_p19 K X f w := Eq.mp (by kernel_rfl) h
theorem F10_s15b_e (R : RT) (K : KF) (X : KX) (f : Fr) (w : World) (h : F10_W R F10_s16_c K X f w) : F10_W R F10_p20 K X f w := Eq.mp (by kernel_rfl) h
theorem F10_s15_ok (R : RT) (rec8 : V2) : OkW (F10_W R) (a6 (F10_s15 R rec8) 0 5 7 13 14 15) F10_p19 (a4 (F10_s12 R rec8) 0 5 7 13) (kxB 6 (a4 (F10_s12 R rec8) 0 5 7 13) (kxB 5 (a4 (F10_s12 R rec8) 0 5 7 13) (kxB 4 (a1 (F10_s7 R) 7) noX))) :=
  fun f w h => F10_s15_e R _ _ f w (loop2_ok (P := Tryz.prog) (dc := F10_dc) (kr := (F10_k R)) (pan := panK R) F10_p20 (kn := (a4 (F10_s12 R rec8) 0 5 7 13)) (kx := (kxB 6 (a4 (F10_s12 R rec8) 0 5 7 13) (kxB 5 (a4 (F10_s12 R rec8) 0 5 7 13) (kxB 4 (a1 (F10_s7 R) 7) noX)))) (s0 := 7) (s1 := 15) (fun rec15 v7 v15 w => F10_s16 R rec8 rec15 (f 0) (f 5) v7 (f 13) (f 14) v15 w) f (fun rec15 f' w' hf h' => F10_s15b_e R _ _ f' w' ((F10_s16_ok R rec8 rec15) f' w' (by simp only [a6, hf 0 (by kernel_rfl), hf 5 (by kernel_rfl), hf 13 (by kernel_rfl), hf 14 (by kernel_rfl)]; exact h'))) w h)
noncomputable def F10_s14_c : Code := (.seq F10_p18 .skip)
theorem F10_s14_e (R : RT) (K : KF) (X : KX) (f : Fr) (w : World) (h : F10_W R F10_p19 K (kxB 6 K X) f w) : F10_W R F10_p18 K X f w := Eq.mp (by kernel_rfl) h
theorem F10_s14_ok (R : RT) (rec8 : V2) : OkW (F10_W R) (a6 (F10_s15 R rec8) 0 5 7 13 14 15) F10_s14_c (a4 (F10_s12 R rec8) 0 5 7 13) (kxB 5 (a4 (F10_s12 R rec8) 0 5 7 13) (kxB 4 (a1 (F10_s7 R) 7) noX)) :=
  fun f w h => cut F10_p18 .skip (K := (a4 (F10_s12 R rec8) 0 5 7 13)) (fun f w h => skip_ok h) f w (F10_s14_e R _ _ f w ((F10_s15_ok R rec8) f w h))
def F10_s13_t (R : RT) (K : V6) (v0 v5 v7 v13 : Value) (w : World) : Prop :=
  uv Tryz.prog R (Instr.indexAt 71 v5 v13) w (fun v131 w =>
  uv Tryz.prog R (Instr.loadAt 9 v131) w (fun v132 w =>
  un Tryz.prog R (callFunc 28 #[v0, v132]) w (fun v133 w =>
  K v0 v5 v7 v13 v133 (.int .i64 0) w)))
theorem F10_s13_st (R : RT) (K : V6) (X : KX) (f : Fr) (w : World) (h : F10_s13_t R K (f 0) (f 5) (f 7) (f 13) w) : F10_W R (.seq F10_p32 F10_p33) (a6 K 0 5 7 13 14 15) X f w := Eq.mp (by kernel_rfl) h
def F10_s13 (R : RT) (rec8 : V2) (v0 v5 v7 v13 : Value) (w : World) : Prop :=
  F10_s13_t R (F10_s15 R rec8) v0 v5 v7 v13 w
noncomputable def F10_s13_c : Code := (.seq (.seq F10_p32 F10_p33) F10_s14_c)
theorem F10_s13_ok (R : RT) (rec8 : V2) : OkW (F10_W R) (a4 (F10_s13 R rec8) 0 5 7 13) F10_s13_c (a4 (F10_s12 R rec8) 0 5 7 13) (kxB 5 (a4 (F10_s12 R rec8) 0 5 7 13) (kxB 4 (a1 (F10_s7 R) 7) noX)) :=
  fun f w h => cut (.seq F10_p32 F10_p33) F10_s14_c (K := (a6 (F10_s15 R rec8) 0 5 7 13 14 15)) (F10_s14_ok R rec8) f w (F10_s13_st R (F10_s15 R rec8) _ f w h)
noncomputable def F10_s11_c : Code := (.seq F10_p15 F10_s12_c)
theorem F10_s11_e (R : RT) (K : KF) (X : KX) (f : Fr) (w : World) (h : F10_W R F10_s13_c K (kxB 5 K X) f w) : F10_W R F10_p15 K X f w := Eq.mp (by kernel_rfl) h
theorem F10_s11_ok (R : RT) (rec8 : V2) : OkW (F10_W R) (a4 (F10_s13 R rec8) 0 5 7 13) F10_s11_c (a2 rec8 7 13) (kxB 4 (a1 (F10_s7 R) 7) noX) :=
  fun f w h => cut F10_p15 F10_s12_c (K := (a4 (F10_s12 R rec8) 0 5 7 13)) (F10_s12_ok R rec8) f w (F10_s11_e R _ _ f w ((F10_s13_ok R rec8) f w h))
def F10_s10 (R : RT) (rec8 : V2) (v0 v5 v7 v13 v125 : Value) (w : World) : Prop :=
  Bc v125
    (F10_s13 R rec8 v0 v5 v7 v13 w)
    (F10_s7 R v7 w)
noncomputable def F10_s10_c : Code := (.seq F10_p35 F10_s11_c)
theorem F10_s10_e (R : RT) (K : KF) (X : KX) (f : Fr) (w : World) (h : Bc (f 125) (F10_W R .skip K X f w) (F10_W R (.exit 4) K X f w)) : (F10_W R F10_p35 K X f w) := Eq.mp (by kernel_rfl) h
theorem F10_s10_ok (R : RT) (rec8 : V2) : OkW (F10_W R) (a5 (F10_s10 R rec8) 0 5 7 13 125) F10_s10_c (a2 rec8 7 13) (kxB 4 (a1 (F10_s7 R) 7) noX) :=
  fun f w h => cut F10_p35 F10_s11_c (K := (a4 (F10_s13 R rec8) 0 5 7 13)) (F10_s11_ok R rec8) f w (F10_s10_e R _ _ f w (Bc_imp (x' := (F10_W R .skip (a4 (F10_s13 R rec8) 0 5 7 13) (kxB 4 (a1 (F10_s7 R) 7) noX) f w)) (y' := (F10_W R (.exit 4) (a4 (F10_s13 R rec8) 0 5 7 13) (kxB 4 (a1 (F10_s7 R) 7) noX) f w)) ((fun f w h => skip_ok h) f w) ((fun f w h => exit_hit h) f w) h))
def F10_s9_t (R : RT) (K : V5) (v0 v5 v7 v13 : Value) (w : World) : Prop :=
  un Tryz.prog R (builtin .len #[71] 3 #[false] #[v5]) w (fun v124 w =>
  uv Tryz.prog R (binS .lss 3 (.tmp 122) (.tmp 124) v13 v124) w (fun v125 w =>
  K v0 v5 v7 v13 v125 w))
theorem F10_s9_st (R : RT) (K : V5) (X : KX) (f : Fr) (w : World) (h : F10_s9_t R K (f 0) (f 5) (f 7) (f 13) w) : F10_W R F10_p36 (a5 K 0 5 7 13 125) X f w := Eq.mp (by kernel_rfl) h
def F10_s9 (R : RT) (rec8 : V2) (v0 v5 v7 v13 : Value) (w : World) : Prop :=
  F10_s9_t R (F10_s10 R rec8) v0 v5 v7 v13 w
noncomputable def F10_s9_c : Code := (.seq F10_p36 F10_s10_c)
theorem F10_s9_ok (R : RT) (rec8 : V2) : OkW (F10_W R) (a4 (F10_s9 R rec8) 0 5 7 13) F10_s9_c (a2 rec8 7 13) (kxB 4 (a1 (F10_s7 R) 7) noX) :=
  fun f w h => cut F10_p36 F10_s10_c (K := (a5 (F10_s10 R rec8) 0 5 7 13 125)) (F10_s10_ok R rec8) f w (F10_s9_st R (F10_s10 R rec8) _ f w h)
def F10_s8 (R : RT) (v0 v5 v7 v13 : Value) (w : World) : Prop :=
  Lp2 (fun rec8 v7 v13 w => F10_s9 R rec8 v0 v5 v7 v13 w) v7 v13 w
theorem F10_s8_e (R : RT) (K : KF) (X : KX) (f : Fr) (w : World) (h : F10_W R (.loop F10_p12) K X f w) : F10_W R F10_p11 K X f w := Eq.mp (by kernel_rfl) h
theorem F10_s8b_e (R : RT) (K : KF) (X : KX) (f : Fr) (w : World) (h : F10_W R F10_s9_c K X f w) : F10_W R F10_p12 K X f w := Eq.mp (by kernel_rfl) h
theorem F10_s8_ok (R : RT) : OkW (F10_W R) (a4 (F10_s8 R) 0 5 7 13) F10_p11 (a1 (F10_s7 R) 7) (kxB 4 (a1 (F10_s7 R) 7) noX) :=
  fun f w h => F10_s8_e R _ _ f w (loop2_ok (P := Tryz.prog) (dc := F10_dc) (kr := (F10_k R)) (pan := panK R) F10_p12 (kn := (a1 (F10_s7 R) 7)) (kx := (kxB 4 (a1 (F10_s7 R) 7) noX)) (s0 := 7) (s1 := 13) (fun rec8 v7 v13 w => F10_s9 R rec8 (f 0) (f 5) v7 v13 w) f (fun rec8 f' w' hf h' => F10_s8b_e R _ _ f' w' ((F10_s9_ok R rec8) f' w' (by simp only [a4, hf 0 (by kernel_rfl), hf 5 (by kernel_rfl)]; exact h'))) w h)
noncomputable def F10_s6_c : Code := (.seq F10_p10 F10_s7_c)
theorem F10_s6_e (R : RT) (K : KF) (X : KX) (f : Fr) (w : World) (h : F10_W R F10_p11 K (kxB 4 K X) f w) : F10_W R F10_p10 K X f w := Eq.mp (by kernel_rfl) h
theorem F10_s6_ok (R : RT) : OkW (F10_W R) (a4 (F10_s8 R) 0 5 7 13) F10_s6_c (F10_k R) noX :=
  fun f w h => cut F10_p10 F10_s7_c (K := (a1 (F10_s7 R) 7)) (F10_s7_ok R) f w (F10_s6_e R _ _ f w ((F10_s8_ok R) f w h))
def F10_s5_t (R : RT) (K : V4) (v0 v1 v5 v6 v7 : Value) (w : World) : Prop :=
  un Tryz.prog R (nilS v0) w (fun v117 w =>
  uv Tryz.prog R (Instr.fieldAt 30 v117 0) w (fun v118 w =>
  uu Tryz.prog R (Instr.storeAt 27 v118 v6) w (fun w =>
  un Tryz.prog R (callFunc 35 #[v0, v1]) w (fun v121 w =>
  K v0 v5 v7 (.int .i64 0) w))))
theorem F10_s5_st (R : RT) (K : V4) (X : KX) (f : Fr) (w : World) (h : F10_s5_t R K (f 0) (f 1) (f 5) (f 6) (f 7) w) : F10_W R (.seq F10_p37 (.seq F10_p38 F10_p39)) (a4 K 0 5 7 13) X f w := Eq.mp (by kernel_rfl) h
def F10_s5 (R : RT) (v0 v1 v5 v6 v7 : Value) (w : World) : Prop :=
  F10_s5_t R (F10_s8 R) v0 v1 v5 v6 v7 w
noncomputable def F10_s5_c : Code := (.seq (.seq F10_p37 (.seq F10_p38 F10_p39)) F10_s6_c)
theorem F10_s5_ok (R : RT) : OkW (F10_W R) (a5 (F10_s5 R) 0 1 5 6 7) F10_s5_c (F10_k R) noX :=
  fun f w h => cut (.seq F10_p37 (.seq F10_p38 F10_p39)) F10_s6_c (K := (a4 (F10_s8 R) 0 5 7 13)) (F10_s6_ok R) f w (F10_s5_st R (F10_s8 R) _ f w h)
def F10_s27_t (R : RT) (K : V1) (v0 v1 v5 v6 v7 v11 : Value) (w : World) : Prop :=
  uv Tryz.prog R (binS .sub 3 (.tmp 96) (.const (.int .i64 1)) v11 (.int .i64 1)) w (fun v97 w =>
  K v97 w)
theorem F10_s27_st (R : RT) (K : V1) (X : KX) (f : Fr) (w : World) (h : F10_s27_t R K (f 0) (f 1) (f 5) (f 6) (f 7) (f 11) w) : F10_W R F10_p48 (a1 K 11) X f w := Eq.mp (by kernel_rfl) h
def F10_s27 (R : RT) (rec23 : V1) (v0 v1 v5 v6 v7 v11 : Value) (w : World) : Prop :=
  F10_s27_t R rec23 v0 v1 v5 v6 v7 v11 w
noncomputable def F10_s27_c : Code := (.seq F10_p48 .skip)
theorem F10_s27_ok (R : RT) (rec23 : V1) : OkW (F10_W R) (a6 (F10_s27 R rec23) 0 1 5 6 7 11) F10_s27_c (a1 rec23 11) (kxB 2 (a5 (F10_s5 R) 0 1 5 6 7) noX) :=
  fun f w h => cut F10_p48 .skip (K := (a1 rec23 11)) (fun f w h => skip_ok h) f w (F10_s27_st R rec23 _ f w h)
def F10_s28_t (R : RT) (K : V6) (v0 v1 v5 v6 v7 v11 : Value) (w : World) : Prop :=
  uv Tryz.prog R (Instr.indexAt 71 v5 v11) w (fun v100 w =>
  uv Tryz.prog R (Instr.loadAt 9 v100) w (fun v101 w =>
  uv Tryz.prog R (binS .sub 3 (.tmp 105) (.const (.int .i64 1)) v11 (.int .i64 1)) w (fun v106 w =>
  uv Tryz.prog R (Instr.indexAt 71 v5 v106) w (fun v107 w =>
  uv Tryz.prog R (Instr.loadAt 9 v107) w (fun v108 w =>
  uv Tryz.prog R (Instr.indexAt 71 v5 v11) w (fun v109 w =>
  uu Tryz.prog R (Instr.storeAt 9 v109 v108) w (fun w =>
  uv Tryz.prog R (binS .sub 3 (.tmp 111) (.const (.int .i64 1)) v11 (.int .i64 1)) w (fun v112 w =>
  uv Tryz.prog R (Instr.indexAt 71 v5 v112) w (fun v114 w =>
  uu Tryz.prog R (Instr.storeAt 9 v114 v101) w (fun w =>
  K v0 v1 v5 v6 v7 v11 w))))))))))
theorem F10_s28_st (R : RT) (K : V6) (X : KX) (f : Fr) (w : World) (h : F10_s28_t R K (f 0) (f 1) (f 5) (f 6) (f 7) (f 11) w) : F10_W R (.seq F10_p51 (.seq F10_p53 F10_p54)) (a6 K 0 1 5 6 7 11) X f w := Eq.mp (by kernel_rfl) h
def F10_s28 (R : RT) (rec23 : V1) (v0 v1 v5 v6 v7 v11 : Value) (w : World) : Prop :=
  F10_s28_t R (F10_s27 R rec23) v0 v1 v5 v6 v7 v11 w
noncomputable def F10_s28_c : Code := (.seq (.seq F10_p51 (.seq F10_p53 F10_p54)) .skip)
theorem F10_s28_ok (R : RT) (rec23 : V1) : OkW (F10_W R) (a6 (F10_s28 R rec23) 0 1 5 6 7 11) F10_s28_c (a6 (F10_s27 R rec23) 0 1 5 6 7 11) (kxB 3 (a6 (F10_s27 R rec23) 0 1 5 6 7 11) (kxB 2 (a5 (F10_s5 R) 0 1 5 6 7) noX)) :=
  fun f w h => cut (.seq F10_p51 (.seq F10_p53 F10_p54)) .skip (K := (a6 (F10_s27 R rec23) 0 1 5 6 7 11)) (fun f w h => skip_ok h) f w (F10_s28_st R (F10_s27 R rec23) _ f w h)
noncomputable def F10_s26_c : Code := (.seq F10_p49 F10_s27_c)
theorem F10_s26_e (R : RT) (K : KF) (X : KX) (f : Fr) (w : World) (h : F10_W R F10_s28_c K (kxB 3 K X) f w) : F10_W R F10_p49 K X f w := Eq.mp (by kernel_rfl) h
theorem F10_s26_ok (R : RT) (rec23 : V1) : OkW (F10_W R) (a6 (F10_s28 R rec23) 0 1 5 6 7 11) F10_s26_c (a1 rec23 11) (kxB 2 (a5 (F10_s5 R) 0 1 5 6 7) noX) :=
  fun f w h => cut F10_p49 F10_s27_c (K := (a6 (F10_s27 R rec23) 0 1 5 6 7 11)) (F10_s27_ok R rec23) f w (F10_s26_e R _ _ f w ((F10_s28_ok R rec23) f w h))
def F10_s25 (R : RT) (rec23 : V1) (v0 v1 v5 v6 v7 v11 v95 : Value) (w : World) : Prop :=
  Bc v95
    (F10_s28 R rec23 v0 v1 v5 v6 v7 v11 w)
    (F10_s5 R v0 v1 v5 v6 v7 w)
noncomputable def F10_s25_c : Code := (.seq F10_p56 F10_s26_c)
theorem F10_s25_e (R : RT) (K : KF) (X : KX) (f : Fr) (w : World) (h : Bc (f 95) (F10_W R .skip K X f w) (F10_W R (.exit 2) K X f w)) : (F10_W R F10_p56 K X f w) := Eq.mp (by kernel_rfl) h
theorem F10_s25_ok (R : RT) (rec23 : V1) : OkW (F10_W R) (a7 (F10_s25 R rec23) 0 1 5 6 7 11 95) F10_s25_c (a1 rec23 11) (kxB 2 (a5 (F10_s5 R) 0 1 5 6 7) noX) :=
  fun f w h => cut F10_p56 F10_s26_c (K := (a6 (F10_s28 R rec23) 0 1 5 6 7 11)) (F10_s26_ok R rec23) f w (F10_s25_e R _ _ f w (Bc_imp (x' := (F10_W R .skip (a6 (F10_s28 R rec23) 0 1 5 6 7 11) (kxB 2 (a5 (F10_s5 R) 0 1 5 6 7) noX) f w)) (y' := (F10_W R (.exit 2) (a6 (F10_s28 R rec23) 0 1 5 6 7 11) (kxB 2 (a5 (F10_s5 R) 0 1 5 6 7) noX) f w)) ((fun f w h => skip_ok h) f w) ((fun f w h => exit_hit h) f w) h))
def F10_s24_t (R : RT) (K : V7) (v0 v1 v5 v6 v7 v11 : Value) (w : World) : Prop :=
  Dr (fun S w =>
  HV Tryz.prog S (binS .gtr 3 (.tmp 82) (.const (.int .i64 0)) v11 (.int .i64 0)) (fun v83 =>
  GH v83 true (fun k => k v5) (fun v85 =>
  GH v83 true (fun k => k v11) (fun v86 =>
  GH v83 true (fun k => HV Tryz.prog S (Instr.indexAt 71 v85 v86) k) (fun v87 =>
  GH v83 true (fun k => HV Tryz.prog S (Instr.loadAt 9 v87) k) (fun v88 =>
  GH v83 true (fun k => k v5) (fun v89 =>
  GH v83 true (fun k => k v11) (fun v90 =>
  GH v83 true (fun k => HV Tryz.prog S (binS .sub 3 (.tmp 90) (.const (.int .i64 1)) v90 (.int .i64 1)) k) (fun v91 =>
  GH v83 true (fun k => HV Tryz.prog S (Instr.indexAt 71 v89 v91) k) (fun v92 =>
  GH v83 true (fun k => HV Tryz.prog S (Instr.loadAt 9 v92) k) (fun v93 =>
  GH v83 true (fun k => HV Tryz.prog S (binS .lss 9 (.tmp 88) (.tmp 93) v88 v93) k) (fun v94 =>
  HV Tryz.prog S (pickS v83 v94 (.bool false)) (fun v95 =>
  K v0 v1 v5 v6 v7 v11 v95 w))))))))))))) w
theorem F10_s24_st (R : RT) (K : V7) (X : KX) (f : Fr) (w : World) (h : F10_s24_t R K (f 0) (f 1) (f 5) (f 6) (f 7) (f 11) w) : F10_W R F10_p57 (a7 K 0 1 5 6 7 11 95) X f w := Eq.mp (by kernel_rfl) h
def F10_s24 (R : RT) (rec23 : V1) (v0 v1 v5 v6 v7 v11 : Value) (w : World) : Prop :=
  F10_s24_t R (F10_s25 R rec23) v0 v1 v5 v6 v7 v11 w
noncomputable def F10_s24_c : Code := (.seq F10_p57 F10_s25_c)
theorem F10_s24_ok (R : RT) (rec23 : V1) : OkW (F10_W R) (a6 (F10_s24 R rec23) 0 1 5 6 7 11) F10_s24_c (a1 rec23 11) (kxB 2 (a5 (F10_s5 R) 0 1 5 6 7) noX) :=
  fun f w h => cut F10_p57 F10_s25_c (K := (a7 (F10_s25 R rec23) 0 1 5 6 7 11 95)) (F10_s25_ok R rec23) f w (F10_s24_st R (F10_s25 R rec23) _ f w h)
def F10_s23 (R : RT) (v0 v1 v5 v6 v7 v11 : Value) (w : World) : Prop :=
  Lp1 (fun rec23 v11 w => F10_s24 R rec23 v0 v1 v5 v6 v7 v11 w) v11 w
theorem F10_s23_e (R : RT) (K : KF) (X : KX) (f : Fr) (w : World) (h : F10_W R (.loop F10_p46) K X f w) : F10_W R F10_p45 K X f w := Eq.mp (by kernel_rfl) h
theorem F10_s23b_e (R : RT) (K : KF) (X : KX) (f : Fr) (w : World) (h : F10_W R F10_s24_c K X f w) : F10_W R F10_p46 K X f w := Eq.mp (by kernel_rfl) h
theorem F10_s23_ok (R : RT) : OkW (F10_W R) (a6 (F10_s23 R) 0 1 5 6 7 11) F10_p45 (a5 (F10_s5 R) 0 1 5 6 7) (kxB 2 (a5 (F10_s5 R) 0 1 5 6 7) noX) :=
  fun f w h => F10_s23_e R _ _ f w (loop1_ok (P := Tryz.prog) (dc := F10_dc) (kr := (F10_k R)) (pan := panK R) F10_p46 (kn := (a5 (F10_s5 R) 0 1 5 6 7)) (kx := (kxB 2 (a5 (F10_s5 R) 0 1 5 6 7) noX)) (s0 := 11) (fun rec23 v11 w => F10_s24 R rec23 (f 0) (f 1) (f 5) (f 6) (f 7) v11 w) f (fun rec23 f' w' hf h' => F10_s23b_e R _ _ f' w' ((F10_s24_ok R rec23) f' w' (by simp only [a6, hf 0 (by kernel_rfl), hf 1 (by kernel_rfl), hf 5 (by kernel_rfl), hf 6 (by kernel_rfl), hf 7 (by kernel_rfl)]; exact h'))) w h)
noncomputable def F10_s22_c : Code := (.seq F10_p44 .skip)
theorem F10_s22_e (R : RT) (K : KF) (X : KX) (f : Fr) (w : World) (h : F10_W R F10_p45 K (kxB 2 K X) f w) : F10_W R F10_p44 K X f w := Eq.mp (by kernel_rfl) h
theorem F10_s22_ok (R : RT) : OkW (F10_W R) (a6 (F10_s23 R) 0 1 5 6 7 11) F10_s22_c (a5 (F10_s5 R) 0 1 5 6 7) noX :=
  fun f w h => cut F10_p44 .skip (K := (a5 (F10_s5 R) 0 1 5 6 7)) (fun f w h => skip_ok h) f w (F10_s22_e R _ _ f w ((F10_s23_ok R) f w h))
def F10_s21_t (R : RT) (K : V6) (v0 v1 v5 v6 v7 v8 : Value) (w : World) : Prop :=
  uv Tryz.prog R (Instr.fieldAt 42 v8 1) w (fun v75 w =>
  uv Tryz.prog R (Instr.loadAt 9 v75) w (fun v76 w =>
  uv Tryz.prog R (Instr.buildSlice 71 1 #[(0, v76)]) w (fun v77 w =>
  un Tryz.prog R (builtin .append #[71, 71] 71 #[false, false] #[v5, v77]) w (fun v78 w =>
  un Tryz.prog R (builtin .len #[71] 3 #[false] #[v78]) w (fun v80 w =>
  uv Tryz.prog R (binS .sub 3 (.tmp 80) (.const (.int .i64 1)) v80 (.int .i64 1)) w (fun v81 w =>
  K v0 v1 v78 v6 v7 v81 w))))))
theorem F10_s21_st (R : RT) (K : V6) (X : KX) (f : Fr) (w : World) (h : F10_s21_t R K (f 0) (f 1) (f 5) (f 6) (f 7) (f 8) w) : F10_W R (.seq F10_p58 F10_p59) (a6 K 0 1 5 6 7 11) X f w := Eq.mp (by kernel_rfl) h
def F10_s21 (R : RT) (v0 v1 v5 v6 v7 v8 : Value) (w : World) : Prop :=
  F10_s21_t R (F10_s23 R) v0 v1 v5 v6 v7 v8 w
noncomputable def F10_s21_c : Code := (.seq (.seq F10_p58 F10_p59) F10_s22_c)
theorem F10_s21_ok (R : RT) : OkW (F10_W R) (a6 (F10_s21 R) 0 1 5 6 7 8) F10_s21_c (a5 (F10_s5 R) 0 1 5 6 7) noX :=
  fun f w h => cut (.seq F10_p58 F10_p59) F10_s22_c (K := (a6 (F10_s23 R) 0 1 5 6 7 11)) (F10_s22_ok R) f w (F10_s21_st R (F10_s23 R) _ f w h)
def F10_s4 (R : RT) (v0 v1 v5 v6 v7 v8 v73 : Value) (w : World) : Prop :=
  Bc v73
    (F10_s21 R v0 v1 v5 v6 v7 v8 w)
    (F10_s5 R v0 v1 v5 v6 v7 w)
noncomputable def F10_s4_c : Code := (.seq F10_p41 F10_s5_c)
theorem F10_s4_e (R : RT) (K : KF) (X : KX) (f : Fr) (w : World) (h : Bc (f 73) (F10_W R F10_s21_c K X f w) (F10_W R .skip K X f w)) : (F10_W R F10_p41 K X f w) := Eq.mp (by kernel_rfl) h
theorem F10_s4_ok (R : RT) : OkW (F10_W R) (a7 (F10_s4 R) 0 1 5 6 7 8 73) F10_s4_c (F10_k R) noX :=
  fun f w h => cut F10_p41 F10_s5_c (K := (a5 (F10_s5 R) 0 1 5 6 7)) (F10_s5_ok R) f w (F10_s4_e R _ _ f w (Bc_imp (x' := (F10_W R F10_s21_c (a5 (F10_s5 R) 0 1 5 6 7) noX f w)) (y' := (F10_W R .skip (a5 (F10_s5 R) 0 1 5 6 7) noX f w)) ((F10_s21_ok R) f w) ((fun f w h => skip_ok h) f w) h))
def F10_s3_t (R : RT) (K : V7) (v0 v1 v5 v6 v7 v8 v9 : Value) (w : World) : Prop :=
  Gk v9 true (fun k => k v0 w) w (fun v67 w =>
  Gk v9 true (fun k => k v1 w) w (fun v68 w =>
  Gk v9 true (fun k => uv Tryz.prog R (Instr.fieldAt 42 v8 1) w k) w (fun v69 w =>
  Gk v9 true (fun k => uv Tryz.prog R (Instr.loadAt 9 v69) w k) w (fun v70 w =>
  Gk v9 true (fun k => un Tryz.prog R (callFunc 25 #[v67, v68, v70]) w k) w (fun v71 w =>
  Gk v9 true (fun k => uv Tryz.prog R (binS .eql 3 (.tmp 71) (.const (.int .i64 0)) v71 (.int .i64 0)) w k) w (fun v72 w =>
  uv Tryz.prog R (pickS v9 v72 (.bool false)) w (fun v73 w =>
  K v0 v1 v5 v6 v7 v8 v73 w)))))))
theorem F10_s3_st (R : RT) (K : V7) (X : KX) (f : Fr) (w : World) (h : F10_s3_t R K (f 0) (f 1) (f 5) (f 6) (f 7) (f 8) (f 9) w) : F10_W R F10_p60 (a7 K 0 1 5 6 7 8 73) X f w := Eq.mp (by kernel_rfl) h
def F10_s3 (R : RT) (v0 v1 v5 v6 v7 v8 v9 : Value) (w : World) : Prop :=
  F10_s3_t R (F10_s4 R) v0 v1 v5 v6 v7 v8 v9 w
noncomputable def F10_s3_c : Code := (.seq F10_p60 F10_s4_c)
theorem F10_s3_ok (R : RT) : OkW (F10_W R) (a7 (F10_s3 R) 0 1 5 6 7 8 9) F10_s3_c (F10_k R) noX :=
  fun f w h => cut F10_p60 F10_s4_c (K := (a7 (F10_s4 R) 0 1 5 6 7 8 73)) (F10_s4_ok R) f w (F10_s3_st R (F10_s4 R) _ f w h)
def F10_s33_t (R : RT) (K : V3) (v0 v1 v5 v6 v7 v8 v9 v10 : Value) (w : World) : Prop :=
  uv Tryz.prog R (binS .add 3 (.tmp 32) (.const (.int .i64 1)) v10 (.int .i64 1)) w (fun v33 w =>
  K v5 v6 v33 w)
theorem F10_s33_st (R : RT) (K : V3) (X : KX) (f : Fr) (w : World) (h : F10_s33_t R K (f 0) (f 1) (f 5) (f 6) (f 7) (f 8) (f 9) (f 10) w) : F10_W R F10_p66 (a3 K 5 6 10) X f w := Eq.mp (by kernel_rfl) h
def F10_s33 (R : RT) (rec29 : V3) (v0 v1 v5 v6 v7 v8 v9 v10 : Value) (w : World) : Prop :=
  F10_s33_t R rec29 v0 v1 v5 v6 v7 v8 v9 v10 w
noncomputable def F10_s33_c : Code := (.seq F10_p66 .skip)
theorem F10_s33_ok (R : RT) (rec29 : V3) : OkW (F10_W R) (a8 (F10_s33 R rec29) 0 1 5 6 7 8 9 10) F10_s33_c (a3 rec29 5 6 10) (kxB 0 (a7 (F10_s3 R) 0 1 5 6 7 8 9) noX) :=
  fun f w h => cut F10_p66 .skip (K := (a3 rec29 5 6 10)) (fun f w h => skip_ok h) f w (F10_s33_st R rec29 _ f w h)
def F10_s36_t (R : RT) (K : V8) (v0 v1 v5 v6 v7 v8 v9 v10 : Value) (w : World) : Prop :=
  un Tryz.prog R (nilS v0) w (fun v46 w =>
  uv Tryz.prog R (Instr.fieldAt 30 v46 0) w (fun v47 w =>
  uv Tryz.prog R (Instr.loadAt 27 v47) w (fun v48 w =>
  uv Tryz.prog R (Instr.indexAt 27 v48 v10) w (fun v50 w =>
  uv Tryz.prog R (Instr.fieldAt 42 v50 1) w (fun v51 w =>
  uv Tryz.prog R (Instr.loadAt 9 v51) w (fun v52 w =>
  uv Tryz.prog R (Instr.buildSlice 71 1 #[(0, v52)]) w (fun v53 w =>
  un Tryz.prog R (builtin .append #[71, 71] 71 #[false, false] #[v5, v53]) w (fun v54 w =>
  K v0 v1 v54 v6 v7 v8 v9 v10 w))))))))
theorem F10_s36_st (R : RT) (K : V8) (X : KX) (f : Fr) (w : World) (h : F10_s36_t R K (f 0) (f 1) (f 5) (f 6) (f 7) (f 8) (f 9) (f 10) w) : F10_W R F10_p70 (a8 K 0 1 5 6 7 8 9 10) X f w := Eq.mp (by kernel_rfl) h
def F10_s36 (R : RT) (rec29 : V3) (v0 v1 v5 v6 v7 v8 v9 v10 : Value) (w : World) : Prop :=
  F10_s36_t R (F10_s33 R rec29) v0 v1 v5 v6 v7 v8 v9 v10 w
noncomputable def F10_s36_c : Code := (.seq F10_p70 .skip)
theorem F10_s36_ok (R : RT) (rec29 : V3) : OkW (F10_W R) (a8 (F10_s36 R rec29) 0 1 5 6 7 8 9 10) F10_s36_c (a8 (F10_s33 R rec29) 0 1 5 6 7 8 9 10) (kxB 1 (a8 (F10_s33 R rec29) 0 1 5 6 7 8 9 10) (kxB 0 (a7 (F10_s3 R) 0 1 5 6 7 8 9) noX)) :=
  fun f w h => cut F10_p70 .skip (K := (a8 (F10_s33 R rec29) 0 1 5 6 7 8 9 10)) (fun f w h => skip_ok h) f w (F10_s36_st R (F10_s33 R rec29) _ f w h)
def F10_s37_t (R : RT) (K : V8) (v0 v1 v5 v6 v7 v8 v9 v10 : Value) (w : World) : Prop :=
  un Tryz.prog R (nilS v0) w (fun v57 w =>
  uv Tryz.prog R (Instr.fieldAt 30 v57 0) w (fun v58 w =>
  uv Tryz.prog R (Instr.loadAt 27 v58) w (fun v59 w =>
  uv Tryz.prog R (Instr.indexAt 27 v59 v10) w (fun v61 w =>
  uv Tryz.prog R (Instr.loadAt 42 v61) w (fun v62 w =>
  uv Tryz.prog R (Instr.buildSlice 27 1 #[(0, v62)]) w (fun v63 w =>
  un Tryz.prog R (builtin .append #[27, 27] 27 #[false, false] #[v6, v63]) w (fun v64 w =>
  K v0 v1 v5 v64 v7 v8 v9 v10 w)))))))
theorem F10_s37_st (R : RT) (K : V8) (X : KX) (f : Fr) (w : World) (h : F10_s37_t R K (f 0) (f 1) (f 5) (f 6) (f 7) (f 8) (f 9) (f 10) w) : F10_W R F10_p71 (a8 K 0 1 5 6 7 8 9 10) X f w := Eq.mp (by kernel_rfl) h
def F10_s37 (R : RT) (rec29 : V3) (v0 v1 v5 v6 v7 v8 v9 v10 : Value) (w : World) : Prop :=
  F10_s37_t R (F10_s33 R rec29) v0 v1 v5 v6 v7 v8 v9 v10 w
noncomputable def F10_s37_c : Code := (.seq F10_p71 .skip)
theorem F10_s37_ok (R : RT) (rec29 : V3) : OkW (F10_W R) (a8 (F10_s37 R rec29) 0 1 5 6 7 8 9 10) F10_s37_c (a8 (F10_s33 R rec29) 0 1 5 6 7 8 9 10) (kxB 1 (a8 (F10_s33 R rec29) 0 1 5 6 7 8 9 10) (kxB 0 (a7 (F10_s3 R) 0 1 5 6 7 8 9) noX)) :=
  fun f w h => cut F10_p71 .skip (K := (a8 (F10_s33 R rec29) 0 1 5 6 7 8 9 10)) (fun f w h => skip_ok h) f w (F10_s37_st R (F10_s33 R rec29) _ f w h)
def F10_s35 (R : RT) (rec29 : V3) (v0 v1 v5 v6 v7 v8 v9 v10 v43 : Value) (w : World) : Prop :=
  Bc v43
    (F10_s36 R rec29 v0 v1 v5 v6 v7 v8 v9 v10 w)
    (F10_s37 R rec29 v0 v1 v5 v6 v7 v8 v9 v10 w)
noncomputable def F10_s35_c : Code := (.seq F10_p69 .skip)
theorem F10_s35_e (R : RT) (K : KF) (X : KX) (f : Fr) (w : World) (h : Bc (f 43) (F10_W R F10_s36_c K X f w) (F10_W R F10_s37_c K X f w)) : (F10_W R F10_p69 K X f w) := Eq.mp (by kernel_rfl) h
theorem F10_s35_ok (R : RT) (rec29 : V3) : OkW (F10_W R) (a9 (F10_s35 R rec29) 0 1 5 6 7 8 9 10 43) F10_s35_c (a8 (F10_s33 R rec29) 0 1 5 6 7 8 9 10) (kxB 1 (a8 (F10_s33 R rec29) 0 1 5 6 7 8 9 10) (kxB 0 (a7 (F10_s3 R) 0 1 5 6 7 8 9) noX)) :=
  fun f w h => cut F10_p69 .skip (K := (a8 (F10_s33 R rec29) 0 1 5 6 7 8 9 10)) (fun f w h => skip_ok h) f w (F10_s35_e R _ _ f w (Bc_imp (x' := (F10_W R F10_s36_c (a8 (F10_s33 R rec29) 0 1 5 6 7 8 9 10) (kxB 1 (a8 (F10_s33 R rec29) 0 1 5 6 7 8 9 10) (kxB 0 (a7 (F10_s3 R) 0 1 5 6 7 8 9) noX)) f w)) (y' := (F10_W R F10_s37_c (a8 (F10_s33 R rec29) 0 1 5 6 7 8 9 10) (kxB 1 (a8 (F10_s33 R rec29) 0 1 5 6 7 8 9 10) (kxB 0 (a7 (F10_s3 R) 0 1 5 6 7 8 9) noX)) f w)) ((F10_s36_ok R rec29) f w) ((F10_s37_ok R rec29) f w) h))
def F10_s34_t (R : RT) (K : V9) (v0 v1 v5 v6 v7 v8 v9 v10 : Value) (w : World) : Prop :=
  un Tryz.prog R (nilS v0) w (fun v35 w =>
  uv Tryz.prog R (Instr.fieldAt 30 v35 0) w (fun v36 w =>
  uv Tryz.prog R (Instr.loadAt 27 v36) w (fun v37 w =>
  uv Tryz.prog R (Instr.indexAt 27 v37 v10) w (fun v39 w =>
  uv Tryz.prog R (Instr.fieldAt 42 v39 0) w (fun v40 w =>
  uv Tryz.prog R (Instr.loadAt 3 v40) w (fun v41 w =>
  uv Tryz.prog R (binS .eql 3 (.tmp 41) (.tmp 42) v41 v1) w (fun v43 w =>
  K v0 v1 v5 v6 v7 v8 v9 v10 v43 w)))))))
theorem F10_s34_st (R : RT) (K : V9) (X : KX) (f : Fr) (w : World) (h : F10_s34_t R K (f 0) (f 1) (f 5) (f 6) (f 7) (f 8) (f 9) (f 10) w) : F10_W R F10_p72 (a9 K 0 1 5 6 7 8 9 10 43) X f w := Eq.mp (by kernel_rfl) h
def F10_s34 (R : RT) (rec29 : V3) (v0 v1 v5 v6 v7 v8 v9 v10 : Value) (w : World) : Prop :=
  F10_s34_t R (F10_s35 R rec29) v0 v1 v5 v6 v7 v8 v9 v10 w
noncomputable def F10_s34_c : Code := (.seq F10_p72 F10_s35_c)
theorem F10_s34_ok (R : RT) (rec29 : V3) : OkW (F10_W R) (a8 (F10_s34 R rec29) 0 1 5 6 7 8 9 10) F10_s34_c (a8 (F10_s33 R rec29) 0 1 5 6 7 8 9 10) (kxB 1 (a8 (F10_s33 R rec29) 0 1 5 6 7 8 9 10) (kxB 0 (a7 (F10_s3 R) 0 1 5 6 7 8 9) noX)) :=
  fun f w h => cut F10_p72 F10_s35_c (K := (a9 (F10_s35 R rec29) 0 1 5 6 7 8 9 10 43)) (F10_s35_ok R rec29) f w (F10_s34_st R (F10_s35 R rec29) _ f w h)
noncomputable def F10_s32_c : Code := (.seq F10_p67 F10_s33_c)
theorem F10_s32_e (R : RT) (K : KF) (X : KX) (f : Fr) (w : World) (h : F10_W R F10_s34_c K (kxB 1 K X) f w) : F10_W R F10_p67 K X f w := Eq.mp (by kernel_rfl) h
theorem F10_s32_ok (R : RT) (rec29 : V3) : OkW (F10_W R) (a8 (F10_s34 R rec29) 0 1 5 6 7 8 9 10) F10_s32_c (a3 rec29 5 6 10) (kxB 0 (a7 (F10_s3 R) 0 1 5 6 7 8 9) noX) :=
  fun f w h => cut F10_p67 F10_s33_c (K := (a8 (F10_s33 R rec29) 0 1 5 6 7 8 9 10)) (F10_s33_ok R rec29) f w (F10_s32_e R _ _ f w ((F10_s34_ok R rec29) f w h))
def F10_s31 (R : RT) (rec29 : V3) (v0 v1 v5 v6 v7 v8 v9 v10 v31 : Value) (w : World) : Prop :=
  Bc v31
    (F10_s34 R rec29 v0 v1 v5 v6 v7 v8 v9 v10 w)
    (F10_s3 R v0 v1 v5 v6 v7 v8 v9 w)
noncomputable def F10_s31_c : Code := (.seq F10_p74 F10_s32_c)
theorem F10_s31_e (R : RT) (K : KF) (X : KX) (f : Fr) (w : World) (h : Bc (f 31) (F10_W R .skip K X f w) (F10_W R (.exit 0) K X f w)) : (F10_W R F10_p74 K X f w) := Eq.mp (by kernel_rfl) h
theorem F10_s31_ok (R : RT) (rec29 : V3) : OkW (F10_W R) (a9 (F10_s31 R rec29) 0 1 5 6 7 8 9 10 31) F10_s31_c (a3 rec29 5 6 10) (kxB 0 (a7 (F10_s3 R) 0 1 5 6 7 8 9) noX) :=
  fun f w h => cut F10_p74 F10_s32_c (K := (a8 (F10_s34 R rec29) 0 1 5 6 7 8 9 10)) (F10_s32_ok R rec29) f w (F10_s31_e R _ _ f w (Bc_imp (x' := (F10_W R .skip (a8 (F10_s34 R rec29) 0 1 5 6 7 8 9 10) (kxB 0 (a7 (F10_s3 R) 0 1 5 6 7 8 9) noX) f w)) (y' := (F10_W R (.exit 0) (a8 (F10_s34 R rec29) 0 1 5 6 7 8 9 10) (kxB 0 (a7 (F10_s3 R) 0 1 5 6 7 8 9) noX) f w)) ((fun f w h => skip_ok h) f w) ((fun f w h => exit_hit h) f w) h))
def F10_s30_t (R : RT) (K : V9) (v0 v1 v5 v6 v7 v8 v9 v10 : Value) (w : World) : Prop :=
  un Tryz.prog R (nilS v0) w (fun v27 w =>
  uv Tryz.prog R (Instr.fieldAt 30 v27 0) w (fun v28 w =>
  uv Tryz.prog R (Instr.loadAt 27 v28) w (fun v29 w =>
  un Tryz.prog R (builtin .len #[27] 3 #[false] #[v29]) w (fun v30 w =>
  uv Tryz.prog R (binS .lss 3 (.tmp 25) (.tmp 30) v10 v30) w (fun v31 w =>
  K v0 v1 v5 v6 v7 v8 v9 v10 v31 w)))))
theorem F10_s30_st (R : RT) (K : V9) (X : KX) (f : Fr) (w : World) (h : F10_s30_t R K (f 0) (f 1) (f 5) (f 6) (f 7) (f 8) (f 9) (f 10) w) : F10_W R F10_p75 (a9 K 0 1 5 6 7 8 9 10 31) X f w := Eq.mp (by kernel_rfl) h
def F10_s30 (R : RT) (rec29 : V3) (v0 v1 v5 v6 v7 v8 v9 v10 : Value) (w : World) : Prop :=
  F10_s30_t R (F10_s31 R rec29) v0 v1 v5 v6 v7 v8 v9 v10 w
noncomputable def F10_s30_c : Code := (.seq F10_p75 F10_s31_c)
theorem F10_s30_ok (R : RT) (rec29 : V3) : OkW (F10_W R) (a8 (F10_s30 R rec29) 0 1 5 6 7 8 9 10) F10_s30_c (a3 rec29 5 6 10) (kxB 0 (a7 (F10_s3 R) 0 1 5 6 7 8 9) noX) :=
  fun f w h => cut F10_p75 F10_s31_c (K := (a9 (F10_s31 R rec29) 0 1 5 6 7 8 9 10 31)) (F10_s31_ok R rec29) f w (F10_s30_st R (F10_s31 R rec29) _ f w h)
def F10_s29 (R : RT) (v0 v1 v5 v6 v7 v8 v9 v10 : Value) (w : World) : Prop :=
  Lp3 (fun rec29 v5 v6 v10 w => F10_s30 R rec29 v0 v1 v5 v6 v7 v8 v9 v10 w) v5 v6 v10 w
theorem F10_s29_e (R : RT) (K : KF) (X : KX) (f : Fr) (w : World) (h : F10_W R (.loop F10_p64) K X f w) : F10_W R F10_p63 K X f w := Eq.mp (by kernel_rfl) h
theorem F10_s29b_e (R : RT) (K : KF) (X : KX) (f : Fr) (w : World) (h : F10_W R F10_s30_c K X f w) : F10_W R F10_p64 K X f w := Eq.mp (by kernel_rfl) h
theorem F10_s29_ok (R : RT) : OkW (F10_W R) (a8 (F10_s29 R) 0 1 5 6 7 8 9 10) F10_p63 (a7 (F10_s3 R) 0 1 5 6 7 8 9) (kxB 0 (a7 (F10_s3 R) 0 1 5 6 7 8 9) noX) :=
  fun f w h => F10_s29_e R _ _ f w (loop3_ok (P := Tryz.prog) (dc := F10_dc) (kr := (F10_k R)) (pan := panK R) F10_p64 (kn := (a7 (F10_s3 R) 0 1 5 6 7 8 9)) (kx := (kxB 0 (a7 (F10_s3 R) 0 1 5 6 7 8 9) noX)) (s0 := 5) (s1 := 6) (s2 := 10) (fun rec29 v5 v6 v10 w => F10_s30 R rec29 (f 0) (f 1) v5 v6 (f 7) (f 8) (f 9) v10 w) f (fun rec29 f' w' hf h' => F10_s29b_e R _ _ f' w' ((F10_s30_ok R rec29) f' w' (by simp only [a8, hf 0 (by kernel_rfl), hf 1 (by kernel_rfl), hf 7 (by kernel_rfl), hf 8 (by kernel_rfl), hf 9 (by kernel_rfl)]; exact h'))) w h)
noncomputable def F10_s2_c : Code := (.seq F10_p62 F10_s3_c)
theorem F10_s2_e (R : RT) (K : KF) (X : KX) (f : Fr) (w : World) (h : F10_W R F10_p63 K (kxB 0 K X) f w) : F10_W R F10_p62 K X f w := Eq.mp (by kernel_rfl) h
theorem F10_s2_ok (R : RT) : OkW (F10_W R) (a8 (F10_s29 R) 0 1 5 6 7 8 9 10) F10_s2_c (F10_k R) noX :=
  fun f w h => cut F10_p62 F10_s3_c (K := (a7 (F10_s3 R) 0 1 5 6 7 8 9)) (F10_s3_ok R) f w (F10_s2_e R _ _ f w ((F10_s29_ok R) f w h))
def F10_s1_t (R : RT) (K : V8) (v0 v1 : Value) (w : World) : Prop :=
  uv Tryz.prog R (Instr.buildSlice 71 0 #[]) w (fun v16 w =>
  uv Tryz.prog R (Instr.buildSlice 27 0 #[]) w (fun v17 w =>
  uv Tryz.prog R (Instr.buildSlice 35 0 #[]) w (fun v18 w =>
  un Tryz.prog R (callFunc 23 #[v0, v1]) w (fun v22 w =>
  uv Tryz.prog R (Instr.extract v22 0) w (fun v23 w =>
  uv Tryz.prog R (Instr.extract v22 1) w (fun v24 w =>
  uv Tryz.prog R (Instr.alloc 42 true (.tuple #[])) w (fun v8 w =>
  uu Tryz.prog R (Instr.storeAt 42 v8 v23) w (fun w =>
  K v0 v1 v16 v17 v18 v8 v24 (.int .i64 0) w))))))))
theorem F10_s1_st (R : RT) (K : V8) (X : KX) (f : Fr) (w : World) (h : F10_s1_t R K (f 0) (f 1) w) : F10_W R (.seq F10_p76 (.seq F10_p77 (.seq F10_p78 F10_p79))) (a8 K 0 1 5 6 7 8 9 10) X f w := Eq.mp (by kernel_rfl) h
def F10_s1 (R : RT) (v0 v1 : Value) (w : World) : Prop :=
  F10_s1_t R (F10_s29 R) v0 v1 w
noncomputable def F10_s1_c : Code := (.seq (.seq F10_p76 (.seq F10_p77 (.seq F10_p78 F10_p79))) F10_s2_c)
theorem F10_s1_ok (R : RT) : OkW (F10_W R) (a2 (F10_s1 R) 0 1) F10_s1_c (F10_k R) noX :=
  fun f w h => cut (.seq F10_p76 (.seq F10_p77 (.seq F10_p78 F10_p79))) F10_s2_c (K := (a8 (F10_s29 R) 0 1 5 6 7 8 9 10)) (F10_s2_ok R) f w (F10_s1_st R (F10_s29 R) _ f w h)
theorem F10_all_e (R : RT) (K : KF) (X : KX) (f : Fr) (w : World) (h : F10_W R F10_s1_c K X f w) : F10_W R F10_b K X f w := Eq.mp (by kernel_rfl) h
theorem F10_calls (R : RT) (v0 v1 : Value) (w : World) (h : F10_s1 R v0 v1 w) : Calls Tryz.prog 10 #[v0, v1] w R :=
  calls_of_wpE (dc := F10_dc) (args := [v0, v1]) hmixed Tryz.func10 (c := F10_b) rfl (rs := [.tmp 4]) rfl (by kernel_rfl) (Nat.le_of_ble_eq_true (by kernel_rfl)) (F10_all_e R _ _ _ w ((F10_s1_ok R) (initFr [v0, v1]) w h))

/-! ### (*hasp/haspref10.Table).Edges -/
noncomputable def F38_b : Code := bodyOf Tryz.f38
def F38_dc : Nat → List (Nat × Bool)
  | 16 => [(0, true), (1, true), (2, true), (3, true), (4, true), (5, true), (6, true), (7, true), (8, true), (9, false), (10, true)]
  | 14 => [(0, true), (1, true), (2, true), (3, true), (4, true), (5, true), (6, true), (7, true), (8, true), (9, true), (10, true), (11, true), (12, true), (13, true)]
  | _ => []
abbrev F38_k (R : RT) := resK Tryz.prog [.tmp 2] R
abbrev F38_W (R : RT) := wpE Tryz.prog F38_dc (F38_k R) (panK R)
noncomputable def F38_p0 := cR F38_b
noncomputable def F38_p1 := cR F38_p0
noncomputable def F38_p2 := cR F38_p1
noncomputable def F38_p3 := cL F38_p2
noncomputable def F38_p4 := cL F38_p1
noncomputable def F38_p5 := cR F38_p4
noncomputable def F38_p6 := cI F38_p5
noncomputable def F38_p7 := cI F38_p6
noncomputable def F38_p8 := cR F38_p7
noncomputable def F38_p9 := cR F38_p8
noncomputable def F38_p10 := cL F38_p8
noncomputable def F38_p11 := cI F38_p10
noncomputable def F38_p12 := cR F38_p11
noncomputable def F38_p13 := cR F38_p12
noncomputable def F38_p14 := cR F38_p13
noncomputable def F38_p15 := cR F38_p14
noncomputable def F38_p16 := cI F38_p15
noncomputable def F38_p17 := cI F38_p16
noncomputable def F38_p18 := cR F38_p17
noncomputable def F38_p19 := cR F38_p18
noncomputable def F38_p20 := cL F38_p18
noncomputable def F38_p21 := cI F38_p20
noncomputable def F38_p22 := cL F38_p17
noncomputable def F38_p23 := cR F38_p22
noncomputable def F38_p24 := cL F38_p22
noncomputable def F38_p25 := cL F38_p13
noncomputable def F38_p26 := cL F38_p14
noncomputable def F38_p27 := cL F38_p12
noncomputable def F38_p28 := cR F38_p27
noncomputable def F38_p29 := cI F38_p28
noncomputable def F38_p30 := cI F38_p29
noncomputable def F38_p31 := cR F38_p30
noncomputable def F38_p32 := cR F38_p31
noncomputable def F38_p33 := cL F38_p31
noncomputable def F38_p34 := cI F38_p33
noncomputable def F38_p35 := cR F38_p34
noncomputable def F38_p36 := cR F38_p35
noncomputable def F38_p37 := cT F38_p36
noncomputable def F38_p38 := cL F38_p34
noncomputable def F38_p39 := cL F38_p35
noncomputable def F38_p40 := cL F38_p30
noncomputable def F38_p41 := cR F38_p40
noncomputable def F38_p42 := cL F38_p40
noncomputable def F38_p43 := cL F38_p11
noncomputable def F38_p44 := cL F38_p27
noncomputable def F38_p45 := cL F38_p7
noncomputable def F38_p46 := cR F38_p45
noncomputable def F38_p47 := cL F38_p45
noncomputable def F38_p48 := cL F38_b
noncomputable def F38_p49 := cL F38_p0
noncomputable def F38_p50 := cL F38_p4
def F38_s3_t (R : RT) (v3 : Value) (w : World) : Prop :=
  R (.returned v3) w
theorem F38_s3_st (R : RT) (X : KX) (f : Fr) (w : World) (h : F38_s3_t R (f 3) w) : F38_W R F38_p3 (F38_k R) X f w := Eq.mp (by kernel_rfl) h
def F38_s3 (R : RT) (v3 : Value) (w : World) : Prop :=
  F38_s3_t R v3 w
noncomputable def F38_s3_c : Code := (.seq F38_p3 .ret)
theorem F38_s3_ok (R : RT) : OkW (F38_W R) (a1 (F38_s3 R) 3) F38_s3_c (F38_k R) noX :=
  fun f w h => cut F38_p3 .ret (K := (F38_k R)) (fun f w h => ret_ok h) f w (F38_s3_st R _ f w h)
def F38_s8_t (R : RT) (K : V2) (v0 v3 v4 : Value) (w : World) : Prop :=
  uv Tryz.prog R (binS .add 3 (.tmp 18) (.const (.int .i64 1)) v4 (.int .i64 1)) w (fun v19 w =>
  K v3 v19 w)
theorem F38_s8_st (R : RT) (K : V2) (X : KX) (f : Fr) (w : World) (h : F38_s8_t R K (f 0) (f 3) (f 4) w) : F38_W R F38_p9 (a2 K 3 4) X f w := Eq.mp (by kernel_rfl) h
def F38_s8 (R : RT) (rec4 : V2) (v0 v3 v4 : Value) (w : World) : Prop :=
  F38_s8_t R rec4 v0 v3 v4 w
noncomputable def F38_s8_c : Code := (.seq F38_p9 .skip)
theorem F38_s8_ok (R : RT) (rec4 : V2) : OkW (F38_W R) (a3 (F38_s8 R rec4) 0 3 4) F38_s8_c (a2 rec4 3 4) (kxB 0 (a1 (F38_s3 R) 3) noX) :=
  fun f w h => cut F38_p9 .skip (K := (a2 rec4 3 4)) (fun f w h => skip_ok h) f w (F38_s8_st R rec4 _ f w h)
def F38_s17_t (R : RT) (K : V2) (v0 v3 v4 v5 v8 v9 : Value) (w : World) : Prop :=
  uv Tryz.prog R (binS .add 3 (.tmp 89) (.const (.int .i64 1)) v9 (.int .i64 1)) w (fun v90 w =>
  K v3 v90 w)
theorem F38_s17_st (R : RT) (K : V2) (X : KX) (f : Fr) (w : World) (h : F38_s17_t R K (f 0) (f 3) (f 4) (f 5) (f 8) (f 9) w) : F38_W R F38_p19 (a2 K 3 9) X f w := Eq.mp (by kernel_rfl) h
def F38_s17 (R : RT) (rec4 : V2) (rec13 : V2) (v0 v3 v4 v5 v8 v9 : Value) (w : World) : Prop :=
  F38_s17_t R rec13 v0 v3 v4 v5 v8 v9 w
noncomputable def F38_s17_c : Code := (.seq F38_p19 .skip)
theorem F38_s17_ok (R : RT) (rec4 : V2) (rec13 : V2) : OkW (F38_W R) (a6 (F38_s17 R rec4 rec13) 0 3 4 5 8 9) F38_s17_c (a2 rec13 3 9) (kxB 4 (a3 (F38_s8 R rec4) 0 3 4) (kxB 1 (a3 (F38_s8 R rec4) 0 3 4) (kxB 0 (a1 (F38_s3 R) 3) noX))) :=
  fun f w h => cut F38_p19 .skip (K := (a2 rec13 3 9)) (fun f w h => skip_ok h) f w (F38_s17_st R rec13 _ f w h)
def F38_s18_t (R : RT) (K : V6) (v0 v3 v4 v5 v8 v9 : Value) (w : World) : Prop :=
  Dr (fun S w =>
  HV Tryz.prog (fun _ => True) (Instr.fieldAt 42 v5 0) (fun v92 =>
  HV Tryz.prog S (Instr.loadAt 3 v92) (fun v93 =>
  HV Tryz.prog S (Instr.indexAt 27 v8 v9) (fun v96 =>
  HV Tryz.prog (fun _ => True) (Instr.fieldAt 42 v96 0) (fun v97 =>
  HV Tryz.prog S (Instr.loadAt 3 v97) (fun v98 =>
  HV Tryz.prog S (Instr.build 83 #[(0, v93), (1, v98)]) (fun v99 =>
  un Tryz.prog R (callFunc 58 #[v3, v99]) w (fun v100 w =>
  K v0 v100 v4 v5 v8 v9 w)))))))) w
theorem F38_s18_st (R : RT) (K : V6) (X : KX) (f : Fr) (w : World) (h : F38_s18_t R K (f 0) (f 3) (f 4) (f 5) (f 8) (f 9) w) : F38_W R F38_p21 (a6 K 0 3 4 5 8 9) X f w := Eq.mp (by kernel_rfl) h
def F38_s18 (R : RT) (rec4 : V2) (rec13 : V2) (v0 v3 v4 v5 v8 v9 : Value) (w : World) : Prop :=
  F38_s18_t R (F38_s17 R rec4 rec13) v0 v3 v4 v5 v8 v9 w
noncomputable def F38_s18_c : Code := (.seq F38_p21 .skip)
theorem F38_s18_ok (R : RT) (rec4 : V2) (rec13 : V2) : OkW (F38_W R) (a6 (F38_s18 R rec4 rec13) 0 3 4 5 8 9) F38_s18_c (a6 (F38_s17 R rec4 rec13) 0 3 4 5 8 9) (kxB 5 (a6 (F38_s17 R rec4 rec13) 0 3 4 5 8 9) (kxB 4 (a3 (F38_s8 R rec4) 0 3 4) (kxB 1 (a3 (F38_s8 R rec4) 0 3 4) (kxB 0 (a1 (F38_s3 R) 3) noX)))) :=
  fun f w h => cut F38_p21 .skip (K := (a6 (F38_s17 R rec4 rec13) 0 3 4 5 8 9)) (fun f w h => skip_ok h) f w (F38_s18_st R (F38_s17 R rec4 rec13) _ f w h)
noncomputable def F38_s16_c : Code := (.seq F38_p20 F38_s17_c)
theorem F38_s16_e (R : RT) (K : KF) (X : KX) (f : Fr) (w : World) (h : F38_W R F38_s18_c K (kxB 5 K X) f w) : F38_W R F38_p20 K X f w := Eq.mp (by kernel_rfl) h
theorem F38_s16_ok (R : RT) (rec4 : V2) (rec13 : V2) : OkW (F38_W R) (a6 (F38_s18 R rec4 rec13) 0 3 4 5 8 9) F38_s16_c (a2 rec13 3 9) (kxB 4 (a3 (F38_s8 R rec4) 0 3 4) (kxB 1 (a3 (F38_s8 R rec4) 0 3 4) (kxB 0 (a1 (F38_s3 R) 3) noX))) :=
  fun f w h => cut F38_p20 F38_s17_c (K := (a6 (F38_s17 R rec4 rec13) 0 3 4 5 8 9)) (F38_s17_ok R rec4 rec13) f w (F38_s16_e R _ _ f w ((F38_s18_ok R rec4 rec13) f w h))
def F38_s15 (R : RT) (rec4 : V2) (rec13 : V2) (v0 v3 v4 v5 v8 v9 v88 : Value) (w : World) : Prop :=
  Bc v88
    (F38_s18 R rec4 rec13 v0 v3 v4 v5 v8 v9 w)
    (F38_s8 R rec4 v0 v3 v4 w)
noncomputable def F38_s15_c : Code := (.seq F38_p23 F38_s16_c)
theorem F38_s15_e (R : RT) (K : KF) (X : KX) (f : Fr) (w : World) (h : Bc (f 88) (F38_W R .skip K X f w) (F38_W R (.exit 4) K X f w)) : (F38_W R F38_p23 K X f w) := Eq.mp (by kernel_rfl) h
theorem F38_s15_ok (R : RT) (rec4 : V2) (rec13 : V2) : OkW (F38_W R) (a7 (F38_s15 R rec4 rec13) 0 3 4 5 8 9 88) F38_s15_c (a2 rec13 3 9) (kxB 4 (a3 (F38_s8 R rec4) 0 3 4) (kxB 1 (a3 (F38_s8 R rec4) 0 3 4) (kxB 0 (a1 (F38_s3 R) 3) noX))) :=
  fun f w h => cut F38_p23 F38_s16_c (K := (a6 (F38_s18 R rec4 rec13) 0 3 4 5 8 9)) (F38_s16_ok R rec4 rec13) f w (F38_s15_e R _ _ f w (Bc_imp (x' := (F38_W R .skip (a6 (F38_s18 R rec4 rec13) 0 3 4 5 8 9) (kxB 4 (a3 (F38_s8 R rec4) 0 3 4) (kxB 1 (a3 (F38_s8 R rec4) 0 3 4) (kxB 0 (a1 (F38_s3 R) 3) noX))) f w)) (y' := (F38_W R (.exit 4) (a6 (F38_s18 R rec4 rec13) 0 3 4 5 8 9) (kxB 4 (a3 (F38_s8 R rec4) 0 3 4) (kxB 1 (a3 (F38_s8 R rec4) 0 3 4) (kxB 0 (a1 (F38_s3 R) 3) noX))) f w)) ((fun f w h => skip_ok h) f w) ((fun f w h => exit_hit h) f w) h))
def F38_s14_t (R : RT) (K : V7) (v0 v3 v4 v5 v8 v9 : Value) (w : World) : Prop :=
  Dr (fun S w =>
  HN Tryz.prog S (builtin .len #[27] 3 #[false] #[v8]) (fun v77 =>
  HV Tryz.prog S (binS .lss 3 (.tmp 75) (.tmp 77) v9 v77) (fun v78 =>
  GH v78 true (fun k => k v8) (fun v80 =>
  GH v78 true (fun k => k v9) (fun v81 =>
  GH v78 true (fun k => HV Tryz.prog S (Instr.indexAt 27 v80 v81) k) (fun v82 =>
  GH v78 true (fun k => HV Tryz.prog (fun _ => True) (Instr.fieldAt 42 v82 0) k) (fun v83 =>
  GH v78 true (fun k => HV Tryz.prog S (Instr.loadAt 3 v83) k) (fun v84 =>
  GH v78 true (fun k => HV Tryz.prog (fun _ => True) (Instr.fieldAt 42 v5 0) k) (fun v85 =>
  GH v78 true (fun k => HV Tryz.prog S (Instr.loadAt 3 v85) k) (fun v86 =>
  GH v78 true (fun k => HV Tryz.prog S (binS .neq 3 (.tmp 84) (.tmp 86) v84 v86) k) (fun v87 =>
  HV Tryz.prog S (pickS v78 v87 (.bool false)) (fun v88 =>
  K v0 v3 v4 v5 v8 v9 v88 w)))))))))))) w
theorem F38_s14_st (R : RT) (K : V7) (X : KX) (f : Fr) (w : World) (h : F38_s14_t R K (f 0) (f 3) (f 4) (f 5) (f 8) (f 9) w) : F38_W R F38_p24 (a7 K 0 3 4 5 8 9 88) X f w := Eq.mp (by kernel_rfl) h
def F38_s14 (R : RT) (rec4 : V2) (rec13 : V2) (v0 v3 v4 v5 v8 v9 : Value) (w : World) : Prop :=
  F38_s14_t R (F38_s15 R rec4 rec13) v0 v3 v4 v5 v8 v9 w
noncomputable def F38_s14_c : Code := (.seq F38_p24 F38_s15_c)
theorem F38_s14_ok (R : RT) (rec4 : V2) (rec13 : V2) : OkW (F38_W R) (a6 (F38_s14 R rec4 rec13) 0 3 4 5 8 9) F38_s14_c (a2 rec13 3 9) (kxB 4 (a3 (F38_s8 R rec4) 0 3 4) (kxB 1 (a3 (F38_s8 R rec4) 0 3 4) (kxB 0 (a1 (F38_s3 R) 3) noX))) :=
  fun f w h => cut F38_p24 F38_s15_c (K := (a7 (F38_s15 R rec4 rec13) 0 3 4 5 8 9 88)) (F38_s15_ok R rec4 rec13) f w (F38_s14_st R (F38_s15 R rec4 rec13) _ f w h)
def F38_s13 (R : RT) (rec4 : V2) (v0 v3 v4 v5 v8 v9 : Value) (w : World) : Prop :=
  Lp2 (fun rec13 v3 v9 w => F38_s14 R rec4 rec13 v0 v3 v4 v5 v8 v9 w) v3 v9 w
theorem F38_s13_e (R : RT) (K : KF) (X : KX) (f : Fr) (w : World) (h : F38_W R (.loop F38_p17) K X f w) : F38_W R F38_p16 K X f w := Eq.mp (by kernel_rfl) h
theorem F38_s13b_e (R : RT) (K : KF) (X : KX) (f : Fr) (w : World) (h : F38_W R F38_s14_c K X f w) : F38_W R F38_p17 K X f w := Eq.mp (by kernel_rfl) h
theorem F38_s13_ok (R : RT) (rec4 : V2) : OkW (F38_W R) (a6 (F38_s13 R rec4) 0 3 4 5 8 9) F38_p16 (a3 (F38_s8 R rec4) 0 3 4) (kxB 4 (a3 (F38_s8 R rec4) 0 3 4) (kxB 1 (a3 (F38_s8 R rec4) 0 3 4) (kxB 0 (a1 (F38_s3 R) 3) noX))) :=
  fun f w h => F38_s13_e R _ _ f w (loop2_ok (P := Tryz.prog) (dc := F38_dc) (kr := (F38_k R)) (pan := panK R) F38_p17 (kn := (a3 (F38_s8 R rec4) 0 3 4)) (kx := (kxB 4 (a3 (F38_s8 R rec4) 0 3 4) (kxB 1 (a3 (F38_s8 R rec4) 0 3 4) (kxB 0 (a1 (F38_s3 R) 3) noX)))) (s0 := 3) (s1 := 9) (fun rec13 v3 v9 w => F38_s14 R rec4 rec13 (f 0) v3 (f 4) (f 5) (f 8) v9 w) f (fun rec13 f' w' hf h' => F38_s13b_e R _ _ f' w' ((F38_s14_ok R rec4 rec13) f' w' (by simp only [a6, hf 0 (by kernel_rfl), hf 4 (by kernel_rfl), hf 5 (by kernel_rfl), hf 8 (by kernel_rfl)]; exact h'))) w h)
noncomputable def F38_s12_c : Code := (.seq F38_p15 .skip)
theorem F38_s12_e (R : RT) (K : KF) (X : KX) (f : Fr) (w : World) (h : F38_W R F38_p16 K (kxB 4 K X) f w) : F38_W R F38_p15 K X f w := Eq.mp (by kernel_rfl) h
theorem F38_s12_ok (R : RT) (rec4 : V2) : OkW (F38_W R) (a6 (F38_s13 R rec4) 0 3 4 5 8 9) F38_s12_c (a3 (F38_s8 R rec4) 0 3 4) (kxB 1 (a3 (F38_s8 R rec4) 0 3 4) (kxB 0 (a1 (F38_s3 R) 3) noX)) :=
  fun f w h => cut F38_p15 .skip (K := (a3 (F38_s8 R rec4) 0 3 4)) (fun f w h => skip_ok h) f w (F38_s12_e R _ _ f w ((F38_s13_ok R rec4) f w h))
def F38_s11_t (R : RT) (K : V6) (v0 v3 v4 v5 : Value) (w : World) : Prop :=
  uv Tryz.prog R (Instr.fieldAt 42 v5 1) w (fun v72 w =>
  uv Tryz.prog R (Instr.loadAt 9 v72) w (fun v73 w =>
  un Tryz.prog R (callFunc 28 #[v0, v73]) w (fun v74 w =>
  K v0 v3 v4 v5 v74 (.int .i64 0) w)))
theorem F38_s11_st (R : RT) (K : V6) (X : KX) (f : Fr) (w : World) (h : F38_s11_t R K (f 0) (f 3) (f 4) (f 5) w) : F38_W R (.seq F38_p25 F38_p26) (a6 K 0 3 4 5 8 9) X f w := Eq.mp (by kernel_rfl) h
def F38_s11 (R : RT) (rec4 : V2) (v0 v3 v4 v5 : Value) (w : World) : Prop :=
  F38_s11_t R (F38_s13 R rec4) v0 v3 v4 v5 w
noncomputable def F38_s11_c : Code := (.seq (.seq F38_p25 F38_p26) F38_s12_c)
theorem F38_s11_ok (R : RT) (rec4 : V2) : OkW (F38_W R) (a4 (F38_s11 R rec4) 0 3 4 5) F38_s11_c (a3 (F38_s8 R rec4) 0 3 4) (kxB 1 (a3 (F38_s8 R rec4) 0 3 4) (kxB 0 (a1 (F38_s3 R) 3) noX)) :=
  fun f w h => cut (.seq F38_p25 F38_p26) F38_s12_c (K := (a6 (F38_s13 R rec4) 0 3 4 5 8 9)) (F38_s12_ok R rec4) f w (F38_s11_st R (F38_s13 R rec4) _ f w h)
def F38_s23_t (R : RT) (K : V2) (v0 v3 v4 v5 v6 : Value) (w : World) : Prop :=
  uv Tryz.prog R (binS .add 3 (.tmp 35) (.const (.int .i64 1)) v6 (.int .i64 1)) w (fun v36 w =>
  K v3 v36 w)
theorem F38_s23_st (R : RT) (K : V2) (X : KX) (f : Fr) (w : World) (h : F38_s23_t R K (f 0) (f 3) (f 4) (f 5) (f 6) w) : F38_W R F38_p32 (a2 K 3 6) X f w := Eq.mp (by kernel_rfl) h
def F38_s23 (R : RT) (rec4 : V2) (rec19 : V2) (v0 v3 v4 v5 v6 : Value) (w : World) : Prop :=
  F38_s23_t R rec19 v0 v3 v4 v5 v6 w
noncomputable def F38_s23_c : Code := (.seq F38_p32 .skip)
theorem F38_s23_ok (R : RT) (rec4 : V2) (rec19 : V2) : OkW (F38_W R) (a5 (F38_s23 R rec4 rec19) 0 3 4 5 6) F38_s23_c (a2 rec19 3 6) (kxB 2 (a4 (F38_s11 R rec4) 0 3 4 5) (kxB 1 (a3 (F38_s8 R rec4) 0 3 4) (kxB 0 (a1 (F38_s3 R) 3) noX))) :=
  fun f w h => cut F38_p32 .skip (K := (a2 rec19 3 6)) (fun f w h => skip_ok h) f w (F38_s23_st R rec19 _ f w h)
def F38_s26_t (R : RT) (K : V5) (v0 v3 v4 v5 v6 v7 : Value) (w : World) : Prop :=
  uv Tryz.prog R (Instr.fieldAt 42 v5 0) w (fun v65 w =>
  uv Tryz.prog R (Instr.loadAt 3 v65) w (fun v66 w =>
  uv Tryz.prog R (Instr.fieldAt 42 v7 0) w (fun v67 w =>
  uv Tryz.prog R (Instr.loadAt 3 v67) w (fun v68 w =>
  uv Tryz.prog R (Instr.build 83 #[(0, v66), (1, v68)]) w (fun v69 w =>
  un Tryz.prog R (callFunc 58 #[v3, v69]) w (fun v70 w =>
  K v0 v70 v4 v5 v6 w))))))
theorem F38_s26_st (R : RT) (K : V5) (X : KX) (f : Fr) (w : World) (h : F38_s26_t R K (f 0) (f 3) (f 4) (f 5) (f 6) (f 7) w) : F38_W R F38_p37 (a5 K 0 3 4 5 6) X f w := Eq.mp (by kernel_rfl) h
def F38_s26 (R : RT) (rec4 : V2) (rec19 : V2) (v0 v3 v4 v5 v6 v7 : Value) (w : World) : Prop :=
  F38_s26_t R (F38_s23 R rec4 rec19) v0 v3 v4 v5 v6 v7 w
noncomputable def F38_s26_c : Code := (.seq F38_p37 .skip)
theorem F38_s26_ok (R : RT) (rec4 : V2) (rec19 : V2) : OkW (F38_W R) (a6 (F38_s26 R rec4 rec19) 0 3 4 5 6 7) F38_s26_c (a5 (F38_s23 R rec4 rec19) 0 3 4 5 6) (kxB 3 (a5 (F38_s23 R rec4 rec19) 0 3 4 5 6) (kxB 2 (a4 (F38_s11 R rec4) 0 3 4 5) (kxB 1 (a3 (F38_s8 R rec4) 0 3 4) (kxB 0 (a1 (F38_s3 R) 3) noX)))) :=
  fun f w h => cut F38_p37 .skip (K := (a5 (F38_s23 R rec4 rec19) 0 3 4 5 6)) (fun f w h => skip_ok h) f w (F38_s26_st R (F38_s23 R rec4 rec19) _ f w h)
def F38_s25 (R : RT) (rec4 : V2) (rec19 : V2) (v0 v3 v4 v5 v6 v7 v63 : Value) (w : World) : Prop :=
  Bc v63
    (F38_s26 R rec4 rec19 v0 v3 v4 v5 v6 v7 w)
    (F38_s23 R rec4 rec19 v0 v3 v4 v5 v6 w)
noncomputable def F38_s25_c : Code := (.seq F38_p36 .skip)
theorem F38_s25_e (R : RT) (K : KF) (X : KX) (f : Fr) (w : World) (h : Bc (f 63) (F38_W R F38_s26_c K X f w) (F38_W R .skip K X f w)) : (F38_W R F38_p36 K X f w) := Eq.mp (by kernel_rfl) h
theorem F38_s25_ok (R : RT) (rec4 : V2) (rec19 : V2) : OkW (F38_W R) (a7 (F38_s25 R rec4 rec19) 0 3 4 5 6 7 63) F38_s25_c (a5 (F38_s23 R rec4 rec19) 0 3 4 5 6) (kxB 3 (a5 (F38_s23 R rec4 rec19) 0 3 4 5 6) (kxB 2 (a4 (F38_s11 R rec4) 0 3 4 5) (kxB 1 (a3 (F38_s8 R rec4) 0 3 4) (kxB 0 (a1 (F38_s3 R) 3) noX)))) :=
  fun f w h => cut F38_p36 .skip (K := (a5 (F38_s23 R rec4 rec19) 0 3 4 5 6)) (fun f w h => skip_ok h) f w (F38_s25_e R _ _ f w (Bc_imp (x' := (F38_W R F38_s26_c (a5 (F38_s23 R rec4 rec19) 0 3 4 5 6) (kxB 3 (a5 (F38_s23 R rec4 rec19) 0 3 4 5 6) (kxB 2 (a4 (F38_s11 R rec4) 0 3 4 5) (kxB 1 (a3 (F38_s8 R rec4) 0 3 4) (kxB 0 (a1 (F38_s3 R) 3) noX)))) f w)) (y' := (F38_W R .skip (a5 (F38_s23 R rec4 rec19) 0 3 4 5 6) (kxB 3 (a5 (F38_s23 R rec4 rec19) 0 3 4 5 6) (kxB 2 (a4 (F38_s11 R rec4) 0 3 4 5) (kxB 1 (a3 (F38_s8 R rec4) 0 3 4) (kxB 0 (a1 (F38_s3 R) 3) noX)))) f w)) ((F38_s26_ok R rec4 rec19) f w) ((fun f w h => skip_ok h) f w) h))
def F38_s24_t (R : RT) (K : V7) (v0 v3 v4 v5 v6 : Value) (w : World) : Prop :=
  un Tryz.prog R (nilS v0) w (fun v38 w =>
  uv Tryz.prog R (Instr.fieldAt 30 v38 0) w (fun v39 w =>
  uv Tryz.prog R (Instr.loadAt 27 v39) w (fun v40 w =>
  uv Tryz.prog R (Instr.indexAt 27 v40 v6) w (fun v42 w =>
  uv Tryz.prog R (Instr.loadAt 42 v42) w (fun v43 w =>
  uv Tryz.prog R (Instr.alloc 42 true (.tuple #[])) w (fun v7 w =>
  uu Tryz.prog R (Instr.storeAt 42 v7 v43) w (fun w =>
  uv Tryz.prog R (Instr.fieldAt 42 v7 1) w (fun v44 w =>
  uv Tryz.prog R (Instr.loadAt 9 v44) w (fun v45 w =>
  uv Tryz.prog R (Instr.fieldAt 42 v5 1) w (fun v46 w =>
  uv Tryz.prog R (Instr.loadAt 9 v46) w (fun v47 w =>
  uv Tryz.prog R (binS .eql 9 (.tmp 45) (.tmp 47) v45 v47) w (fun v48 w =>
  Gk v48 true (fun k => uv Tryz.prog R (Instr.fieldAt 42 v7 0) w k) w (fun v50 w =>
  Gk v48 true (fun k => uv Tryz.prog R (Instr.loadAt 3 v50) w k) w (fun v51 w =>
  Gk v48 true (fun k => uv Tryz.prog R (Instr.fieldAt 42 v5 0) w k) w (fun v52 w =>
  Gk v48 true (fun k => uv Tryz.prog R (Instr.loadAt 3 v52) w k) w (fun v53 w =>
  Gk v48 true (fun k => uv Tryz.prog R (binS .neq 3 (.tmp 51) (.tmp 53) v51 v53) w k) w (fun v54 w =>
  uv Tryz.prog R (pickS v48 v54 (.bool false)) w (fun v55 w =>
  Gk v55 true (fun k => uv Tryz.prog R (Instr.fieldAt 42 v7 2) w k) w (fun v57 w =>
  Gk v55 true (fun k => uv Tryz.prog R (Instr.loadAt 3 v57) w k) w (fun v58 w =>
  Gk v55 true (fun k => uv Tryz.prog R (Instr.fieldAt 42 v5 2) w k) w (fun v59 w =>
  Gk v55 true (fun k => uv Tryz.prog R (Instr.loadAt 3 v59) w k) w (fun v60 w =>
  Gk v55 true (fun k => un Tryz.prog R (callFunc 53 #[v58, v60]) w k) w (fun v61 w =>
  Gk v55 true (fun k => uv Tryz.prog R (Op.unary .not v61) w k) w (fun v62 w =>
  uv Tryz.prog R (pickS v55 v62 (.bool false)) w (fun v63 w =>
  K v0 v3 v4 v5 v6 v7 v63 w)))))))))))))))))))))))))
theorem F38_s24_st (R : RT) (K : V7) (X : KX) (f : Fr) (w : World) (h : F38_s24_t R K (f 0) (f 3) (f 4) (f 5) (f 6) w) : F38_W R (.seq F38_p38 F38_p39) (a7 K 0 3 4 5 6 7 63) X f w := Eq.mp (by kernel_rfl) h
def F38_s24 (R : RT) (rec4 : V2) (rec19 : V2) (v0 v3 v4 v5 v6 : Value) (w : World) : Prop :=
  F38_s24_t R (F38_s25 R rec4 rec19) v0 v3 v4 v5 v6 w
noncomputable def F38_s24_c : Code := (.seq (.seq F38_p38 F38_p39) F38_s25_c)
theorem F38_s24_ok (R : RT) (rec4 : V2) (rec19 : V2) : OkW (F38_W R) (a5 (F38_s24 R rec4 rec19) 0 3 4 5 6) F38_s24_c (a5 (F38_s23 R rec4 rec19) 0 3 4 5 6) (kxB 3 (a5 (F38_s23 R rec4 rec19) 0 3 4 5 6) (kxB 2 (a4 (F38_s11 R rec4) 0 3 4 5) (kxB 1 (a3 (F38_s8 R rec4) 0 3 4) (kxB 0 (a1 (F38_s3 R) 3) noX)))) :=
  fun f w h => cut (.seq F38_p38 F38_p39) F38_s25_c (K := (a7 (F38_s25 R rec4 rec19) 0 3 4 5 6 7 63)) (F38_s25_ok R rec4 rec19) f w (F38_s24_st R (F38_s25 R rec4 rec19) _ f w h)
noncomputable def F38_s22_c : Code := (.seq F38_p33 F38_s23_c)
theorem F38_s22_e (R : RT) (K : KF) (X : KX) (f : Fr) (w : World) (h : F38_W R F38_s24_c K (kxB 3 K X) f w) : F38_W R F38_p33 K X f w := Eq.mp (by kernel_rfl) h
theorem F38_s22_ok (R : RT) (rec4 : V2) (rec19 : V2) : OkW (F38_W R) (a5 (F38_s24 R rec4 rec19) 0 3 4 5 6) F38_s22_c (a2 rec19 3 6) (kxB 2 (a4 (F38_s11 R rec4) 0 3 4 5) (kxB 1 (a3 (F38_s8 R rec4) 0 3 4) (kxB 0 (a1 (F38_s3 R) 3) noX))) :=
  fun f w h => cut F38_p33 F38_s23_c (K := (a5 (F38_s23 R rec4 rec19) 0 3 4 5 6)) (F38_s23_ok R rec4 rec19) f w (F38_s22_e R _ _ f w ((F38_s24_ok R rec4 rec19) f w h))
def F38_s21 (R : RT) (rec4 : V2) (rec19 : V2) (v0 v3 v4 v5 v6 v34 : Value) (w : World) : Prop :=
  Bc v34
    (F38_s24 R rec4 rec19 v0 v3 v4 v5 v6 w)
    (F38_s11 R rec4 v0 v3 v4 v5 w)
noncomputable def F38_s21_c : Code := (.seq F38_p41 F38_s22_c)
theorem F38_s21_e (R : RT) (K : KF) (X : KX) (f : Fr) (w : World) (h : Bc (f 34) (F38_W R .skip K X f w) (F38_W R (.exit 2) K X f w)) : (F38_W R F38_p41 K X f w) := Eq.mp (by kernel_rfl) h
theorem F38_s21_ok (R : RT) (rec4 : V2) (rec19 : V2) : OkW (F38_W R) (a6 (F38_s21 R rec4 rec19) 0 3 4 5 6 34) F38_s21_c (a2 rec19 3 6) (kxB 2 (a4 (F38_s11 R rec4) 0 3 4 5) (kxB 1 (a3 (F38_s8 R rec4) 0 3 4) (kxB 0 (a1 (F38_s3 R) 3) noX))) :=
  fun f w h => cut F38_p41 F38_s22_c (K := (a5 (F38_s24 R rec4 rec19) 0 3 4 5 6)) (F38_s22_ok R rec4 rec19) f w (F38_s21_e R _ _ f w (Bc_imp (x' := (F38_W R .skip (a5 (F38_s24 R rec4 rec19) 0 3 4 5 6) (kxB 2 (a4 (F38_s11 R rec4) 0 3 4 5) (kxB 1 (a3 (F38_s8 R rec4) 0 3 4) (kxB 0 (a1 (F38_s3 R) 3) noX))) f w)) (y' := (F38_W R (.exit 2) (a5 (F38_s24 R rec4 rec19) 0 3 4 5 6) (kxB 2 (a4 (F38_s11 R rec4) 0 3 4 5) (kxB 1 (a3 (F38_s8 R rec4) 0 3 4) (kxB 0 (a1 (F38_s3 R) 3) noX))) f w)) ((fun f w h => skip_ok h) f w) ((fun f w h => exit_hit h) f w) h))
def F38_s20_t (R : RT) (K : V6) (v0 v3 v4 v5 v6 : Value) (w : World) : Prop :=
  un Tryz.prog R (nilS v0) w (fun v30 w =>
  uv Tryz.prog R (Instr.fieldAt 30 v30 0) w (fun v31 w =>
  uv Tryz.prog R (Instr.loadAt 27 v31) w (fun v32 w =>
  un Tryz.prog R (builtin .len #[27] 3 #[false] #[v32]) w (fun v33 w =>
  uv Tryz.prog R (binS .lss 3 (.tmp 28) (.tmp 33) v6 v33) w (fun v34 w =>
  K v0 v3 v4 v5 v6 v34 w)))))
theorem F38_s20_st (R : RT) (K : V6) (X : KX) (f : Fr) (w : World) (h : F38_s20_t R K (f 0) (f 3) (f 4) (f 5) (f 6) w) : F38_W R F38_p42 (a6 K 0 3 4 5 6 34) X f w := Eq.mp (by kernel_rfl) h
def F38_s20 (R : RT) (rec4 : V2) (rec19 : V2) (v0 v3 v4 v5 v6 : Value) (w : World) : Prop :=
  F38_s20_t R (F38_s21 R rec4 rec19) v0 v3 v4 v5 v6 w
noncomputable def F38_s20_c : Code := (.seq F38_p42 F38_s21_c)
theorem F38_s20_ok (R : RT) (rec4 : V2) (rec19 : V2) : OkW (F38_W R) (a5 (F38_s20 R rec4 rec19) 0 3 4 5 6) F38_s20_c (a2 rec19 3 6) (kxB 2 (a4 (F38_s11 R rec4) 0 3 4 5) (kxB 1 (a3 (F38_s8 R rec4) 0 3 4) (kxB 0 (a1 (F38_s3 R) 3) noX))) :=
  fun f w h => cut F38_p42 F38_s21_c (K := (a6 (F38_s21 R rec4 rec19) 0 3 4 5 6 34)) (F38_s21_ok R rec4 rec19) f w (F38_s20_st R (F38_s21 R rec4 rec19) _ f w h)
def F38_s19 (R : RT) (rec4 : V2) (v0 v3 v4 v5 v6 : Value) (w : World) : Prop :=
  Lp2 (fun rec19 v3 v6 w => F38_s20 R rec4 rec19 v0 v3 v4 v5 v6 w) v3 v6 w
theorem F38_s19_e (R : RT) (K : KF) (X : KX) (f : Fr) (w : World) (h : F38_W R (.loop F38_p30) K X f w) : F38_W R F38_p29 K X f w := Eq.mp (by kernel_rfl) h
theorem F38_s19b_e (R : RT) (K : KF) (X : KX) (f : Fr) (w : World) (h : F38_W R F38_s20_c K X f w) : F38_W R F38_p30 K X f w := Eq.mp (by kernel_rfl) h
theorem F38_s19_ok (R : RT) (rec4 : V2) : OkW (F38_W R) (a5 (F38_s19 R rec4) 0 3 4 5 6) F38_p29 (a4 (F38_s11 R rec4) 0 3 4 5) (kxB 2 (a4 (F38_s11 R rec4) 0 3 4 5) (kxB 1 (a3 (F38_s8 R rec4) 0 3 4) (kxB 0 (a1 (F38_s3 R) 3) noX))) :=
  fun f w h => F38_s19_e R _ _ f w (loop2_ok (P := Tryz.prog) (dc := F38_dc) (kr := (F38_k R)) (pan := panK R) F38_p30 (kn := (a4 (F38_s11 R rec4) 0 3 4 5)) (kx := (kxB 2 (a4 (F38_s11 R rec4) 0 3 4 5) (kxB 1 (a3 (F38_s8 R rec4) 0 3 4) (kxB 0 (a1 (F38_s3 R) 3) noX)))) (s0 := 3) (s1 := 6) (fun rec19 v3 v6 w => F38_s20 R rec4 rec19 (f 0) v3 (f 4) (f 5) v6 w) f (fun rec19 f' w' hf h' => F38_s19b_e R _ _ f' w' ((F38_s20_ok R rec4 rec19) f' w' (by simp only [a5, hf 0 (by kernel_rfl), hf 4 (by kernel_rfl), hf 5 (by kernel_rfl)]; exact h'))) w h)
noncomputable def F38_s10_c : Code := (.seq F38_p28 F38_s11_c)
theorem F38_s10_e (R : RT) (K : KF) (X : KX) (f : Fr) (w : World) (h : F38_W R F38_p29 K (kxB 2 K X) f w) : F38_W R F38_p28 K X f w := Eq.mp (by kernel_rfl) h
theorem F38_s10_ok (R : RT) (rec4 : V2) : OkW (F38_W R) (a5 (F38_s19 R rec4) 0 3 4 5 6) F38_s10_c (a3 (F38_s8 R rec4) 0 3 4) (kxB 1 (a3 (F38_s8 R rec4) 0 3 4) (kxB 0 (a1 (F38_s3 R) 3) noX)) :=
  fun f w h => cut F38_p28 F38_s11_c (K := (a4 (F38_s11 R rec4) 0 3 4 5)) (F38_s11_ok R rec4) f w (F38_s10_e R _ _ f w ((F38_s19_ok R rec4) f w h))
def F38_s9_t (R : RT) (K : V5) (v0 v3 v4 : Value) (w : World) : Prop :=
  un Tryz.prog R (nilS v0) w (fun v21 w =>
  uv Tryz.prog R (Instr.fieldAt 30 v21 1) w (fun v22 w =>
  uv Tryz.prog R (Instr.loadAt 28 v22) w (fun v23 w =>
  uv Tryz.prog R (Instr.indexAt 28 v23 v4) w (fun v25 w =>
  uv Tryz.prog R (Instr.fieldAt 70 v25 0) w (fun v26 w =>
  uv Tryz.prog R (Instr.loadAt 42 v26) w (fun v27 w =>
  uv Tryz.prog R (Instr.alloc 42 true (.tuple #[])) w (fun v5 w =>
  uu Tryz.prog R (Instr.storeAt 42 v5 v27) w (fun w =>
  K v0 v3 v4 v5 (.int .i64 0) w))))))))
theorem F38_s9_st (R : RT) (K : V5) (X : KX) (f : Fr) (w : World) (h : F38_s9_t R K (f 0) (f 3) (f 4) w) : F38_W R (.seq F38_p43 F38_p44) (a5 K 0 3 4 5 6) X f w := Eq.mp (by kernel_rfl) h
def F38_s9 (R : RT) (rec4 : V2) (v0 v3 v4 : Value) (w : World) : Prop :=
  F38_s9_t R (F38_s19 R rec4) v0 v3 v4 w
noncomputable def F38_s9_c : Code := (.seq (.seq F38_p43 F38_p44) F38_s10_c)
theorem F38_s9_ok (R : RT) (rec4 : V2) : OkW (F38_W R) (a3 (F38_s9 R rec4) 0 3 4) F38_s9_c (a3 (F38_s8 R rec4) 0 3 4) (kxB 1 (a3 (F38_s8 R rec4) 0 3 4) (kxB 0 (a1 (F38_s3 R) 3) noX)) :=
  fun f w h => cut (.seq F38_p43 F38_p44) F38_s10_c (K := (a5 (F38_s19 R rec4) 0 3 4 5 6)) (F38_s10_ok R rec4) f w (F38_s9_st R (F38_s19 R rec4) _ f w h)
noncomputable def F38_s7_c : Code := (.seq F38_p10 F38_s8_c)
theorem F38_s7_e (R : RT) (K : KF) (X : KX) (f : Fr) (w : World) (h : F38_W R F38_s9_c K (kxB 1 K X) f w) : F38_W R F38_p10 K X f w := Eq.mp (by kernel_rfl) h
theorem F38_s7_ok (R : RT) (rec4 : V2) : OkW (F38_W R) (a3 (F38_s9 R rec4) 0 3 4) F38_s7_c (a2 rec4 3 4) (kxB 0 (a1 (F38_s3 R) 3) noX) :=
  fun f w h => cut F38_p10 F38_s8_c (K := (a3 (F38_s8 R rec4) 0 3 4)) (F38_s8_ok R rec4) f w (F38_s7_e R _ _ f w ((F38_s9_ok R rec4) f w h))
def F38_s6 (R : RT) (rec4 : V2) (v0 v3 v4 v17 : Value) (w : World) : Prop :=
  Bc v17
    (F38_s9 R rec4 v0 v3 v4 w)
    (F38_s3 R v3 w)
noncomputable def F38_s6_c : Code := (.seq F38_p46 F38_s7_c)
theorem F38_s6_e (R : RT) (K : KF) (X : KX) (f : Fr) (w : World) (h : Bc (f 17) (F38_W R .skip K X f w) (F38_W R (.exit 0) K X f w)) : (F38_W R F38_p46 K X f w) := Eq.mp (by kernel_rfl) h
theorem F38_s6_ok (R : RT) (rec4 : V2) : OkW (F38_W R) (a4 (F38_s6 R rec4) 0 3 4 17) F38_s6_c (a2 rec4 3 4) (kxB 0 (a1 (F38_s3 R) 3) noX) :=
  fun f w h => cut F38_p46 F38_s7_c (K := (a3 (F38_s9 R rec4) 0 3 4)) (F38_s7_ok R rec4) f w (F38_s6_e R _ _ f w (Bc_imp (x' := (F38_W R .skip (a3 (F38_s9 R rec4) 0 3 4) (kxB 0 (a1 (F38_s3 R) 3) noX) f w)) (y' := (F38_W R (.exit 0) (a3 (F38_s9 R rec4) 0 3 4) (kxB 0 (a1 (F38_s3 R) 3) noX) f w)) ((fun f w h => skip_ok h) f w) ((fun f w h => exit_hit h) f w) h))
def F38_s5_t (R : RT) (K : V4) (v0 v3 v4 : Value) (w : World) : Prop :=
  un Tryz.prog R (nilS v0) w (fun v13 w =>
  uv Tryz.prog R (Instr.fieldAt 30 v13 1) w (fun v14 w =>
  uv Tryz.prog R (Instr.loadAt 28 v14) w (fun v15 w =>
  un Tryz.prog R (builtin .len #[28] 3 #[false] #[v15]) w (fun v16 w =>
  uv Tryz.prog R (binS .lss 3 (.tmp 11) (.tmp 16) v4 v16) w (fun v17 w =>
  K v0 v3 v4 v17 w)))))
theorem F38_s5_st (R : RT) (K : V4) (X : KX) (f : Fr) (w : World) (h : F38_s5_t R K (f 0) (f 3) (f 4) w) : F38_W R F38_p47 (a4 K 0 3 4 17) X f w := Eq.mp (by kernel_rfl) h
def F38_s5 (R : RT) (rec4 : V2) (v0 v3 v4 : Value) (w : World) : Prop :=
  F38_s5_t R (F38_s6 R rec4) v0 v3 v4 w
noncomputable def F38_s5_c : Code := (.seq F38_p47 F38_s6_c)
theorem F38_s5_ok (R : RT) (rec4 : V2) : OkW (F38_W R) (a3 (F38_s5 R rec4) 0 3 4) F38_s5_c (a2 rec4 3 4) (kxB 0 (a1 (F38_s3 R) 3) noX) :=
  fun f w h => cut F38_p47 F38_s6_c (K := (a4 (F38_s6 R rec4) 0 3 4 17)) (F38_s6_ok R rec4) f w (F38_s5_st R (F38_s6 R rec4) _ f w h)
def F38_s4 (R : RT) (v0 v3 v4 : Value) (w : World) : Prop :=
  Lp2 (fun rec4 v3 v4 w => F38_s5 R rec4 v0 v3 v4 w) v3 v4 w
theorem F38_s4_e (R : RT) (K : KF) (X : KX) (f : Fr) (w : World) (h : F38_W R (.loop F38_p7) K X f w) : F38_W R F38_p6 K X f w := Eq.mp (by kernel_rfl) h
theorem F38_s4b_e (R : RT) (K : KF) (X : KX) (f : Fr) (w : World) (h : F38_W R F38_s5_c K X f w) : F38_W R F38_p7 K X f w := Eq.mp (by kernel_rfl) h
theorem F38_s4_ok (R : RT) : OkW (F38_W R) (a3 (F38_s4 R) 0 3 4) F38_p6 (a1 (F38_s3 R) 3) (kxB 0 (a1 (F38_s3 R) 3) noX) :=
  fun f w h => F38_s4_e R _ _ f w (loop2_ok (P := Tryz.prog) (dc := F38_dc) (kr := (F38_k R)) (pan := panK R) F38_p7 (kn := (a1 (F38_s3 R) 3)) (kx := (kxB 0 (a1 (F38_s3 R) 3) noX)) (s0 := 3) (s1 := 4) (fun rec4 v3 v4 w => F38_s5 R rec4 (f 0) v3 v4 w) f (fun rec4 f' w' hf h' => F38_s4b_e R _ _ f' w' ((F38_s5_ok R rec4) f' w' (by simp only [a3, hf 0 (by kernel_rfl)]; exact h'))) w h)
noncomputable def F38_s2_c : Code := (.seq F38_p5 F38_s3_c)
theorem F38_s2_e (R : RT) (K : KF) (X : KX) (f : Fr) (w : World) (h : F38_W R F38_p6 K (kxB 0 K X) f w) : F38_W R F38_p5 K X f w := Eq.mp (by kernel_rfl) h
theorem F38_s2_ok (R : RT) : OkW (F38_W R) (a3 (F38_s4 R) 0 3 4) F38_s2_c (F38_k R) noX :=
  fun f w h => cut F38_p5 F38_s3_c (K := (a1 (F38_s3 R) 3)) (F38_s3_ok R) f w (F38_s2_e R _ _ f w ((F38_s4_ok R) f w h))
def F38_s1_t (R : RT) (K : V3) (v0 : Value) (w : World) : Prop :=
  uv Tryz.prog R (Instr.buildSlice 39 0 #[]) w (fun v10 w =>
  K v0 v10 (.int .i64 0) w)
theorem F38_s1_st (R : RT) (K : V3) (X : KX) (f : Fr) (w : World) (h : F38_s1_t R K (f 0) w) : F38_W R (.seq F38_p48 (.seq F38_p49 F38_p50)) (a3 K 0 3 4) X f w := Eq.mp (by kernel_rfl) h
def F38_s1 (R : RT) (v0 : Value) (w : World) : Prop :=
  F38_s1_t R (F38_s4 R) v0 w
noncomputable def F38_s1_c : Code := (.seq (.seq F38_p48 (.seq F38_p49 F38_p50)) F38_s2_c)
theorem F38_s1_ok (R : RT) : OkW (F38_W R) (a1 (F38_s1 R) 0) F38_s1_c (F38_k R) noX :=
  fun f w h => cut (.seq F38_p48 (.seq F38_p49 F38_p50)) F38_s2_c (K := (a3 (F38_s4 R) 0 3 4)) (F38_s2_ok R) f w (F38_s1_st R (F38_s4 R) _ f w h)
theorem F38_all_e (R : RT) (K : KF) (X : KX) (f : Fr) (w : World) (h : F38_W R F38_s1_c K X f w) : F38_W R F38_b K X f w := Eq.mp (by kernel_rfl) h
theorem F38_calls (R : RT) (v0 : Value) (w : World) (h : F38_s1 R v0 w) : Calls Tryz.prog 38 #[v0] w R :=
  calls_of_wpE (dc := F38_dc) (args := [v0]) hmixed Tryz.func38 (c := F38_b) rfl (rs := [.tmp 2]) rfl (by kernel_rfl) (Nat.le_of_ble_eq_true (by kernel_rfl)) (F38_all_e R _ _ _ w ((F38_s1_ok R) (initFr [v0]) w h))

/-! ### hasp/haspref10.edge -/
noncomputable def F58_b : Code := bodyOf Tryz.f58
def F58_dc : Nat → List (Nat × Bool)
  | _ => []
abbrev F58_k (R : RT) := resK Tryz.prog [.tmp 4] R
abbrev F58_W (R : RT) := wpE Tryz.prog F58_dc (F58_k R) (panK R)
noncomputable def F58_p0 := cR F58_b
noncomputable def F58_p1 := cR F58_p0
noncomputable def F58_p2 := cR F58_p1
noncomputable def F58_p3 := cR F58_p2
noncomputable def F58_p4 := cR F58_p3
noncomputable def F58_p5 := cL F58_p4
noncomputable def F58_p6 := cL F58_p3
noncomputable def F58_p7 := cR F58_p6
noncomputable def F58_p8 := cT F58_p7
noncomputable def F58_p9 := cL F58_p6
noncomputable def F58_p10 := cL F58_p2
noncomputable def F58_p11 := cR F58_p10
noncomputable def F58_p12 := cI F58_p11
noncomputable def F58_p13 := cI F58_p12
noncomputable def F58_p14 := cR F58_p13
noncomputable def F58_p15 := cR F58_p14
noncomputable def F58_p16 := cL F58_p14
noncomputable def F58_p17 := cI F58_p16
noncomputable def F58_p18 := cR F58_p17
noncomputable def F58_p19 := cR F58_p18
noncomputable def F58_p20 := cR F58_p19
noncomputable def F58_p21 := cL F58_p19
noncomputable def F58_p22 := cR F58_p21
noncomputable def F58_p23 := cT F58_p22
noncomputable def F58_p24 := cL F58_p23
noncomputable def F58_p25 := cR F58_p23
noncomputable def F58_p26 := cL F58_p21
noncomputable def F58_p27 := cL F58_p18
noncomputable def F58_p28 := cR F58_p27
noncomputable def F58_p29 := cT F58_p28
noncomputable def F58_p30 := cL F58_p29
noncomputable def F58_p31 := cL F58_p17
noncomputable def F58_p32 := cL F58_p27
noncomputable def F58_p33 := cL F58_p13
noncomputable def F58_p34 := cR F58_p33
noncomputable def F58_p35 := cL F58_p33
noncomputable def F58_p36 := cL F58_b
noncomputable def F58_p37 := cL F58_p0
noncomputable def F58_p38 := cL F58_p1
noncomputable def F58_p39 := cL F58_p10
def F58_s5_t (R : RT) (v5 : Value) (w : World) : Prop :=
  R (.returned v5) w
theorem F58_s5_st (R : RT) (X : KX) (f : Fr) (w : World) (h : F58_s5_t R (f 5) w) : F58_W R F58_p5 (F58_k R) X f w := Eq.mp (by kernel_rfl) h
def F58_s5 (R : RT) (v5 : Value) (w : World) : Prop :=
  F58_s5_t R v5 w
noncomputable def F58_s5_c : Code := (.seq F58_p5 .ret)
theorem F58_s5_ok (R : RT) : OkW (F58_W R) (a1 (F58_s5 R) 5) F58_s5_c (F58_k R) noX :=
  fun f w h => cut F58_p5 .ret (K := (F58_k R)) (fun f w h => ret_ok h) f w (F58_s5_st R _ f w h)
def F58_s6_t (R : RT) (K : V1) (v3 v5 : Value) (w : World) : Prop :=
  uv Tryz.prog R (Instr.loadAt 83 v3) w (fun v58 w =>
  uv Tryz.prog R (Instr.buildSlice 39 1 #[(0, v58)]) w (fun v59 w =>
  un Tryz.prog R (builtin .append #[39, 39] 39 #[false, false] #[v5, v59]) w (fun v60 w =>
  K v60 w)))
theorem F58_s6_st (R : RT) (K : V1) (X : KX) (f : Fr) (w : World) (h : F58_s6_t R K (f 3) (f 5) w) : F58_W R F58_p8 (a1 K 5) X f w := Eq.mp (by kernel_rfl) h
def F58_s6 (R : RT) (v3 v5 : Value) (w : World) : Prop :=
  F58_s6_t R (F58_s5 R) v3 v5 w
noncomputable def F58_s6_c : Code := (.seq F58_p8 .skip)
theorem F58_s6_ok (R : RT) : OkW (F58_W R) (a2 (F58_s6 R) 3 5) F58_s6_c (a1 (F58_s5 R) 5) noX :=
  fun f w h => cut F58_p8 .skip (K := (a1 (F58_s5 R) 5)) (fun f w h => skip_ok h) f w (F58_s6_st R (F58_s5 R) _ f w h)
def F58_s4 (R : RT) (v3 v5 v56 : Value) (w : World) : Prop :=
  Bc v56
    (F58_s6 R v3 v5 w)
    (F58_s5 R v5 w)
noncomputable def F58_s4_c : Code := (.seq F58_p7 F58_s5_c)
theorem F58_s4_e (R : RT) (K : KF) (X : KX) (f : Fr) (w : World) (h : Bc (f 56) (F58_W R F58_s6_c K X f w) (F58_W R .skip K X f w)) : (F58_W R F58_p7 K X f w) := Eq.mp (by kernel_rfl) h
theorem F58_s4_ok (R : RT) : OkW (F58_W R) (a3 (F58_s4 R) 3 5 56) F58_s4_c (F58_k R) noX :=
  fun f w h => cut F58_p7 F58_s5_c (K := (a1 (F58_s5 R) 5)) (F58_s5_ok R) f w (F58_s4_e R _ _ f w (Bc_imp (x' := (F58_W R F58_s6_c (a1 (F58_s5 R) 5) noX f w)) (y' := (F58_W R .skip (a1 (F58_s5 R) 5) noX f w)) ((F58_s6_ok R) f w) ((fun f w h => skip_ok h) f w) h))
def F58_s3_t (R : RT) (K : V3) (v3 v5 v6 : Value) (w : World) : Prop :=
  uv Tryz.prog R (Op.unary .not v6) w (fun v56 w =>
  K v3 v5 v56 w)
theorem F58_s3_st (R : RT) (K : V3) (X : KX) (f : Fr) (w : World) (h : F58_s3_t R K (f 3) (f 5) (f 6) w) : F58_W R F58_p9 (a3 K 3 5 56) X f w := Eq.mp (by kernel_rfl) h
def F58_s3 (R : RT) (v3 v5 v6 : Value) (w : World) : Prop :=
  F58_s3_t R (F58_s4 R) v3 v5 v6 w
noncomputable def F58_s3_c : Code := (.seq F58_p9 F58_s4_c)
theorem F58_s3_ok (R : RT) : OkW (F58_W R) (a3 (F58_s3 R) 3 5 6) F58_s3_c (F58_k R) noX :=
  fun f w h => cut F58_p9 F58_s4_c (K := (a3 (F58_s4 R) 3 5 56)) (F58_s4_ok R) f w (F58_s3_st R (F58_s4 R) _ f w h)
def F58_s11_t (R : RT) (K : V3) (v0 v3 v5 v6 v7 : Value) (w : World) : Prop :=
  uv Tryz.prog R (binS .add 3 (.tmp 14) (.const (.int .i64 1)) v7 (.int .i64 1)) w (fun v15 w =>
  K v5 v6 v15 w)
theorem F58_s11_st (R : RT) (K : V3) (X : KX) (f : Fr) (w : World) (h : F58_s11_t R K (f 0) (f 3) (f 5) (f 6) (f 7) w) : F58_W R F58_p15 (a3 K 5 6 7) X f w := Eq.mp (by kernel_rfl) h
def F58_s11 (R : RT) (rec7 : V3) (v0 v3 v5 v6 v7 : Value) (w : World) : Prop :=
  F58_s11_t R rec7 v0 v3 v5 v6 v7 w
noncomputable def F58_s11_c : Code := (.seq F58_p15 .skip)
theorem F58_s11_ok (R : RT) (rec7 : V3) : OkW (F58_W R) (a5 (F58_s11 R rec7) 0 3 5 6 7) F58_s11_c (a3 rec7 5 6 7) (kxB 0 (a3 (F58_s3 R) 3 5 6) noX) :=
  fun f w h => cut F58_p15 .skip (K := (a3 rec7 5 6 7)) (fun f w h => skip_ok h) f w (F58_s11_st R rec7 _ f w h)
def F58_s16_t (R : RT) (K : V5) (v0 v3 v5 v6 v7 v8 : Value) (w : World) : Prop :=
  uv Tryz.prog R (Instr.loadAt 83 v8) w (fun v52 w =>
  uv Tryz.prog R (Instr.buildSlice 39 1 #[(0, v52)]) w (fun v53 w =>
  un Tryz.prog R (builtin .append #[39, 39] 39 #[false, false] #[v5, v53]) w (fun v54 w =>
  K v0 v3 v54 v6 v7 w)))
theorem F58_s16_st (R : RT) (K : V5) (X : KX) (f : Fr) (w : World) (h : F58_s16_t R K (f 0) (f 3) (f 5) (f 6) (f 7) (f 8) w) : F58_W R F58_p20 (a5 K 0 3 5 6 7) X f w := Eq.mp (by kernel_rfl) h
def F58_s16 (R : RT) (rec7 : V3) (v0 v3 v5 v6 v7 v8 : Value) (w : World) : Prop :=
  F58_s16_t R (F58_s11 R rec7) v0 v3 v5 v6 v7 v8 w
noncomputable def F58_s16_c : Code := (.seq F58_p20 .skip)
theorem F58_s16_ok (R : RT) (rec7 : V3) : OkW (F58_W R) (a6 (F58_s16 R rec7) 0 3 5 6 7 8) F58_s16_c (a5 (F58_s11 R rec7) 0 3 5 6 7) (kxB 1 (a5 (F58_s11 R rec7) 0 3 5 6 7) (kxB 0 (a3 (F58_s3 R) 3 5 6) noX)) :=
  fun f w h => cut F58_p20 .skip (K := (a5 (F58_s11 R rec7) 0 3 5 6 7)) (fun f w h => skip_ok h) f w (F58_s16_st R (F58_s11 R rec7) _ f w h)
def F58_s17_t (R : RT) (K : V6) (v0 v3 v5 v7 v8 : Value) (w : World) : Prop :=
  uv Tryz.prog R (Instr.loadAt 83 v3) w (fun v48 w =>
  uv Tryz.prog R (Instr.buildSlice 39 1 #[(0, v48)]) w (fun v49 w =>
  un Tryz.prog R (builtin .append #[39, 39] 39 #[false, false] #[v5, v49]) w (fun v50 w =>
  K v0 v3 v50 (.bool true) v7 v8 w)))
theorem F58_s17_st (R : RT) (K : V6) (X : KX) (f : Fr) (w : World) (h : F58_s17_t R K (f 0) (f 3) (f 5) (f 7) (f 8) w) : F58_W R (.seq F58_p24 F58_p25) (a6 K 0 3 5 6 7 8) X f w := Eq.mp (by kernel_rfl) h
def F58_s17 (R : RT) (rec7 : V3) (v0 v3 v5 v7 v8 : Value) (w : World) : Prop :=
  F58_s17_t R (F58_s16 R rec7) v0 v3 v5 v7 v8 w
noncomputable def F58_s17_c : Code := (.seq (.seq F58_p24 F58_p25) .skip)
theorem F58_s17_ok (R : RT) (rec7 : V3) : OkW (F58_W R) (a5 (F58_s17 R rec7) 0 3 5 7 8) F58_s17_c (a6 (F58_s16 R rec7) 0 3 5 6 7 8) (kxB 1 (a5 (F58_s11 R rec7) 0 3 5 6 7) (kxB 0 (a3 (F58_s3 R) 3 5 6) noX)) :=
  fun f w h => cut (.seq F58_p24 F58_p25) .skip (K := (a6 (F58_s16 R rec7) 0 3 5 6 7 8)) (fun f w h => skip_ok h) f w (F58_s17_st R (F58_s16 R rec7) _ f w h)
def F58_s15 (R : RT) (rec7 : V3) (v0 v3 v5 v6 v7 v8 v46 : Value) (w : World) : Prop :=
  Bc v46
    (F58_s17 R rec7 v0 v3 v5 v7 v8 w)
    (F58_s16 R rec7 v0 v3 v5 v6 v7 v8 w)
noncomputable def F58_s15_c : Code := (.seq F58_p22 F58_s16_c)
theorem F58_s15_e (R : RT) (K : KF) (X : KX) (f : Fr) (w : World) (h : Bc (f 46) (F58_W R F58_s17_c K X f w) (F58_W R .skip K X f w)) : (F58_W R F58_p22 K X f w) := Eq.mp (by kernel_rfl) h
theorem F58_s15_ok (R : RT) (rec7 : V3) : OkW (F58_W R) (a7 (F58_s15 R rec7) 0 3 5 6 7 8 46) F58_s15_c (a5 (F58_s11 R rec7) 0 3 5 6 7) (kxB 1 (a5 (F58_s11 R rec7) 0 3 5 6 7) (kxB 0 (a3 (F58_s3 R) 3 5 6) noX)) :=
  fun f w h => cut F58_p22 F58_s16_c (K := (a6 (F58_s16 R rec7) 0 3 5 6 7 8)) (F58_s16_ok R rec7) f w (F58_s15_e R _ _ f w (Bc_imp (x' := (F58_W R F58_s17_c (a6 (F58_s16 R rec7) 0 3 5 6 7 8) (kxB 1 (a5 (F58_s11 R rec7) 0 3 5 6 7) (kxB 0 (a3 (F58_s3 R) 3 5 6) noX)) f w)) (y' := (F58_W R .skip (a6 (F58_s16 R rec7) 0 3 5 6 7 8) (kxB 1 (a5 (F58_s11 R rec7) 0 3 5 6 7) (kxB 0 (a3 (F58_s3 R) 3 5 6) noX)) f w)) ((F58_s17_ok R rec7) f w) ((fun f w h => skip_ok h) f w) h))
def F58_s14_t (R : RT) (K : V7) (v0 v3 v5 v6 v7 v8 : Value) (w : World) : Prop :=
  uv Tryz.prog R (Op.unary .not v6) w (fun v25 w =>
  Gk v25 true (fun k => uv Tryz.prog R (Instr.fieldAt 83 v3 0) w k) w (fun v27 w =>
  Gk v25 true (fun k => uv Tryz.prog R (Instr.loadAt 3 v27) w k) w (fun v28 w =>
  Gk v25 true (fun k => uv Tryz.prog R (Instr.fieldAt 83 v8 0) w k) w (fun v29 w =>
  Gk v25 true (fun k => uv Tryz.prog R (Instr.loadAt 3 v29) w k) w (fun v30 w =>
  Gk v25 true (fun k => uv Tryz.prog R (binS .lss 3 (.tmp 28) (.tmp 30) v28 v30) w k) w (fun v31 w =>
  Gk v25 true (fun k => k v31 w) w (fun v32 w =>
  Gk v32 false (fun k => uv Tryz.prog R (Instr.fieldAt 83 v3 0) w k) w (fun v33 w =>
  Gk v32 false (fun k => uv Tryz.prog R (Instr.loadAt 3 v33) w k) w (fun v34 w =>
  Gk v32 false (fun k => uv Tryz.prog R (Instr.fieldAt 83 v8 0) w k) w (fun v35 w =>
  Gk v32 false (fun k => uv Tryz.prog R (Instr.loadAt 3 v35) w k) w (fun v36 w =>
  Gk v32 false (fun k => uv Tryz.prog R (binS .eql 3 (.tmp 34) (.tmp 36) v34 v36) w k) w (fun v37 w =>
  Gk v32 false (fun k => k v37 w) w (fun v38 w =>
  Gk v38 true (fun k => uv Tryz.prog R (Instr.fieldAt 83 v3 1) w k) w (fun v39 w =>
  Gk v38 true (fun k => uv Tryz.prog R (Instr.loadAt 3 v39) w k) w (fun v40 w =>
  Gk v38 true (fun k => uv Tryz.prog R (Instr.fieldAt 83 v8 1) w k) w (fun v41 w =>
  Gk v38 true (fun k => uv Tryz.prog R (Instr.loadAt 3 v41) w k) w (fun v42 w =>
  Gk v38 true (fun k => uv Tryz.prog R (binS .lss 3 (.tmp 40) (.tmp 42) v40 v42) w k) w (fun v43 w =>
  Gk v32 false (fun k => uv Tryz.prog R (pickS v38 v43 (.bool false)) w k) w (fun v44 w =>
  Gk v25 true (fun k => uv Tryz.prog R (pickS v32 (.bool true) v44) w k) w (fun v45 w =>
  uv Tryz.prog R (pickS v25 v45 (.bool false)) w (fun v46 w =>
  K v0 v3 v5 v6 v7 v8 v46 w)))))))))))))))))))))
theorem F58_s14_st (R : RT) (K : V7) (X : KX) (f : Fr) (w : World) (h : F58_s14_t R K (f 0) (f 3) (f 5) (f 6) (f 7) (f 8) w) : F58_W R F58_p26 (a7 K 0 3 5 6 7 8 46) X f w := Eq.mp (by kernel_rfl) h
def F58_s14 (R : RT) (rec7 : V3) (v0 v3 v5 v6 v7 v8 : Value) (w : World) : Prop :=
  F58_s14_t R (F58_s15 R rec7) v0 v3 v5 v6 v7 v8 w
noncomputable def F58_s14_c : Code := (.seq F58_p26 F58_s15_c)
theorem F58_s14_ok (R : RT) (rec7 : V3) : OkW (F58_W R) (a6 (F58_s14 R rec7) 0 3 5 6 7 8) F58_s14_c (a5 (F58_s11 R rec7) 0 3 5 6 7) (kxB 1 (a5 (F58_s11 R rec7) 0 3 5 6 7) (kxB 0 (a3 (F58_s3 R) 3 5 6) noX)) :=
  fun f w h => cut F58_p26 F58_s15_c (K := (a7 (F58_s15 R rec7) 0 3 5 6 7 8 46)) (F58_s15_ok R rec7) f w (F58_s14_st R (F58_s15 R rec7) _ f w h)
def F58_s18_t (R : RT) (v0 : Value) (w : World) : Prop :=
  R (.returned v0) w
theorem F58_s18_st (R : RT) (X : KX) (f : Fr) (w : World) (h : F58_s18_t R (f 0) w) : F58_W R F58_p30 (F58_k R) X f w := Eq.mp (by kernel_rfl) h
def F58_s18 (R : RT) (rec7 : V3) (v0 : Value) (w : World) : Prop :=
  F58_s18_t R v0 w
noncomputable def F58_s18_c : Code := (.seq F58_p30 .ret)
theorem F58_s18_ok (R : RT) (rec7 : V3) : OkW (F58_W R) (a1 (F58_s18 R rec7) 0) F58_s18_c (a6 (F58_s14 R rec7) 0 3 5 6 7 8) (kxB 1 (a5 (F58_s11 R rec7) 0 3 5 6 7) (kxB 0 (a3 (F58_s3 R) 3 5 6) noX)) :=
  fun f w h => cut F58_p30 .ret (K := (F58_k R)) (fun f w h => ret_ok h) f w (F58_s18_st R _ f w h)
def F58_s13 (R : RT) (rec7 : V3) (v0 v3 v5 v6 v7 v8 v22 : Value) (w : World) : Prop :=
  Bc v22
    (F58_s18 R rec7 v0 w)
    (F58_s14 R rec7 v0 v3 v5 v6 v7 v8 w)
noncomputable def F58_s13_c : Code := (.seq F58_p28 F58_s14_c)
theorem F58_s13_e (R : RT) (K : KF) (X : KX) (f : Fr) (w : World) (h : Bc (f 22) (F58_W R F58_s18_c K X f w) (F58_W R .skip K X f w)) : (F58_W R F58_p28 K X f w) := Eq.mp (by kernel_rfl) h
theorem F58_s13_ok (R : RT) (rec7 : V3) : OkW (F58_W R) (a7 (F58_s13 R rec7) 0 3 5 6 7 8 22) F58_s13_c (a5 (F58_s11 R rec7) 0 3 5 6 7) (kxB 1 (a5 (F58_s11 R rec7) 0 3 5 6 7) (kxB 0 (a3 (F58_s3 R) 3 5 6) noX)) :=
  fun f w h => cut F58_p28 F58_s14_c (K := (a6 (F58_s14 R rec7) 0 3 5 6 7 8)) (F58_s14_ok R rec7) f w (F58_s13_e R _ _ f w (Bc_imp (x' := (F58_W R F58_s18_c (a6 (F58_s14 R rec7) 0 3 5 6 7 8) (kxB 1 (a5 (F58_s11 R rec7) 0 3 5 6 7) (kxB 0 (a3 (F58_s3 R) 3 5 6) noX)) f w)) (y' := (F58_W R .skip (a6 (F58_s14 R rec7) 0 3 5 6 7 8) (kxB 1 (a5 (F58_s11 R rec7) 0 3 5 6 7) (kxB 0 (a3 (F58_s3 R) 3 5 6) noX)) f w)) ((F58_s18_ok R rec7) f w) ((fun f w h => skip_ok h) f w) h))
def F58_s12_t (R : RT) (K : V7) (v0 v3 v5 v6 v7 : Value) (w : World) : Prop :=
  uv Tryz.prog R (Instr.indexAt 39 v0 v7) w (fun v18 w =>
  uv Tryz.prog R (Instr.loadAt 83 v18) w (fun v19 w =>
  uv Tryz.prog R (Instr.alloc 83 true (.tuple #[])) w (fun v8 w =>
  uu Tryz.prog R (Instr.storeAt 83 v8 v19) w (fun w =>
  uv Tryz.prog R (Instr.loadAt 83 v8) w (fun v20 w =>
  uv Tryz.prog R (Instr.loadAt 83 v3) w (fun v21 w =>
  uv Tryz.prog R (binS .eql 83 (.tmp 20) (.tmp 21) v20 v21) w (fun v22 w =>
  K v0 v3 v5 v6 v7 v8 v22 w)))))))
theorem F58_s12_st (R : RT) (K : V7) (X : KX) (f : Fr) (w : World) (h : F58_s12_t R K (f 0) (f 3) (f 5) (f 6) (f 7) w) : F58_W R (.seq F58_p31 F58_p32) (a7 K 0 3 5 6 7 8 22) X f w := Eq.mp (by kernel_rfl) h
def F58_s12 (R : RT) (rec7 : V3) (v0 v3 v5 v6 v7 : Value) (w : World) : Prop :=
  F58_s12_t R (F58_s13 R rec7) v0 v3 v5 v6 v7 w
noncomputable def F58_s12_c : Code := (.seq (.seq F58_p31 F58_p32) F58_s13_c)
theorem F58_s12_ok (R : RT) (rec7 : V3) : OkW (F58_W R) (a5 (F58_s12 R rec7) 0 3 5 6 7) F58_s12_c (a5 (F58_s11 R rec7) 0 3 5 6 7) (kxB 1 (a5 (F58_s11 R rec7) 0 3 5 6 7) (kxB 0 (a3 (F58_s3 R) 3 5 6) noX)) :=
  fun f w h => cut (.seq F58_p31 F58_p32) F58_s13_c (K := (a7 (F58_s13 R rec7) 0 3 5 6 7 8 22)) (F58_s13_ok R rec7) f w (F58_s12_st R (F58_s13 R rec7) _ f w h)
noncomputable def F58_s10_c : Code := (.seq F58_p16 F58_s11_c)
theorem F58_s10_e (R : RT) (K : KF) (X : KX) (f : Fr) (w : World) (h : F58_W R F58_s12_c K (kxB 1 K X) f w) : F58_W R F58_p16 K X f w := Eq.mp (by kernel_rfl) h
theorem F58_s10_ok (R : RT) (rec7 : V3) : OkW (F58_W R) (a5 (F58_s12 R rec7) 0 3 5 6 7) F58_s10_c (a3 rec7 5 6 7) (kxB 0 (a3 (F58_s3 R) 3 5 6) noX) :=
  fun f w h => cut F58_p16 F58_s11_c (K := (a5 (F58_s11 R rec7) 0 3 5 6 7)) (F58_s11_ok R rec7) f w (F58_s10_e R _ _ f w ((F58_s12_ok R rec7) f w h))
def F58_s9 (R : RT) (rec7 : V3) (v0 v3 v5 v6 v7 v13 : Value) (w : World) : Prop :=
  Bc v13
    (F58_s12 R rec7 v0 v3 v5 v6 v7 w)
    (F58_s3 R v3 v5 v6 w)
noncomputable def F58_s9_c : Code := (.seq F58_p34 F58_s10_c)
theorem F58_s9_e (R : RT) (K : KF) (X : KX) (f : Fr) (w : World) (h : Bc (f 13) (F58_W R .skip K X f w) (F58_W R (.exit 0) K X f w)) : (F58_W R F58_p34 K X f w) := Eq.mp (by kernel_rfl) h
theorem F58_s9_ok (R : RT) (rec7 : V3) : OkW (F58_W R) (a6 (F58_s9 R rec7) 0 3 5 6 7 13) F58_s9_c (a3 rec7 5 6 7) (kxB 0 (a3 (F58_s3 R) 3 5 6) noX) :=
  fun f w h => cut F58_p34 F58_s10_c (K := (a5 (F58_s12 R rec7) 0 3 5 6 7)) (F58_s10_ok R rec7) f w (F58_s9_e R _ _ f w (Bc_imp (x' := (F58_W R .skip (a5 (F58_s12 R rec7) 0 3 5 6 7) (kxB 0 (a3 (F58_s3 R) 3 5 6) noX) f w)) (y' := (F58_W R (.exit 0) (a5 (F58_s12 R rec7) 0 3 5 6 7) (kxB 0 (a3 (F58_s3 R) 3 5 6) noX) f w)) ((fun f w h => skip_ok h) f w) ((fun f w h => exit_hit h) f w) h))
def F58_s8_t (R : RT) (K : V6) (v0 v3 v5 v6 v7 : Value) (w : World) : Prop :=
  un Tryz.prog R (builtin .len #[39] 3 #[false] #[v0]) w (fun v12 w =>
  uv Tryz.prog R (binS .lss 3 (.tmp 10) (.tmp 12) v7 v12) w (fun v13 w =>
  K v0 v3 v5 v6 v7 v13 w))
theorem F58_s8_st (R : RT) (K : V6) (X : KX) (f : Fr) (w : World) (h : F58_s8_t R K (f 0) (f 3) (f 5) (f 6) (f 7) w) : F58_W R F58_p35 (a6 K 0 3 5 6 7 13) X f w := Eq.mp (by kernel_rfl) h
def F58_s8 (R : RT) (rec7 : V3) (v0 v3 v5 v6 v7 : Value) (w : World) : Prop :=
  F58_s8_t R (F58_s9 R rec7) v0 v3 v5 v6 v7 w
noncomputable def F58_s8_c : Code := (.seq F58_p35 F58_s9_c)
theorem F58_s8_ok (R : RT) (rec7 : V3) : OkW (F58_W R) (a5 (F58_s8 R rec7) 0 3 5 6 7) F58_s8_c (a3 rec7 5 6 7) (kxB 0 (a3 (F58_s3 R) 3 5 6) noX) :=
  fun f w h => cut F58_p35 F58_s9_c (K := (a6 (F58_s9 R rec7) 0 3 5 6 7 13)) (F58_s9_ok R rec7) f w (F58_s8_st R (F58_s9 R rec7) _ f w h)
def F58_s7 (R : RT) (v0 v3 v5 v6 v7 : Value) (w : World) : Prop :=
  Lp3 (fun rec7 v5 v6 v7 w => F58_s8 R rec7 v0 v3 v5 v6 v7 w) v5 v6 v7 w
theorem F58_s7_e (R : RT) (K : KF) (X : KX) (f : Fr) (w : World) (h : F58_W R (.loop F58_p13) K X f w) : F58_W R F58_p12 K X f w := Eq.mp (by kernel_rfl) h
theorem F58_s7b_e (R : RT) (K : KF) (X : KX) (f : Fr) (w : World) (h : F58_W R F58_s8_c K X f w) : F58_W R F58_p13 K X f w := Eq.mp (by kernel_rfl) h
theorem F58_s7_ok (R : RT) : OkW (F58_W R) (a5 (F58_s7 R) 0 3 5 6 7) F58_p12 (a3 (F58_s3 R) 3 5 6) (kxB 0 (a3 (F58_s3 R) 3 5 6) noX) :=
  fun f w h => F58_s7_e R _ _ f w (loop3_ok (P := Tryz.prog) (dc := F58_dc) (kr := (F58_k R)) (pan := panK R) F58_p13 (kn := (a3 (F58_s3 R) 3 5 6)) (kx := (kxB 0 (a3 (F58_s3 R) 3 5 6) noX)) (s0 := 5) (s1 := 6) (s2 := 7) (fun rec7 v5 v6 v7 w => F58_s8 R rec7 (f 0) (f 3) v5 v6 v7 w) f (fun rec7 f' w' hf h' => F58_s7b_e R _ _ f' w' ((F58_s8_ok R rec7) f' w' (by simp only [a5, hf 0 (by kernel_rfl), hf 3 (by kernel_rfl)]; exact h'))) w h)
noncomputable def F58_s2_c : Code := (.seq F58_p11 F58_s3_c)
theorem F58_s2_e (R : RT) (K : KF) (X : KX) (f : Fr) (w : World) (h : F58_W R F58_p12 K (kxB 0 K X) f w) : F58_W R F58_p11 K X f w := Eq.mp (by kernel_rfl) h
theorem F58_s2_ok (R : RT) : OkW (F58_W R) (a5 (F58_s7 R) 0 3 5 6 7) F58_s2_c (F58_k R) noX :=
  fun f w h => cut F58_p11 F58_s3_c (K := (a3 (F58_s3 R) 3 5 6)) (F58_s3_ok R) f w (F58_s2_e R _ _ f w ((F58_s7_ok R) f w h))
def F58_s1_t (R : RT) (K : V5) (v0 v1 : Value) (w : World) : Prop :=
  uv Tryz.prog R (Instr.box 83 v1) w (fun v3 w =>
  uv Tryz.prog R (Instr.buildSlice 39 0 #[]) w (fun v9 w =>
  K v0 v3 v9 (.bool false) (.int .i64 0) w))
theorem F58_s1_st (R : RT) (K : V5) (X : KX) (f : Fr) (w : World) (h : F58_s1_t R K (f 0) (f 1) w) : F58_W R (.seq F58_p36 (.seq F58_p37 (.seq F58_p38 F58_p39))) (a5 K 0 3 5 6 7) X f w := Eq.mp (by kernel_rfl) h
def F58_s1 (R : RT) (v0 v1 : Value) (w : World) : Prop :=
  F58_s1_t R (F58_s7 R) v0 v1 w
noncomputable def F58_s1_c : Code := (.seq (.seq F58_p36 (.seq F58_p37 (.seq F58_p38 F58_p39))) F58_s2_c)
theorem F58_s1_ok (R : RT) : OkW (F58_W R) (a2 (F58_s1 R) 0 1) F58_s1_c (F58_k R) noX :=
  fun f w h => cut (.seq F58_p36 (.seq F58_p37 (.seq F58_p38 F58_p39))) F58_s2_c (K := (a5 (F58_s7 R) 0 3 5 6 7)) (F58_s2_ok R) f w (F58_s1_st R (F58_s7 R) _ f w h)
theorem F58_all_e (R : RT) (K : KF) (X : KX) (f : Fr) (w : World) (h : F58_W R F58_s1_c K X f w) : F58_W R F58_b K X f w := Eq.mp (by kernel_rfl) h
theorem F58_calls (R : RT) (v0 v1 : Value) (w : World) (h : F58_s1 R v0 v1 w) : Calls Tryz.prog 58 #[v0, v1] w R :=
  calls_of_wpE (dc := F58_dc) (args := [v0, v1]) hmixed Tryz.func58 (c := F58_b) rfl (rs := [.tmp 4]) rfl (by kernel_rfl) (Nat.le_of_ble_eq_true (by kernel_rfl)) (F58_all_e R _ _ _ w ((F58_s1_ok R) (initFr [v0, v1]) w h))

end Go.Proofs.YtpghlemcgjogpaaGreat
