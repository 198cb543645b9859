import Derived.Test.YtpghlemcgjogpaaGreatProg
import Derived.Test.YtpghlemcgjogpaaGreatSx
import Derived.Test.YtpghlemcgjogpaaGreatT
set_option linter.unusedVariables false
set_option maxRecDepth 100000
set_option maxHeartbeats 400000
namespace Go.Proofs.YtpghlemcgjogpaaGreat
open Go.Sx
/-! ### hasp/hasplaw10.speaks -/
noncomputable def F4_b : Code := bodyOf Tryz.f4
def F4_dc : Nat → List (Nat × Bool)
  | _ => []
abbrev F4_k (R : RT) := resK Tryz.prog [.tmp 0] R
abbrev F4_W (R : RT) := wpE Tryz.prog F4_dc (F4_k R) (panK R)
noncomputable def F4_p0 := cR F4_b
noncomputable def F4_p1 := cR F4_p0
noncomputable def F4_p2 := cR F4_p1
noncomputable def F4_p3 := cL F4_p2
noncomputable def F4_p4 := cR F4_p2
noncomputable def F4_p5 := cL F4_p4
noncomputable def F4_p6 := cR F4_p4
noncomputable def F4_p7 := cL F4_p6
noncomputable def F4_p8 := cR F4_p6
noncomputable def F4_p9 := cL F4_p8
noncomputable def F4_p10 := cL F4_p1
noncomputable def F4_p11 := cR F4_p10
noncomputable def F4_p12 := cT F4_p11
noncomputable def F4_p13 := cL F4_p12
noncomputable def F4_p14 := cL F4_b
noncomputable def F4_p15 := cL F4_p0
noncomputable def F4_p16 := cL F4_p10
def F4_s3_t (R : RT) (v1 : Value) (w : World) : Prop :=
  un Tryz.prog R (callFunc 12 #[v1]) w (fun v30 w =>
  un Tryz.prog R (callFunc 13 #[v1, (.int .i64 2)]) w (fun v33 w =>
  uv Tryz.prog R (Instr.extract v33 0) w (fun v34 w =>
  uv Tryz.prog R (Instr.extract v33 1) w (fun v35 w =>
  uv Tryz.prog R (Instr.alloc 42 true (.tuple #[])) w (fun v3 w =>
  uu Tryz.prog R (Instr.storeAt 42 v3 v34) w (fun w =>
  un Tryz.prog R (callFunc 14 #[v1, (.string { data := #[97] })]) w (fun v37 w =>
  un Tryz.prog R (builtin .len #[39] 3 #[false] #[v30]) w (fun v39 w =>
  uv Tryz.prog R (binS .eql 3 (.tmp 39) (.const (.int .i64 2)) v39 (.int .i64 2)) w (fun v40 w =>
  Gk v40 true (fun k => uv Tryz.prog R (Instr.loadAt 42 v3) w k) w (fun v42 w =>
  Gk v40 true (fun k => uv Tryz.prog R (Instr.build 42 #[(0, (.int .i64 2)), (1, (.string { data := #[97] })), (2, (.int .i64 6))]) w k) w (fun v43 w =>
  Gk v40 true (fun k => uv Tryz.prog R (binS .eql 42 (.tmp 42) (.tmp 43) v42 v43) w k) w (fun v44 w =>
  uv Tryz.prog R (pickS v40 v44 (.bool false)) w (fun v45 w =>
  Gk v45 true (fun k => k v35 w) w (fun v47 w =>
  uv Tryz.prog R (pickS v45 v47 (.bool false)) w (fun v48 w =>
  Gk v48 true (fun k => k v37 w) w (fun v50 w =>
  Gk v48 true (fun k => un Tryz.prog R (builtin .len #[27] 3 #[false] #[v50]) w k) w (fun v51 w =>
  Gk v48 true (fun k => uv Tryz.prog R (binS .eql 3 (.tmp 51) (.const (.int .i64 2)) v51 (.int .i64 2)) w k) w (fun v52 w =>
  uv Tryz.prog R (pickS v48 v52 (.bool false)) w (fun v53 w =>
  Gk v53 true (fun k => k v1 w) w (fun v55 w =>
  Gk v53 true (fun k => un Tryz.prog R (callFunc 9 #[v55, (.int .i64 1)]) w k) w (fun v56 w =>
  Gk v53 true (fun k => uv Tryz.prog R (Instr.buildSlice 35 1 #[(0, (.int .i64 2))]) w k) w (fun v57 w =>
  Gk v53 true (fun k => un Tryz.prog R (callFunc 8 #[v56, v57]) w k) w (fun v58 w =>
  uv Tryz.prog R (pickS v53 v58 (.bool false)) w (fun v59 w =>
  Gk v59 true (fun k => k v1 w) w (fun v61 w =>
  Gk v59 true (fun k => un Tryz.prog R (callFunc 9 #[v61, (.int .i64 2)]) w k) w (fun v62 w =>
  Gk v59 true (fun k => uv Tryz.prog R (Instr.buildSlice 35 1 #[(0, (.int .i64 3))]) w k) w (fun v63 w =>
  Gk v59 true (fun k => un Tryz.prog R (callFunc 8 #[v62, v63]) w k) w (fun v64 w =>
  uv Tryz.prog R (pickS v59 v64 (.bool false)) w (fun v65 w =>
  Gk v65 true (fun k => k v1 w) w (fun v67 w =>
  Gk v65 true (fun k => un Tryz.prog R (callFunc 15 #[v67, (.int .i64 3), (.string { data := #[97] })]) w k) w (fun v68 w =>
  Gk v65 true (fun k => uv Tryz.prog R (binS .eql 3 (.tmp 68) (.const (.int .i64 3)) v68 (.int .i64 3)) w k) w (fun v69 w =>
  uv Tryz.prog R (pickS v65 v69 (.bool false)) w (fun v70 w =>
  Gk v70 true (fun k => k v1 w) w (fun v72 w =>
  Gk v70 true (fun k => un Tryz.prog R (callFunc 16 #[v72]) w k) w (fun v73 w =>
  Gk v70 true (fun k => un Tryz.prog R (builtin .len #[27] 3 #[false] #[v73]) w k) w (fun v74 w =>
  Gk v70 true (fun k => uv Tryz.prog R (binS .eql 3 (.tmp 74) (.const (.int .i64 1)) v74 (.int .i64 1)) w k) w (fun v75 w =>
  uv Tryz.prog R (pickS v70 v75 (.bool false)) w (fun v76 w =>
  R (.returned v76) w))))))))))))))))))))))))))))))))))))))
theorem F4_s3_st (R : RT) (X : KX) (f : Fr) (w : World) (h : F4_s3_t R (f 1) w) : F4_W R (.seq F4_p3 (.seq F4_p5 (.seq F4_p7 F4_p9))) (F4_k R) X f w := Eq.mp (by kernel_rfl) h
def F4_s3 (R : RT) (v1 : Value) (w : World) : Prop :=
  F4_s3_t R v1 w
noncomputable def F4_s3_c : Code := (.seq (.seq F4_p3 (.seq F4_p5 (.seq F4_p7 F4_p9))) .ret)
theorem F4_s3_ok (R : RT) : OkW (F4_W R) (a1 (F4_s3 R) 1) F4_s3_c (F4_k R) noX :=
  fun f w h => cut (.seq F4_p3 (.seq F4_p5 (.seq F4_p7 F4_p9))) .ret (K := (F4_k R)) (fun f w h => ret_ok h) f w (F4_s3_st R _ f w h)
def F4_s4_t (R : RT) (w : World) : Prop :=
  R (.returned (.bool false)) w
theorem F4_s4_st (R : RT) (X : KX) (f : Fr) (w : World) (h : F4_s4_t R w) : F4_W R F4_p13 (F4_k R) X f w := Eq.mp (by kernel_rfl) h
def F4_s4 (R : RT) (w : World) : Prop :=
  F4_s4_t R w
noncomputable def F4_s4_c : Code := (.seq F4_p13 .ret)
theorem F4_s4_ok (R : RT) : OkW (F4_W R) ((fun f w => F4_s4 R w)) F4_s4_c (a1 (F4_s3 R) 1) noX :=
  fun f w h => cut F4_p13 .ret (K := (F4_k R)) (fun f w h => ret_ok h) f w (F4_s4_st R _ f w h)
def F4_s2 (R : RT) (v1 v28 : Value) (w : World) : Prop :=
  Bc v28
    (F4_s4 R w)
    (F4_s3 R v1 w)
noncomputable def F4_s2_c : Code := (.seq F4_p11 F4_s3_c)
theorem F4_s2_e (R : RT) (K : KF) (X : KX) (f : Fr) (w : World) (h : Bc (f 28) (F4_W R F4_s4_c K X f w) (F4_W R .skip K X f w)) : (F4_W R F4_p11 K X f w) := Eq.mp (by kernel_rfl) h
theorem F4_s2_ok (R : RT) : OkW (F4_W R) (a2 (F4_s2 R) 1 28) F4_s2_c (F4_k R) noX :=
  fun f w h => cut F4_p11 F4_s3_c (K := (a1 (F4_s3 R) 1)) (F4_s3_ok R) f w (F4_s2_e R _ _ f w (Bc_imp (x' := (F4_W R F4_s4_c (a1 (F4_s3 R) 1) noX f w)) (y' := (F4_W R .skip (a1 (F4_s3 R) 1) noX f w)) ((F4_s4_ok R) f w) ((fun f w h => skip_ok h) f w) h))
def F4_s1_t (R : RT) (K : V2) (w : World) : Prop :=
  un Tryz.prog R (callFunc 5 #[]) w (fun v6 w =>
  uv Tryz.prog R (binS .eql 24 (.tmp 7) (.const (.pointer none)) v6 (.pointer none)) w (fun v8 w =>
  Gk v8 false (fun k => k v6 w) w (fun v10 w =>
  Gk v8 false (fun k => un Tryz.prog R (callFunc 6 #[v10, (.int .i64 1), (.string { data := #[97] }), (.int .i64 3)]) w k) w (fun v11 w =>
  Gk v8 false (fun k => uv Tryz.prog R (binS .neq 3 (.tmp 11) (.const (.int .i64 1)) v11 (.int .i64 1)) w k) w (fun v12 w =>
  uv Tryz.prog R (pickS v8 (.bool true) v12) w (fun v13 w =>
  Gk v13 false (fun k => k v6 w) w (fun v15 w =>
  Gk v13 false (fun k => un Tryz.prog R (callFunc 6 #[v15, (.int .i64 2), (.string { data := #[97] }), (.int .i64 6)]) w k) w (fun v16 w =>
  Gk v13 false (fun k => uv Tryz.prog R (binS .neq 3 (.tmp 16) (.const (.int .i64 2)) v16 (.int .i64 2)) w k) w (fun v17 w =>
  uv Tryz.prog R (pickS v13 (.bool true) v17) w (fun v18 w =>
  Gk v18 false (fun k => k v6 w) w (fun v20 w =>
  Gk v18 false (fun k => un Tryz.prog R (callFunc 6 #[v20, (.int .i64 3), (.string { data := #[97] }), (.int .i64 3)]) w k) w (fun v21 w =>
  Gk v18 false (fun k => uv Tryz.prog R (binS .neq 3 (.tmp 21) (.const (.int .i64 2)) v21 (.int .i64 2)) w k) w (fun v22 w =>
  uv Tryz.prog R (pickS v18 (.bool true) v22) w (fun v23 w =>
  Gk v23 false (fun k => k v6 w) w (fun v25 w =>
  Gk v23 false (fun k => un Tryz.prog R (callFunc 6 #[v25, (.int .i64 3), (.string { data := #[98] }), (.int .i64 3)]) w k) w (fun v26 w =>
  Gk v23 false (fun k => uv Tryz.prog R (binS .neq 3 (.tmp 26) (.const (.int .i64 0)) v26 (.int .i64 0)) w k) w (fun v27 w =>
  uv Tryz.prog R (pickS v23 (.bool true) v27) w (fun v28 w =>
  K v6 v28 w))))))))))))))))))
theorem F4_s1_st (R : RT) (K : V2) (X : KX) (f : Fr) (w : World) (h : F4_s1_t R K w) : F4_W R (.seq F4_p14 (.seq F4_p15 F4_p16)) (a2 K 1 28) X f w := Eq.mp (by kernel_rfl) h
def F4_s1 (R : RT) (w : World) : Prop :=
  F4_s1_t R (F4_s2 R) w
noncomputable def F4_s1_c : Code := (.seq (.seq F4_p14 (.seq F4_p15 F4_p16)) F4_s2_c)
theorem F4_s1_ok (R : RT) : OkW (F4_W R) ((fun f w => F4_s1 R w)) F4_s1_c (F4_k R) noX :=
  fun f w h => cut (.seq F4_p14 (.seq F4_p15 F4_p16)) F4_s2_c (K := (a2 (F4_s2 R) 1 28)) (F4_s2_ok R) f w (F4_s1_st R (F4_s2 R) _ f w h)
theorem F4_all_e (R : RT) (K : KF) (X : KX) (f : Fr) (w : World) (h : F4_W R F4_s1_c K X f w) : F4_W R F4_b K X f w := Eq.mp (by kernel_rfl) h
theorem F4_calls (R : RT) (w : World) (h : F4_s1 R w) : Calls Tryz.prog 4 #[] w R :=
  calls_of_wpE (dc := F4_dc) (args := []) hmixed Tryz.func4 (c := F4_b) rfl (rs := [.tmp 0]) rfl (by kernel_rfl) (Nat.le_of_ble_eq_true (by kernel_rfl)) (F4_all_e R _ _ _ w ((F4_s1_ok R) (initFr []) w h))

/-! ### hasp/haspref08.SameInts -/
noncomputable def F8_b : Code := bodyOf Tryz.f8
def F8_dc : Nat → List (Nat × Bool)
  | 6 => [(0, true), (1, true), (2, true), (3, true), (4, true), (5, true), (6, true), (7, true), (8, true)]
  | _ => []
abbrev F8_k (R : RT) := resK Tryz.prog [.tmp 4] R
abbrev F8_W (R : RT) := wpE Tryz.prog F8_dc (F8_k R) (panK R)
noncomputable def F8_p0 := cR F8_b
noncomputable def F8_p1 := cR F8_p0
noncomputable def F8_p2 := cR F8_p1
noncomputable def F8_p3 := cL F8_p2
noncomputable def F8_p4 := cL F8_p1
noncomputable def F8_p5 := cR F8_p4
noncomputable def F8_p6 := cI F8_p5
noncomputable def F8_p7 := cI F8_p6
noncomputable def F8_p8 := cR F8_p7
noncomputable def F8_p9 := cR F8_p8
noncomputable def F8_p10 := cL F8_p8
noncomputable def F8_p11 := cI F8_p10
noncomputable def F8_p12 := cR F8_p11
noncomputable def F8_p13 := cT F8_p12
noncomputable def F8_p14 := cL F8_p13
noncomputable def F8_p15 := cL F8_p11
noncomputable def F8_p16 := cL F8_p7
noncomputable def F8_p17 := cR F8_p16
noncomputable def F8_p18 := cL F8_p16
noncomputable def F8_p19 := cL F8_p4
noncomputable def F8_p20 := cL F8_p0
noncomputable def F8_p21 := cR F8_p20
noncomputable def F8_p22 := cT F8_p21
noncomputable def F8_p23 := cL F8_p22
noncomputable def F8_p24 := cL F8_b
noncomputable def F8_p25 := cL F8_p20
def F8_s5_t (R : RT) (w : World) : Prop :=
  R (.returned (.bool true)) w
theorem F8_s5_st (R : RT) (X : KX) (f : Fr) (w : World) (h : F8_s5_t R w) : F8_W R F8_p3 (F8_k R) X f w := Eq.mp (by kernel_rfl) h
def F8_s5 (R : RT) (w : World) : Prop :=
  F8_s5_t R w
noncomputable def F8_s5_c : Code := (.seq F8_p3 .ret)
theorem F8_s5_ok (R : RT) : OkW (F8_W R) ((fun f w => F8_s5 R w)) F8_s5_c (F8_k R) noX :=
  fun f w h => cut F8_p3 .ret (K := (F8_k R)) (fun f w h => ret_ok h) f w (F8_s5_st R _ f w h)
def F8_s10_t (R : RT) (K : V1) (v0 v1 v5 : Value) (w : World) : Prop :=
  uv Tryz.prog R (binS .add 3 (.tmp 15) (.const (.int .i64 1)) v5 (.int .i64 1)) w (fun v16 w =>
  K v16 w)
theorem F8_s10_st (R : RT) (K : V1) (X : KX) (f : Fr) (w : World) (h : F8_s10_t R K (f 0) (f 1) (f 5) w) : F8_W R F8_p9 (a1 K 5) X f w := Eq.mp (by kernel_rfl) h
def F8_s10 (R : RT) (rec6 : V1) (v0 v1 v5 : Value) (w : World) : Prop :=
  F8_s10_t R rec6 v0 v1 v5 w
noncomputable def F8_s10_c : Code := (.seq F8_p9 .skip)
theorem F8_s10_ok (R : RT) (rec6 : V1) : OkW (F8_W R) (a3 (F8_s10 R rec6) 0 1 5) F8_s10_c (a1 rec6 5) (kxB 0 ((fun f w => F8_s5 R w)) noX) :=
  fun f w h => cut F8_p9 .skip (K := (a1 rec6 5)) (fun f w h => skip_ok h) f w (F8_s10_st R rec6 _ f w h)
def F8_s13_t (R : RT) (w : World) : Prop :=
  R (.returned (.bool false)) w
theorem F8_s13_st (R : RT) (X : KX) (f : Fr) (w : World) (h : F8_s13_t R w) : F8_W R F8_p14 (F8_k R) X f w := Eq.mp (by kernel_rfl) h
def F8_s13 (R : RT) (rec6 : V1) (w : World) : Prop :=
  F8_s13_t R w
noncomputable def F8_s13_c : Code := (.seq F8_p14 .ret)
theorem F8_s13_ok (R : RT) (rec6 : V1) : OkW (F8_W R) ((fun f w => F8_s13 R rec6 w)) F8_s13_c (a3 (F8_s10 R rec6) 0 1 5) (kxB 1 (a3 (F8_s10 R rec6) 0 1 5) (kxB 0 ((fun f w => F8_s5 R w)) noX)) :=
  fun f w h => cut F8_p14 .ret (K := (F8_k R)) (fun f w h => ret_ok h) f w (F8_s13_st R _ f w h)
def F8_s12 (R : RT) (rec6 : V1) (v0 v1 v5 v25 : Value) (w : World) : Prop :=
  Bc v25
    (F8_s13 R rec6 w)
    (F8_s10 R rec6 v0 v1 v5 w)
noncomputable def F8_s12_c : Code := (.seq F8_p12 .skip)
theorem F8_s12_e (R : RT) (K : KF) (X : KX) (f : Fr) (w : World) (h : Bc (f 25) (F8_W R F8_s13_c K X f w) (F8_W R .skip K X f w)) : (F8_W R F8_p12 K X f w) := Eq.mp (by kernel_rfl) h
theorem F8_s12_ok (R : RT) (rec6 : V1) : OkW (F8_W R) (a4 (F8_s12 R rec6) 0 1 5 25) F8_s12_c (a3 (F8_s10 R rec6) 0 1 5) (kxB 1 (a3 (F8_s10 R rec6) 0 1 5) (kxB 0 ((fun f w => F8_s5 R w)) noX)) :=
  fun f w h => cut F8_p12 .skip (K := (a3 (F8_s10 R rec6) 0 1 5)) (fun f w h => skip_ok h) f w (F8_s12_e R _ _ f w (Bc_imp (x' := (F8_W R F8_s13_c (a3 (F8_s10 R rec6) 0 1 5) (kxB 1 (a3 (F8_s10 R rec6) 0 1 5) (kxB 0 ((fun f w => F8_s5 R w)) noX)) f w)) (y' := (F8_W R .skip (a3 (F8_s10 R rec6) 0 1 5) (kxB 1 (a3 (F8_s10 R rec6) 0 1 5) (kxB 0 ((fun f w => F8_s5 R w)) noX)) f w)) ((F8_s13_ok R rec6) f w) ((fun f w h => skip_ok h) f w) h))
def F8_s11_t (R : RT) (K : V4) (v0 v1 v5 : Value) (w : World) : Prop :=
  Dr (fun S w =>
  HV Tryz.prog S (Instr.indexAt 35 v0 v5) (fun v19 =>
  HV Tryz.prog S (Instr.loadAt 3 v19) (fun v20 =>
  HV Tryz.prog S (Instr.indexAt 35 v1 v5) (fun v23 =>
  HV Tryz.prog S (Instr.loadAt 3 v23) (fun v24 =>
  HV Tryz.prog S (binS .neq 3 (.tmp 20) (.tmp 24) v20 v24) (fun v25 =>
  K v0 v1 v5 v25 w)))))) w
theorem F8_s11_st (R : RT) (K : V4) (X : KX) (f : Fr) (w : World) (h : F8_s11_t R K (f 0) (f 1) (f 5) w) : F8_W R F8_p15 (a4 K 0 1 5 25) X f w := Eq.mp (by kernel_rfl) h
def F8_s11 (R : RT) (rec6 : V1) (v0 v1 v5 : Value) (w : World) : Prop :=
  F8_s11_t R (F8_s12 R rec6) v0 v1 v5 w
noncomputable def F8_s11_c : Code := (.seq F8_p15 F8_s12_c)
theorem F8_s11_ok (R : RT) (rec6 : V1) : OkW (F8_W R) (a3 (F8_s11 R rec6) 0 1 5) F8_s11_c (a3 (F8_s10 R rec6) 0 1 5) (kxB 1 (a3 (F8_s10 R rec6) 0 1 5) (kxB 0 ((fun f w => F8_s5 R w)) noX)) :=
  fun f w h => cut F8_p15 F8_s12_c (K := (a4 (F8_s12 R rec6) 0 1 5 25)) (F8_s12_ok R rec6) f w (F8_s11_st R (F8_s12 R rec6) _ f w h)
noncomputable def F8_s9_c : Code := (.seq F8_p10 F8_s10_c)
theorem F8_s9_e (R : RT) (K : KF) (X : KX) (f : Fr) (w : World) (h : F8_W R F8_s11_c K (kxB 1 K X) f w) : F8_W R F8_p10 K X f w := Eq.mp (by kernel_rfl) h
theorem F8_s9_ok (R : RT) (rec6 : V1) : OkW (F8_W R) (a3 (F8_s11 R rec6) 0 1 5) F8_s9_c (a1 rec6 5) (kxB 0 ((fun f w => F8_s5 R w)) noX) :=
  fun f w h => cut F8_p10 F8_s10_c (K := (a3 (F8_s10 R rec6) 0 1 5)) (F8_s10_ok R rec6) f w (F8_s9_e R _ _ f w ((F8_s11_ok R rec6) f w h))
def F8_s8 (R : RT) (rec6 : V1) (v0 v1 v5 v14 : Value) (w : World) : Prop :=
  Bc v14
    (F8_s11 R rec6 v0 v1 v5 w)
    (F8_s5 R w)
noncomputable def F8_s8_c : Code := (.seq F8_p17 F8_s9_c)
theorem F8_s8_e (R : RT) (K : KF) (X : KX) (f : Fr) (w : World) (h : Bc (f 14) (F8_W R .skip K X f w) (F8_W R (.exit 0) K X f w)) : (F8_W R F8_p17 K X f w) := Eq.mp (by kernel_rfl) h
theorem F8_s8_ok (R : RT) (rec6 : V1) : OkW (F8_W R) (a4 (F8_s8 R rec6) 0 1 5 14) F8_s8_c (a1 rec6 5) (kxB 0 ((fun f w => F8_s5 R w)) noX) :=
  fun f w h => cut F8_p17 F8_s9_c (K := (a3 (F8_s11 R rec6) 0 1 5)) (F8_s9_ok R rec6) f w (F8_s8_e R _ _ f w (Bc_imp (x' := (F8_W R .skip (a3 (F8_s11 R rec6) 0 1 5) (kxB 0 ((fun f w => F8_s5 R w)) noX) f w)) (y' := (F8_W R (.exit 0) (a3 (F8_s11 R rec6) 0 1 5) (kxB 0 ((fun f w => F8_s5 R w)) noX) f w)) ((fun f w h => skip_ok h) f w) ((fun f w h => exit_hit h) f w) h))
def F8_s7_t (R : RT) (K : V4) (v0 v1 v5 : Value) (w : World) : Prop :=
  un Tryz.prog R (builtin .len #[35] 3 #[false] #[v0]) w (fun v13 w =>
  uv Tryz.prog R (binS .lss 3 (.tmp 11) (.tmp 13) v5 v13) w (fun v14 w =>
  K v0 v1 v5 v14 w))
theorem F8_s7_st (R : RT) (K : V4) (X : KX) (f : Fr) (w : World) (h : F8_s7_t R K (f 0) (f 1) (f 5) w) : F8_W R F8_p18 (a4 K 0 1 5 14) X f w := Eq.mp (by kernel_rfl) h
def F8_s7 (R : RT) (rec6 : V1) (v0 v1 v5 : Value) (w : World) : Prop :=
  F8_s7_t R (F8_s8 R rec6) v0 v1 v5 w
noncomputable def F8_s7_c : Code := (.seq F8_p18 F8_s8_c)
theorem F8_s7_ok (R : RT) (rec6 : V1) : OkW (F8_W R) (a3 (F8_s7 R rec6) 0 1 5) F8_s7_c (a1 rec6 5) (kxB 0 ((fun f w => F8_s5 R w)) noX) :=
  fun f w h => cut F8_p18 F8_s8_c (K := (a4 (F8_s8 R rec6) 0 1 5 14)) (F8_s8_ok R rec6) f w (F8_s7_st R (F8_s8 R rec6) _ f w h)
def F8_s6 (R : RT) (v0 v1 v5 : Value) (w : World) : Prop :=
  Lp1 (fun rec6 v5 w => F8_s7 R rec6 v0 v1 v5 w) v5 w
theorem F8_s6_e (R : RT) (K : KF) (X : KX) (f : Fr) (w : World) (h : F8_W R (.loop F8_p7) K X f w) : F8_W R F8_p6 K X f w := Eq.mp (by kernel_rfl) h
theorem F8_s6b_e (R : RT) (K : KF) (X : KX) (f : Fr) (w : World) (h : F8_W R F8_s7_c K X f w) : F8_W R F8_p7 K X f w := Eq.mp (by kernel_rfl) h
theorem F8_s6_ok (R : RT) : OkW (F8_W R) (a3 (F8_s6 R) 0 1 5) F8_p6 (fun f w => F8_s5 R w) (kxB 0 ((fun f w => F8_s5 R w)) noX) :=
  fun f w h => F8_s6_e R _ _ f w (loop1_ok (P := Tryz.prog) (dc := F8_dc) (kr := (F8_k R)) (pan := panK R) F8_p7 (kn := (fun f w => F8_s5 R w)) (kx := (kxB 0 ((fun f w => F8_s5 R w)) noX)) (s0 := 5) (fun rec6 v5 w => F8_s7 R rec6 (f 0) (f 1) v5 w) f (fun rec6 f' w' hf h' => F8_s6b_e R _ _ f' w' ((F8_s7_ok R rec6) f' w' (by simp only [a3, hf 0 (by kernel_rfl), hf 1 (by kernel_rfl)]; exact h'))) w h)
noncomputable def F8_s4_c : Code := (.seq F8_p5 F8_s5_c)
theorem F8_s4_e (R : RT) (K : KF) (X : KX) (f : Fr) (w : World) (h : F8_W R F8_p6 K (kxB 0 K X) f w) : F8_W R F8_p5 K X f w := Eq.mp (by kernel_rfl) h
theorem F8_s4_ok (R : RT) : OkW (F8_W R) (a3 (F8_s6 R) 0 1 5) F8_s4_c (F8_k R) noX :=
  fun f w h => cut F8_p5 F8_s5_c (K := (fun f w => F8_s5 R w)) (F8_s5_ok R) f w (F8_s4_e R _ _ f w ((F8_s6_ok R) f w h))
def F8_s3_t (R : RT) (K : V3) (v0 v1 : Value) (w : World) : Prop :=
  K v0 v1 (.int .i64 0) w
theorem F8_s3_st (R : RT) (K : V3) (X : KX) (f : Fr) (w : World) (h : F8_s3_t R K (f 0) (f 1) w) : F8_W R F8_p19 (a3 K 0 1 5) X f w := Eq.mp (by kernel_rfl) h
def F8_s3 (R : RT) (v0 v1 : Value) (w : World) : Prop :=
  F8_s3_t R (F8_s6 R) v0 v1 w
noncomputable def F8_s3_c : Code := (.seq F8_p19 F8_s4_c)
theorem F8_s3_ok (R : RT) : OkW (F8_W R) (a2 (F8_s3 R) 0 1) F8_s3_c (F8_k R) noX :=
  fun f w h => cut F8_p19 F8_s4_c (K := (a3 (F8_s6 R) 0 1 5)) (F8_s4_ok R) f w (F8_s3_st R (F8_s6 R) _ f w h)
def F8_s14_t (R : RT) (w : World) : Prop :=
  R (.returned (.bool false)) w
theorem F8_s14_st (R : RT) (X : KX) (f : Fr) (w : World) (h : F8_s14_t R w) : F8_W R F8_p23 (F8_k R) X f w := Eq.mp (by kernel_rfl) h
def F8_s14 (R : RT) (w : World) : Prop :=
  F8_s14_t R w
noncomputable def F8_s14_c : Code := (.seq F8_p23 .ret)
theorem F8_s14_ok (R : RT) : OkW (F8_W R) ((fun f w => F8_s14 R w)) F8_s14_c (a2 (F8_s3 R) 0 1) noX :=
  fun f w h => cut F8_p23 .ret (K := (F8_k R)) (fun f w h => ret_ok h) f w (F8_s14_st R _ f w h)
def F8_s2 (R : RT) (v0 v1 v10 : Value) (w : World) : Prop :=
  Bc v10
    (F8_s14 R w)
    (F8_s3 R v0 v1 w)
noncomputable def F8_s2_c : Code := (.seq F8_p21 F8_s3_c)
theorem F8_s2_e (R : RT) (K : KF) (X : KX) (f : Fr) (w : World) (h : Bc (f 10) (F8_W R F8_s14_c K X f w) (F8_W R .skip K X f w)) : (F8_W R F8_p21 K X f w) := Eq.mp (by kernel_rfl) h
theorem F8_s2_ok (R : RT) : OkW (F8_W R) (a3 (F8_s2 R) 0 1 10) F8_s2_c (F8_k R) noX :=
  fun f w h => cut F8_p21 F8_s3_c (K := (a2 (F8_s3 R) 0 1)) (F8_s3_ok R) f w (F8_s2_e R _ _ f w (Bc_imp (x' := (F8_W R F8_s14_c (a2 (F8_s3 R) 0 1) noX f w)) (y' := (F8_W R .skip (a2 (F8_s3 R) 0 1) noX f w)) ((F8_s14_ok R) f w) ((fun f w h => skip_ok h) f w) h))
def F8_s1_t (R : RT) (K : V3) (v0 v1 : Value) (w : World) : Prop :=
  un Tryz.prog R (builtin .len #[35] 3 #[false] #[v0]) w (fun v7 w =>
  un Tryz.prog R (builtin .len #[35] 3 #[false] #[v1]) w (fun v9 w =>
  uv Tryz.prog R (binS .neq 3 (.tmp 7) (.tmp 9) v7 v9) w (fun v10 w =>
  K v0 v1 v10 w)))
theorem F8_s1_st (R : RT) (K : V3) (X : KX) (f : Fr) (w : World) (h : F8_s1_t R K (f 0) (f 1) w) : F8_W R (.seq F8_p24 F8_p25) (a3 K 0 1 10) X f w := Eq.mp (by kernel_rfl) h
def F8_s1 (R : RT) (v0 v1 : Value) (w : World) : Prop :=
  F8_s1_t R (F8_s2 R) v0 v1 w
noncomputable def F8_s1_c : Code := (.seq (.seq F8_p24 F8_p25) F8_s2_c)
theorem F8_s1_ok (R : RT) : OkW (F8_W R) (a2 (F8_s1 R) 0 1) F8_s1_c (F8_k R) noX :=
  fun f w h => cut (.seq F8_p24 F8_p25) F8_s2_c (K := (a3 (F8_s2 R) 0 1 10)) (F8_s2_ok R) f w (F8_s1_st R (F8_s2 R) _ f w h)
theorem F8_all_e (R : RT) (K : KF) (X : KX) (f : Fr) (w : World) (h : F8_W R F8_s1_c K X f w) : F8_W R F8_b K X f w := Eq.mp (by kernel_rfl) h
theorem F8_calls (R : RT) (v0 v1 : Value) (w : World) (h : F8_s1 R v0 v1 w) : Calls Tryz.prog 8 #[v0, v1] w R :=
  calls_of_wpE (dc := F8_dc) (args := [v0, v1]) hmixed Tryz.func8 (c := F8_b) rfl (rs := [.tmp 4]) rfl (by kernel_rfl) (Nat.le_of_ble_eq_true (by kernel_rfl)) (F8_all_e R _ _ _ w ((F8_s1_ok R) (initFr [v0, v1]) w h))

end Go.Proofs.YtpghlemcgjogpaaGreat
