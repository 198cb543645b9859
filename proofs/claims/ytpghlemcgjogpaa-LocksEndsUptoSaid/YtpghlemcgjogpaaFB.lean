import Derived.Test.YtpghlemcgjogpaaProg
import Derived.Test.YtpghlemcgjogpaaSx
import Derived.Test.YtpghlemcgjogpaaT
set_option linter.unusedVariables false
set_option maxRecDepth 100000
set_option maxHeartbeats 400000
namespace Go.Proofs.Ytpghlemcgjogpaa
open Go.Sx
/-! ### hasp/locks.New -/
noncomputable def F9_b : Code := bodyOf Try.f9
def F9_dc : Nat → List (Nat × Bool)
  | _ => []
def F9_s1_t (R : Ending → World → Prop) (w : World) : Prop :=
  uv Try.prog R (Instr.makeMap 50 none) w (fun v1 w => -- locks.go:35
  uv Try.prog R (Instr.makeMap 51 none) w (fun v2 w => -- locks.go:35
  uv Try.prog R (Instr.build 53 #[(0, v1), (1, v2)]) w (fun v3 w => -- locks.go:35
  uv Try.prog R (Instr.box 53 v3) w (fun v4 w => -- locks.go:35
  R (.returned v4) w))))
theorem F9_s1_st (R : Ending → World → Prop) (X : Nat → Fr → World → Prop) (f : Fr) (w : World) (h : F9_s1_t R w) : wpE Try.prog F9_dc (resK Try.prog [.tmp 0] R) (panK R) (.seq (cL F9_b) (cL (cR F9_b))) (resK Try.prog [.tmp 0] R) X f w := Eq.mp (by kernel_rfl) h
def F9_s1 (R : Ending → World → Prop) (w : World) : Prop :=
  F9_s1_t R w
noncomputable def F9_s1_c : Code := (.seq (.seq (cL F9_b) (cL (cR F9_b))) .ret)
theorem F9_s1_ok (R : Ending → World → Prop) : ∀ f w, ((fun f w => F9_s1 R w)) f w → wpE Try.prog F9_dc (resK Try.prog [.tmp 0] R) (panK R) F9_s1_c (resK Try.prog [.tmp 0] R) noX f w :=
  fun f w h => cut (.seq (cL F9_b) (cL (cR F9_b))) .ret (K := (resK Try.prog [.tmp 0] R)) (fun f w h => ret_ok h) f w (F9_s1_st R _ f w h)
theorem F9_all_e (R : Ending → World → Prop) (K : Fr → World → Prop) (X : Nat → Fr → World → Prop) (f : Fr) (w : World) (h : wpE Try.prog F9_dc (resK Try.prog [.tmp 0] R) (panK R) F9_s1_c K X f w) : wpE Try.prog F9_dc (resK Try.prog [.tmp 0] R) (panK R) F9_b K X f w := Eq.mp (by kernel_rfl) h
theorem F9_calls (R : Ending → World → Prop) (w : World) (h : F9_s1 R w) : Calls Try.prog 9 #[] w R :=
  calls_of_wpE (dc := F9_dc) (args := []) hmixed Try.func9 (c := F9_b) rfl (rs := [.tmp 0]) rfl (by kernel_rfl) (Nat.le_of_ble_eq_true (by kernel_rfl)) (F9_all_e R _ _ _ w ((F9_s1_ok R) (initFr []) w h))

/-! ### (*hasp/locks.Table).Ask -/
noncomputable def F10_b : Code := bodyOf Try.f10
def F10_dc : Nat → List (Nat × Bool)
  | 19 => [(0, true), (1, true), (2, true), (3, true), (4, true), (5, true), (6, true), (7, false), (8, false), (9, true), (10, true), (11, false)]
  | 12 => [(0, true), (1, true), (2, true), (3, true), (4, true), (5, true), (6, true), (7, false)]
  | _ => []
def F10_s11_t (R : Ending → World → Prop) (v0 : Value) (v1 : Value) (v2 : Value) (v9 : Value) (v11 : Value) (v12 : Value) (w : World) : Prop :=
  Dr (fun S w => -- locks.go:73
  HN Try.prog (fun _ => True) (nilS v9) (fun v102 => -- locks.go:73
  HV Try.prog (fun _ => True) (Instr.fieldAt 59 v102 1) (fun v103 => -- locks.go:73
  HV Try.prog S (Instr.loadAt 57 v103) (fun v104 => -- locks.go:73
  HV Try.prog S (Instr.loadAt 62 v11) (fun v106 => -- locks.go:73
  uv Try.prog R (Instr.buildSlice 57 1 #[(0, v106)]) w (fun v107 w => -- locks.go:73
  S w ∧ (
  un Try.prog R (callFunc 27 #[v104, v12, v107]) w (fun v108 w => -- locks.go:73
  HN Try.prog (fun _ => True) (nilS v9) (fun v109 => -- locks.go:73
  HV Try.prog (fun _ => True) (Instr.fieldAt 59 v109 1) (fun v110 => -- locks.go:73
  uu Try.prog R (Instr.storeAt 57 v110 v108) w (fun w => -- locks.go:73
  un Try.prog R (nilS v0) w (fun v112 w => -- locks.go:74
  uv Try.prog R (Instr.fieldAt 53 v112 1) w (fun v113 w => -- locks.go:74
  uv Try.prog R (Instr.loadAt 51 v113) w (fun v114 w => -- locks.go:74
  uv Try.prog R (Instr.build 67 #[(0, v2)]) w (fun v117 w => -- locks.go:74
  uv Try.prog R (Instr.box 67 v117) w (fun v118 w => -- locks.go:74
  uu Try.prog R (Instr.mapUpdate 51 v114 v1 v118) w (fun w => -- locks.go:74
  R (.returned (Go.Value.int Go.IntKind.i64 2)) w))))))))))))))))) w
theorem F10_s11_st (R : Ending → World → Prop) (X : Nat → Fr → World → Prop) (f : Fr) (w : World) (h : F10_s11_t R (f 0) (f 1) (f 2) (f 9) (f 11) (f 12) w) : wpE Try.prog F10_dc (resK Try.prog [.tmp 8] R) (panK R) (.seq (cL (cR (cR (cR (cR (cR (cR (cR (cR (cR (cR F10_b))))))))))) (.seq (cL (cR (cR (cR (cR (cR (cR (cR (cR (cR (cR (cR F10_b)))))))))))) (cL (cR (cR (cR (cR (cR (cR (cR (cR (cR (cR (cR (cR F10_b))))))))))))))) (resK Try.prog [.tmp 8] R) X f w := Eq.mp (by kernel_rfl) h
def F10_s11 (R : Ending → World → Prop) (v0 : Value) (v1 : Value) (v2 : Value) (v9 : Value) (v11 : Value) (v12 : Value) (w : World) : Prop :=
  F10_s11_t R v0 v1 v2 v9 v11 v12 w
noncomputable def F10_s11_c : Code := (.seq (.seq (cL (cR (cR (cR (cR (cR (cR (cR (cR (cR (cR F10_b))))))))))) (.seq (cL (cR (cR (cR (cR (cR (cR (cR (cR (cR (cR (cR F10_b)))))))))))) (cL (cR (cR (cR (cR (cR (cR (cR (cR (cR (cR (cR (cR F10_b))))))))))))))) .ret)
theorem F10_s11_ok (R : Ending → World → Prop) : ∀ f w, ((fun f w => F10_s11 R (f 0) (f 1) (f 2) (f 9) (f 11) (f 12) w)) f w → wpE Try.prog F10_dc (resK Try.prog [.tmp 8] R) (panK R) F10_s11_c (resK Try.prog [.tmp 8] R) noX f w :=
  fun f w h => cut (.seq (cL (cR (cR (cR (cR (cR (cR (cR (cR (cR (cR F10_b))))))))))) (.seq (cL (cR (cR (cR (cR (cR (cR (cR (cR (cR (cR (cR F10_b)))))))))))) (cL (cR (cR (cR (cR (cR (cR (cR (cR (cR (cR (cR (cR F10_b))))))))))))))) .ret (K := (resK Try.prog [.tmp 8] R)) (fun f w h => ret_ok h) f w (F10_s11_st R _ f w h)
def F10_s14_t (R : Ending → World → Prop) (K : Value → Value → Value → Value → Value → Value → World → Prop) (v0 : Value) (v1 : Value) (v2 : Value) (v9 : Value) (v11 : Value) (w : World) : Prop :=
  un Try.prog R (nilS v9) w (fun v96 w => -- locks.go:70
  uv Try.prog R (Instr.fieldAt 59 v96 1) w (fun v97 w => -- locks.go:70
  uv Try.prog R (Instr.loadAt 57 v97) w (fun v98 w => -- locks.go:70
  un Try.prog R (builtin Go.Builtin.len #[57] 3 #[false] #[v98]) w (fun v99 w => -- locks.go:70
  K v0 v1 v2 v9 v11 v99 w))))
theorem F10_s14_st (R : Ending → World → Prop) (K : Value → Value → Value → Value → Value → Value → World → Prop) (X : Nat → Fr → World → Prop) (f : Fr) (w : World) (h : F10_s14_t R K (f 0) (f 1) (f 2) (f 9) (f 11) w) : wpE Try.prog F10_dc (resK Try.prog [.tmp 8] R) (panK R) (cT (cR (cR (cT (cR (cL (cR (cR (cR (cR (cR (cR (cR (cR (cR F10_b))))))))))))))) (fun f w => K (f 0) (f 1) (f 2) (f 9) (f 11) (f 12) w) X f w := Eq.mp (by kernel_rfl) h
def F10_s14 (R : Ending → World → Prop) (v0 : Value) (v1 : Value) (v2 : Value) (v9 : Value) (v11 : Value) (w : World) : Prop :=
  F10_s14_t R (F10_s11 R) v0 v1 v2 v9 v11 w
noncomputable def F10_s14_c : Code := (.seq (cT (cR (cR (cT (cR (cL (cR (cR (cR (cR (cR (cR (cR (cR (cR F10_b))))))))))))))) .skip)
theorem F10_s14_ok (R : Ending → World → Prop) : ∀ f w, ((fun f w => F10_s14 R (f 0) (f 1) (f 2) (f 9) (f 11) w)) f w → wpE Try.prog F10_dc (resK Try.prog [.tmp 8] R) (panK R) F10_s14_c (fun f w => F10_s11 R (f 0) (f 1) (f 2) (f 9) (f 11) (f 12) w) noX f w :=
  fun f w h => cut (cT (cR (cR (cT (cR (cL (cR (cR (cR (cR (cR (cR (cR (cR (cR F10_b))))))))))))))) .skip (K := (fun f w => F10_s11 R (f 0) (f 1) (f 2) (f 9) (f 11) (f 12) w)) (fun f w h => skip_ok h) f w (F10_s14_st R (F10_s11 R) _ f w h)
def F10_s13 (R : Ending → World → Prop) (v0 : Value) (v1 : Value) (v2 : Value) (v9 : Value) (v11 : Value) (v12 : Value) (v94 : Value) (w : World) : Prop :=
  Bc v94
    (F10_s14 R v0 v1 v2 v9 v11 w)
    (F10_s11 R v0 v1 v2 v9 v11 v12 w)
noncomputable def F10_s13_c : Code := (.seq (cR (cR (cT (cR (cL (cR (cR (cR (cR (cR (cR (cR (cR (cR F10_b)))))))))))))) .skip)
theorem F10_s13_e (R : Ending → World → Prop) (K : Fr → World → Prop) (X : Nat → Fr → World → Prop) (f : Fr) (w : World) (h : Bc (f 94) (wpE Try.prog F10_dc (resK Try.prog [.tmp 8] R) (panK R) F10_s14_c K X f w) (wpE Try.prog F10_dc (resK Try.prog [.tmp 8] R) (panK R) .skip K X f w)) : (wpE Try.prog F10_dc (resK Try.prog [.tmp 8] R) (panK R) (cR (cR (cT (cR (cL (cR (cR (cR (cR (cR (cR (cR (cR (cR F10_b)))))))))))))) K X f w) := Eq.mp (by kernel_rfl) h
theorem F10_s13_ok (R : Ending → World → Prop) : ∀ f w, ((fun f w => F10_s13 R (f 0) (f 1) (f 2) (f 9) (f 11) (f 12) (f 94) w)) f w → wpE Try.prog F10_dc (resK Try.prog [.tmp 8] R) (panK R) F10_s13_c (fun f w => F10_s11 R (f 0) (f 1) (f 2) (f 9) (f 11) (f 12) w) noX f w :=
  fun f w h => cut (cR (cR (cT (cR (cL (cR (cR (cR (cR (cR (cR (cR (cR (cR F10_b)))))))))))))) .skip (K := (fun f w => F10_s11 R (f 0) (f 1) (f 2) (f 9) (f 11) (f 12) w)) (fun f w h => skip_ok h) f w (F10_s13_e R _ _ f w (Bc_imp (x' := (wpE Try.prog F10_dc (resK Try.prog [.tmp 8] R) (panK R) F10_s14_c (fun f w => F10_s11 R (f 0) (f 1) (f 2) (f 9) (f 11) (f 12) w) noX f w)) (y' := (wpE Try.prog F10_dc (resK Try.prog [.tmp 8] R) (panK R) .skip (fun f w => F10_s11 R (f 0) (f 1) (f 2) (f 9) (f 11) (f 12) w) noX f w)) ((F10_s14_ok R) f w) ((fun f w h => skip_ok h) f w) h))
def F10_s12_t (R : Ending → World → Prop) (K : Value → Value → Value → Value → Value → Value → Value → World → Prop) (v0 : Value) (v1 : Value) (v2 : Value) (v9 : Value) (v11 : Value) (w : World) : Prop :=
  un Try.prog R (nilS v9) w (fun v89 w => -- locks.go:68
  uv Try.prog R (Instr.fieldAt 59 v89 1) w (fun v90 w => -- locks.go:68
  uv Try.prog R (Instr.loadAt 57 v90) w (fun v91 w => -- locks.go:68
  un Try.prog R (callFunc 25 #[v91, (.func (.func 26) #[] #[])]) w (fun v92 w => -- locks.go:68
  uv Try.prog R (binS Go.BinOp.lss 3 (.tmp 93) (.const (Go.Value.int Go.IntKind.i64 0)) v92 (Go.Value.int Go.IntKind.i64 0)) w (fun v94 w => -- locks.go:69
  K v0 v1 v2 v9 v11 v92 v94 w)))))
theorem F10_s12_st (R : Ending → World → Prop) (K : Value → Value → Value → Value → Value → Value → Value → World → Prop) (X : Nat → Fr → World → Prop) (f : Fr) (w : World) (h : F10_s12_t R K (f 0) (f 1) (f 2) (f 9) (f 11) w) : wpE Try.prog F10_dc (resK Try.prog [.tmp 8] R) (panK R) (.seq (cL (cT (cR (cL (cR (cR (cR (cR (cR (cR (cR (cR (cR F10_b))))))))))))) (cL (cR (cT (cR (cL (cR (cR (cR (cR (cR (cR (cR (cR (cR F10_b))))))))))))))) (fun f w => K (f 0) (f 1) (f 2) (f 9) (f 11) (f 12) (f 94) w) X f w := Eq.mp (by kernel_rfl) h
def F10_s12 (R : Ending → World → Prop) (v0 : Value) (v1 : Value) (v2 : Value) (v9 : Value) (v11 : Value) (w : World) : Prop :=
  F10_s12_t R (F10_s13 R) v0 v1 v2 v9 v11 w
noncomputable def F10_s12_c : Code := (.seq (.seq (cL (cT (cR (cL (cR (cR (cR (cR (cR (cR (cR (cR (cR F10_b))))))))))))) (cL (cR (cT (cR (cL (cR (cR (cR (cR (cR (cR (cR (cR (cR F10_b))))))))))))))) F10_s13_c)
theorem F10_s12_ok (R : Ending → World → Prop) : ∀ f w, ((fun f w => F10_s12 R (f 0) (f 1) (f 2) (f 9) (f 11) w)) f w → wpE Try.prog F10_dc (resK Try.prog [.tmp 8] R) (panK R) F10_s12_c (fun f w => F10_s11 R (f 0) (f 1) (f 2) (f 9) (f 11) (f 12) w) noX f w :=
  fun f w h => cut (.seq (cL (cT (cR (cL (cR (cR (cR (cR (cR (cR (cR (cR (cR F10_b))))))))))))) (cL (cR (cT (cR (cL (cR (cR (cR (cR (cR (cR (cR (cR (cR F10_b))))))))))))))) F10_s13_c (K := (fun f w => F10_s13 R (f 0) (f 1) (f 2) (f 9) (f 11) (f 12) (f 94) w)) (F10_s13_ok R) f w (F10_s12_st R (F10_s13 R) _ f w h)
def F10_s10 (R : Ending → World → Prop) (v0 : Value) (v1 : Value) (v2 : Value) (v9 : Value) (v11 : Value) (v12 : Value) (v87 : Value) (w : World) : Prop :=
  Bc v87
    (F10_s12 R v0 v1 v2 v9 v11 w)
    (F10_s11 R v0 v1 v2 v9 v11 v12 w)
noncomputable def F10_s10_c : Code := (.seq (cR (cL (cR (cR (cR (cR (cR (cR (cR (cR (cR F10_b))))))))))) F10_s11_c)
theorem F10_s10_e (R : Ending → World → Prop) (K : Fr → World → Prop) (X : Nat → Fr → World → Prop) (f : Fr) (w : World) (h : Bc (f 87) (wpE Try.prog F10_dc (resK Try.prog [.tmp 8] R) (panK R) F10_s12_c K X f w) (wpE Try.prog F10_dc (resK Try.prog [.tmp 8] R) (panK R) .skip K X f w)) : (wpE Try.prog F10_dc (resK Try.prog [.tmp 8] R) (panK R) (cR (cL (cR (cR (cR (cR (cR (cR (cR (cR (cR F10_b))))))))))) K X f w) := Eq.mp (by kernel_rfl) h
theorem F10_s10_ok (R : Ending → World → Prop) : ∀ f w, ((fun f w => F10_s10 R (f 0) (f 1) (f 2) (f 9) (f 11) (f 12) (f 87) w)) f w → wpE Try.prog F10_dc (resK Try.prog [.tmp 8] R) (panK R) F10_s10_c (resK Try.prog [.tmp 8] R) noX f w :=
  fun f w h => cut (cR (cL (cR (cR (cR (cR (cR (cR (cR (cR (cR F10_b))))))))))) F10_s11_c (K := (fun f w => F10_s11 R (f 0) (f 1) (f 2) (f 9) (f 11) (f 12) w)) (F10_s11_ok R) f w (F10_s10_e R _ _ f w (Bc_imp (x' := (wpE Try.prog F10_dc (resK Try.prog [.tmp 8] R) (panK R) F10_s12_c (fun f w => F10_s11 R (f 0) (f 1) (f 2) (f 9) (f 11) (f 12) w) noX f w)) (y' := (wpE Try.prog F10_dc (resK Try.prog [.tmp 8] R) (panK R) .skip (fun f w => F10_s11 R (f 0) (f 1) (f 2) (f 9) (f 11) (f 12) w) noX f w)) ((F10_s12_ok R) f w) ((fun f w h => skip_ok h) f w) h))
def F10_s9_t (R : Ending → World → Prop) (K : Value → Value → Value → Value → Value → Value → Value → World → Prop) (v0 : Value) (v1 : Value) (v2 : Value) (v9 : Value) (v11 : Value) (w : World) : Prop :=
  un Try.prog R (nilS v9) w (fun v82 w => -- locks.go:66
  uv Try.prog R (Instr.fieldAt 59 v82 1) w (fun v83 w => -- locks.go:66
  uv Try.prog R (Instr.loadAt 57 v83) w (fun v84 w => -- locks.go:66
  un Try.prog R (builtin Go.Builtin.len #[57] 3 #[false] #[v84]) w (fun v85 w => -- locks.go:66
  uv Try.prog R (Instr.fieldAt 62 v11 2) w (fun v86 w => -- locks.go:67
  uv Try.prog R (Instr.loadAt 4 v86) w (fun v87 w => -- locks.go:67
  K v0 v1 v2 v9 v11 v85 v87 w))))))
theorem F10_s9_st (R : Ending → World → Prop) (K : Value → Value → Value → Value → Value → Value → Value → World → Prop) (X : Nat → Fr → World → Prop) (f : Fr) (w : World) (h : F10_s9_t R K (f 0) (f 1) (f 2) (f 9) (f 11) w) : wpE Try.prog F10_dc (resK Try.prog [.tmp 8] R) (panK R) (.seq (cL (cR (cR (cR (cR (cR (cR (cR (cR F10_b))))))))) (cL (cL (cR (cR (cR (cR (cR (cR (cR (cR (cR F10_b)))))))))))) (fun f w => K (f 0) (f 1) (f 2) (f 9) (f 11) (f 12) (f 87) w) X f w := Eq.mp (by kernel_rfl) h
def F10_s9 (R : Ending → World → Prop) (v0 : Value) (v1 : Value) (v2 : Value) (v9 : Value) (v11 : Value) (w : World) : Prop :=
  F10_s9_t R (F10_s10 R) v0 v1 v2 v9 v11 w
noncomputable def F10_s9_c : Code := (.seq (.seq (cL (cR (cR (cR (cR (cR (cR (cR (cR F10_b))))))))) (cL (cL (cR (cR (cR (cR (cR (cR (cR (cR (cR F10_b)))))))))))) F10_s10_c)
theorem F10_s9_ok (R : Ending → World → Prop) : ∀ f w, ((fun f w => F10_s9 R (f 0) (f 1) (f 2) (f 9) (f 11) w)) f w → wpE Try.prog F10_dc (resK Try.prog [.tmp 8] R) (panK R) F10_s9_c (resK Try.prog [.tmp 8] R) noX f w :=
  fun f w h => cut (.seq (cL (cR (cR (cR (cR (cR (cR (cR (cR F10_b))))))))) (cL (cL (cR (cR (cR (cR (cR (cR (cR (cR (cR F10_b)))))))))))) F10_s10_c (K := (fun f w => F10_s10 R (f 0) (f 1) (f 2) (f 9) (f 11) (f 12) (f 87) w)) (F10_s10_ok R) f w (F10_s9_st R (F10_s10 R) _ f w h)
def F10_s15_t (R : Ending → World → Prop) (v1 : Value) (v9 : Value) (v11 : Value) (w : World) : Prop :=
  Dr (fun S w => -- locks.go:63
  HN Try.prog (fun _ => True) (nilS v9) (fun v75 => -- locks.go:63
  HV Try.prog (fun _ => True) (Instr.fieldAt 59 v75 0) (fun v76 => -- locks.go:63
  HV Try.prog S (Instr.loadAt 35 v76) (fun v77 => -- locks.go:63
  HV Try.prog (fun _ => True) (Instr.fieldAt 62 v11 1) (fun v79 => -- locks.go:63
  HV Try.prog S (Instr.loadAt 3 v79) (fun v80 => -- locks.go:63
  uu Try.prog R (Instr.mapUpdate 35 v77 v1 v80) w (fun w => -- locks.go:63
  R (.returned (Go.Value.int Go.IntKind.i64 1)) w))))))) w
theorem F10_s15_st (R : Ending → World → Prop) (X : Nat → Fr → World → Prop) (f : Fr) (w : World) (h : F10_s15_t R (f 1) (f 9) (f 11) w) : wpE Try.prog F10_dc (resK Try.prog [.tmp 8] R) (panK R) (.seq (cL (cT (cR (cL (cR (cR (cR (cR (cR (cR (cR F10_b))))))))))) (cL (cR (cT (cR (cL (cR (cR (cR (cR (cR (cR (cR F10_b))))))))))))) (resK Try.prog [.tmp 8] R) X f w := Eq.mp (by kernel_rfl) h
def F10_s15 (R : Ending → World → Prop) (v1 : Value) (v9 : Value) (v11 : Value) (w : World) : Prop :=
  F10_s15_t R v1 v9 v11 w
noncomputable def F10_s15_c : Code := (.seq (.seq (cL (cT (cR (cL (cR (cR (cR (cR (cR (cR (cR F10_b))))))))))) (cL (cR (cT (cR (cL (cR (cR (cR (cR (cR (cR (cR F10_b))))))))))))) .ret)
theorem F10_s15_ok (R : Ending → World → Prop) : ∀ f w, ((fun f w => F10_s15 R (f 1) (f 9) (f 11) w)) f w → wpE Try.prog F10_dc (resK Try.prog [.tmp 8] R) (panK R) F10_s15_c (fun f w => F10_s9 R (f 0) (f 1) (f 2) (f 9) (f 11) w) noX f w :=
  fun f w h => cut (.seq (cL (cT (cR (cL (cR (cR (cR (cR (cR (cR (cR F10_b))))))))))) (cL (cR (cT (cR (cL (cR (cR (cR (cR (cR (cR (cR F10_b))))))))))))) .ret (K := (resK Try.prog [.tmp 8] R)) (fun f w h => ret_ok h) f w (F10_s15_st R _ f w h)
def F10_s8 (R : Ending → World → Prop) (v0 : Value) (v1 : Value) (v2 : Value) (v9 : Value) (v11 : Value) (v73 : Value) (w : World) : Prop :=
  Bc v73
    (F10_s15 R v1 v9 v11 w)
    (F10_s9 R v0 v1 v2 v9 v11 w)
noncomputable def F10_s8_c : Code := (.seq (cR (cL (cR (cR (cR (cR (cR (cR (cR F10_b))))))))) F10_s9_c)
theorem F10_s8_e (R : Ending → World → Prop) (K : Fr → World → Prop) (X : Nat → Fr → World → Prop) (f : Fr) (w : World) (h : Bc (f 73) (wpE Try.prog F10_dc (resK Try.prog [.tmp 8] R) (panK R) F10_s15_c K X f w) (wpE Try.prog F10_dc (resK Try.prog [.tmp 8] R) (panK R) .skip K X f w)) : (wpE Try.prog F10_dc (resK Try.prog [.tmp 8] R) (panK R) (cR (cL (cR (cR (cR (cR (cR (cR (cR F10_b))))))))) K X f w) := Eq.mp (by kernel_rfl) h
theorem F10_s8_ok (R : Ending → World → Prop) : ∀ f w, ((fun f w => F10_s8 R (f 0) (f 1) (f 2) (f 9) (f 11) (f 73) w)) f w → wpE Try.prog F10_dc (resK Try.prog [.tmp 8] R) (panK R) F10_s8_c (resK Try.prog [.tmp 8] R) noX f w :=
  fun f w h => cut (cR (cL (cR (cR (cR (cR (cR (cR (cR F10_b))))))))) F10_s9_c (K := (fun f w => F10_s9 R (f 0) (f 1) (f 2) (f 9) (f 11) w)) (F10_s9_ok R) f w (F10_s8_e R _ _ f w (Bc_imp (x' := (wpE Try.prog F10_dc (resK Try.prog [.tmp 8] R) (panK R) F10_s15_c (fun f w => F10_s9 R (f 0) (f 1) (f 2) (f 9) (f 11) w) noX f w)) (y' := (wpE Try.prog F10_dc (resK Try.prog [.tmp 8] R) (panK R) .skip (fun f w => F10_s9 R (f 0) (f 1) (f 2) (f 9) (f 11) w) noX f w)) ((F10_s15_ok R) f w) ((fun f w h => skip_ok h) f w) h))
def F10_s7_t (R : Ending → World → Prop) (K : Value → Value → Value → Value → Value → Value → World → Prop) (v0 : Value) (v1 : Value) (v2 : Value) (v9 : Value) (v11 : Value) (w : World) : Prop :=
  uv Try.prog R (Instr.fieldAt 62 v11 2) w (fun v59 w => -- locks.go:62
  uv Try.prog R (Instr.loadAt 4 v59) w (fun v60 w => -- locks.go:62
  Gk v60 false (fun k => k v9 w) w (fun v62 w => -- locks.go:62
  Gk v60 false (fun k => un Try.prog R (nilS v62) w k) w (fun v63 w => -- locks.go:62
  Gk v60 false (fun k => uv Try.prog R (Instr.fieldAt 59 v63 1) w k) w (fun v64 w => -- locks.go:62
  Gk v60 false (fun k => uv Try.prog R (Instr.loadAt 57 v64) w k) w (fun v65 w => -- locks.go:62
  Gk v60 false (fun k => un Try.prog R (builtin Go.Builtin.len #[57] 3 #[false] #[v65]) w k) w (fun v66 w => -- locks.go:62
  Gk v60 false (fun k => uv Try.prog R (binS Go.BinOp.eql 3 (.tmp 66) (.const (Go.Value.int Go.IntKind.i64 0)) v66 (Go.Value.int Go.IntKind.i64 0)) w k) w (fun v67 w => -- locks.go:62
  uv Try.prog R (pickS v60 (Go.Value.bool true) v67) w (fun v68 w => -- locks.go:62
  Gk v68 true (fun k => k v9 w) w (fun v70 w => -- locks.go:62
  Gk v68 true (fun k => uv Try.prog R (Instr.loadAt 62 v11) w k) w (fun v71 w => -- locks.go:62
  Gk v68 true (fun k => un Try.prog R (callFunc 24 #[v70, v71]) w k) w (fun v72 w => -- locks.go:62
  uv Try.prog R (pickS v68 v72 (Go.Value.bool false)) w (fun v73 w => -- locks.go:62
  K v0 v1 v2 v9 v11 v73 w)))))))))))))
theorem F10_s7_st (R : Ending → World → Prop) (K : Value → Value → Value → Value → Value → Value → World → Prop) (X : Nat → Fr → World → Prop) (f : Fr) (w : World) (h : F10_s7_t R K (f 0) (f 1) (f 2) (f 9) (f 11) w) : wpE Try.prog F10_dc (resK Try.prog [.tmp 8] R) (panK R) (cL (cL (cR (cR (cR (cR (cR (cR (cR F10_b))))))))) (fun f w => K (f 0) (f 1) (f 2) (f 9) (f 11) (f 73) w) X f w := Eq.mp (by kernel_rfl) h
def F10_s7 (R : Ending → World → Prop) (v0 : Value) (v1 : Value) (v2 : Value) (v9 : Value) (v11 : Value) (w : World) : Prop :=
  F10_s7_t R (F10_s8 R) v0 v1 v2 v9 v11 w
noncomputable def F10_s7_c : Code := (.seq (cL (cL (cR (cR (cR (cR (cR (cR (cR F10_b))))))))) F10_s8_c)
theorem F10_s7_ok (R : Ending → World → Prop) : ∀ f w, ((fun f w => F10_s7 R (f 0) (f 1) (f 2) (f 9) (f 11) w)) f w → wpE Try.prog F10_dc (resK Try.prog [.tmp 8] R) (panK R) F10_s7_c (resK Try.prog [.tmp 8] R) noX f w :=
  fun f w h => cut (cL (cL (cR (cR (cR (cR (cR (cR (cR F10_b))))))))) F10_s8_c (K := (fun f w => F10_s8 R (f 0) (f 1) (f 2) (f 9) (f 11) (f 73) w)) (F10_s8_ok R) f w (F10_s7_st R (F10_s8 R) _ f w h)
def F10_s16_t (R : Ending → World → Prop) (w : World) : Prop :=
  R (.returned (Go.Value.int Go.IntKind.i64 1)) w
theorem F10_s16_st (R : Ending → World → Prop) (X : Nat → Fr → World → Prop) (f : Fr) (w : World) (h : F10_s16_t R w) : wpE Try.prog F10_dc (resK Try.prog [.tmp 8] R) (panK R) (cL (cT (cR (cL (cR (cR (cR (cR (cR (cR F10_b)))))))))) (resK Try.prog [.tmp 8] R) X f w := Eq.mp (by kernel_rfl) h
def F10_s16 (R : Ending → World → Prop) (w : World) : Prop :=
  F10_s16_t R w
noncomputable def F10_s16_c : Code := (.seq (cL (cT (cR (cL (cR (cR (cR (cR (cR (cR F10_b)))))))))) .ret)
theorem F10_s16_ok (R : Ending → World → Prop) : ∀ f w, ((fun f w => F10_s16 R w)) f w → wpE Try.prog F10_dc (resK Try.prog [.tmp 8] R) (panK R) F10_s16_c (fun f w => F10_s7 R (f 0) (f 1) (f 2) (f 9) (f 11) w) noX f w :=
  fun f w h => cut (cL (cT (cR (cL (cR (cR (cR (cR (cR (cR F10_b)))))))))) .ret (K := (resK Try.prog [.tmp 8] R)) (fun f w h => ret_ok h) f w (F10_s16_st R _ f w h)
def F10_s6 (R : Ending → World → Prop) (v0 : Value) (v1 : Value) (v2 : Value) (v9 : Value) (v11 : Value) (v58 : Value) (w : World) : Prop :=
  Bc v58
    (F10_s16 R w)
    (F10_s7 R v0 v1 v2 v9 v11 w)
noncomputable def F10_s6_c : Code := (.seq (cR (cL (cR (cR (cR (cR (cR (cR F10_b)))))))) F10_s7_c)
theorem F10_s6_e (R : Ending → World → Prop) (K : Fr → World → Prop) (X : Nat → Fr → World → Prop) (f : Fr) (w : World) (h : Bc (f 58) (wpE Try.prog F10_dc (resK Try.prog [.tmp 8] R) (panK R) F10_s16_c K X f w) (wpE Try.prog F10_dc (resK Try.prog [.tmp 8] R) (panK R) .skip K X f w)) : (wpE Try.prog F10_dc (resK Try.prog [.tmp 8] R) (panK R) (cR (cL (cR (cR (cR (cR (cR (cR F10_b)))))))) K X f w) := Eq.mp (by kernel_rfl) h
theorem F10_s6_ok (R : Ending → World → Prop) : ∀ f w, ((fun f w => F10_s6 R (f 0) (f 1) (f 2) (f 9) (f 11) (f 58) w)) f w → wpE Try.prog F10_dc (resK Try.prog [.tmp 8] R) (panK R) F10_s6_c (resK Try.prog [.tmp 8] R) noX f w :=
  fun f w h => cut (cR (cL (cR (cR (cR (cR (cR (cR F10_b)))))))) F10_s7_c (K := (fun f w => F10_s7 R (f 0) (f 1) (f 2) (f 9) (f 11) w)) (F10_s7_ok R) f w (F10_s6_e R _ _ f w (Bc_imp (x' := (wpE Try.prog F10_dc (resK Try.prog [.tmp 8] R) (panK R) F10_s16_c (fun f w => F10_s7 R (f 0) (f 1) (f 2) (f 9) (f 11) w) noX f w)) (y' := (wpE Try.prog F10_dc (resK Try.prog [.tmp 8] R) (panK R) .skip (fun f w => F10_s7 R (f 0) (f 1) (f 2) (f 9) (f 11) w) noX f w)) ((F10_s16_ok R) f w) ((fun f w h => skip_ok h) f w) h))
def F10_s5_t (R : Ending → World → Prop) (K : Value → Value → Value → Value → Value → Value → World → Prop) (v0 : Value) (v1 : Value) (v2 : Value) (v3 : Value) (v9 : Value) (w : World) : Prop :=
  un Try.prog R (nilS v9) w (fun v43 w => -- locks.go:57
  uv Try.prog R (Instr.fieldAt 59 v43 0) w (fun v44 w => -- locks.go:57
  uv Try.prog R (Instr.loadAt 35 v44) w (fun v45 w => -- locks.go:57
  uv Try.prog R (Instr.lookup 35 v45 v1 false) w (fun v47 w => -- locks.go:57
  un Try.prog R (callFunc 23 #[v47, v3]) w (fun v51 w => -- locks.go:58
  uv Try.prog R (binS Go.BinOp.neq 3 (.tmp 52) (.const (Go.Value.int Go.IntKind.i64 0)) v47 (Go.Value.int Go.IntKind.i64 0)) w (fun v53 w => -- locks.go:58
  uv Try.prog R (Instr.build 62 #[(0, v1), (1, v51), (2, v53)]) w (fun v54 w => -- locks.go:58
  uv Try.prog R (Instr.alloc 62 true (.tuple #[])) w (fun v11 w => -- locks.go:58
  uu Try.prog R (Instr.storeAt 62 v11 v54) w (fun w => -- locks.go:58
  uv Try.prog R (Instr.fieldAt 62 v11 1) w (fun v55 w => -- locks.go:59
  uv Try.prog R (Instr.loadAt 3 v55) w (fun v56 w => -- locks.go:59
  uv Try.prog R (binS Go.BinOp.eql 3 (.tmp 56) (.tmp 57) v56 v47) w (fun v58 w => -- locks.go:59
  K v0 v1 v2 v9 v11 v58 w))))))))))))
theorem F10_s5_st (R : Ending → World → Prop) (K : Value → Value → Value → Value → Value → Value → World → Prop) (X : Nat → Fr → World → Prop) (f : Fr) (w : World) (h : F10_s5_t R K (f 0) (f 1) (f 2) (f 3) (f 9) w) : wpE Try.prog F10_dc (resK Try.prog [.tmp 8] R) (panK R) (.seq (cL (cR (cR (cR (cR F10_b))))) (.seq (cL (cR (cR (cR (cR (cR F10_b)))))) (cL (cL (cR (cR (cR (cR (cR (cR F10_b)))))))))) (fun f w => K (f 0) (f 1) (f 2) (f 9) (f 11) (f 58) w) X f w := Eq.mp (by kernel_rfl) h
def F10_s5 (R : Ending → World → Prop) (v0 : Value) (v1 : Value) (v2 : Value) (v3 : Value) (v9 : Value) (w : World) : Prop :=
  F10_s5_t R (F10_s6 R) v0 v1 v2 v3 v9 w
noncomputable def F10_s5_c : Code := (.seq (.seq (cL (cR (cR (cR (cR F10_b))))) (.seq (cL (cR (cR (cR (cR (cR F10_b)))))) (cL (cL (cR (cR (cR (cR (cR (cR F10_b)))))))))) F10_s6_c)
theorem F10_s5_ok (R : Ending → World → Prop) : ∀ f w, ((fun f w => F10_s5 R (f 0) (f 1) (f 2) (f 3) (f 9) w)) f w → wpE Try.prog F10_dc (resK Try.prog [.tmp 8] R) (panK R) F10_s5_c (resK Try.prog [.tmp 8] R) noX f w :=
  fun f w h => cut (.seq (cL (cR (cR (cR (cR F10_b))))) (.seq (cL (cR (cR (cR (cR (cR F10_b)))))) (cL (cL (cR (cR (cR (cR (cR (cR F10_b)))))))))) F10_s6_c (K := (fun f w => F10_s6 R (f 0) (f 1) (f 2) (f 9) (f 11) (f 58) w)) (F10_s6_ok R) f w (F10_s5_st R (F10_s6 R) _ f w h)
def F10_s17_t (R : Ending → World → Prop) (K : Value → Value → Value → Value → Value → World → Prop) (v0 : Value) (v1 : Value) (v2 : Value) (v3 : Value) (w : World) : Prop :=
  uv Try.prog R (Instr.makeMap 35 none) w (fun v33 w => -- locks.go:54
  uv Try.prog R (Instr.build 59 #[(0, v33)]) w (fun v34 w => -- locks.go:54
  uv Try.prog R (Instr.box 59 v34) w (fun v35 w => -- locks.go:54
  un Try.prog R (nilS v0) w (fun v37 w => -- locks.go:55
  uv Try.prog R (Instr.fieldAt 53 v37 0) w (fun v38 w => -- locks.go:55
  uv Try.prog R (Instr.loadAt 50 v38) w (fun v39 w => -- locks.go:55
  uu Try.prog R (Instr.mapUpdate 50 v39 v2 v35) w (fun w => -- locks.go:55
  K v0 v1 v2 v3 v35 w)))))))
theorem F10_s17_st (R : Ending → World → Prop) (K : Value → Value → Value → Value → Value → World → Prop) (X : Nat → Fr → World → Prop) (f : Fr) (w : World) (h : F10_s17_t R K (f 0) (f 1) (f 2) (f 3) w) : wpE Try.prog F10_dc (resK Try.prog [.tmp 8] R) (panK R) (.seq (cL (cT (cR (cL (cR (cR (cR F10_b))))))) (cR (cT (cR (cL (cR (cR (cR F10_b)))))))) (fun f w => K (f 0) (f 1) (f 2) (f 3) (f 9) w) X f w := Eq.mp (by kernel_rfl) h
def F10_s17 (R : Ending → World → Prop) (v0 : Value) (v1 : Value) (v2 : Value) (v3 : Value) (w : World) : Prop :=
  F10_s17_t R (F10_s5 R) v0 v1 v2 v3 w
noncomputable def F10_s17_c : Code := (.seq (.seq (cL (cT (cR (cL (cR (cR (cR F10_b))))))) (cR (cT (cR (cL (cR (cR (cR F10_b)))))))) .skip)
theorem F10_s17_ok (R : Ending → World → Prop) : ∀ f w, ((fun f w => F10_s17 R (f 0) (f 1) (f 2) (f 3) w)) f w → wpE Try.prog F10_dc (resK Try.prog [.tmp 8] R) (panK R) F10_s17_c (fun f w => F10_s5 R (f 0) (f 1) (f 2) (f 3) (f 9) w) noX f w :=
  fun f w h => cut (.seq (cL (cT (cR (cL (cR (cR (cR F10_b))))))) (cR (cT (cR (cL (cR (cR (cR F10_b)))))))) .skip (K := (fun f w => F10_s5 R (f 0) (f 1) (f 2) (f 3) (f 9) w)) (fun f w h => skip_ok h) f w (F10_s17_st R (F10_s5 R) _ f w h)
def F10_s4 (R : Ending → World → Prop) (v0 : Value) (v1 : Value) (v2 : Value) (v3 : Value) (v9 : Value) (v32 : Value) (w : World) : Prop :=
  Bc v32
    (F10_s17 R v0 v1 v2 v3 w)
    (F10_s5 R v0 v1 v2 v3 v9 w)
noncomputable def F10_s4_c : Code := (.seq (cR (cL (cR (cR (cR F10_b))))) F10_s5_c)
theorem F10_s4_e (R : Ending → World → Prop) (K : Fr → World → Prop) (X : Nat → Fr → World → Prop) (f : Fr) (w : World) (h : Bc (f 32) (wpE Try.prog F10_dc (resK Try.prog [.tmp 8] R) (panK R) F10_s17_c K X f w) (wpE Try.prog F10_dc (resK Try.prog [.tmp 8] R) (panK R) .skip K X f w)) : (wpE Try.prog F10_dc (resK Try.prog [.tmp 8] R) (panK R) (cR (cL (cR (cR (cR F10_b))))) K X f w) := Eq.mp (by kernel_rfl) h
theorem F10_s4_ok (R : Ending → World → Prop) : ∀ f w, ((fun f w => F10_s4 R (f 0) (f 1) (f 2) (f 3) (f 9) (f 32) w)) f w → wpE Try.prog F10_dc (resK Try.prog [.tmp 8] R) (panK R) F10_s4_c (resK Try.prog [.tmp 8] R) noX f w :=
  fun f w h => cut (cR (cL (cR (cR (cR F10_b))))) F10_s5_c (K := (fun f w => F10_s5 R (f 0) (f 1) (f 2) (f 3) (f 9) w)) (F10_s5_ok R) f w (F10_s4_e R _ _ f w (Bc_imp (x' := (wpE Try.prog F10_dc (resK Try.prog [.tmp 8] R) (panK R) F10_s17_c (fun f w => F10_s5 R (f 0) (f 1) (f 2) (f 3) (f 9) w) noX f w)) (y' := (wpE Try.prog F10_dc (resK Try.prog [.tmp 8] R) (panK R) .skip (fun f w => F10_s5 R (f 0) (f 1) (f 2) (f 3) (f 9) w) noX f w)) ((F10_s17_ok R) f w) ((fun f w h => skip_ok h) f w) h))
def F10_s3_t (R : Ending → World → Prop) (K : Value → Value → Value → Value → Value → Value → World → Prop) (v0 : Value) (v1 : Value) (v2 : Value) (v3 : Value) (w : World) : Prop :=
  un Try.prog R (nilS v0) w (fun v26 w => -- locks.go:52
  uv Try.prog R (Instr.fieldAt 53 v26 0) w (fun v27 w => -- locks.go:52
  uv Try.prog R (Instr.loadAt 50 v27) w (fun v28 w => -- locks.go:52
  uv Try.prog R (Instr.lookup 50 v28 v2 false) w (fun v30 w => -- locks.go:52
  uv Try.prog R (binS Go.BinOp.eql 56 (.tmp 31) (.const (Go.Value.pointer none)) v30 (Go.Value.pointer none)) w (fun v32 w => -- locks.go:53
  K v0 v1 v2 v3 v30 v32 w)))))
theorem F10_s3_st (R : Ending → World → Prop) (K : Value → Value → Value → Value → Value → Value → World → Prop) (X : Nat → Fr → World → Prop) (f : Fr) (w : World) (h : F10_s3_t R K (f 0) (f 1) (f 2) (f 3) w) : wpE Try.prog F10_dc (resK Try.prog [.tmp 8] R) (panK R) (.seq (cL (cR (cR F10_b))) (cL (cL (cR (cR (cR F10_b)))))) (fun f w => K (f 0) (f 1) (f 2) (f 3) (f 9) (f 32) w) X f w := Eq.mp (by kernel_rfl) h
def F10_s3 (R : Ending → World → Prop) (v0 : Value) (v1 : Value) (v2 : Value) (v3 : Value) (w : World) : Prop :=
  F10_s3_t R (F10_s4 R) v0 v1 v2 v3 w
noncomputable def F10_s3_c : Code := (.seq (.seq (cL (cR (cR F10_b))) (cL (cL (cR (cR (cR F10_b)))))) F10_s4_c)
theorem F10_s3_ok (R : Ending → World → Prop) : ∀ f w, ((fun f w => F10_s3 R (f 0) (f 1) (f 2) (f 3) w)) f w → wpE Try.prog F10_dc (resK Try.prog [.tmp 8] R) (panK R) F10_s3_c (resK Try.prog [.tmp 8] R) noX f w :=
  fun f w h => cut (.seq (cL (cR (cR F10_b))) (cL (cL (cR (cR (cR F10_b)))))) F10_s4_c (K := (fun f w => F10_s4 R (f 0) (f 1) (f 2) (f 3) (f 9) (f 32) w)) (F10_s4_ok R) f w (F10_s3_st R (F10_s4 R) _ f w h)
def F10_s18_t (R : Ending → World → Prop) (w : World) : Prop :=
  R (.returned (Go.Value.int Go.IntKind.i64 0)) w
theorem F10_s18_st (R : Ending → World → Prop) (X : Nat → Fr → World → Prop) (f : Fr) (w : World) (h : F10_s18_t R w) : wpE Try.prog F10_dc (resK Try.prog [.tmp 8] R) (panK R) (cL (cT (cR (cL (cR F10_b))))) (resK Try.prog [.tmp 8] R) X f w := Eq.mp (by kernel_rfl) h
def F10_s18 (R : Ending → World → Prop) (w : World) : Prop :=
  F10_s18_t R w
noncomputable def F10_s18_c : Code := (.seq (cL (cT (cR (cL (cR F10_b))))) .ret)
theorem F10_s18_ok (R : Ending → World → Prop) : ∀ f w, ((fun f w => F10_s18 R w)) f w → wpE Try.prog F10_dc (resK Try.prog [.tmp 8] R) (panK R) F10_s18_c (fun f w => F10_s3 R (f 0) (f 1) (f 2) (f 3) w) noX f w :=
  fun f w h => cut (cL (cT (cR (cL (cR F10_b))))) .ret (K := (resK Try.prog [.tmp 8] R)) (fun f w h => ret_ok h) f w (F10_s18_st R _ f w h)
def F10_s2 (R : Ending → World → Prop) (v0 : Value) (v1 : Value) (v2 : Value) (v3 : Value) (v24 : Value) (w : World) : Prop :=
  Bc v24
    (F10_s18 R w)
    (F10_s3 R v0 v1 v2 v3 w)
noncomputable def F10_s2_c : Code := (.seq (cR (cL (cR F10_b))) F10_s3_c)
theorem F10_s2_e (R : Ending → World → Prop) (K : Fr → World → Prop) (X : Nat → Fr → World → Prop) (f : Fr) (w : World) (h : Bc (f 24) (wpE Try.prog F10_dc (resK Try.prog [.tmp 8] R) (panK R) F10_s18_c K X f w) (wpE Try.prog F10_dc (resK Try.prog [.tmp 8] R) (panK R) .skip K X f w)) : (wpE Try.prog F10_dc (resK Try.prog [.tmp 8] R) (panK R) (cR (cL (cR F10_b))) K X f w) := Eq.mp (by kernel_rfl) h
theorem F10_s2_ok (R : Ending → World → Prop) : ∀ f w, ((fun f w => F10_s2 R (f 0) (f 1) (f 2) (f 3) (f 24) w)) f w → wpE Try.prog F10_dc (resK Try.prog [.tmp 8] R) (panK R) F10_s2_c (resK Try.prog [.tmp 8] R) noX f w :=
  fun f w h => cut (cR (cL (cR F10_b))) F10_s3_c (K := (fun f w => F10_s3 R (f 0) (f 1) (f 2) (f 3) w)) (F10_s3_ok R) f w (F10_s2_e R _ _ f w (Bc_imp (x' := (wpE Try.prog F10_dc (resK Try.prog [.tmp 8] R) (panK R) F10_s18_c (fun f w => F10_s3 R (f 0) (f 1) (f 2) (f 3) w) noX f w)) (y' := (wpE Try.prog F10_dc (resK Try.prog [.tmp 8] R) (panK R) .skip (fun f w => F10_s3 R (f 0) (f 1) (f 2) (f 3) w) noX f w)) ((F10_s18_ok R) f w) ((fun f w h => skip_ok h) f w) h))
def F10_s1_t (R : Ending → World → Prop) (K : Value → Value → Value → Value → Value → World → Prop) (v0 : Value) (v1 : Value) (v2 : Value) (v3 : Value) (w : World) : Prop :=
  un Try.prog R (callFunc 22 #[v3]) w (fun v14 w => -- locks.go:49
  uv Try.prog R (Op.unary Go.UnOp.not v14) w (fun v15 w => -- locks.go:49
  Gk v15 false (fun k => k v0 w) w (fun v17 w => -- locks.go:49
  Gk v15 false (fun k => un Try.prog R (nilS v17) w k) w (fun v18 w => -- locks.go:49
  Gk v15 false (fun k => uv Try.prog R (Instr.fieldAt 53 v18 1) w k) w (fun v19 w => -- locks.go:49
  Gk v15 false (fun k => uv Try.prog R (Instr.loadAt 51 v19) w k) w (fun v20 w => -- locks.go:49
  Gk v15 false (fun k => k v1 w) w (fun v21 w => -- locks.go:49
  Gk v15 false (fun k => uv Try.prog R (Instr.lookup 51 v20 v21 false) w k) w (fun v22 w => -- locks.go:49
  Gk v15 false (fun k => uv Try.prog R (binS Go.BinOp.neq 55 (.tmp 22) (.const (Go.Value.pointer none)) v22 (Go.Value.pointer none)) w k) w (fun v23 w => -- locks.go:49
  uv Try.prog R (pickS v15 (Go.Value.bool true) v23) w (fun v24 w => -- locks.go:49
  K v0 v1 v2 v3 v24 w))))))))))
theorem F10_s1_st (R : Ending → World → Prop) (K : Value → Value → Value → Value → Value → World → Prop) (X : Nat → Fr → World → Prop) (f : Fr) (w : World) (h : F10_s1_t R K (f 0) (f 1) (f 2) (f 3) w) : wpE Try.prog F10_dc (resK Try.prog [.tmp 8] R) (panK R) (.seq (cL F10_b) (cL (cL (cR F10_b)))) (fun f w => K (f 0) (f 1) (f 2) (f 3) (f 24) w) X f w := Eq.mp (by kernel_rfl) h
def F10_s1 (R : Ending → World → Prop) (v0 : Value) (v1 : Value) (v2 : Value) (v3 : Value) (w : World) : Prop :=
  F10_s1_t R (F10_s2 R) v0 v1 v2 v3 w
noncomputable def F10_s1_c : Code := (.seq (.seq (cL F10_b) (cL (cL (cR F10_b)))) F10_s2_c)
theorem F10_s1_ok (R : Ending → World → Prop) : ∀ f w, ((fun f w => F10_s1 R (f 0) (f 1) (f 2) (f 3) w)) f w → wpE Try.prog F10_dc (resK Try.prog [.tmp 8] R) (panK R) F10_s1_c (resK Try.prog [.tmp 8] R) noX f w :=
  fun f w h => cut (.seq (cL F10_b) (cL (cL (cR F10_b)))) F10_s2_c (K := (fun f w => F10_s2 R (f 0) (f 1) (f 2) (f 3) (f 24) w)) (F10_s2_ok R) f w (F10_s1_st R (F10_s2 R) _ f w h)
theorem F10_all_e (R : Ending → World → Prop) (K : Fr → World → Prop) (X : Nat → Fr → World → Prop) (f : Fr) (w : World) (h : wpE Try.prog F10_dc (resK Try.prog [.tmp 8] R) (panK R) F10_s1_c K X f w) : wpE Try.prog F10_dc (resK Try.prog [.tmp 8] R) (panK R) F10_b K X f w := Eq.mp (by kernel_rfl) h
theorem F10_calls (R : Ending → World → Prop) (v0 : Value) (v1 : Value) (v2 : Value) (v3 : Value) (w : World) (h : F10_s1 R v0 v1 v2 v3 w) : Calls Try.prog 10 #[v0, v1, v2, v3] w R :=
  calls_of_wpE (dc := F10_dc) (args := [v0, v1, v2, v3]) hmixed Try.func10 (c := F10_b) rfl (rs := [.tmp 8]) rfl (by kernel_rfl) (Nat.le_of_ble_eq_true (by kernel_rfl)) (F10_all_e R _ _ _ w ((F10_s1_ok R) (initFr [v0, v1, v2, v3]) w h))

/-! ### (*hasp/locks.Table).Ask$1 -/
noncomputable def F26_b : Code := bodyOf Try.f26
def F26_dc : Nat → List (Nat × Bool)
  | _ => []
def F26_s1_t (R : Ending → World → Prop) (v0 : Value) (w : World) : Prop :=
  uv Try.prog R (Instr.box 62 v0) w (fun v1 w => -- locks.go:68
  uv Try.prog R (Instr.fieldAt 62 v1 2) w (fun v3 w => -- locks.go:68
  uv Try.prog R (Instr.loadAt 4 v3) w (fun v4 w => -- locks.go:68
  uv Try.prog R (Op.unary Go.UnOp.not v4) w (fun v5 w => -- locks.go:68
  R (.returned v5) w))))
theorem F26_s1_st (R : Ending → World → Prop) (X : Nat → Fr → World → Prop) (f : Fr) (w : World) (h : F26_s1_t R (f 0) w) : wpE Try.prog F26_dc (resK Try.prog [.tmp 2] R) (panK R) (.seq (cL F26_b) (cL (cR F26_b))) (resK Try.prog [.tmp 2] R) X f w := Eq.mp (by kernel_rfl) h
def F26_s1 (R : Ending → World → Prop) (v0 : Value) (w : World) : Prop :=
  F26_s1_t R v0 w
noncomputable def F26_s1_c : Code := (.seq (.seq (cL F26_b) (cL (cR F26_b))) .ret)
theorem F26_s1_ok (R : Ending → World → Prop) : ∀ f w, ((fun f w => F26_s1 R (f 0) w)) f w → wpE Try.prog F26_dc (resK Try.prog [.tmp 2] R) (panK R) F26_s1_c (resK Try.prog [.tmp 2] R) noX f w :=
  fun f w h => cut (.seq (cL F26_b) (cL (cR F26_b))) .ret (K := (resK Try.prog [.tmp 2] R)) (fun f w h => ret_ok h) f w (F26_s1_st R _ f w h)
theorem F26_all_e (R : Ending → World → Prop) (K : Fr → World → Prop) (X : Nat → Fr → World → Prop) (f : Fr) (w : World) (h : wpE Try.prog F26_dc (resK Try.prog [.tmp 2] R) (panK R) F26_s1_c K X f w) : wpE Try.prog F26_dc (resK Try.prog [.tmp 2] R) (panK R) F26_b K X f w := Eq.mp (by kernel_rfl) h
theorem F26_calls (R : Ending → World → Prop) (v0 : Value) (w : World) (h : F26_s1 R v0 w) : Calls Try.prog 26 #[v0] w R :=
  calls_of_wpE (dc := F26_dc) (args := [v0]) hmixed Try.func26 (c := F26_b) rfl (rs := [.tmp 2]) rfl (by kernel_rfl) (Nat.le_of_ble_eq_true (by kernel_rfl)) (F26_all_e R _ _ _ w ((F26_s1_ok R) (initFr [v0]) w h))

/-! ### (*hasp/locks.Table).Drop -/
noncomputable def F11_b : Code := bodyOf Try.f11
def F11_dc : Nat → List (Nat × Bool)
  | 9 => [(0, true), (1, true), (2, true), (3, true), (4, true), (5, false)]
  | 7 => [(0, true), (1, true), (2, true), (3, true), (4, true), (5, true), (6, true), (7, true), (8, true), (9, true), (10, true)]
  | 1 => [(0, true), (1, true), (2, true), (3, true), (4, true), (5, true), (6, true)]
  | 2 => [(0, true), (1, true), (2, true), (3, true), (4, true), (5, false)]
  | _ => []
def F11_s3_t (R : Ending → World → Prop) (v4 : Value) (w : World) : Prop :=
  R (.returned v4) w
theorem F11_s3_st (R : Ending → World → Prop) (X : Nat → Fr → World → Prop) (f : Fr) (w : World) (h : F11_s3_t R (f 4) w) : wpE Try.prog F11_dc (resK Try.prog [.tmp 4] R) (panK R) (cL (cR (cR (cR (cR F11_b))))) (resK Try.prog [.tmp 4] R) X f w := Eq.mp (by kernel_rfl) h
def F11_s3 (R : Ending → World → Prop) (v4 : Value) (w : World) : Prop :=
  F11_s3_t R v4 w
noncomputable def F11_s3_c : Code := (.seq (cL (cR (cR (cR (cR F11_b))))) .ret)
theorem F11_s3_ok (R : Ending → World → Prop) : ∀ f w, ((fun f w => F11_s3 R (f 4) w)) f w → wpE Try.prog F11_dc (resK Try.prog [.tmp 4] R) (panK R) F11_s3_c (resK Try.prog [.tmp 4] R) noX f w :=
  fun f w h => cut (cL (cR (cR (cR (cR F11_b))))) .ret (K := (resK Try.prog [.tmp 4] R)) (fun f w h => ret_ok h) f w (F11_s3_st R _ f w h)
def F11_s8_t (R : Ending → World → Prop) (K : Value → Value → World → Prop) (v0 : Value) (v3 : Value) (v4 : Value) (v5 : Value) (v27 : Value) (v28 : Value) (v29 : Value) (w : World) : Prop :=
  uv Try.prog R (binS Go.BinOp.add 3 (.tmp 29) (.const (Go.Value.int Go.IntKind.i64 1)) v29 (Go.Value.int Go.IntKind.i64 1)) w (fun v92 w => -- locks.go:94
  K v4 v92 w)
theorem F11_s8_st (R : Ending → World → Prop) (K : Value → Value → World → Prop) (X : Nat → Fr → World → Prop) (f : Fr) (w : World) (h : F11_s8_t R K (f 0) (f 3) (f 4) (f 5) (f 27) (f 28) (f 29) w) : wpE Try.prog F11_dc (resK Try.prog [.tmp 4] R) (panK R) (cR (cR (cR (cI (cI (cR (cL (cR (cR (cR F11_b)))))))))) (fun f w => K (f 4) (f 29) w) X f w := Eq.mp (by kernel_rfl) h
def F11_s8 (R : Ending → World → Prop) (rec4 : Value → Value → World → Prop) (v0 : Value) (v3 : Value) (v4 : Value) (v5 : Value) (v27 : Value) (v28 : Value) (v29 : Value) (w : World) : Prop :=
  F11_s8_t R (rec4) v0 v3 v4 v5 v27 v28 v29 w
noncomputable def F11_s8_c : Code := (.seq (cR (cR (cR (cI (cI (cR (cL (cR (cR (cR F11_b)))))))))) .skip)
theorem F11_s8_ok (R : Ending → World → Prop) (rec4 : Value → Value → World → Prop) : ∀ f w, ((fun f w => F11_s8 R rec4 (f 0) (f 3) (f 4) (f 5) (f 27) (f 28) (f 29) w)) f w → wpE Try.prog F11_dc (resK Try.prog [.tmp 4] R) (panK R) F11_s8_c (fun f w => rec4 (f 4) (f 29) w) (kxB 0 ((fun f w => F11_s3 R (f 4) w)) noX) f w :=
  fun f w h => cut (cR (cR (cR (cI (cI (cR (cL (cR (cR (cR F11_b)))))))))) .skip (K := (fun f w => rec4 (f 4) (f 29) w)) (fun f w h => skip_ok h) f w (F11_s8_st R (rec4) _ f w h)
def F11_s13_t (R : Ending → World → Prop) (K : Value → Value → Value → Value → Value → Value → Value → World → Prop) (v0 : Value) (v3 : Value) (v4 : Value) (v5 : Value) (v7 : Value) (v27 : Value) (v28 : Value) (v29 : Value) (w : World) : Prop :=
  un Try.prog R (nilS v0) w (fun v88 w => -- locks.go:104
  uv Try.prog R (Instr.fieldAt 53 v88 0) w (fun v89 w => -- locks.go:104
  uv Try.prog R (Instr.loadAt 50 v89) w (fun v90 w => -- locks.go:104
  un Try.prog R (builtin Go.Builtin.delete #[50, 9] 0 #[false, false] #[v90, v7]) w (fun _ w => -- locks.go:104
  K v0 v3 v4 v5 v27 v28 v29 w))))
theorem F11_s13_st (R : Ending → World → Prop) (K : Value → Value → Value → Value → Value → Value → Value → World → Prop) (X : Nat → Fr → World → Prop) (f : Fr) (w : World) (h : F11_s13_t R K (f 0) (f 3) (f 4) (f 5) (f 7) (f 27) (f 28) (f 29) w) : wpE Try.prog F11_dc (resK Try.prog [.tmp 4] R) (panK R) (cT (cR (cR (cR (cR (cR (cR (cR (cR (cI (cL (cR (cR (cI (cI (cR (cL (cR (cR (cR F11_b)))))))))))))))))))) (fun f w => K (f 0) (f 3) (f 4) (f 5) (f 27) (f 28) (f 29) w) X f w := Eq.mp (by kernel_rfl) h
def F11_s13 (R : Ending → World → Prop) (rec4 : Value → Value → World → Prop) (v0 : Value) (v3 : Value) (v4 : Value) (v5 : Value) (v7 : Value) (v27 : Value) (v28 : Value) (v29 : Value) (w : World) : Prop :=
  F11_s13_t R (F11_s8 R rec4) v0 v3 v4 v5 v7 v27 v28 v29 w
noncomputable def F11_s13_c : Code := (.seq (cT (cR (cR (cR (cR (cR (cR (cR (cR (cI (cL (cR (cR (cI (cI (cR (cL (cR (cR (cR F11_b)))))))))))))))))))) .skip)
theorem F11_s13_ok (R : Ending → World → Prop) (rec4 : Value → Value → World → Prop) : ∀ f w, ((fun f w => F11_s13 R rec4 (f 0) (f 3) (f 4) (f 5) (f 7) (f 27) (f 28) (f 29) w)) f w → wpE Try.prog F11_dc (resK Try.prog [.tmp 4] R) (panK R) F11_s13_c (fun f w => F11_s8 R rec4 (f 0) (f 3) (f 4) (f 5) (f 27) (f 28) (f 29) w) (kxB 1 ((fun f w => F11_s8 R rec4 (f 0) (f 3) (f 4) (f 5) (f 27) (f 28) (f 29) w)) (kxB 0 ((fun f w => F11_s3 R (f 4) w)) noX)) f w :=
  fun f w h => cut (cT (cR (cR (cR (cR (cR (cR (cR (cR (cI (cL (cR (cR (cI (cI (cR (cL (cR (cR (cR F11_b)))))))))))))))))))) .skip (K := (fun f w => F11_s8 R rec4 (f 0) (f 3) (f 4) (f 5) (f 27) (f 28) (f 29) w)) (fun f w h => skip_ok h) f w (F11_s13_st R (F11_s8 R rec4) _ f w h)
def F11_s12 (R : Ending → World → Prop) (rec4 : Value → Value → World → Prop) (v0 : Value) (v3 : Value) (v4 : Value) (v5 : Value) (v7 : Value) (v27 : Value) (v28 : Value) (v29 : Value) (v86 : Value) (w : World) : Prop :=
  Bc v86
    (F11_s13 R rec4 v0 v3 v4 v5 v7 v27 v28 v29 w)
    (F11_s8 R rec4 v0 v3 v4 v5 v27 v28 v29 w)
noncomputable def F11_s12_c : Code := (.seq (cR (cR (cR (cR (cR (cR (cR (cR (cI (cL (cR (cR (cI (cI (cR (cL (cR (cR (cR F11_b))))))))))))))))))) .skip)
theorem F11_s12_e (R : Ending → World → Prop) (K : Fr → World → Prop) (X : Nat → Fr → World → Prop) (f : Fr) (w : World) (h : Bc (f 86) (wpE Try.prog F11_dc (resK Try.prog [.tmp 4] R) (panK R) F11_s13_c K X f w) (wpE Try.prog F11_dc (resK Try.prog [.tmp 4] R) (panK R) .skip K X f w)) : (wpE Try.prog F11_dc (resK Try.prog [.tmp 4] R) (panK R) (cR (cR (cR (cR (cR (cR (cR (cR (cI (cL (cR (cR (cI (cI (cR (cL (cR (cR (cR F11_b))))))))))))))))))) K X f w) := Eq.mp (by kernel_rfl) h
theorem F11_s12_ok (R : Ending → World → Prop) (rec4 : Value → Value → World → Prop) : ∀ f w, ((fun f w => F11_s12 R rec4 (f 0) (f 3) (f 4) (f 5) (f 7) (f 27) (f 28) (f 29) (f 86) w)) f w → wpE Try.prog F11_dc (resK Try.prog [.tmp 4] R) (panK R) F11_s12_c (fun f w => F11_s8 R rec4 (f 0) (f 3) (f 4) (f 5) (f 27) (f 28) (f 29) w) (kxB 1 ((fun f w => F11_s8 R rec4 (f 0) (f 3) (f 4) (f 5) (f 27) (f 28) (f 29) w)) (kxB 0 ((fun f w => F11_s3 R (f 4) w)) noX)) f w :=
  fun f w h => cut (cR (cR (cR (cR (cR (cR (cR (cR (cI (cL (cR (cR (cI (cI (cR (cL (cR (cR (cR F11_b))))))))))))))))))) .skip (K := (fun f w => F11_s8 R rec4 (f 0) (f 3) (f 4) (f 5) (f 27) (f 28) (f 29) w)) (fun f w h => skip_ok h) f w (F11_s12_e R _ _ f w (Bc_imp (x' := (wpE Try.prog F11_dc (resK Try.prog [.tmp 4] R) (panK R) F11_s13_c (fun f w => F11_s8 R rec4 (f 0) (f 3) (f 4) (f 5) (f 27) (f 28) (f 29) w) (kxB 1 ((fun f w => F11_s8 R rec4 (f 0) (f 3) (f 4) (f 5) (f 27) (f 28) (f 29) w)) (kxB 0 ((fun f w => F11_s3 R (f 4) w)) noX)) f w)) (y' := (wpE Try.prog F11_dc (resK Try.prog [.tmp 4] R) (panK R) .skip (fun f w => F11_s8 R rec4 (f 0) (f 3) (f 4) (f 5) (f 27) (f 28) (f 29) w) (kxB 1 ((fun f w => F11_s8 R rec4 (f 0) (f 3) (f 4) (f 5) (f 27) (f 28) (f 29) w)) (kxB 0 ((fun f w => F11_s3 R (f 4) w)) noX)) f w)) ((F11_s13_ok R rec4) f w) ((fun f w h => skip_ok h) f w) h))
def F11_s11_t (R : Ending → World → Prop) (K : Value → Value → Value → Value → Value → Value → Value → Value → Value → World → Prop) (v0 : Value) (v3 : Value) (v4 : Value) (v5 : Value) (v7 : Value) (v8 : Value) (v27 : Value) (v28 : Value) (v29 : Value) (w : World) : Prop :=
  Dr (fun S w => -- locks.go:100
  HN Try.prog (fun _ => True) (nilS v8) (fun v63 => -- locks.go:100
  HV Try.prog (fun _ => True) (Instr.fieldAt 59 v63 0) (fun v64 => -- locks.go:100
  HV Try.prog S (Instr.loadAt 35 v64) (fun v65 => -- locks.go:100
  HV Try.prog S (Instr.loadAt 3 v3) (fun v66 => -- locks.go:100
  un Try.prog R (builtin Go.Builtin.delete #[35, 3] 0 #[false, false] #[v65, v66]) w (fun _ w => -- locks.go:100
  un Try.prog R (nilS v8) w (fun v69 w => -- locks.go:101
  uv Try.prog R (Instr.fieldAt 59 v69 1) w (fun v70 w => -- locks.go:101
  uv Try.prog R (Instr.loadAt 57 v70) w (fun v71 w => -- locks.go:101
  uv Try.prog R (Instr.makeFunc (Go.Fn.func 31) #[] #[v3]) w (fun v72 w => -- locks.go:101
  un Try.prog R (callFunc 30 #[v71, v72]) w (fun v73 w => -- locks.go:101
  un Try.prog R (nilS v8) w (fun v74 w => -- locks.go:101
  uv Try.prog R (Instr.fieldAt 59 v74 1) w (fun v75 w => -- locks.go:101
  uu Try.prog R (Instr.storeAt 57 v75 v73) w (fun w => -- locks.go:101
  un Try.prog R (callFunc 32 #[v0, v8]) w (fun v79 w => -- locks.go:102
  un Try.prog R (builtin Go.Builtin.append #[29, 29] 29 #[false, false] #[v4, v79]) w (fun v80 w => -- locks.go:102
  un Try.prog R (nilS v8) w (fun v82 w => -- locks.go:103
  uv Try.prog R (Instr.fieldAt 59 v82 0) w (fun v83 w => -- locks.go:103
  uv Try.prog R (Instr.loadAt 35 v83) w (fun v84 w => -- locks.go:103
  un Try.prog R (builtin Go.Builtin.len #[35] 3 #[false] #[v84]) w (fun v85 w => -- locks.go:103
  uv Try.prog R (binS Go.BinOp.eql 3 (.tmp 85) (.const (Go.Value.int Go.IntKind.i64 0)) v85 (Go.Value.int Go.IntKind.i64 0)) w (fun v86 w => -- locks.go:103
  K v0 v3 v80 v5 v7 v27 v28 v29 v86 w))))))))))))))))))))) w
theorem F11_s11_st (R : Ending → World → Prop) (K : Value → Value → Value → Value → Value → Value → Value → Value → Value → World → Prop) (X : Nat → Fr → World → Prop) (f : Fr) (w : World) (h : F11_s11_t R K (f 0) (f 3) (f 4) (f 5) (f 7) (f 8) (f 27) (f 28) (f 29) w) : wpE Try.prog F11_dc (resK Try.prog [.tmp 4] R) (panK R) (.seq (cL (cR (cR (cR (cR (cI (cL (cR (cR (cI (cI (cR (cL (cR (cR (cR F11_b)))))))))))))))) (.seq (cL (cR (cR (cR (cR (cR (cI (cL (cR (cR (cI (cI (cR (cL (cR (cR (cR F11_b))))))))))))))))) (.seq (cL (cR (cR (cR (cR (cR (cR (cI (cL (cR (cR (cI (cI (cR (cL (cR (cR (cR F11_b)))))))))))))))))) (cL (cR (cR (cR (cR (cR (cR (cR (cI (cL (cR (cR (cI (cI (cR (cL (cR (cR (cR F11_b)))))))))))))))))))))) (fun f w => K (f 0) (f 3) (f 4) (f 5) (f 7) (f 27) (f 28) (f 29) (f 86) w) X f w := Eq.mp (by kernel_rfl) h
def F11_s11 (R : Ending → World → Prop) (rec4 : Value → Value → World → Prop) (v0 : Value) (v3 : Value) (v4 : Value) (v5 : Value) (v7 : Value) (v8 : Value) (v27 : Value) (v28 : Value) (v29 : Value) (w : World) : Prop :=
  F11_s11_t R (F11_s12 R rec4) v0 v3 v4 v5 v7 v8 v27 v28 v29 w
noncomputable def F11_s11_c : Code := (.seq (.seq (cL (cR (cR (cR (cR (cI (cL (cR (cR (cI (cI (cR (cL (cR (cR (cR F11_b)))))))))))))))) (.seq (cL (cR (cR (cR (cR (cR (cI (cL (cR (cR (cI (cI (cR (cL (cR (cR (cR F11_b))))))))))))))))) (.seq (cL (cR (cR (cR (cR (cR (cR (cI (cL (cR (cR (cI (cI (cR (cL (cR (cR (cR F11_b)))))))))))))))))) (cL (cR (cR (cR (cR (cR (cR (cR (cI (cL (cR (cR (cI (cI (cR (cL (cR (cR (cR F11_b)))))))))))))))))))))) F11_s12_c)
theorem F11_s11_ok (R : Ending → World → Prop) (rec4 : Value → Value → World → Prop) : ∀ f w, ((fun f w => F11_s11 R rec4 (f 0) (f 3) (f 4) (f 5) (f 7) (f 8) (f 27) (f 28) (f 29) w)) f w → wpE Try.prog F11_dc (resK Try.prog [.tmp 4] R) (panK R) F11_s11_c (fun f w => F11_s8 R rec4 (f 0) (f 3) (f 4) (f 5) (f 27) (f 28) (f 29) w) (kxB 1 ((fun f w => F11_s8 R rec4 (f 0) (f 3) (f 4) (f 5) (f 27) (f 28) (f 29) w)) (kxB 0 ((fun f w => F11_s3 R (f 4) w)) noX)) f w :=
  fun f w h => cut (.seq (cL (cR (cR (cR (cR (cI (cL (cR (cR (cI (cI (cR (cL (cR (cR (cR F11_b)))))))))))))))) (.seq (cL (cR (cR (cR (cR (cR (cI (cL (cR (cR (cI (cI (cR (cL (cR (cR (cR F11_b))))))))))))))))) (.seq (cL (cR (cR (cR (cR (cR (cR (cI (cL (cR (cR (cI (cI (cR (cL (cR (cR (cR F11_b)))))))))))))))))) (cL (cR (cR (cR (cR (cR (cR (cR (cI (cL (cR (cR (cI (cI (cR (cL (cR (cR (cR F11_b)))))))))))))))))))))) F11_s12_c (K := (fun f w => F11_s12 R rec4 (f 0) (f 3) (f 4) (f 5) (f 7) (f 27) (f 28) (f 29) (f 86) w)) (F11_s12_ok R rec4) f w (F11_s11_st R (F11_s12 R rec4) _ f w h)
def F11_s10 (R : Ending → World → Prop) (rec4 : Value → Value → World → Prop) (v0 : Value) (v3 : Value) (v4 : Value) (v5 : Value) (v7 : Value) (v8 : Value) (v27 : Value) (v28 : Value) (v29 : Value) (v61 : Value) (w : World) : Prop :=
  Bc v61
    (F11_s8 R rec4 v0 v3 v4 v5 v27 v28 v29 w)
    (F11_s11 R rec4 v0 v3 v4 v5 v7 v8 v27 v28 v29 w)
noncomputable def F11_s10_c : Code := (.seq (cR (cL (cR (cR (cR (cI (cL (cR (cR (cI (cI (cR (cL (cR (cR (cR F11_b)))))))))))))))) F11_s11_c)
theorem F11_s10_e (R : Ending → World → Prop) (K : Fr → World → Prop) (X : Nat → Fr → World → Prop) (f : Fr) (w : World) (h : Bc (f 61) (wpE Try.prog F11_dc (resK Try.prog [.tmp 4] R) (panK R) (.exit 1) K X f w) (wpE Try.prog F11_dc (resK Try.prog [.tmp 4] R) (panK R) .skip K X f w)) : (wpE Try.prog F11_dc (resK Try.prog [.tmp 4] R) (panK R) (cR (cL (cR (cR (cR (cI (cL (cR (cR (cI (cI (cR (cL (cR (cR (cR F11_b)))))))))))))))) K X f w) := Eq.mp (by kernel_rfl) h
theorem F11_s10_ok (R : Ending → World → Prop) (rec4 : Value → Value → World → Prop) : ∀ f w, ((fun f w => F11_s10 R rec4 (f 0) (f 3) (f 4) (f 5) (f 7) (f 8) (f 27) (f 28) (f 29) (f 61) w)) f w → wpE Try.prog F11_dc (resK Try.prog [.tmp 4] R) (panK R) F11_s10_c (fun f w => F11_s8 R rec4 (f 0) (f 3) (f 4) (f 5) (f 27) (f 28) (f 29) w) (kxB 1 ((fun f w => F11_s8 R rec4 (f 0) (f 3) (f 4) (f 5) (f 27) (f 28) (f 29) w)) (kxB 0 ((fun f w => F11_s3 R (f 4) w)) noX)) f w :=
  fun f w h => cut (cR (cL (cR (cR (cR (cI (cL (cR (cR (cI (cI (cR (cL (cR (cR (cR F11_b)))))))))))))))) F11_s11_c (K := (fun f w => F11_s11 R rec4 (f 0) (f 3) (f 4) (f 5) (f 7) (f 8) (f 27) (f 28) (f 29) w)) (F11_s11_ok R rec4) f w (F11_s10_e R _ _ f w (Bc_imp (x' := (wpE Try.prog F11_dc (resK Try.prog [.tmp 4] R) (panK R) (.exit 1) (fun f w => F11_s11 R rec4 (f 0) (f 3) (f 4) (f 5) (f 7) (f 8) (f 27) (f 28) (f 29) w) (kxB 1 ((fun f w => F11_s8 R rec4 (f 0) (f 3) (f 4) (f 5) (f 27) (f 28) (f 29) w)) (kxB 0 ((fun f w => F11_s3 R (f 4) w)) noX)) f w)) (y' := (wpE Try.prog F11_dc (resK Try.prog [.tmp 4] R) (panK R) .skip (fun f w => F11_s11 R rec4 (f 0) (f 3) (f 4) (f 5) (f 7) (f 8) (f 27) (f 28) (f 29) w) (kxB 1 ((fun f w => F11_s8 R rec4 (f 0) (f 3) (f 4) (f 5) (f 27) (f 28) (f 29) w)) (kxB 0 ((fun f w => F11_s3 R (f 4) w)) noX)) f w)) ((fun f w h => exit_hit h) f w) ((fun f w h => skip_ok h) f w) h))
def F11_s9_t (R : Ending → World → Prop) (K : Value → Value → Value → Value → Value → Value → Value → Value → Value → Value → World → Prop) (v0 : Value) (v3 : Value) (v4 : Value) (v5 : Value) (v27 : Value) (v28 : Value) (v29 : Value) (w : World) : Prop :=
  uv Try.prog R (Instr.indexAt 68 v27 v29) w (fun v31 w => -- locks.go:94
  uv Try.prog R (Instr.loadAt 9 v31) w (fun v32 w => -- locks.go:94
  un Try.prog R (nilS v0) w (fun v34 w => -- locks.go:95
  uv Try.prog R (Instr.fieldAt 53 v34 0) w (fun v35 w => -- locks.go:95
  uv Try.prog R (Instr.loadAt 50 v35) w (fun v36 w => -- locks.go:95
  uv Try.prog R (Instr.lookup 50 v36 v32 false) w (fun v38 w => -- locks.go:95
  Dr (fun S w => -- locks.go:96
  HN Try.prog (fun _ => True) (nilS v38) (fun v41 => -- locks.go:96
  HV Try.prog (fun _ => True) (Instr.fieldAt 59 v41 0) (fun v42 => -- locks.go:96
  HV Try.prog S (Instr.loadAt 35 v42) (fun v43 => -- locks.go:96
  HV Try.prog S (Instr.loadAt 3 v3) (fun v44 => -- locks.go:96
  HV Try.prog S (Instr.lookup 35 v43 v44 true) (fun v45 => -- locks.go:96
  HV Try.prog S (Instr.extract v45 0) (fun v46 => -- locks.go:96
  HV Try.prog S (Instr.extract v45 1) (fun v47 => -- locks.go:96
  uv Try.prog R (Op.unary Go.UnOp.not v47) w (fun v49 w => -- locks.go:97
  Gk v49 true (fun k => k v5 w) w (fun v51 w => -- locks.go:97
  Gk v49 true (fun k => uv Try.prog R (binS Go.BinOp.eql 55 (.tmp 51) (.const (Go.Value.pointer none)) v51 (Go.Value.pointer none)) w k) w (fun v52 w => -- locks.go:97
  Gk v49 true (fun k => k v52 w) w (fun v53 w => -- locks.go:97
  Gk v53 false (fun k => k v5 w) w (fun v54 w => -- locks.go:97
  Gk v53 false (fun k => un Try.prog R (nilS v54) w k) w (fun v55 w => -- locks.go:97
  Gk v53 false (fun k => uv Try.prog R (Instr.fieldAt 67 v55 0) w k) w (fun v56 w => -- locks.go:97
  Gk v53 false (fun k => uv Try.prog R (Instr.loadAt 9 v56) w k) w (fun v57 w => -- locks.go:97
  Gk v53 false (fun k => k v32 w) w (fun v58 w => -- locks.go:97
  Gk v53 false (fun k => uv Try.prog R (binS Go.BinOp.neq 9 (.tmp 57) (.tmp 58) v57 v58) w k) w (fun v59 w => -- locks.go:97
  Gk v49 true (fun k => uv Try.prog R (pickS v53 (Go.Value.bool true) v59) w k) w (fun v60 w => -- locks.go:97
  uv Try.prog R (pickS v49 v60 (Go.Value.bool false)) w (fun v61 w => -- locks.go:97
  K v0 v3 v4 v5 v32 v38 v27 v28 v29 v61 w)))))))))))))))))))) w))))))
theorem F11_s9_st (R : Ending → World → Prop) (K : Value → Value → Value → Value → Value → Value → Value → Value → Value → Value → World → Prop) (X : Nat → Fr → World → Prop) (f : Fr) (w : World) (h : F11_s9_t R K (f 0) (f 3) (f 4) (f 5) (f 27) (f 28) (f 29) w) : wpE Try.prog F11_dc (resK Try.prog [.tmp 4] R) (panK R) (.seq (cL (cI (cL (cR (cR (cI (cI (cR (cL (cR (cR (cR F11_b)))))))))))) (.seq (cL (cR (cI (cL (cR (cR (cI (cI (cR (cL (cR (cR (cR F11_b))))))))))))) (.seq (cL (cR (cR (cI (cL (cR (cR (cI (cI (cR (cL (cR (cR (cR F11_b)))))))))))))) (cL (cL (cR (cR (cR (cI (cL (cR (cR (cI (cI (cR (cL (cR (cR (cR F11_b))))))))))))))))))) (fun f w => K (f 0) (f 3) (f 4) (f 5) (f 7) (f 8) (f 27) (f 28) (f 29) (f 61) w) X f w := Eq.mp (by kernel_rfl) h
def F11_s9 (R : Ending → World → Prop) (rec4 : Value → Value → World → Prop) (v0 : Value) (v3 : Value) (v4 : Value) (v5 : Value) (v27 : Value) (v28 : Value) (v29 : Value) (w : World) : Prop :=
  F11_s9_t R (F11_s10 R rec4) v0 v3 v4 v5 v27 v28 v29 w
noncomputable def F11_s9_c : Code := (.seq (.seq (cL (cI (cL (cR (cR (cI (cI (cR (cL (cR (cR (cR F11_b)))))))))))) (.seq (cL (cR (cI (cL (cR (cR (cI (cI (cR (cL (cR (cR (cR F11_b))))))))))))) (.seq (cL (cR (cR (cI (cL (cR (cR (cI (cI (cR (cL (cR (cR (cR F11_b)))))))))))))) (cL (cL (cR (cR (cR (cI (cL (cR (cR (cI (cI (cR (cL (cR (cR (cR F11_b))))))))))))))))))) F11_s10_c)
theorem F11_s9_ok (R : Ending → World → Prop) (rec4 : Value → Value → World → Prop) : ∀ f w, ((fun f w => F11_s9 R rec4 (f 0) (f 3) (f 4) (f 5) (f 27) (f 28) (f 29) w)) f w → wpE Try.prog F11_dc (resK Try.prog [.tmp 4] R) (panK R) F11_s9_c (fun f w => F11_s8 R rec4 (f 0) (f 3) (f 4) (f 5) (f 27) (f 28) (f 29) w) (kxB 1 ((fun f w => F11_s8 R rec4 (f 0) (f 3) (f 4) (f 5) (f 27) (f 28) (f 29) w)) (kxB 0 ((fun f w => F11_s3 R (f 4) w)) noX)) f w :=
  fun f w h => cut (.seq (cL (cI (cL (cR (cR (cI (cI (cR (cL (cR (cR (cR F11_b)))))))))))) (.seq (cL (cR (cI (cL (cR (cR (cI (cI (cR (cL (cR (cR (cR F11_b))))))))))))) (.seq (cL (cR (cR (cI (cL (cR (cR (cI (cI (cR (cL (cR (cR (cR F11_b)))))))))))))) (cL (cL (cR (cR (cR (cI (cL (cR (cR (cI (cI (cR (cL (cR (cR (cR F11_b))))))))))))))))))) F11_s10_c (K := (fun f w => F11_s10 R rec4 (f 0) (f 3) (f 4) (f 5) (f 7) (f 8) (f 27) (f 28) (f 29) (f 61) w)) (F11_s10_ok R rec4) f w (F11_s9_st R (F11_s10 R rec4) _ f w h)
noncomputable def F11_s7_c : Code := (.seq (cL (cR (cR (cI (cI (cR (cL (cR (cR (cR F11_b)))))))))) F11_s8_c)
theorem F11_s7_e (R : Ending → World → Prop) (K : Fr → World → Prop) (X : Nat → Fr → World → Prop) (f : Fr) (w : World) (h : wpE Try.prog F11_dc (resK Try.prog [.tmp 4] R) (panK R) F11_s9_c K (kxB 1 K X) f w) : wpE Try.prog F11_dc (resK Try.prog [.tmp 4] R) (panK R) (cL (cR (cR (cI (cI (cR (cL (cR (cR (cR F11_b)))))))))) K X f w := Eq.mp (by kernel_rfl) h
theorem F11_s7_ok (R : Ending → World → Prop) (rec4 : Value → Value → World → Prop) : ∀ f w, ((fun f w => F11_s9 R rec4 (f 0) (f 3) (f 4) (f 5) (f 27) (f 28) (f 29) w)) f w → wpE Try.prog F11_dc (resK Try.prog [.tmp 4] R) (panK R) F11_s7_c (fun f w => rec4 (f 4) (f 29) w) (kxB 0 ((fun f w => F11_s3 R (f 4) w)) noX) f w :=
  fun f w h => cut (cL (cR (cR (cI (cI (cR (cL (cR (cR (cR F11_b)))))))))) F11_s8_c (K := (fun f w => F11_s8 R rec4 (f 0) (f 3) (f 4) (f 5) (f 27) (f 28) (f 29) w)) (F11_s8_ok R rec4) f w (F11_s7_e R _ _ f w ((F11_s9_ok R rec4) f w h))
def F11_s6 (R : Ending → World → Prop) (rec4 : Value → Value → World → Prop) (v0 : Value) (v3 : Value) (v4 : Value) (v5 : Value) (v27 : Value) (v28 : Value) (v29 : Value) (v30 : Value) (w : World) : Prop :=
  Bc v30
    (F11_s9 R rec4 v0 v3 v4 v5 v27 v28 v29 w)
    (F11_s3 R v4 w)
noncomputable def F11_s6_c : Code := (.seq (cL (cR (cI (cI (cR (cL (cR (cR (cR F11_b))))))))) F11_s7_c)
theorem F11_s6_e (R : Ending → World → Prop) (K : Fr → World → Prop) (X : Nat → Fr → World → Prop) (f : Fr) (w : World) (h : Bc (f 30) (wpE Try.prog F11_dc (resK Try.prog [.tmp 4] R) (panK R) .skip K X f w) (wpE Try.prog F11_dc (resK Try.prog [.tmp 4] R) (panK R) (.exit 0) K X f w)) : (wpE Try.prog F11_dc (resK Try.prog [.tmp 4] R) (panK R) (cL (cR (cI (cI (cR (cL (cR (cR (cR F11_b))))))))) K X f w) := Eq.mp (by kernel_rfl) h
theorem F11_s6_ok (R : Ending → World → Prop) (rec4 : Value → Value → World → Prop) : ∀ f w, ((fun f w => F11_s6 R rec4 (f 0) (f 3) (f 4) (f 5) (f 27) (f 28) (f 29) (f 30) w)) f w → wpE Try.prog F11_dc (resK Try.prog [.tmp 4] R) (panK R) F11_s6_c (fun f w => rec4 (f 4) (f 29) w) (kxB 0 ((fun f w => F11_s3 R (f 4) w)) noX) f w :=
  fun f w h => cut (cL (cR (cI (cI (cR (cL (cR (cR (cR F11_b))))))))) F11_s7_c (K := (fun f w => F11_s9 R rec4 (f 0) (f 3) (f 4) (f 5) (f 27) (f 28) (f 29) w)) (F11_s7_ok R rec4) f w (F11_s6_e R _ _ f w (Bc_imp (x' := (wpE Try.prog F11_dc (resK Try.prog [.tmp 4] R) (panK R) .skip (fun f w => F11_s9 R rec4 (f 0) (f 3) (f 4) (f 5) (f 27) (f 28) (f 29) w) (kxB 0 ((fun f w => F11_s3 R (f 4) w)) noX) f w)) (y' := (wpE Try.prog F11_dc (resK Try.prog [.tmp 4] R) (panK R) (.exit 0) (fun f w => F11_s9 R rec4 (f 0) (f 3) (f 4) (f 5) (f 27) (f 28) (f 29) w) (kxB 0 ((fun f w => F11_s3 R (f 4) w)) noX) f w)) ((fun f w h => skip_ok h) f w) ((fun f w h => exit_hit h) f w) h))
def F11_s5_t (R : Ending → World → Prop) (K : Value → Value → Value → Value → Value → Value → Value → Value → World → Prop) (v0 : Value) (v3 : Value) (v4 : Value) (v5 : Value) (v27 : Value) (v28 : Value) (v29 : Value) (w : World) : Prop :=
  uv Try.prog R (binS Go.BinOp.lss 3 (.tmp 29) (.tmp 28) v29 v28) w (fun v30 w => -- locks.go:94
  K v0 v3 v4 v5 v27 v28 v29 v30 w)
theorem F11_s5_st (R : Ending → World → Prop) (K : Value → Value → Value → Value → Value → Value → Value → Value → World → Prop) (X : Nat → Fr → World → Prop) (f : Fr) (w : World) (h : F11_s5_t R K (f 0) (f 3) (f 4) (f 5) (f 27) (f 28) (f 29) w) : wpE Try.prog F11_dc (resK Try.prog [.tmp 4] R) (panK R) (cL (cI (cI (cR (cL (cR (cR (cR F11_b)))))))) (fun f w => K (f 0) (f 3) (f 4) (f 5) (f 27) (f 28) (f 29) (f 30) w) X f w := Eq.mp (by kernel_rfl) h
def F11_s5 (R : Ending → World → Prop) (rec4 : Value → Value → World → Prop) (v0 : Value) (v3 : Value) (v4 : Value) (v5 : Value) (v27 : Value) (v28 : Value) (v29 : Value) (w : World) : Prop :=
  F11_s5_t R (F11_s6 R rec4) v0 v3 v4 v5 v27 v28 v29 w
noncomputable def F11_s5_c : Code := (.seq (cL (cI (cI (cR (cL (cR (cR (cR F11_b)))))))) F11_s6_c)
theorem F11_s5_ok (R : Ending → World → Prop) (rec4 : Value → Value → World → Prop) : ∀ f w, ((fun f w => F11_s5 R rec4 (f 0) (f 3) (f 4) (f 5) (f 27) (f 28) (f 29) w)) f w → wpE Try.prog F11_dc (resK Try.prog [.tmp 4] R) (panK R) F11_s5_c (fun f w => rec4 (f 4) (f 29) w) (kxB 0 ((fun f w => F11_s3 R (f 4) w)) noX) f w :=
  fun f w h => cut (cL (cI (cI (cR (cL (cR (cR (cR F11_b)))))))) F11_s6_c (K := (fun f w => F11_s6 R rec4 (f 0) (f 3) (f 4) (f 5) (f 27) (f 28) (f 29) (f 30) w)) (F11_s6_ok R rec4) f w (F11_s5_st R (F11_s6 R rec4) _ f w h)
def F11_s4 (R : Ending → World → Prop) (v0 : Value) (v3 : Value) (v4 : Value) (v5 : Value) (v27 : Value) (v28 : Value) (v29 : Value) (w : World) : Prop :=
  Lp2 (fun rec4 v4 v29 w => F11_s5 R rec4 v0 v3 v4 v5 v27 v28 v29 w) v4 v29 w
theorem F11_s4_e (R : Ending → World → Prop) (K : Fr → World → Prop) (X : Nat → Fr → World → Prop) (f : Fr) (w : World) (h : wpE Try.prog F11_dc (resK Try.prog [.tmp 4] R) (panK R) (.loop (cI (cI (cR (cL (cR (cR (cR F11_b)))))))) K X f w) : wpE Try.prog F11_dc (resK Try.prog [.tmp 4] R) (panK R) (cI (cR (cL (cR (cR (cR F11_b)))))) K X f w := Eq.mp (by kernel_rfl) h
theorem F11_s4b_e (R : Ending → World → Prop) (K : Fr → World → Prop) (X : Nat → Fr → World → Prop) (f : Fr) (w : World) (h : wpE Try.prog F11_dc (resK Try.prog [.tmp 4] R) (panK R) F11_s5_c K X f w) : wpE Try.prog F11_dc (resK Try.prog [.tmp 4] R) (panK R) (cI (cI (cR (cL (cR (cR (cR F11_b))))))) K X f w := Eq.mp (by kernel_rfl) h
theorem F11_s4_ok (R : Ending → World → Prop) : ∀ f w, ((fun f w => F11_s4 R (f 0) (f 3) (f 4) (f 5) (f 27) (f 28) (f 29) w)) f w → wpE Try.prog F11_dc (resK Try.prog [.tmp 4] R) (panK R) (cI (cR (cL (cR (cR (cR F11_b)))))) (fun f w => F11_s3 R (f 4) w) (kxB 0 ((fun f w => F11_s3 R (f 4) w)) noX) f w :=
  fun f w h => F11_s4_e R _ _ f w (loop2_ok (P := Try.prog) (dc := F11_dc) (kr := (resK Try.prog [.tmp 4] R)) (pan := panK R) (cI (cI (cR (cL (cR (cR (cR F11_b))))))) (kn := (fun f w => F11_s3 R (f 4) w)) (kx := (kxB 0 ((fun f w => F11_s3 R (f 4) w)) noX)) (s0 := 4) (s1 := 29) (fun rec4 v4 v29 w => F11_s5 R rec4 (f 0) (f 3) v4 (f 5) (f 27) (f 28) v29 w) f (fun rec4 f' w' hf h' => F11_s4b_e R _ _ f' w' ((F11_s5_ok R rec4) f' w' (by simp only [hf 0 (by kernel_rfl), hf 3 (by kernel_rfl), hf 5 (by kernel_rfl), hf 27 (by kernel_rfl), hf 28 (by kernel_rfl)]; exact h'))) w h)
noncomputable def F11_s2_c : Code := (.seq (cR (cL (cR (cR (cR F11_b))))) F11_s3_c)
theorem F11_s2_e (R : Ending → World → Prop) (K : Fr → World → Prop) (X : Nat → Fr → World → Prop) (f : Fr) (w : World) (h : wpE Try.prog F11_dc (resK Try.prog [.tmp 4] R) (panK R) (cI (cR (cL (cR (cR (cR F11_b)))))) K (kxB 0 K X) f w) : wpE Try.prog F11_dc (resK Try.prog [.tmp 4] R) (panK R) (cR (cL (cR (cR (cR F11_b))))) K X f w := Eq.mp (by kernel_rfl) h
theorem F11_s2_ok (R : Ending → World → Prop) : ∀ f w, ((fun f w => F11_s4 R (f 0) (f 3) (f 4) (f 5) (f 27) (f 28) (f 29) w)) f w → wpE Try.prog F11_dc (resK Try.prog [.tmp 4] R) (panK R) F11_s2_c (resK Try.prog [.tmp 4] R) noX f w :=
  fun f w h => cut (cR (cL (cR (cR (cR F11_b))))) F11_s3_c (K := (fun f w => F11_s3 R (f 4) w)) (F11_s3_ok R) f w (F11_s2_e R _ _ f w ((F11_s4_ok R) f w h))
def F11_s1_t (R : Ending → World → Prop) (K : Value → Value → Value → Value → Value → Value → Value → World → Prop) (v0 : Value) (v1 : Value) (w : World) : Prop :=
  uv Try.prog R (Instr.box 3 v1) w (fun v3 w => -- locks.go:91
  Dr (fun S w => -- locks.go:92
  HN Try.prog (fun _ => True) (nilS v0) (fun v12 => -- locks.go:92
  HV Try.prog (fun _ => True) (Instr.fieldAt 53 v12 1) (fun v13 => -- locks.go:92
  HV Try.prog S (Instr.loadAt 51 v13) (fun v14 => -- locks.go:92
  HV Try.prog S (Instr.loadAt 3 v3) (fun v15 => -- locks.go:92
  HV Try.prog S (Instr.lookup 51 v14 v15 false) (fun v16 => -- locks.go:92
  Dr (fun S w => -- locks.go:93
  HN Try.prog (fun _ => True) (nilS v0) (fun v18 => -- locks.go:93
  HV Try.prog (fun _ => True) (Instr.fieldAt 53 v18 1) (fun v19 => -- locks.go:93
  HV Try.prog S (Instr.loadAt 51 v19) (fun v20 => -- locks.go:93
  HV Try.prog S (Instr.loadAt 3 v3) (fun v21 => -- locks.go:93
  un Try.prog R (builtin Go.Builtin.delete #[51, 3] 0 #[false, false] #[v20, v21]) w (fun _ w => -- locks.go:93
  un Try.prog R (nilS v0) w (fun v23 w => -- locks.go:94
  uv Try.prog R (Instr.fieldAt 53 v23 0) w (fun v24 w => -- locks.go:94
  uv Try.prog R (Instr.loadAt 50 v24) w (fun v25 w => -- locks.go:94
  un Try.prog R (callFunc 29 #[v25]) w (fun v26 w => -- locks.go:94
  un Try.prog R (callFunc 28 #[v26]) w (fun v27 w => -- locks.go:94
  un Try.prog R (builtin Go.Builtin.len #[68] 3 #[false] #[v27]) w (fun v28 w => -- locks.go:94
  K v0 v3 (Go.Value.slice none 0 0) v16 v27 v28 (Go.Value.int Go.IntKind.i64 0) w)))))))))))) w)))))) w)
theorem F11_s1_st (R : Ending → World → Prop) (K : Value → Value → Value → Value → Value → Value → Value → World → Prop) (X : Nat → Fr → World → Prop) (f : Fr) (w : World) (h : F11_s1_t R K (f 0) (f 1) w) : wpE Try.prog F11_dc (resK Try.prog [.tmp 4] R) (panK R) (.seq (cL F11_b) (.seq (cL (cR F11_b)) (.seq (cL (cR (cR F11_b))) (cL (cL (cR (cR (cR F11_b)))))))) (fun f w => K (f 0) (f 3) (f 4) (f 5) (f 27) (f 28) (f 29) w) X f w := Eq.mp (by kernel_rfl) h
def F11_s1 (R : Ending → World → Prop) (v0 : Value) (v1 : Value) (w : World) : Prop :=
  F11_s1_t R (F11_s4 R) v0 v1 w
noncomputable def F11_s1_c : Code := (.seq (.seq (cL F11_b) (.seq (cL (cR F11_b)) (.seq (cL (cR (cR F11_b))) (cL (cL (cR (cR (cR F11_b)))))))) F11_s2_c)
theorem F11_s1_ok (R : Ending → World → Prop) : ∀ f w, ((fun f w => F11_s1 R (f 0) (f 1) w)) f w → wpE Try.prog F11_dc (resK Try.prog [.tmp 4] R) (panK R) F11_s1_c (resK Try.prog [.tmp 4] R) noX f w :=
  fun f w h => cut (.seq (cL F11_b) (.seq (cL (cR F11_b)) (.seq (cL (cR (cR F11_b))) (cL (cL (cR (cR (cR F11_b)))))))) F11_s2_c (K := (fun f w => F11_s4 R (f 0) (f 3) (f 4) (f 5) (f 27) (f 28) (f 29) w)) (F11_s2_ok R) f w (F11_s1_st R (F11_s4 R) _ f w h)
theorem F11_all_e (R : Ending → World → Prop) (K : Fr → World → Prop) (X : Nat → Fr → World → Prop) (f : Fr) (w : World) (h : wpE Try.prog F11_dc (resK Try.prog [.tmp 4] R) (panK R) F11_s1_c K X f w) : wpE Try.prog F11_dc (resK Try.prog [.tmp 4] R) (panK R) F11_b K X f w := Eq.mp (by kernel_rfl) h
theorem F11_calls (R : Ending → World → Prop) (v0 : Value) (v1 : Value) (w : World) (h : F11_s1 R v0 v1 w) : Calls Try.prog 11 #[v0, v1] w R :=
  calls_of_wpE (dc := F11_dc) (args := [v0, v1]) hmixed Try.func11 (c := F11_b) rfl (rs := [.tmp 4]) rfl (by kernel_rfl) (Nat.le_of_ble_eq_true (by kernel_rfl)) (F11_all_e R _ _ _ w ((F11_s1_ok R) (initFr [v0, v1]) w h))

/-! ### (*hasp/locks.Table).Drop$1 -/
noncomputable def F31_b : Code := bodyOf Try.f31
def F31_dc : Nat → List (Nat × Bool)
  | _ => []
def F31_s1_t (R : Ending → World → Prop) (v0 : Value) (v1 : Value) (w : World) : Prop :=
  uv Try.prog R (Instr.box 62 v0) w (fun v2 w => -- locks.go:101
  uv Try.prog R (Instr.fieldAt 62 v2 0) w (fun v4 w => -- locks.go:101
  uv Try.prog R (Instr.loadAt 3 v4) w (fun v5 w => -- locks.go:101
  uv Try.prog R (Instr.loadAt 3 v1) w (fun v6 w => -- locks.go:101
  uv Try.prog R (binS Go.BinOp.eql 3 (.tmp 5) (.tmp 6) v5 v6) w (fun v7 w => -- locks.go:101
  R (.returned v7) w)))))
theorem F31_s1_st (R : Ending → World → Prop) (X : Nat → Fr → World → Prop) (f : Fr) (w : World) (h : F31_s1_t R (f 0) (f 1) w) : wpE Try.prog F31_dc (resK Try.prog [.tmp 3] R) (panK R) (.seq (cL F31_b) (cL (cR F31_b))) (resK Try.prog [.tmp 3] R) X f w := Eq.mp (by kernel_rfl) h
def F31_s1 (R : Ending → World → Prop) (v0 : Value) (v1 : Value) (w : World) : Prop :=
  F31_s1_t R v0 v1 w
noncomputable def F31_s1_c : Code := (.seq (.seq (cL F31_b) (cL (cR F31_b))) .ret)
theorem F31_s1_ok (R : Ending → World → Prop) : ∀ f w, ((fun f w => F31_s1 R (f 0) (f 1) w)) f w → wpE Try.prog F31_dc (resK Try.prog [.tmp 3] R) (panK R) F31_s1_c (resK Try.prog [.tmp 3] R) noX f w :=
  fun f w h => cut (.seq (cL F31_b) (cL (cR F31_b))) .ret (K := (resK Try.prog [.tmp 3] R)) (fun f w h => ret_ok h) f w (F31_s1_st R _ f w h)
theorem F31_all_e (R : Ending → World → Prop) (K : Fr → World → Prop) (X : Nat → Fr → World → Prop) (f : Fr) (w : World) (h : wpE Try.prog F31_dc (resK Try.prog [.tmp 3] R) (panK R) F31_s1_c K X f w) : wpE Try.prog F31_dc (resK Try.prog [.tmp 3] R) (panK R) F31_b K X f w := Eq.mp (by kernel_rfl) h
theorem F31_calls (R : Ending → World → Prop) (v0 : Value) (v1 : Value) (w : World) (h : F31_s1 R v0 v1 w) : Calls Try.prog 31 #[v0, v1] w R :=
  calls_of_wpE (dc := F31_dc) (args := [v0, v1]) hmixed Try.func31 (c := F31_b) rfl (rs := [.tmp 3]) rfl (by kernel_rfl) (Nat.le_of_ble_eq_true (by kernel_rfl)) (F31_all_e R _ _ _ w ((F31_s1_ok R) (initFr [v0, v1]) w h))

/-! ### (*hasp/locks.Table).serve -/
noncomputable def F32_b : Code := bodyOf Try.f32
def F32_dc : Nat → List (Nat × Bool)
  | 4 => [(0, true), (1, true), (2, true), (3, true), (4, true), (5, true), (6, true), (7, true), (8, false)]
  | 5 => [(0, true), (1, true), (2, true), (3, true), (4, true), (5, true), (6, false)]
  | _ => []
def F32_s3_t (R : Ending → World → Prop) (v4 : Value) (w : World) : Prop :=
  R (.returned v4) w
theorem F32_s3_st (R : Ending → World → Prop) (X : Nat → Fr → World → Prop) (f : Fr) (w : World) (h : F32_s3_t R (f 4) w) : wpE Try.prog F32_dc (resK Try.prog [.tmp 4] R) (panK R) (cL (cR (cR F32_b))) (resK Try.prog [.tmp 4] R) X f w := Eq.mp (by kernel_rfl) h
def F32_s3 (R : Ending → World → Prop) (v4 : Value) (w : World) : Prop :=
  F32_s3_t R v4 w
noncomputable def F32_s3_c : Code := (.seq (cL (cR (cR F32_b))) .ret)
theorem F32_s3_ok (R : Ending → World → Prop) : ∀ f w, ((fun f w => F32_s3 R (f 4) w)) f w → wpE Try.prog F32_dc (resK Try.prog [.tmp 4] R) (panK R) F32_s3_c (resK Try.prog [.tmp 4] R) noX f w :=
  fun f w h => cut (cL (cR (cR F32_b))) .ret (K := (resK Try.prog [.tmp 4] R)) (fun f w h => ret_ok h) f w (F32_s3_st R _ f w h)
def F32_s8_t (R : Ending → World → Prop) (K : Value → World → Prop) (v0 : Value) (v1 : Value) (v4 : Value) (w : World) : Prop :=
  un Try.prog R (nilS v1) w (fun v23 w => -- locks.go:81
  uv Try.prog R (Instr.fieldAt 59 v23 1) w (fun v24 w => -- locks.go:81
  uv Try.prog R (Instr.loadAt 57 v24) w (fun v25 w => -- locks.go:81
  uv Try.prog R (Instr.indexAt 57 v25 (Go.Value.int Go.IntKind.i64 0)) w (fun v26 w => -- locks.go:81
  uv Try.prog R (Instr.loadAt 62 v26) w (fun v27 w => -- locks.go:81
  uv Try.prog R (Instr.alloc 62 true (.tuple #[])) w (fun v5 w => -- locks.go:81
  uu Try.prog R (Instr.storeAt 62 v5 v27) w (fun w => -- locks.go:81
  un Try.prog R (nilS v1) w (fun v30 w => -- locks.go:82
  uv Try.prog R (Instr.fieldAt 59 v30 1) w (fun v31 w => -- locks.go:82
  uv Try.prog R (Instr.loadAt 57 v31) w (fun v32 w => -- locks.go:82
  uv Try.prog R (Instr.sliceAt 57 v32 (some (Go.Value.int Go.IntKind.i64 1)) none none) w (fun v33 w => -- locks.go:82
  un Try.prog R (nilS v1) w (fun v34 w => -- locks.go:82
  uv Try.prog R (Instr.fieldAt 59 v34 1) w (fun v35 w => -- locks.go:82
  uu Try.prog R (Instr.storeAt 57 v35 v33) w (fun w => -- locks.go:82
  Dr (fun S w => -- locks.go:83
  HN Try.prog (fun _ => True) (nilS v1) (fun v37 => -- locks.go:83
  HV Try.prog (fun _ => True) (Instr.fieldAt 59 v37 0) (fun v38 => -- locks.go:83
  HV Try.prog S (Instr.loadAt 35 v38) (fun v39 => -- locks.go:83
  HV Try.prog (fun _ => True) (Instr.fieldAt 62 v5 0) (fun v40 => -- locks.go:83
  HV Try.prog S (Instr.loadAt 3 v40) (fun v41 => -- locks.go:83
  HV Try.prog (fun _ => True) (Instr.fieldAt 62 v5 1) (fun v42 => -- locks.go:83
  HV Try.prog S (Instr.loadAt 3 v42) (fun v43 => -- locks.go:83
  uu Try.prog R (Instr.mapUpdate 35 v39 v41 v43) w (fun w => -- locks.go:83
  Dr (fun S w => -- locks.go:84
  HN Try.prog (fun _ => True) (nilS v0) (fun v45 => -- locks.go:84
  HV Try.prog (fun _ => True) (Instr.fieldAt 53 v45 1) (fun v46 => -- locks.go:84
  HV Try.prog S (Instr.loadAt 51 v46) (fun v47 => -- locks.go:84
  HV Try.prog (fun _ => True) (Instr.fieldAt 62 v5 0) (fun v48 => -- locks.go:84
  HV Try.prog S (Instr.loadAt 3 v48) (fun v49 => -- locks.go:84
  un Try.prog R (builtin Go.Builtin.delete #[51, 3] 0 #[false, false] #[v47, v49]) w (fun _ w => -- locks.go:84
  uv Try.prog R (Instr.fieldAt 62 v5 0) w (fun v51 w => -- locks.go:85
  uv Try.prog R (Instr.loadAt 3 v51) w (fun v52 w => -- locks.go:85
  uv Try.prog R (Instr.buildSlice 29 1 #[(0, v52)]) w (fun v53 w => -- locks.go:85
  un Try.prog R (builtin Go.Builtin.append #[29, 29] 29 #[false, false] #[v4, v53]) w (fun v54 w => -- locks.go:85
  K v54 w))))))))))) w))))))))) w))))))))))))))
theorem F32_s8_st (R : Ending → World → Prop) (K : Value → World → Prop) (X : Nat → Fr → World → Prop) (f : Fr) (w : World) (h : F32_s8_t R K (f 0) (f 1) (f 4) w) : wpE Try.prog F32_dc (resK Try.prog [.tmp 4] R) (panK R) (.seq (cL (cI (cR (cI (cI (cL (cR F32_b))))))) (.seq (cL (cR (cI (cR (cI (cI (cL (cR F32_b)))))))) (.seq (cL (cR (cR (cI (cR (cI (cI (cL (cR F32_b))))))))) (.seq (cL (cR (cR (cR (cI (cR (cI (cI (cL (cR F32_b)))))))))) (cR (cR (cR (cR (cI (cR (cI (cI (cL (cR F32_b)))))))))))))) (fun f w => K (f 4) w) X f w := Eq.mp (by kernel_rfl) h
def F32_s8 (R : Ending → World → Prop) (rec4 : Value → World → Prop) (v0 : Value) (v1 : Value) (v4 : Value) (w : World) : Prop :=
  F32_s8_t R (rec4) v0 v1 v4 w
noncomputable def F32_s8_c : Code := (.seq (.seq (cL (cI (cR (cI (cI (cL (cR F32_b))))))) (.seq (cL (cR (cI (cR (cI (cI (cL (cR F32_b)))))))) (.seq (cL (cR (cR (cI (cR (cI (cI (cL (cR F32_b))))))))) (.seq (cL (cR (cR (cR (cI (cR (cI (cI (cL (cR F32_b)))))))))) (cR (cR (cR (cR (cI (cR (cI (cI (cL (cR F32_b)))))))))))))) .skip)
theorem F32_s8_ok (R : Ending → World → Prop) (rec4 : Value → World → Prop) : ∀ f w, ((fun f w => F32_s8 R rec4 (f 0) (f 1) (f 4) w)) f w → wpE Try.prog F32_dc (resK Try.prog [.tmp 4] R) (panK R) F32_s8_c (fun f w => rec4 (f 4) w) (kxB 1 ((fun f w => rec4 (f 4) w)) (kxB 0 ((fun f w => F32_s3 R (f 4) w)) noX)) f w :=
  fun f w h => cut (.seq (cL (cI (cR (cI (cI (cL (cR F32_b))))))) (.seq (cL (cR (cI (cR (cI (cI (cL (cR F32_b)))))))) (.seq (cL (cR (cR (cI (cR (cI (cI (cL (cR F32_b))))))))) (.seq (cL (cR (cR (cR (cI (cR (cI (cI (cL (cR F32_b)))))))))) (cR (cR (cR (cR (cI (cR (cI (cI (cL (cR F32_b)))))))))))))) .skip (K := (fun f w => rec4 (f 4) w)) (fun f w h => skip_ok h) f w (F32_s8_st R (rec4) _ f w h)
noncomputable def F32_s7_c : Code := (.seq (cR (cI (cI (cL (cR F32_b))))) .skip)
theorem F32_s7_e (R : Ending → World → Prop) (K : Fr → World → Prop) (X : Nat → Fr → World → Prop) (f : Fr) (w : World) (h : wpE Try.prog F32_dc (resK Try.prog [.tmp 4] R) (panK R) F32_s8_c K (kxB 1 K X) f w) : wpE Try.prog F32_dc (resK Try.prog [.tmp 4] R) (panK R) (cR (cI (cI (cL (cR F32_b))))) K X f w := Eq.mp (by kernel_rfl) h
theorem F32_s7_ok (R : Ending → World → Prop) (rec4 : Value → World → Prop) : ∀ f w, ((fun f w => F32_s8 R rec4 (f 0) (f 1) (f 4) w)) f w → wpE Try.prog F32_dc (resK Try.prog [.tmp 4] R) (panK R) F32_s7_c (fun f w => rec4 (f 4) w) (kxB 0 ((fun f w => F32_s3 R (f 4) w)) noX) f w :=
  fun f w h => cut (cR (cI (cI (cL (cR F32_b))))) .skip (K := (fun f w => rec4 (f 4) w)) (fun f w h => skip_ok h) f w (F32_s7_e R _ _ f w ((F32_s8_ok R rec4) f w h))
def F32_s6 (R : Ending → World → Prop) (rec4 : Value → World → Prop) (v0 : Value) (v1 : Value) (v4 : Value) (v21 : Value) (w : World) : Prop :=
  Bc v21
    (F32_s8 R rec4 v0 v1 v4 w)
    (F32_s3 R v4 w)
noncomputable def F32_s6_c : Code := (.seq (cR (cL (cI (cI (cL (cR F32_b)))))) F32_s7_c)
theorem F32_s6_e (R : Ending → World → Prop) (K : Fr → World → Prop) (X : Nat → Fr → World → Prop) (f : Fr) (w : World) (h : Bc (f 21) (wpE Try.prog F32_dc (resK Try.prog [.tmp 4] R) (panK R) .skip K X f w) (wpE Try.prog F32_dc (resK Try.prog [.tmp 4] R) (panK R) (.exit 0) K X f w)) : (wpE Try.prog F32_dc (resK Try.prog [.tmp 4] R) (panK R) (cR (cL (cI (cI (cL (cR F32_b)))))) K X f w) := Eq.mp (by kernel_rfl) h
theorem F32_s6_ok (R : Ending → World → Prop) (rec4 : Value → World → Prop) : ∀ f w, ((fun f w => F32_s6 R rec4 (f 0) (f 1) (f 4) (f 21) w)) f w → wpE Try.prog F32_dc (resK Try.prog [.tmp 4] R) (panK R) F32_s6_c (fun f w => rec4 (f 4) w) (kxB 0 ((fun f w => F32_s3 R (f 4) w)) noX) f w :=
  fun f w h => cut (cR (cL (cI (cI (cL (cR F32_b)))))) F32_s7_c (K := (fun f w => F32_s8 R rec4 (f 0) (f 1) (f 4) w)) (F32_s7_ok R rec4) f w (F32_s6_e R _ _ f w (Bc_imp (x' := (wpE Try.prog F32_dc (resK Try.prog [.tmp 4] R) (panK R) .skip (fun f w => F32_s8 R rec4 (f 0) (f 1) (f 4) w) (kxB 0 ((fun f w => F32_s3 R (f 4) w)) noX) f w)) (y' := (wpE Try.prog F32_dc (resK Try.prog [.tmp 4] R) (panK R) (.exit 0) (fun f w => F32_s8 R rec4 (f 0) (f 1) (f 4) w) (kxB 0 ((fun f w => F32_s3 R (f 4) w)) noX) f w)) ((fun f w h => skip_ok h) f w) ((fun f w h => exit_hit h) f w) h))
def F32_s5_t (R : Ending → World → Prop) (K : Value → Value → Value → Value → World → Prop) (v0 : Value) (v1 : Value) (v4 : Value) (w : World) : Prop :=
  un Try.prog R (nilS v1) w (fun v7 w => -- locks.go:80
  uv Try.prog R (Instr.fieldAt 59 v7 1) w (fun v8 w => -- locks.go:80
  uv Try.prog R (Instr.loadAt 57 v8) w (fun v9 w => -- locks.go:80
  un Try.prog R (builtin Go.Builtin.len #[57] 3 #[false] #[v9]) w (fun v10 w => -- locks.go:80
  uv Try.prog R (binS Go.BinOp.gtr 3 (.tmp 10) (.const (Go.Value.int Go.IntKind.i64 0)) v10 (Go.Value.int Go.IntKind.i64 0)) w (fun v11 w => -- locks.go:80
  Gk v11 true (fun k => k v1 w) w (fun v13 w => -- locks.go:80
  Gk v11 true (fun k => k v1 w) w (fun v14 w => -- locks.go:80
  Gk v11 true (fun k => un Try.prog R (nilS v14) w k) w (fun v15 w => -- locks.go:80
  Gk v11 true (fun k => uv Try.prog R (Instr.fieldAt 59 v15 1) w k) w (fun v16 w => -- locks.go:80
  Gk v11 true (fun k => uv Try.prog R (Instr.loadAt 57 v16) w k) w (fun v17 w => -- locks.go:80
  Gk v11 true (fun k => uv Try.prog R (Instr.indexAt 57 v17 (Go.Value.int Go.IntKind.i64 0)) w k) w (fun v18 w => -- locks.go:80
  Gk v11 true (fun k => uv Try.prog R (Instr.loadAt 62 v18) w k) w (fun v19 w => -- locks.go:80
  Gk v11 true (fun k => un Try.prog R (callFunc 24 #[v13, v19]) w k) w (fun v20 w => -- locks.go:80
  uv Try.prog R (pickS v11 v20 (Go.Value.bool false)) w (fun v21 w => -- locks.go:80
  K v0 v1 v4 v21 w))))))))))))))
theorem F32_s5_st (R : Ending → World → Prop) (K : Value → Value → Value → Value → World → Prop) (X : Nat → Fr → World → Prop) (f : Fr) (w : World) (h : F32_s5_t R K (f 0) (f 1) (f 4) w) : wpE Try.prog F32_dc (resK Try.prog [.tmp 4] R) (panK R) (cL (cL (cI (cI (cL (cR F32_b)))))) (fun f w => K (f 0) (f 1) (f 4) (f 21) w) X f w := Eq.mp (by kernel_rfl) h
def F32_s5 (R : Ending → World → Prop) (rec4 : Value → World → Prop) (v0 : Value) (v1 : Value) (v4 : Value) (w : World) : Prop :=
  F32_s5_t R (F32_s6 R rec4) v0 v1 v4 w
noncomputable def F32_s5_c : Code := (.seq (cL (cL (cI (cI (cL (cR F32_b)))))) F32_s6_c)
theorem F32_s5_ok (R : Ending → World → Prop) (rec4 : Value → World → Prop) : ∀ f w, ((fun f w => F32_s5 R rec4 (f 0) (f 1) (f 4) w)) f w → wpE Try.prog F32_dc (resK Try.prog [.tmp 4] R) (panK R) F32_s5_c (fun f w => rec4 (f 4) w) (kxB 0 ((fun f w => F32_s3 R (f 4) w)) noX) f w :=
  fun f w h => cut (cL (cL (cI (cI (cL (cR F32_b)))))) F32_s6_c (K := (fun f w => F32_s6 R rec4 (f 0) (f 1) (f 4) (f 21) w)) (F32_s6_ok R rec4) f w (F32_s5_st R (F32_s6 R rec4) _ f w h)
def F32_s4 (R : Ending → World → Prop) (v0 : Value) (v1 : Value) (v4 : Value) (w : World) : Prop :=
  Lp1 (fun rec4 v4 w => F32_s5 R rec4 v0 v1 v4 w) v4 w
theorem F32_s4_e (R : Ending → World → Prop) (K : Fr → World → Prop) (X : Nat → Fr → World → Prop) (f : Fr) (w : World) (h : wpE Try.prog F32_dc (resK Try.prog [.tmp 4] R) (panK R) (.loop (cI (cI (cL (cR F32_b))))) K X f w) : wpE Try.prog F32_dc (resK Try.prog [.tmp 4] R) (panK R) (cI (cL (cR F32_b))) K X f w := Eq.mp (by kernel_rfl) h
theorem F32_s4b_e (R : Ending → World → Prop) (K : Fr → World → Prop) (X : Nat → Fr → World → Prop) (f : Fr) (w : World) (h : wpE Try.prog F32_dc (resK Try.prog [.tmp 4] R) (panK R) F32_s5_c K X f w) : wpE Try.prog F32_dc (resK Try.prog [.tmp 4] R) (panK R) (cI (cI (cL (cR F32_b)))) K X f w := Eq.mp (by kernel_rfl) h
theorem F32_s4_ok (R : Ending → World → Prop) : ∀ f w, ((fun f w => F32_s4 R (f 0) (f 1) (f 4) w)) f w → wpE Try.prog F32_dc (resK Try.prog [.tmp 4] R) (panK R) (cI (cL (cR F32_b))) (fun f w => F32_s3 R (f 4) w) (kxB 0 ((fun f w => F32_s3 R (f 4) w)) noX) f w :=
  fun f w h => F32_s4_e R _ _ f w (loop1_ok (P := Try.prog) (dc := F32_dc) (kr := (resK Try.prog [.tmp 4] R)) (pan := panK R) (cI (cI (cL (cR F32_b)))) (kn := (fun f w => F32_s3 R (f 4) w)) (kx := (kxB 0 ((fun f w => F32_s3 R (f 4) w)) noX)) (s0 := 4) (fun rec4 v4 w => F32_s5 R rec4 (f 0) (f 1) v4 w) f (fun rec4 f' w' hf h' => F32_s4b_e R _ _ f' w' ((F32_s5_ok R rec4) f' w' (by simp only [hf 0 (by kernel_rfl), hf 1 (by kernel_rfl)]; exact h'))) w h)
noncomputable def F32_s2_c : Code := (.seq (cL (cR F32_b)) F32_s3_c)
theorem F32_s2_e (R : Ending → World → Prop) (K : Fr → World → Prop) (X : Nat → Fr → World → Prop) (f : Fr) (w : World) (h : wpE Try.prog F32_dc (resK Try.prog [.tmp 4] R) (panK R) (cI (cL (cR F32_b))) K (kxB 0 K X) f w) : wpE Try.prog F32_dc (resK Try.prog [.tmp 4] R) (panK R) (cL (cR F32_b)) K X f w := Eq.mp (by kernel_rfl) h
theorem F32_s2_ok (R : Ending → World → Prop) : ∀ f w, ((fun f w => F32_s4 R (f 0) (f 1) (f 4) w)) f w → wpE Try.prog F32_dc (resK Try.prog [.tmp 4] R) (panK R) F32_s2_c (resK Try.prog [.tmp 4] R) noX f w :=
  fun f w h => cut (cL (cR F32_b)) F32_s3_c (K := (fun f w => F32_s3 R (f 4) w)) (F32_s3_ok R) f w (F32_s2_e R _ _ f w ((F32_s4_ok R) f w h))
def F32_s1_t (R : Ending → World → Prop) (K : Value → Value → Value → World → Prop) (v0 : Value) (v1 : Value) (w : World) : Prop :=
  K v0 v1 (Go.Value.slice none 0 0) w
theorem F32_s1_st (R : Ending → World → Prop) (K : Value → Value → Value → World → Prop) (X : Nat → Fr → World → Prop) (f : Fr) (w : World) (h : F32_s1_t R K (f 0) (f 1) w) : wpE Try.prog F32_dc (resK Try.prog [.tmp 4] R) (panK R) (cL F32_b) (fun f w => K (f 0) (f 1) (f 4) w) X f w := Eq.mp (by kernel_rfl) h
def F32_s1 (R : Ending → World → Prop) (v0 : Value) (v1 : Value) (w : World) : Prop :=
  F32_s1_t R (F32_s4 R) v0 v1 w
noncomputable def F32_s1_c : Code := (.seq (cL F32_b) F32_s2_c)
theorem F32_s1_ok (R : Ending → World → Prop) : ∀ f w, ((fun f w => F32_s1 R (f 0) (f 1) w)) f w → wpE Try.prog F32_dc (resK Try.prog [.tmp 4] R) (panK R) F32_s1_c (resK Try.prog [.tmp 4] R) noX f w :=
  fun f w h => cut (cL F32_b) F32_s2_c (K := (fun f w => F32_s4 R (f 0) (f 1) (f 4) w)) (F32_s2_ok R) f w (F32_s1_st R (F32_s4 R) _ f w h)
theorem F32_all_e (R : Ending → World → Prop) (K : Fr → World → Prop) (X : Nat → Fr → World → Prop) (f : Fr) (w : World) (h : wpE Try.prog F32_dc (resK Try.prog [.tmp 4] R) (panK R) F32_s1_c K X f w) : wpE Try.prog F32_dc (resK Try.prog [.tmp 4] R) (panK R) F32_b K X f w := Eq.mp (by kernel_rfl) h
theorem F32_calls (R : Ending → World → Prop) (v0 : Value) (v1 : Value) (w : World) (h : F32_s1 R v0 v1 w) : Calls Try.prog 32 #[v0, v1] w R :=
  calls_of_wpE (dc := F32_dc) (args := [v0, v1]) hmixed Try.func32 (c := F32_b) rfl (rs := [.tmp 4]) rfl (by kernel_rfl) (Nat.le_of_ble_eq_true (by kernel_rfl)) (F32_all_e R _ _ _ w ((F32_s1_ok R) (initFr [v0, v1]) w h))

/-! ### (*hasp/locks.Table).Locks -/
noncomputable def F13_b : Code := bodyOf Try.f13
def F13_dc : Nat → List (Nat × Bool)
  | _ => []
def F13_s3_t (R : Ending → World → Prop) (v2 : Value) (w : World) : Prop :=
  R (.returned v2) w
theorem F13_s3_st (R : Ending → World → Prop) (X : Nat → Fr → World → Prop) (f : Fr) (w : World) (h : F13_s3_t R (f 2) w) : wpE Try.prog F13_dc (resK Try.prog [.tmp 2] R) (panK R) (cL (cR (cR F13_b))) (resK Try.prog [.tmp 2] R) X f w := Eq.mp (by kernel_rfl) h
def F13_s3 (R : Ending → World → Prop) (v2 : Value) (w : World) : Prop :=
  F13_s3_t R v2 w
noncomputable def F13_s3_c : Code := (.seq (cL (cR (cR F13_b))) .ret)
theorem F13_s3_ok (R : Ending → World → Prop) : ∀ f w, ((fun f w => F13_s3 R (f 2) w)) f w → wpE Try.prog F13_dc (resK Try.prog [.tmp 2] R) (panK R) F13_s3_c (resK Try.prog [.tmp 2] R) noX f w :=
  fun f w h => cut (cL (cR (cR F13_b))) .ret (K := (resK Try.prog [.tmp 2] R)) (fun f w h => ret_ok h) f w (F13_s3_st R _ f w h)
def F13_s8_t (R : Ending → World → Prop) (K : Value → Value → World → Prop) (v0 : Value) (v2 : Value) (v13 : Value) (v14 : Value) (v15 : Value) (w : World) : Prop :=
  uv Try.prog R (binS Go.BinOp.add 3 (.tmp 15) (.const (Go.Value.int Go.IntKind.i64 1)) v15 (Go.Value.int Go.IntKind.i64 1)) w (fun v49 w => -- locks.go:134
  K v2 v49 w)
theorem F13_s8_st (R : Ending → World → Prop) (K : Value → Value → World → Prop) (X : Nat → Fr → World → Prop) (f : Fr) (w : World) (h : F13_s8_t R K (f 0) (f 2) (f 13) (f 14) (f 15) w) : wpE Try.prog F13_dc (resK Try.prog [.tmp 2] R) (panK R) (cR (cR (cR (cI (cI (cR (cL (cR F13_b)))))))) (fun f w => K (f 2) (f 15) w) X f w := Eq.mp (by kernel_rfl) h
def F13_s8 (R : Ending → World → Prop) (rec4 : Value → Value → World → Prop) (v0 : Value) (v2 : Value) (v13 : Value) (v14 : Value) (v15 : Value) (w : World) : Prop :=
  F13_s8_t R (rec4) v0 v2 v13 v14 v15 w
noncomputable def F13_s8_c : Code := (.seq (cR (cR (cR (cI (cI (cR (cL (cR F13_b)))))))) .skip)
theorem F13_s8_ok (R : Ending → World → Prop) (rec4 : Value → Value → World → Prop) : ∀ f w, ((fun f w => F13_s8 R rec4 (f 0) (f 2) (f 13) (f 14) (f 15) w)) f w → wpE Try.prog F13_dc (resK Try.prog [.tmp 2] R) (panK R) F13_s8_c (fun f w => rec4 (f 2) (f 15) w) (kxB 0 ((fun f w => F13_s3 R (f 2) w)) noX) f w :=
  fun f w h => cut (cR (cR (cR (cI (cI (cR (cL (cR F13_b)))))))) .skip (K := (fun f w => rec4 (f 2) (f 15) w)) (fun f w h => skip_ok h) f w (F13_s8_st R (rec4) _ f w h)
def F13_s15_t (R : Ending → World → Prop) (K : Value → Value → World → Prop) (v0 : Value) (v2 : Value) (v4 : Value) (v5 : Value) (v13 : Value) (v14 : Value) (v15 : Value) (v30 : Value) (v31 : Value) (v32 : Value) (w : World) : Prop :=
  uv Try.prog R (binS Go.BinOp.add 3 (.tmp 32) (.const (Go.Value.int Go.IntKind.i64 1)) v32 (Go.Value.int Go.IntKind.i64 1)) w (fun v48 w => -- locks.go:136
  K v2 v48 w)
theorem F13_s15_st (R : Ending → World → Prop) (K : Value → Value → World → Prop) (X : Nat → Fr → World → Prop) (f : Fr) (w : World) (h : F13_s15_t R K (f 0) (f 2) (f 4) (f 5) (f 13) (f 14) (f 15) (f 30) (f 31) (f 32) w) : wpE Try.prog F13_dc (resK Try.prog [.tmp 2] R) (panK R) (cR (cR (cR (cI (cI (cR (cR (cR (cI (cL (cR (cR (cI (cI (cR (cL (cR F13_b))))))))))))))))) (fun f w => K (f 2) (f 32) w) X f w := Eq.mp (by kernel_rfl) h
def F13_s15 (R : Ending → World → Prop) (rec4 : Value → Value → World → Prop) (rec11 : Value → Value → World → Prop) (v0 : Value) (v2 : Value) (v4 : Value) (v5 : Value) (v13 : Value) (v14 : Value) (v15 : Value) (v30 : Value) (v31 : Value) (v32 : Value) (w : World) : Prop :=
  F13_s15_t R (rec11) v0 v2 v4 v5 v13 v14 v15 v30 v31 v32 w
noncomputable def F13_s15_c : Code := (.seq (cR (cR (cR (cI (cI (cR (cR (cR (cI (cL (cR (cR (cI (cI (cR (cL (cR F13_b))))))))))))))))) .skip)
theorem F13_s15_ok (R : Ending → World → Prop) (rec4 : Value → Value → World → Prop) (rec11 : Value → Value → World → Prop) : ∀ f w, ((fun f w => F13_s15 R rec4 rec11 (f 0) (f 2) (f 4) (f 5) (f 13) (f 14) (f 15) (f 30) (f 31) (f 32) w)) f w → wpE Try.prog F13_dc (resK Try.prog [.tmp 2] R) (panK R) F13_s15_c (fun f w => rec11 (f 2) (f 32) w) (kxB 2 ((fun f w => F13_s8 R rec4 (f 0) (f 2) (f 13) (f 14) (f 15) w)) (kxB 1 ((fun f w => F13_s8 R rec4 (f 0) (f 2) (f 13) (f 14) (f 15) w)) (kxB 0 ((fun f w => F13_s3 R (f 2) w)) noX))) f w :=
  fun f w h => cut (cR (cR (cR (cI (cI (cR (cR (cR (cI (cL (cR (cR (cI (cI (cR (cL (cR F13_b))))))))))))))))) .skip (K := (fun f w => rec11 (f 2) (f 32) w)) (fun f w h => skip_ok h) f w (F13_s15_st R (rec11) _ f w h)
def F13_s16_t (R : Ending → World → Prop) (K : Value → Value → Value → Value → Value → Value → Value → Value → Value → Value → World → Prop) (v0 : Value) (v2 : Value) (v4 : Value) (v5 : Value) (v13 : Value) (v14 : Value) (v15 : Value) (v30 : Value) (v31 : Value) (v32 : Value) (w : World) : Prop :=
  uv Try.prog R (Instr.indexAt 29 v30 v32) w (fun v34 w => -- locks.go:136
  uv Try.prog R (Instr.loadAt 3 v34) w (fun v35 w => -- locks.go:136
  un Try.prog R (nilS v5) w (fun v40 w => -- locks.go:137
  uv Try.prog R (Instr.fieldAt 59 v40 0) w (fun v41 w => -- locks.go:137
  uv Try.prog R (Instr.loadAt 35 v41) w (fun v42 w => -- locks.go:137
  uv Try.prog R (Instr.lookup 35 v42 v35 false) w (fun v44 w => -- locks.go:137
  uv Try.prog R (Instr.build 37 #[(0, v35), (1, v4), (2, v44)]) w (fun v45 w => -- locks.go:137
  uv Try.prog R (Instr.buildSlice 32 1 #[(0, v45)]) w (fun v46 w => -- locks.go:137
  un Try.prog R (builtin Go.Builtin.append #[32, 32] 32 #[false, false] #[v2, v46]) w (fun v47 w => -- locks.go:137
  K v0 v47 v4 v5 v13 v14 v15 v30 v31 v32 w)))))))))
theorem F13_s16_st (R : Ending → World → Prop) (K : Value → Value → Value → Value → Value → Value → Value → Value → Value → Value → World → Prop) (X : Nat → Fr → World → Prop) (f : Fr) (w : World) (h : F13_s16_t R K (f 0) (f 2) (f 4) (f 5) (f 13) (f 14) (f 15) (f 30) (f 31) (f 32) w) : wpE Try.prog F13_dc (resK Try.prog [.tmp 2] R) (panK R) (.seq (cL (cI (cL (cR (cR (cI (cI (cR (cR (cR (cI (cL (cR (cR (cI (cI (cR (cL (cR F13_b))))))))))))))))))) (cR (cI (cL (cR (cR (cI (cI (cR (cR (cR (cI (cL (cR (cR (cI (cI (cR (cL (cR F13_b)))))))))))))))))))) (fun f w => K (f 0) (f 2) (f 4) (f 5) (f 13) (f 14) (f 15) (f 30) (f 31) (f 32) w) X f w := Eq.mp (by kernel_rfl) h
def F13_s16 (R : Ending → World → Prop) (rec4 : Value → Value → World → Prop) (rec11 : Value → Value → World → Prop) (v0 : Value) (v2 : Value) (v4 : Value) (v5 : Value) (v13 : Value) (v14 : Value) (v15 : Value) (v30 : Value) (v31 : Value) (v32 : Value) (w : World) : Prop :=
  F13_s16_t R (F13_s15 R rec4 rec11) v0 v2 v4 v5 v13 v14 v15 v30 v31 v32 w
noncomputable def F13_s16_c : Code := (.seq (.seq (cL (cI (cL (cR (cR (cI (cI (cR (cR (cR (cI (cL (cR (cR (cI (cI (cR (cL (cR F13_b))))))))))))))))))) (cR (cI (cL (cR (cR (cI (cI (cR (cR (cR (cI (cL (cR (cR (cI (cI (cR (cL (cR F13_b)))))))))))))))))))) .skip)
theorem F13_s16_ok (R : Ending → World → Prop) (rec4 : Value → Value → World → Prop) (rec11 : Value → Value → World → Prop) : ∀ f w, ((fun f w => F13_s16 R rec4 rec11 (f 0) (f 2) (f 4) (f 5) (f 13) (f 14) (f 15) (f 30) (f 31) (f 32) w)) f w → wpE Try.prog F13_dc (resK Try.prog [.tmp 2] R) (panK R) F13_s16_c (fun f w => F13_s15 R rec4 rec11 (f 0) (f 2) (f 4) (f 5) (f 13) (f 14) (f 15) (f 30) (f 31) (f 32) w) (kxB 3 ((fun f w => F13_s15 R rec4 rec11 (f 0) (f 2) (f 4) (f 5) (f 13) (f 14) (f 15) (f 30) (f 31) (f 32) w)) (kxB 2 ((fun f w => F13_s8 R rec4 (f 0) (f 2) (f 13) (f 14) (f 15) w)) (kxB 1 ((fun f w => F13_s8 R rec4 (f 0) (f 2) (f 13) (f 14) (f 15) w)) (kxB 0 ((fun f w => F13_s3 R (f 2) w)) noX)))) f w :=
  fun f w h => cut (.seq (cL (cI (cL (cR (cR (cI (cI (cR (cR (cR (cI (cL (cR (cR (cI (cI (cR (cL (cR F13_b))))))))))))))))))) (cR (cI (cL (cR (cR (cI (cI (cR (cR (cR (cI (cL (cR (cR (cI (cI (cR (cL (cR F13_b)))))))))))))))))))) .skip (K := (fun f w => F13_s15 R rec4 rec11 (f 0) (f 2) (f 4) (f 5) (f 13) (f 14) (f 15) (f 30) (f 31) (f 32) w)) (fun f w h => skip_ok h) f w (F13_s16_st R (F13_s15 R rec4 rec11) _ f w h)
noncomputable def F13_s14_c : Code := (.seq (cL (cR (cR (cI (cI (cR (cR (cR (cI (cL (cR (cR (cI (cI (cR (cL (cR F13_b))))))))))))))))) F13_s15_c)
theorem F13_s14_e (R : Ending → World → Prop) (K : Fr → World → Prop) (X : Nat → Fr → World → Prop) (f : Fr) (w : World) (h : wpE Try.prog F13_dc (resK Try.prog [.tmp 2] R) (panK R) F13_s16_c K (kxB 3 K X) f w) : wpE Try.prog F13_dc (resK Try.prog [.tmp 2] R) (panK R) (cL (cR (cR (cI (cI (cR (cR (cR (cI (cL (cR (cR (cI (cI (cR (cL (cR F13_b))))))))))))))))) K X f w := Eq.mp (by kernel_rfl) h
theorem F13_s14_ok (R : Ending → World → Prop) (rec4 : Value → Value → World → Prop) (rec11 : Value → Value → World → Prop) : ∀ f w, ((fun f w => F13_s16 R rec4 rec11 (f 0) (f 2) (f 4) (f 5) (f 13) (f 14) (f 15) (f 30) (f 31) (f 32) w)) f w → wpE Try.prog F13_dc (resK Try.prog [.tmp 2] R) (panK R) F13_s14_c (fun f w => rec11 (f 2) (f 32) w) (kxB 2 ((fun f w => F13_s8 R rec4 (f 0) (f 2) (f 13) (f 14) (f 15) w)) (kxB 1 ((fun f w => F13_s8 R rec4 (f 0) (f 2) (f 13) (f 14) (f 15) w)) (kxB 0 ((fun f w => F13_s3 R (f 2) w)) noX))) f w :=
  fun f w h => cut (cL (cR (cR (cI (cI (cR (cR (cR (cI (cL (cR (cR (cI (cI (cR (cL (cR F13_b))))))))))))))))) F13_s15_c (K := (fun f w => F13_s15 R rec4 rec11 (f 0) (f 2) (f 4) (f 5) (f 13) (f 14) (f 15) (f 30) (f 31) (f 32) w)) (F13_s15_ok R rec4 rec11) f w (F13_s14_e R _ _ f w ((F13_s16_ok R rec4 rec11) f w h))
def F13_s13 (R : Ending → World → Prop) (rec4 : Value → Value → World → Prop) (rec11 : Value → Value → World → Prop) (v0 : Value) (v2 : Value) (v4 : Value) (v5 : Value) (v13 : Value) (v14 : Value) (v15 : Value) (v30 : Value) (v31 : Value) (v32 : Value) (v33 : Value) (w : World) : Prop :=
  Bc v33
    (F13_s16 R rec4 rec11 v0 v2 v4 v5 v13 v14 v15 v30 v31 v32 w)
    (F13_s8 R rec4 v0 v2 v13 v14 v15 w)
noncomputable def F13_s13_c : Code := (.seq (cL (cR (cI (cI (cR (cR (cR (cI (cL (cR (cR (cI (cI (cR (cL (cR F13_b)))))))))))))))) F13_s14_c)
theorem F13_s13_e (R : Ending → World → Prop) (K : Fr → World → Prop) (X : Nat → Fr → World → Prop) (f : Fr) (w : World) (h : Bc (f 33) (wpE Try.prog F13_dc (resK Try.prog [.tmp 2] R) (panK R) .skip K X f w) (wpE Try.prog F13_dc (resK Try.prog [.tmp 2] R) (panK R) (.exit 2) K X f w)) : (wpE Try.prog F13_dc (resK Try.prog [.tmp 2] R) (panK R) (cL (cR (cI (cI (cR (cR (cR (cI (cL (cR (cR (cI (cI (cR (cL (cR F13_b)))))))))))))))) K X f w) := Eq.mp (by kernel_rfl) h
theorem F13_s13_ok (R : Ending → World → Prop) (rec4 : Value → Value → World → Prop) (rec11 : Value → Value → World → Prop) : ∀ f w, ((fun f w => F13_s13 R rec4 rec11 (f 0) (f 2) (f 4) (f 5) (f 13) (f 14) (f 15) (f 30) (f 31) (f 32) (f 33) w)) f w → wpE Try.prog F13_dc (resK Try.prog [.tmp 2] R) (panK R) F13_s13_c (fun f w => rec11 (f 2) (f 32) w) (kxB 2 ((fun f w => F13_s8 R rec4 (f 0) (f 2) (f 13) (f 14) (f 15) w)) (kxB 1 ((fun f w => F13_s8 R rec4 (f 0) (f 2) (f 13) (f 14) (f 15) w)) (kxB 0 ((fun f w => F13_s3 R (f 2) w)) noX))) f w :=
  fun f w h => cut (cL (cR (cI (cI (cR (cR (cR (cI (cL (cR (cR (cI (cI (cR (cL (cR F13_b)))))))))))))))) F13_s14_c (K := (fun f w => F13_s16 R rec4 rec11 (f 0) (f 2) (f 4) (f 5) (f 13) (f 14) (f 15) (f 30) (f 31) (f 32) w)) (F13_s14_ok R rec4 rec11) f w (F13_s13_e R _ _ f w (Bc_imp (x' := (wpE Try.prog F13_dc (resK Try.prog [.tmp 2] R) (panK R) .skip (fun f w => F13_s16 R rec4 rec11 (f 0) (f 2) (f 4) (f 5) (f 13) (f 14) (f 15) (f 30) (f 31) (f 32) w) (kxB 2 ((fun f w => F13_s8 R rec4 (f 0) (f 2) (f 13) (f 14) (f 15) w)) (kxB 1 ((fun f w => F13_s8 R rec4 (f 0) (f 2) (f 13) (f 14) (f 15) w)) (kxB 0 ((fun f w => F13_s3 R (f 2) w)) noX))) f w)) (y' := (wpE Try.prog F13_dc (resK Try.prog [.tmp 2] R) (panK R) (.exit 2) (fun f w => F13_s16 R rec4 rec11 (f 0) (f 2) (f 4) (f 5) (f 13) (f 14) (f 15) (f 30) (f 31) (f 32) w) (kxB 2 ((fun f w => F13_s8 R rec4 (f 0) (f 2) (f 13) (f 14) (f 15) w)) (kxB 1 ((fun f w => F13_s8 R rec4 (f 0) (f 2) (f 13) (f 14) (f 15) w)) (kxB 0 ((fun f w => F13_s3 R (f 2) w)) noX))) f w)) ((fun f w h => skip_ok h) f w) ((fun f w h => exit_hit h) f w) h))
def F13_s12_t (R : Ending → World → Prop) (K : Value → Value → Value → Value → Value → Value → Value → Value → Value → Value → Value → World → Prop) (v0 : Value) (v2 : Value) (v4 : Value) (v5 : Value) (v13 : Value) (v14 : Value) (v15 : Value) (v30 : Value) (v31 : Value) (v32 : Value) (w : World) : Prop :=
  uv Try.prog R (binS Go.BinOp.lss 3 (.tmp 32) (.tmp 31) v32 v31) w (fun v33 w => -- locks.go:136
  K v0 v2 v4 v5 v13 v14 v15 v30 v31 v32 v33 w)
theorem F13_s12_st (R : Ending → World → Prop) (K : Value → Value → Value → Value → Value → Value → Value → Value → Value → Value → Value → World → Prop) (X : Nat → Fr → World → Prop) (f : Fr) (w : World) (h : F13_s12_t R K (f 0) (f 2) (f 4) (f 5) (f 13) (f 14) (f 15) (f 30) (f 31) (f 32) w) : wpE Try.prog F13_dc (resK Try.prog [.tmp 2] R) (panK R) (cL (cI (cI (cR (cR (cR (cI (cL (cR (cR (cI (cI (cR (cL (cR F13_b))))))))))))))) (fun f w => K (f 0) (f 2) (f 4) (f 5) (f 13) (f 14) (f 15) (f 30) (f 31) (f 32) (f 33) w) X f w := Eq.mp (by kernel_rfl) h
def F13_s12 (R : Ending → World → Prop) (rec4 : Value → Value → World → Prop) (rec11 : Value → Value → World → Prop) (v0 : Value) (v2 : Value) (v4 : Value) (v5 : Value) (v13 : Value) (v14 : Value) (v15 : Value) (v30 : Value) (v31 : Value) (v32 : Value) (w : World) : Prop :=
  F13_s12_t R (F13_s13 R rec4 rec11) v0 v2 v4 v5 v13 v14 v15 v30 v31 v32 w
noncomputable def F13_s12_c : Code := (.seq (cL (cI (cI (cR (cR (cR (cI (cL (cR (cR (cI (cI (cR (cL (cR F13_b))))))))))))))) F13_s13_c)
theorem F13_s12_ok (R : Ending → World → Prop) (rec4 : Value → Value → World → Prop) (rec11 : Value → Value → World → Prop) : ∀ f w, ((fun f w => F13_s12 R rec4 rec11 (f 0) (f 2) (f 4) (f 5) (f 13) (f 14) (f 15) (f 30) (f 31) (f 32) w)) f w → wpE Try.prog F13_dc (resK Try.prog [.tmp 2] R) (panK R) F13_s12_c (fun f w => rec11 (f 2) (f 32) w) (kxB 2 ((fun f w => F13_s8 R rec4 (f 0) (f 2) (f 13) (f 14) (f 15) w)) (kxB 1 ((fun f w => F13_s8 R rec4 (f 0) (f 2) (f 13) (f 14) (f 15) w)) (kxB 0 ((fun f w => F13_s3 R (f 2) w)) noX))) f w :=
  fun f w h => cut (cL (cI (cI (cR (cR (cR (cI (cL (cR (cR (cI (cI (cR (cL (cR F13_b))))))))))))))) F13_s13_c (K := (fun f w => F13_s13 R rec4 rec11 (f 0) (f 2) (f 4) (f 5) (f 13) (f 14) (f 15) (f 30) (f 31) (f 32) (f 33) w)) (F13_s13_ok R rec4 rec11) f w (F13_s12_st R (F13_s13 R rec4 rec11) _ f w h)
def F13_s11 (R : Ending → World → Prop) (rec4 : Value → Value → World → Prop) (v0 : Value) (v2 : Value) (v4 : Value) (v5 : Value) (v13 : Value) (v14 : Value) (v15 : Value) (v30 : Value) (v31 : Value) (v32 : Value) (w : World) : Prop :=
  Lp2 (fun rec11 v2 v32 w => F13_s12 R rec4 rec11 v0 v2 v4 v5 v13 v14 v15 v30 v31 v32 w) v2 v32 w
theorem F13_s11_e (R : Ending → World → Prop) (K : Fr → World → Prop) (X : Nat → Fr → World → Prop) (f : Fr) (w : World) (h : wpE Try.prog F13_dc (resK Try.prog [.tmp 2] R) (panK R) (.loop (cI (cI (cR (cR (cR (cI (cL (cR (cR (cI (cI (cR (cL (cR F13_b))))))))))))))) K X f w) : wpE Try.prog F13_dc (resK Try.prog [.tmp 2] R) (panK R) (cI (cR (cR (cR (cI (cL (cR (cR (cI (cI (cR (cL (cR F13_b))))))))))))) K X f w := Eq.mp (by kernel_rfl) h
theorem F13_s11b_e (R : Ending → World → Prop) (K : Fr → World → Prop) (X : Nat → Fr → World → Prop) (f : Fr) (w : World) (h : wpE Try.prog F13_dc (resK Try.prog [.tmp 2] R) (panK R) F13_s12_c K X f w) : wpE Try.prog F13_dc (resK Try.prog [.tmp 2] R) (panK R) (cI (cI (cR (cR (cR (cI (cL (cR (cR (cI (cI (cR (cL (cR F13_b)))))))))))))) K X f w := Eq.mp (by kernel_rfl) h
theorem F13_s11_ok (R : Ending → World → Prop) (rec4 : Value → Value → World → Prop) : ∀ f w, ((fun f w => F13_s11 R rec4 (f 0) (f 2) (f 4) (f 5) (f 13) (f 14) (f 15) (f 30) (f 31) (f 32) w)) f w → wpE Try.prog F13_dc (resK Try.prog [.tmp 2] R) (panK R) (cI (cR (cR (cR (cI (cL (cR (cR (cI (cI (cR (cL (cR F13_b))))))))))))) (fun f w => F13_s8 R rec4 (f 0) (f 2) (f 13) (f 14) (f 15) w) (kxB 2 ((fun f w => F13_s8 R rec4 (f 0) (f 2) (f 13) (f 14) (f 15) w)) (kxB 1 ((fun f w => F13_s8 R rec4 (f 0) (f 2) (f 13) (f 14) (f 15) w)) (kxB 0 ((fun f w => F13_s3 R (f 2) w)) noX))) f w :=
  fun f w h => F13_s11_e R _ _ f w (loop2_ok (P := Try.prog) (dc := F13_dc) (kr := (resK Try.prog [.tmp 2] R)) (pan := panK R) (cI (cI (cR (cR (cR (cI (cL (cR (cR (cI (cI (cR (cL (cR F13_b)))))))))))))) (kn := (fun f w => F13_s8 R rec4 (f 0) (f 2) (f 13) (f 14) (f 15) w)) (kx := (kxB 2 ((fun f w => F13_s8 R rec4 (f 0) (f 2) (f 13) (f 14) (f 15) w)) (kxB 1 ((fun f w => F13_s8 R rec4 (f 0) (f 2) (f 13) (f 14) (f 15) w)) (kxB 0 ((fun f w => F13_s3 R (f 2) w)) noX)))) (s0 := 2) (s1 := 32) (fun rec11 v2 v32 w => F13_s12 R rec4 rec11 (f 0) v2 (f 4) (f 5) (f 13) (f 14) (f 15) (f 30) (f 31) v32 w) f (fun rec11 f' w' hf h' => F13_s11b_e R _ _ f' w' ((F13_s12_ok R rec4 rec11) f' w' (by simp only [hf 0 (by kernel_rfl), hf 4 (by kernel_rfl), hf 5 (by kernel_rfl), hf 13 (by kernel_rfl), hf 14 (by kernel_rfl), hf 15 (by kernel_rfl), hf 30 (by kernel_rfl), hf 31 (by kernel_rfl)]; exact h'))) w h)
noncomputable def F13_s10_c : Code := (.seq (cR (cR (cR (cI (cL (cR (cR (cI (cI (cR (cL (cR F13_b)))))))))))) .skip)
theorem F13_s10_e (R : Ending → World → Prop) (K : Fr → World → Prop) (X : Nat → Fr → World → Prop) (f : Fr) (w : World) (h : wpE Try.prog F13_dc (resK Try.prog [.tmp 2] R) (panK R) (cI (cR (cR (cR (cI (cL (cR (cR (cI (cI (cR (cL (cR F13_b))))))))))))) K (kxB 2 K X) f w) : wpE Try.prog F13_dc (resK Try.prog [.tmp 2] R) (panK R) (cR (cR (cR (cI (cL (cR (cR (cI (cI (cR (cL (cR F13_b)))))))))))) K X f w := Eq.mp (by kernel_rfl) h
theorem F13_s10_ok (R : Ending → World → Prop) (rec4 : Value → Value → World → Prop) : ∀ f w, ((fun f w => F13_s11 R rec4 (f 0) (f 2) (f 4) (f 5) (f 13) (f 14) (f 15) (f 30) (f 31) (f 32) w)) f w → wpE Try.prog F13_dc (resK Try.prog [.tmp 2] R) (panK R) F13_s10_c (fun f w => F13_s8 R rec4 (f 0) (f 2) (f 13) (f 14) (f 15) w) (kxB 1 ((fun f w => F13_s8 R rec4 (f 0) (f 2) (f 13) (f 14) (f 15) w)) (kxB 0 ((fun f w => F13_s3 R (f 2) w)) noX)) f w :=
  fun f w h => cut (cR (cR (cR (cI (cL (cR (cR (cI (cI (cR (cL (cR F13_b)))))))))))) .skip (K := (fun f w => F13_s8 R rec4 (f 0) (f 2) (f 13) (f 14) (f 15) w)) (fun f w h => skip_ok h) f w (F13_s10_e R _ _ f w ((F13_s11_ok R rec4) f w h))
def F13_s9_t (R : Ending → World → Prop) (K : Value → Value → Value → Value → Value → Value → Value → Value → Value → Value → World → Prop) (v0 : Value) (v2 : Value) (v13 : Value) (v14 : Value) (v15 : Value) (w : World) : Prop :=
  uv Try.prog R (Instr.indexAt 68 v13 v15) w (fun v17 w => -- locks.go:134
  uv Try.prog R (Instr.loadAt 9 v17) w (fun v18 w => -- locks.go:134
  un Try.prog R (nilS v0) w (fun v20 w => -- locks.go:135
  uv Try.prog R (Instr.fieldAt 53 v20 0) w (fun v21 w => -- locks.go:135
  uv Try.prog R (Instr.loadAt 50 v21) w (fun v22 w => -- locks.go:135
  uv Try.prog R (Instr.lookup 50 v22 v18 false) w (fun v24 w => -- locks.go:135
  un Try.prog R (nilS v24) w (fun v26 w => -- locks.go:136
  uv Try.prog R (Instr.fieldAt 59 v26 0) w (fun v27 w => -- locks.go:136
  uv Try.prog R (Instr.loadAt 35 v27) w (fun v28 w => -- locks.go:136
  un Try.prog R (callFunc 35 #[v28]) w (fun v29 w => -- locks.go:136
  un Try.prog R (callFunc 34 #[v29]) w (fun v30 w => -- locks.go:136
  un Try.prog R (builtin Go.Builtin.len #[29] 3 #[false] #[v30]) w (fun v31 w => -- locks.go:136
  K v0 v2 v18 v24 v13 v14 v15 v30 v31 (Go.Value.int Go.IntKind.i64 0) w))))))))))))
theorem F13_s9_st (R : Ending → World → Prop) (K : Value → Value → Value → Value → Value → Value → Value → Value → Value → Value → World → Prop) (X : Nat → Fr → World → Prop) (f : Fr) (w : World) (h : F13_s9_t R K (f 0) (f 2) (f 13) (f 14) (f 15) w) : wpE Try.prog F13_dc (resK Try.prog [.tmp 2] R) (panK R) (.seq (cL (cI (cL (cR (cR (cI (cI (cR (cL (cR F13_b)))))))))) (.seq (cL (cR (cI (cL (cR (cR (cI (cI (cR (cL (cR F13_b))))))))))) (cL (cR (cR (cI (cL (cR (cR (cI (cI (cR (cL (cR F13_b)))))))))))))) (fun f w => K (f 0) (f 2) (f 4) (f 5) (f 13) (f 14) (f 15) (f 30) (f 31) (f 32) w) X f w := Eq.mp (by kernel_rfl) h
def F13_s9 (R : Ending → World → Prop) (rec4 : Value → Value → World → Prop) (v0 : Value) (v2 : Value) (v13 : Value) (v14 : Value) (v15 : Value) (w : World) : Prop :=
  F13_s9_t R (F13_s11 R rec4) v0 v2 v13 v14 v15 w
noncomputable def F13_s9_c : Code := (.seq (.seq (cL (cI (cL (cR (cR (cI (cI (cR (cL (cR F13_b)))))))))) (.seq (cL (cR (cI (cL (cR (cR (cI (cI (cR (cL (cR F13_b))))))))))) (cL (cR (cR (cI (cL (cR (cR (cI (cI (cR (cL (cR F13_b)))))))))))))) F13_s10_c)
theorem F13_s9_ok (R : Ending → World → Prop) (rec4 : Value → Value → World → Prop) : ∀ f w, ((fun f w => F13_s9 R rec4 (f 0) (f 2) (f 13) (f 14) (f 15) w)) f w → wpE Try.prog F13_dc (resK Try.prog [.tmp 2] R) (panK R) F13_s9_c (fun f w => F13_s8 R rec4 (f 0) (f 2) (f 13) (f 14) (f 15) w) (kxB 1 ((fun f w => F13_s8 R rec4 (f 0) (f 2) (f 13) (f 14) (f 15) w)) (kxB 0 ((fun f w => F13_s3 R (f 2) w)) noX)) f w :=
  fun f w h => cut (.seq (cL (cI (cL (cR (cR (cI (cI (cR (cL (cR F13_b)))))))))) (.seq (cL (cR (cI (cL (cR (cR (cI (cI (cR (cL (cR F13_b))))))))))) (cL (cR (cR (cI (cL (cR (cR (cI (cI (cR (cL (cR F13_b)))))))))))))) F13_s10_c (K := (fun f w => F13_s11 R rec4 (f 0) (f 2) (f 4) (f 5) (f 13) (f 14) (f 15) (f 30) (f 31) (f 32) w)) (F13_s10_ok R rec4) f w (F13_s9_st R (F13_s11 R rec4) _ f w h)
noncomputable def F13_s7_c : Code := (.seq (cL (cR (cR (cI (cI (cR (cL (cR F13_b)))))))) F13_s8_c)
theorem F13_s7_e (R : Ending → World → Prop) (K : Fr → World → Prop) (X : Nat → Fr → World → Prop) (f : Fr) (w : World) (h : wpE Try.prog F13_dc (resK Try.prog [.tmp 2] R) (panK R) F13_s9_c K (kxB 1 K X) f w) : wpE Try.prog F13_dc (resK Try.prog [.tmp 2] R) (panK R) (cL (cR (cR (cI (cI (cR (cL (cR F13_b)))))))) K X f w := Eq.mp (by kernel_rfl) h
theorem F13_s7_ok (R : Ending → World → Prop) (rec4 : Value → Value → World → Prop) : ∀ f w, ((fun f w => F13_s9 R rec4 (f 0) (f 2) (f 13) (f 14) (f 15) w)) f w → wpE Try.prog F13_dc (resK Try.prog [.tmp 2] R) (panK R) F13_s7_c (fun f w => rec4 (f 2) (f 15) w) (kxB 0 ((fun f w => F13_s3 R (f 2) w)) noX) f w :=
  fun f w h => cut (cL (cR (cR (cI (cI (cR (cL (cR F13_b)))))))) F13_s8_c (K := (fun f w => F13_s8 R rec4 (f 0) (f 2) (f 13) (f 14) (f 15) w)) (F13_s8_ok R rec4) f w (F13_s7_e R _ _ f w ((F13_s9_ok R rec4) f w h))
def F13_s6 (R : Ending → World → Prop) (rec4 : Value → Value → World → Prop) (v0 : Value) (v2 : Value) (v13 : Value) (v14 : Value) (v15 : Value) (v16 : Value) (w : World) : Prop :=
  Bc v16
    (F13_s9 R rec4 v0 v2 v13 v14 v15 w)
    (F13_s3 R v2 w)
noncomputable def F13_s6_c : Code := (.seq (cL (cR (cI (cI (cR (cL (cR F13_b))))))) F13_s7_c)
theorem F13_s6_e (R : Ending → World → Prop) (K : Fr → World → Prop) (X : Nat → Fr → World → Prop) (f : Fr) (w : World) (h : Bc (f 16) (wpE Try.prog F13_dc (resK Try.prog [.tmp 2] R) (panK R) .skip K X f w) (wpE Try.prog F13_dc (resK Try.prog [.tmp 2] R) (panK R) (.exit 0) K X f w)) : (wpE Try.prog F13_dc (resK Try.prog [.tmp 2] R) (panK R) (cL (cR (cI (cI (cR (cL (cR F13_b))))))) K X f w) := Eq.mp (by kernel_rfl) h
theorem F13_s6_ok (R : Ending → World → Prop) (rec4 : Value → Value → World → Prop) : ∀ f w, ((fun f w => F13_s6 R rec4 (f 0) (f 2) (f 13) (f 14) (f 15) (f 16) w)) f w → wpE Try.prog F13_dc (resK Try.prog [.tmp 2] R) (panK R) F13_s6_c (fun f w => rec4 (f 2) (f 15) w) (kxB 0 ((fun f w => F13_s3 R (f 2) w)) noX) f w :=
  fun f w h => cut (cL (cR (cI (cI (cR (cL (cR F13_b))))))) F13_s7_c (K := (fun f w => F13_s9 R rec4 (f 0) (f 2) (f 13) (f 14) (f 15) w)) (F13_s7_ok R rec4) f w (F13_s6_e R _ _ f w (Bc_imp (x' := (wpE Try.prog F13_dc (resK Try.prog [.tmp 2] R) (panK R) .skip (fun f w => F13_s9 R rec4 (f 0) (f 2) (f 13) (f 14) (f 15) w) (kxB 0 ((fun f w => F13_s3 R (f 2) w)) noX) f w)) (y' := (wpE Try.prog F13_dc (resK Try.prog [.tmp 2] R) (panK R) (.exit 0) (fun f w => F13_s9 R rec4 (f 0) (f 2) (f 13) (f 14) (f 15) w) (kxB 0 ((fun f w => F13_s3 R (f 2) w)) noX) f w)) ((fun f w h => skip_ok h) f w) ((fun f w h => exit_hit h) f w) h))
def F13_s5_t (R : Ending → World → Prop) (K : Value → Value → Value → Value → Value → Value → World → Prop) (v0 : Value) (v2 : Value) (v13 : Value) (v14 : Value) (v15 : Value) (w : World) : Prop :=
  uv Try.prog R (binS Go.BinOp.lss 3 (.tmp 15) (.tmp 14) v15 v14) w (fun v16 w => -- locks.go:134
  K v0 v2 v13 v14 v15 v16 w)
theorem F13_s5_st (R : Ending → World → Prop) (K : Value → Value → Value → Value → Value → Value → World → Prop) (X : Nat → Fr → World → Prop) (f : Fr) (w : World) (h : F13_s5_t R K (f 0) (f 2) (f 13) (f 14) (f 15) w) : wpE Try.prog F13_dc (resK Try.prog [.tmp 2] R) (panK R) (cL (cI (cI (cR (cL (cR F13_b)))))) (fun f w => K (f 0) (f 2) (f 13) (f 14) (f 15) (f 16) w) X f w := Eq.mp (by kernel_rfl) h
def F13_s5 (R : Ending → World → Prop) (rec4 : Value → Value → World → Prop) (v0 : Value) (v2 : Value) (v13 : Value) (v14 : Value) (v15 : Value) (w : World) : Prop :=
  F13_s5_t R (F13_s6 R rec4) v0 v2 v13 v14 v15 w
noncomputable def F13_s5_c : Code := (.seq (cL (cI (cI (cR (cL (cR F13_b)))))) F13_s6_c)
theorem F13_s5_ok (R : Ending → World → Prop) (rec4 : Value → Value → World → Prop) : ∀ f w, ((fun f w => F13_s5 R rec4 (f 0) (f 2) (f 13) (f 14) (f 15) w)) f w → wpE Try.prog F13_dc (resK Try.prog [.tmp 2] R) (panK R) F13_s5_c (fun f w => rec4 (f 2) (f 15) w) (kxB 0 ((fun f w => F13_s3 R (f 2) w)) noX) f w :=
  fun f w h => cut (cL (cI (cI (cR (cL (cR F13_b)))))) F13_s6_c (K := (fun f w => F13_s6 R rec4 (f 0) (f 2) (f 13) (f 14) (f 15) (f 16) w)) (F13_s6_ok R rec4) f w (F13_s5_st R (F13_s6 R rec4) _ f w h)
def F13_s4 (R : Ending → World → Prop) (v0 : Value) (v2 : Value) (v13 : Value) (v14 : Value) (v15 : Value) (w : World) : Prop :=
  Lp2 (fun rec4 v2 v15 w => F13_s5 R rec4 v0 v2 v13 v14 v15 w) v2 v15 w
theorem F13_s4_e (R : Ending → World → Prop) (K : Fr → World → Prop) (X : Nat → Fr → World → Prop) (f : Fr) (w : World) (h : wpE Try.prog F13_dc (resK Try.prog [.tmp 2] R) (panK R) (.loop (cI (cI (cR (cL (cR F13_b)))))) K X f w) : wpE Try.prog F13_dc (resK Try.prog [.tmp 2] R) (panK R) (cI (cR (cL (cR F13_b)))) K X f w := Eq.mp (by kernel_rfl) h
theorem F13_s4b_e (R : Ending → World → Prop) (K : Fr → World → Prop) (X : Nat → Fr → World → Prop) (f : Fr) (w : World) (h : wpE Try.prog F13_dc (resK Try.prog [.tmp 2] R) (panK R) F13_s5_c K X f w) : wpE Try.prog F13_dc (resK Try.prog [.tmp 2] R) (panK R) (cI (cI (cR (cL (cR F13_b))))) K X f w := Eq.mp (by kernel_rfl) h
theorem F13_s4_ok (R : Ending → World → Prop) : ∀ f w, ((fun f w => F13_s4 R (f 0) (f 2) (f 13) (f 14) (f 15) w)) f w → wpE Try.prog F13_dc (resK Try.prog [.tmp 2] R) (panK R) (cI (cR (cL (cR F13_b)))) (fun f w => F13_s3 R (f 2) w) (kxB 0 ((fun f w => F13_s3 R (f 2) w)) noX) f w :=
  fun f w h => F13_s4_e R _ _ f w (loop2_ok (P := Try.prog) (dc := F13_dc) (kr := (resK Try.prog [.tmp 2] R)) (pan := panK R) (cI (cI (cR (cL (cR F13_b))))) (kn := (fun f w => F13_s3 R (f 2) w)) (kx := (kxB 0 ((fun f w => F13_s3 R (f 2) w)) noX)) (s0 := 2) (s1 := 15) (fun rec4 v2 v15 w => F13_s5 R rec4 (f 0) v2 (f 13) (f 14) v15 w) f (fun rec4 f' w' hf h' => F13_s4b_e R _ _ f' w' ((F13_s5_ok R rec4) f' w' (by simp only [hf 0 (by kernel_rfl), hf 13 (by kernel_rfl), hf 14 (by kernel_rfl)]; exact h'))) w h)
noncomputable def F13_s2_c : Code := (.seq (cR (cL (cR F13_b))) F13_s3_c)
theorem F13_s2_e (R : Ending → World → Prop) (K : Fr → World → Prop) (X : Nat → Fr → World → Prop) (f : Fr) (w : World) (h : wpE Try.prog F13_dc (resK Try.prog [.tmp 2] R) (panK R) (cI (cR (cL (cR F13_b)))) K (kxB 0 K X) f w) : wpE Try.prog F13_dc (resK Try.prog [.tmp 2] R) (panK R) (cR (cL (cR F13_b))) K X f w := Eq.mp (by kernel_rfl) h
theorem F13_s2_ok (R : Ending → World → Prop) : ∀ f w, ((fun f w => F13_s4 R (f 0) (f 2) (f 13) (f 14) (f 15) w)) f w → wpE Try.prog F13_dc (resK Try.prog [.tmp 2] R) (panK R) F13_s2_c (resK Try.prog [.tmp 2] R) noX f w :=
  fun f w h => cut (cR (cL (cR F13_b))) F13_s3_c (K := (fun f w => F13_s3 R (f 2) w)) (F13_s3_ok R) f w (F13_s2_e R _ _ f w ((F13_s4_ok R) f w h))
def F13_s1_t (R : Ending → World → Prop) (K : Value → Value → Value → Value → Value → World → Prop) (v0 : Value) (w : World) : Prop :=
  un Try.prog R (nilS v0) w (fun v9 w => -- locks.go:134
  uv Try.prog R (Instr.fieldAt 53 v9 0) w (fun v10 w => -- locks.go:134
  uv Try.prog R (Instr.loadAt 50 v10) w (fun v11 w => -- locks.go:134
  un Try.prog R (callFunc 29 #[v11]) w (fun v12 w => -- locks.go:134
  un Try.prog R (callFunc 28 #[v12]) w (fun v13 w => -- locks.go:134
  un Try.prog R (builtin Go.Builtin.len #[68] 3 #[false] #[v13]) w (fun v14 w => -- locks.go:134
  K v0 (Go.Value.slice none 0 0) v13 v14 (Go.Value.int Go.IntKind.i64 0) w))))))
theorem F13_s1_st (R : Ending → World → Prop) (K : Value → Value → Value → Value → Value → World → Prop) (X : Nat → Fr → World → Prop) (f : Fr) (w : World) (h : F13_s1_t R K (f 0) w) : wpE Try.prog F13_dc (resK Try.prog [.tmp 2] R) (panK R) (.seq (cL F13_b) (cL (cL (cR F13_b)))) (fun f w => K (f 0) (f 2) (f 13) (f 14) (f 15) w) X f w := Eq.mp (by kernel_rfl) h
def F13_s1 (R : Ending → World → Prop) (v0 : Value) (w : World) : Prop :=
  F13_s1_t R (F13_s4 R) v0 w
noncomputable def F13_s1_c : Code := (.seq (.seq (cL F13_b) (cL (cL (cR F13_b)))) F13_s2_c)
theorem F13_s1_ok (R : Ending → World → Prop) : ∀ f w, ((fun f w => F13_s1 R (f 0) w)) f w → wpE Try.prog F13_dc (resK Try.prog [.tmp 2] R) (panK R) F13_s1_c (resK Try.prog [.tmp 2] R) noX f w :=
  fun f w h => cut (.seq (cL F13_b) (cL (cL (cR F13_b)))) F13_s2_c (K := (fun f w => F13_s4 R (f 0) (f 2) (f 13) (f 14) (f 15) w)) (F13_s2_ok R) f w (F13_s1_st R (F13_s4 R) _ f w h)
theorem F13_all_e (R : Ending → World → Prop) (K : Fr → World → Prop) (X : Nat → Fr → World → Prop) (f : Fr) (w : World) (h : wpE Try.prog F13_dc (resK Try.prog [.tmp 2] R) (panK R) F13_s1_c K X f w) : wpE Try.prog F13_dc (resK Try.prog [.tmp 2] R) (panK R) F13_b K X f w := Eq.mp (by kernel_rfl) h
theorem F13_calls (R : Ending → World → Prop) (v0 : Value) (w : World) (h : F13_s1 R v0 w) : Calls Try.prog 13 #[v0] w R :=
  calls_of_wpE (dc := F13_dc) (args := [v0]) hmixed Try.func13 (c := F13_b) rfl (rs := [.tmp 2]) rfl (by kernel_rfl) (Nat.le_of_ble_eq_true (by kernel_rfl)) (F13_all_e R _ _ _ w ((F13_s1_ok R) (initFr [v0]) w h))

/-! ### (*hasp/locks.Table).Edges -/
noncomputable def F14_b : Code := bodyOf Try.f14
def F14_dc : Nat → List (Nat × Bool)
  | 4 => [(0, true), (1, true), (2, true), (3, true), (4, true), (5, true), (6, true), (7, true), (8, true), (9, true)]
  | _ => []
def F14_s3_t (R : Ending → World → Prop) (v2 : Value) (w : World) : Prop :=
  un Try.prog R (callFunc 38 #[v2, (.func (.func 39) #[] #[])]) w (fun v88 w => -- locks.go:167
  un Try.prog R (callFunc 42 #[v2]) w (fun v90 w => -- locks.go:168
  R (.returned v90) w))
theorem F14_s3_st (R : Ending → World → Prop) (X : Nat → Fr → World → Prop) (f : Fr) (w : World) (h : F14_s3_t R (f 2) w) : wpE Try.prog F14_dc (resK Try.prog [.tmp 2] R) (panK R) (.seq (cL (cR (cR F14_b))) (cL (cR (cR (cR F14_b))))) (resK Try.prog [.tmp 2] R) X f w := Eq.mp (by kernel_rfl) h
def F14_s3 (R : Ending → World → Prop) (v2 : Value) (w : World) : Prop :=
  F14_s3_t R v2 w
noncomputable def F14_s3_c : Code := (.seq (.seq (cL (cR (cR F14_b))) (cL (cR (cR (cR F14_b))))) .ret)
theorem F14_s3_ok (R : Ending → World → Prop) : ∀ f w, ((fun f w => F14_s3 R (f 2) w)) f w → wpE Try.prog F14_dc (resK Try.prog [.tmp 2] R) (panK R) F14_s3_c (resK Try.prog [.tmp 2] R) noX f w :=
  fun f w h => cut (.seq (cL (cR (cR F14_b))) (cL (cR (cR (cR F14_b))))) .ret (K := (resK Try.prog [.tmp 2] R)) (fun f w h => ret_ok h) f w (F14_s3_st R _ f w h)
def F14_s16_t (R : Ending → World → Prop) (K : Value → Value → World → Prop) (v0 : Value) (v2 : Value) (v3 : Value) (v15 : Value) (v73 : Value) (v74 : Value) (v75 : Value) (w : World) : Prop :=
  uv Try.prog R (binS Go.BinOp.add 3 (.tmp 75) (.const (Go.Value.int Go.IntKind.i64 1)) v75 (Go.Value.int Go.IntKind.i64 1)) w (fun v86 w => -- locks.go:163
  K v2 v86 w)
theorem F14_s16_st (R : Ending → World → Prop) (K : Value → Value → World → Prop) (X : Nat → Fr → World → Prop) (f : Fr) (w : World) (h : F14_s16_t R K (f 0) (f 2) (f 3) (f 15) (f 73) (f 74) (f 75) w) : wpE Try.prog F14_dc (resK Try.prog [.tmp 2] R) (panK R) (cR (cR (cR (cI (cI (cR (cR (cR (cR (cR (cI (cR (cR (cI (cI (cR (cL (cR F14_b)))))))))))))))))) (fun f w => K (f 2) (f 75) w) X f w := Eq.mp (by kernel_rfl) h
def F14_s16 (R : Ending → World → Prop) (rec4 : Value → World → Prop) (rec12 : Value → Value → World → Prop) (v0 : Value) (v2 : Value) (v3 : Value) (v15 : Value) (v73 : Value) (v74 : Value) (v75 : Value) (w : World) : Prop :=
  F14_s16_t R (rec12) v0 v2 v3 v15 v73 v74 v75 w
noncomputable def F14_s16_c : Code := (.seq (cR (cR (cR (cI (cI (cR (cR (cR (cR (cR (cI (cR (cR (cI (cI (cR (cL (cR F14_b)))))))))))))))))) .skip)
theorem F14_s16_ok (R : Ending → World → Prop) (rec4 : Value → World → Prop) (rec12 : Value → Value → World → Prop) : ∀ f w, ((fun f w => F14_s16 R rec4 rec12 (f 0) (f 2) (f 3) (f 15) (f 73) (f 74) (f 75) w)) f w → wpE Try.prog F14_dc (resK Try.prog [.tmp 2] R) (panK R) F14_s16_c (fun f w => rec12 (f 2) (f 75) w) (kxB 4 ((fun f w => rec4 (f 2) w)) (kxB 1 ((fun f w => rec4 (f 2) w)) (kxB 0 ((fun f w => F14_s3 R (f 2) w)) noX))) f w :=
  fun f w h => cut (cR (cR (cR (cI (cI (cR (cR (cR (cR (cR (cI (cR (cR (cI (cI (cR (cL (cR F14_b)))))))))))))))))) .skip (K := (fun f w => rec12 (f 2) (f 75) w)) (fun f w h => skip_ok h) f w (F14_s16_st R (rec12) _ f w h)
def F14_s17_t (R : Ending → World → Prop) (K : Value → Value → Value → Value → Value → Value → Value → World → Prop) (v0 : Value) (v2 : Value) (v3 : Value) (v15 : Value) (v73 : Value) (v74 : Value) (v75 : Value) (w : World) : Prop :=
  uv Try.prog R (Instr.indexAt 57 v73 v75) w (fun v77 w => -- locks.go:163
  uv Try.prog R (Instr.loadAt 62 v77) w (fun v78 w => -- locks.go:163
  uv Try.prog R (Instr.alloc 62 true (.tuple #[])) w (fun v10 w => -- locks.go:163
  uu Try.prog R (Instr.storeAt 62 v10 v78) w (fun w => -- locks.go:163
  uv Try.prog R (Instr.loadAt 3 v3) w (fun v80 w => -- locks.go:164
  uv Try.prog R (Instr.fieldAt 62 v10 0) w (fun v81 w => -- locks.go:164
  uv Try.prog R (Instr.loadAt 3 v81) w (fun v82 w => -- locks.go:164
  uv Try.prog R (Instr.build 81 #[(0, v80), (1, v82)]) w (fun v83 w => -- locks.go:164
  uv Try.prog R (Instr.buildSlice 38 1 #[(0, v83)]) w (fun v84 w => -- locks.go:164
  un Try.prog R (builtin Go.Builtin.append #[38, 38] 38 #[false, false] #[v2, v84]) w (fun v85 w => -- locks.go:164
  K v0 v85 v3 v15 v73 v74 v75 w))))))))))
theorem F14_s17_st (R : Ending → World → Prop) (K : Value → Value → Value → Value → Value → Value → Value → World → Prop) (X : Nat → Fr → World → Prop) (f : Fr) (w : World) (h : F14_s17_t R K (f 0) (f 2) (f 3) (f 15) (f 73) (f 74) (f 75) w) : wpE Try.prog F14_dc (resK Try.prog [.tmp 2] R) (panK R) (.seq (cL (cI (cL (cR (cR (cI (cI (cR (cR (cR (cR (cR (cI (cR (cR (cI (cI (cR (cL (cR F14_b)))))))))))))))))))) (cR (cI (cL (cR (cR (cI (cI (cR (cR (cR (cR (cR (cI (cR (cR (cI (cI (cR (cL (cR F14_b))))))))))))))))))))) (fun f w => K (f 0) (f 2) (f 3) (f 15) (f 73) (f 74) (f 75) w) X f w := Eq.mp (by kernel_rfl) h
def F14_s17 (R : Ending → World → Prop) (rec4 : Value → World → Prop) (rec12 : Value → Value → World → Prop) (v0 : Value) (v2 : Value) (v3 : Value) (v15 : Value) (v73 : Value) (v74 : Value) (v75 : Value) (w : World) : Prop :=
  F14_s17_t R (F14_s16 R rec4 rec12) v0 v2 v3 v15 v73 v74 v75 w
noncomputable def F14_s17_c : Code := (.seq (.seq (cL (cI (cL (cR (cR (cI (cI (cR (cR (cR (cR (cR (cI (cR (cR (cI (cI (cR (cL (cR F14_b)))))))))))))))))))) (cR (cI (cL (cR (cR (cI (cI (cR (cR (cR (cR (cR (cI (cR (cR (cI (cI (cR (cL (cR F14_b))))))))))))))))))))) .skip)
theorem F14_s17_ok (R : Ending → World → Prop) (rec4 : Value → World → Prop) (rec12 : Value → Value → World → Prop) : ∀ f w, ((fun f w => F14_s17 R rec4 rec12 (f 0) (f 2) (f 3) (f 15) (f 73) (f 74) (f 75) w)) f w → wpE Try.prog F14_dc (resK Try.prog [.tmp 2] R) (panK R) F14_s17_c (fun f w => F14_s16 R rec4 rec12 (f 0) (f 2) (f 3) (f 15) (f 73) (f 74) (f 75) w) (kxB 5 ((fun f w => F14_s16 R rec4 rec12 (f 0) (f 2) (f 3) (f 15) (f 73) (f 74) (f 75) w)) (kxB 4 ((fun f w => rec4 (f 2) w)) (kxB 1 ((fun f w => rec4 (f 2) w)) (kxB 0 ((fun f w => F14_s3 R (f 2) w)) noX)))) f w :=
  fun f w h => cut (.seq (cL (cI (cL (cR (cR (cI (cI (cR (cR (cR (cR (cR (cI (cR (cR (cI (cI (cR (cL (cR F14_b)))))))))))))))))))) (cR (cI (cL (cR (cR (cI (cI (cR (cR (cR (cR (cR (cI (cR (cR (cI (cI (cR (cL (cR F14_b))))))))))))))))))))) .skip (K := (fun f w => F14_s16 R rec4 rec12 (f 0) (f 2) (f 3) (f 15) (f 73) (f 74) (f 75) w)) (fun f w h => skip_ok h) f w (F14_s17_st R (F14_s16 R rec4 rec12) _ f w h)
noncomputable def F14_s15_c : Code := (.seq (cL (cR (cR (cI (cI (cR (cR (cR (cR (cR (cI (cR (cR (cI (cI (cR (cL (cR F14_b)))))))))))))))))) F14_s16_c)
theorem F14_s15_e (R : Ending → World → Prop) (K : Fr → World → Prop) (X : Nat → Fr → World → Prop) (f : Fr) (w : World) (h : wpE Try.prog F14_dc (resK Try.prog [.tmp 2] R) (panK R) F14_s17_c K (kxB 5 K X) f w) : wpE Try.prog F14_dc (resK Try.prog [.tmp 2] R) (panK R) (cL (cR (cR (cI (cI (cR (cR (cR (cR (cR (cI (cR (cR (cI (cI (cR (cL (cR F14_b)))))))))))))))))) K X f w := Eq.mp (by kernel_rfl) h
theorem F14_s15_ok (R : Ending → World → Prop) (rec4 : Value → World → Prop) (rec12 : Value → Value → World → Prop) : ∀ f w, ((fun f w => F14_s17 R rec4 rec12 (f 0) (f 2) (f 3) (f 15) (f 73) (f 74) (f 75) w)) f w → wpE Try.prog F14_dc (resK Try.prog [.tmp 2] R) (panK R) F14_s15_c (fun f w => rec12 (f 2) (f 75) w) (kxB 4 ((fun f w => rec4 (f 2) w)) (kxB 1 ((fun f w => rec4 (f 2) w)) (kxB 0 ((fun f w => F14_s3 R (f 2) w)) noX))) f w :=
  fun f w h => cut (cL (cR (cR (cI (cI (cR (cR (cR (cR (cR (cI (cR (cR (cI (cI (cR (cL (cR F14_b)))))))))))))))))) F14_s16_c (K := (fun f w => F14_s16 R rec4 rec12 (f 0) (f 2) (f 3) (f 15) (f 73) (f 74) (f 75) w)) (F14_s16_ok R rec4 rec12) f w (F14_s15_e R _ _ f w ((F14_s17_ok R rec4 rec12) f w h))
def F14_s14 (R : Ending → World → Prop) (rec4 : Value → World → Prop) (rec12 : Value → Value → World → Prop) (v0 : Value) (v2 : Value) (v3 : Value) (v15 : Value) (v73 : Value) (v74 : Value) (v75 : Value) (v76 : Value) (w : World) : Prop :=
  Bc v76
    (F14_s17 R rec4 rec12 v0 v2 v3 v15 v73 v74 v75 w)
    (rec4 v2 w)
noncomputable def F14_s14_c : Code := (.seq (cL (cR (cI (cI (cR (cR (cR (cR (cR (cI (cR (cR (cI (cI (cR (cL (cR F14_b))))))))))))))))) F14_s15_c)
theorem F14_s14_e (R : Ending → World → Prop) (K : Fr → World → Prop) (X : Nat → Fr → World → Prop) (f : Fr) (w : World) (h : Bc (f 76) (wpE Try.prog F14_dc (resK Try.prog [.tmp 2] R) (panK R) .skip K X f w) (wpE Try.prog F14_dc (resK Try.prog [.tmp 2] R) (panK R) (.exit 4) K X f w)) : (wpE Try.prog F14_dc (resK Try.prog [.tmp 2] R) (panK R) (cL (cR (cI (cI (cR (cR (cR (cR (cR (cI (cR (cR (cI (cI (cR (cL (cR F14_b))))))))))))))))) K X f w) := Eq.mp (by kernel_rfl) h
theorem F14_s14_ok (R : Ending → World → Prop) (rec4 : Value → World → Prop) (rec12 : Value → Value → World → Prop) : ∀ f w, ((fun f w => F14_s14 R rec4 rec12 (f 0) (f 2) (f 3) (f 15) (f 73) (f 74) (f 75) (f 76) w)) f w → wpE Try.prog F14_dc (resK Try.prog [.tmp 2] R) (panK R) F14_s14_c (fun f w => rec12 (f 2) (f 75) w) (kxB 4 ((fun f w => rec4 (f 2) w)) (kxB 1 ((fun f w => rec4 (f 2) w)) (kxB 0 ((fun f w => F14_s3 R (f 2) w)) noX))) f w :=
  fun f w h => cut (cL (cR (cI (cI (cR (cR (cR (cR (cR (cI (cR (cR (cI (cI (cR (cL (cR F14_b))))))))))))))))) F14_s15_c (K := (fun f w => F14_s17 R rec4 rec12 (f 0) (f 2) (f 3) (f 15) (f 73) (f 74) (f 75) w)) (F14_s15_ok R rec4 rec12) f w (F14_s14_e R _ _ f w (Bc_imp (x' := (wpE Try.prog F14_dc (resK Try.prog [.tmp 2] R) (panK R) .skip (fun f w => F14_s17 R rec4 rec12 (f 0) (f 2) (f 3) (f 15) (f 73) (f 74) (f 75) w) (kxB 4 ((fun f w => rec4 (f 2) w)) (kxB 1 ((fun f w => rec4 (f 2) w)) (kxB 0 ((fun f w => F14_s3 R (f 2) w)) noX))) f w)) (y' := (wpE Try.prog F14_dc (resK Try.prog [.tmp 2] R) (panK R) (.exit 4) (fun f w => F14_s17 R rec4 rec12 (f 0) (f 2) (f 3) (f 15) (f 73) (f 74) (f 75) w) (kxB 4 ((fun f w => rec4 (f 2) w)) (kxB 1 ((fun f w => rec4 (f 2) w)) (kxB 0 ((fun f w => F14_s3 R (f 2) w)) noX))) f w)) ((fun f w h => skip_ok h) f w) ((fun f w h => exit_hit h) f w) h))
def F14_s13_t (R : Ending → World → Prop) (K : Value → Value → Value → Value → Value → Value → Value → Value → World → Prop) (v0 : Value) (v2 : Value) (v3 : Value) (v15 : Value) (v73 : Value) (v74 : Value) (v75 : Value) (w : World) : Prop :=
  uv Try.prog R (binS Go.BinOp.lss 3 (.tmp 75) (.tmp 74) v75 v74) w (fun v76 w => -- locks.go:163
  K v0 v2 v3 v15 v73 v74 v75 v76 w)
theorem F14_s13_st (R : Ending → World → Prop) (K : Value → Value → Value → Value → Value → Value → Value → Value → World → Prop) (X : Nat → Fr → World → Prop) (f : Fr) (w : World) (h : F14_s13_t R K (f 0) (f 2) (f 3) (f 15) (f 73) (f 74) (f 75) w) : wpE Try.prog F14_dc (resK Try.prog [.tmp 2] R) (panK R) (cL (cI (cI (cR (cR (cR (cR (cR (cI (cR (cR (cI (cI (cR (cL (cR F14_b)))))))))))))))) (fun f w => K (f 0) (f 2) (f 3) (f 15) (f 73) (f 74) (f 75) (f 76) w) X f w := Eq.mp (by kernel_rfl) h
def F14_s13 (R : Ending → World → Prop) (rec4 : Value → World → Prop) (rec12 : Value → Value → World → Prop) (v0 : Value) (v2 : Value) (v3 : Value) (v15 : Value) (v73 : Value) (v74 : Value) (v75 : Value) (w : World) : Prop :=
  F14_s13_t R (F14_s14 R rec4 rec12) v0 v2 v3 v15 v73 v74 v75 w
noncomputable def F14_s13_c : Code := (.seq (cL (cI (cI (cR (cR (cR (cR (cR (cI (cR (cR (cI (cI (cR (cL (cR F14_b)))))))))))))))) F14_s14_c)
theorem F14_s13_ok (R : Ending → World → Prop) (rec4 : Value → World → Prop) (rec12 : Value → Value → World → Prop) : ∀ f w, ((fun f w => F14_s13 R rec4 rec12 (f 0) (f 2) (f 3) (f 15) (f 73) (f 74) (f 75) w)) f w → wpE Try.prog F14_dc (resK Try.prog [.tmp 2] R) (panK R) F14_s13_c (fun f w => rec12 (f 2) (f 75) w) (kxB 4 ((fun f w => rec4 (f 2) w)) (kxB 1 ((fun f w => rec4 (f 2) w)) (kxB 0 ((fun f w => F14_s3 R (f 2) w)) noX))) f w :=
  fun f w h => cut (cL (cI (cI (cR (cR (cR (cR (cR (cI (cR (cR (cI (cI (cR (cL (cR F14_b)))))))))))))))) F14_s14_c (K := (fun f w => F14_s14 R rec4 rec12 (f 0) (f 2) (f 3) (f 15) (f 73) (f 74) (f 75) (f 76) w)) (F14_s14_ok R rec4 rec12) f w (F14_s13_st R (F14_s14 R rec4 rec12) _ f w h)
def F14_s12 (R : Ending → World → Prop) (rec4 : Value → World → Prop) (v0 : Value) (v2 : Value) (v3 : Value) (v15 : Value) (v73 : Value) (v74 : Value) (v75 : Value) (w : World) : Prop :=
  Lp2 (fun rec12 v2 v75 w => F14_s13 R rec4 rec12 v0 v2 v3 v15 v73 v74 v75 w) v2 v75 w
theorem F14_s12_e (R : Ending → World → Prop) (K : Fr → World → Prop) (X : Nat → Fr → World → Prop) (f : Fr) (w : World) (h : wpE Try.prog F14_dc (resK Try.prog [.tmp 2] R) (panK R) (.loop (cI (cI (cR (cR (cR (cR (cR (cI (cR (cR (cI (cI (cR (cL (cR F14_b)))))))))))))))) K X f w) : wpE Try.prog F14_dc (resK Try.prog [.tmp 2] R) (panK R) (cI (cR (cR (cR (cR (cR (cI (cR (cR (cI (cI (cR (cL (cR F14_b)))))))))))))) K X f w := Eq.mp (by kernel_rfl) h
theorem F14_s12b_e (R : Ending → World → Prop) (K : Fr → World → Prop) (X : Nat → Fr → World → Prop) (f : Fr) (w : World) (h : wpE Try.prog F14_dc (resK Try.prog [.tmp 2] R) (panK R) F14_s13_c K X f w) : wpE Try.prog F14_dc (resK Try.prog [.tmp 2] R) (panK R) (cI (cI (cR (cR (cR (cR (cR (cI (cR (cR (cI (cI (cR (cL (cR F14_b))))))))))))))) K X f w := Eq.mp (by kernel_rfl) h
theorem F14_s12_ok (R : Ending → World → Prop) (rec4 : Value → World → Prop) : ∀ f w, ((fun f w => F14_s12 R rec4 (f 0) (f 2) (f 3) (f 15) (f 73) (f 74) (f 75) w)) f w → wpE Try.prog F14_dc (resK Try.prog [.tmp 2] R) (panK R) (cI (cR (cR (cR (cR (cR (cI (cR (cR (cI (cI (cR (cL (cR F14_b)))))))))))))) (fun f w => rec4 (f 2) w) (kxB 4 ((fun f w => rec4 (f 2) w)) (kxB 1 ((fun f w => rec4 (f 2) w)) (kxB 0 ((fun f w => F14_s3 R (f 2) w)) noX))) f w :=
  fun f w h => F14_s12_e R _ _ f w (loop2_ok (P := Try.prog) (dc := F14_dc) (kr := (resK Try.prog [.tmp 2] R)) (pan := panK R) (cI (cI (cR (cR (cR (cR (cR (cI (cR (cR (cI (cI (cR (cL (cR F14_b))))))))))))))) (kn := (fun f w => rec4 (f 2) w)) (kx := (kxB 4 ((fun f w => rec4 (f 2) w)) (kxB 1 ((fun f w => rec4 (f 2) w)) (kxB 0 ((fun f w => F14_s3 R (f 2) w)) noX)))) (s0 := 2) (s1 := 75) (fun rec12 v2 v75 w => F14_s13 R rec4 rec12 (f 0) v2 (f 3) (f 15) (f 73) (f 74) v75 w) f (fun rec12 f' w' hf h' => F14_s12b_e R _ _ f' w' ((F14_s13_ok R rec4 rec12) f' w' (by simp only [hf 0 (by kernel_rfl), hf 3 (by kernel_rfl), hf 15 (by kernel_rfl), hf 73 (by kernel_rfl), hf 74 (by kernel_rfl)]; exact h'))) w h)
noncomputable def F14_s11_c : Code := (.seq (cR (cR (cR (cR (cR (cI (cR (cR (cI (cI (cR (cL (cR F14_b))))))))))))) .skip)
theorem F14_s11_e (R : Ending → World → Prop) (K : Fr → World → Prop) (X : Nat → Fr → World → Prop) (f : Fr) (w : World) (h : wpE Try.prog F14_dc (resK Try.prog [.tmp 2] R) (panK R) (cI (cR (cR (cR (cR (cR (cI (cR (cR (cI (cI (cR (cL (cR F14_b)))))))))))))) K (kxB 4 K X) f w) : wpE Try.prog F14_dc (resK Try.prog [.tmp 2] R) (panK R) (cR (cR (cR (cR (cR (cI (cR (cR (cI (cI (cR (cL (cR F14_b))))))))))))) K X f w := Eq.mp (by kernel_rfl) h
theorem F14_s11_ok (R : Ending → World → Prop) (rec4 : Value → World → Prop) : ∀ f w, ((fun f w => F14_s12 R rec4 (f 0) (f 2) (f 3) (f 15) (f 73) (f 74) (f 75) w)) f w → wpE Try.prog F14_dc (resK Try.prog [.tmp 2] R) (panK R) F14_s11_c (fun f w => rec4 (f 2) w) (kxB 1 ((fun f w => rec4 (f 2) w)) (kxB 0 ((fun f w => F14_s3 R (f 2) w)) noX)) f w :=
  fun f w h => cut (cR (cR (cR (cR (cR (cI (cR (cR (cI (cI (cR (cL (cR F14_b))))))))))))) .skip (K := (fun f w => rec4 (f 2) w)) (fun f w h => skip_ok h) f w (F14_s11_e R _ _ f w ((F14_s12_ok R rec4) f w h))
def F14_s10_t (R : Ending → World → Prop) (K : Value → Value → Value → Value → Value → Value → Value → World → Prop) (v0 : Value) (v2 : Value) (v3 : Value) (v5 : Value) (v6 : Value) (v15 : Value) (w : World) : Prop :=
  un Try.prog R (nilS v5) w (fun v69 w => -- locks.go:163
  uv Try.prog R (Instr.fieldAt 59 v69 1) w (fun v70 w => -- locks.go:163
  uv Try.prog R (Instr.loadAt 57 v70) w (fun v71 w => -- locks.go:163
  uv Try.prog R (Instr.sliceAt 57 v71 none (some v6) none) w (fun v73 w => -- locks.go:163
  un Try.prog R (builtin Go.Builtin.len #[57] 3 #[false] #[v73]) w (fun v74 w => -- locks.go:163
  K v0 v2 v3 v15 v73 v74 (Go.Value.int Go.IntKind.i64 0) w)))))
theorem F14_s10_st (R : Ending → World → Prop) (K : Value → Value → Value → Value → Value → Value → Value → World → Prop) (X : Nat → Fr → World → Prop) (f : Fr) (w : World) (h : F14_s10_t R K (f 0) (f 2) (f 3) (f 5) (f 6) (f 15) w) : wpE Try.prog F14_dc (resK Try.prog [.tmp 2] R) (panK R) (cL (cR (cR (cR (cR (cI (cR (cR (cI (cI (cR (cL (cR F14_b))))))))))))) (fun f w => K (f 0) (f 2) (f 3) (f 15) (f 73) (f 74) (f 75) w) X f w := Eq.mp (by kernel_rfl) h
def F14_s10 (R : Ending → World → Prop) (rec4 : Value → World → Prop) (v0 : Value) (v2 : Value) (v3 : Value) (v5 : Value) (v6 : Value) (v15 : Value) (w : World) : Prop :=
  F14_s10_t R (F14_s12 R rec4) v0 v2 v3 v5 v6 v15 w
noncomputable def F14_s10_c : Code := (.seq (cL (cR (cR (cR (cR (cI (cR (cR (cI (cI (cR (cL (cR F14_b))))))))))))) F14_s11_c)
theorem F14_s10_ok (R : Ending → World → Prop) (rec4 : Value → World → Prop) : ∀ f w, ((fun f w => F14_s10 R rec4 (f 0) (f 2) (f 3) (f 5) (f 6) (f 15) w)) f w → wpE Try.prog F14_dc (resK Try.prog [.tmp 2] R) (panK R) F14_s10_c (fun f w => rec4 (f 2) w) (kxB 1 ((fun f w => rec4 (f 2) w)) (kxB 0 ((fun f w => F14_s3 R (f 2) w)) noX)) f w :=
  fun f w h => cut (cL (cR (cR (cR (cR (cI (cR (cR (cI (cI (cR (cL (cR F14_b))))))))))))) F14_s11_c (K := (fun f w => F14_s12 R rec4 (f 0) (f 2) (f 3) (f 15) (f 73) (f 74) (f 75) w)) (F14_s11_ok R rec4) f w (F14_s10_st R (F14_s12 R rec4) _ f w h)
def F14_s24_t (R : Ending → World → Prop) (K : Value → World → Prop) (v0 : Value) (v2 : Value) (v3 : Value) (v5 : Value) (v6 : Value) (v7 : Value) (v15 : Value) (v40 : Value) (w : World) : Prop :=
  uv Try.prog R (Instr.loadAt 3 v3) w (fun v63 w => -- locks.go:160
  uv Try.prog R (Instr.build 81 #[(0, v63), (1, v7)]) w (fun v65 w => -- locks.go:160
  uv Try.prog R (Instr.buildSlice 38 1 #[(0, v65)]) w (fun v66 w => -- locks.go:160
  un Try.prog R (builtin Go.Builtin.append #[38, 38] 38 #[false, false] #[v2, v66]) w (fun v67 w => -- locks.go:160
  K v67 w))))
theorem F14_s24_st (R : Ending → World → Prop) (K : Value → World → Prop) (X : Nat → Fr → World → Prop) (f : Fr) (w : World) (h : F14_s24_t R K (f 0) (f 2) (f 3) (f 5) (f 6) (f 7) (f 15) (f 40) w) : wpE Try.prog F14_dc (resK Try.prog [.tmp 2] R) (panK R) (cT (cR (cR (cI (cR (cR (cI (cI (cR (cL (cR (cR (cR (cI (cR (cR (cI (cI (cR (cL (cR F14_b))))))))))))))))))))) (fun f w => K (f 2) w) X f w := Eq.mp (by kernel_rfl) h
def F14_s24 (R : Ending → World → Prop) (rec4 : Value → World → Prop) (rec18 : Value → World → Prop) (v0 : Value) (v2 : Value) (v3 : Value) (v5 : Value) (v6 : Value) (v7 : Value) (v15 : Value) (v40 : Value) (w : World) : Prop :=
  F14_s24_t R (rec18) v0 v2 v3 v5 v6 v7 v15 v40 w
noncomputable def F14_s24_c : Code := (.seq (cT (cR (cR (cI (cR (cR (cI (cI (cR (cL (cR (cR (cR (cI (cR (cR (cI (cI (cR (cL (cR F14_b))))))))))))))))))))) .skip)
theorem F14_s24_ok (R : Ending → World → Prop) (rec4 : Value → World → Prop) (rec18 : Value → World → Prop) : ∀ f w, ((fun f w => F14_s24 R rec4 rec18 (f 0) (f 2) (f 3) (f 5) (f 6) (f 7) (f 15) (f 40) w)) f w → wpE Try.prog F14_dc (resK Try.prog [.tmp 2] R) (panK R) F14_s24_c (fun f w => rec18 (f 2) w) (kxB 3 ((fun f w => rec18 (f 2) w)) (kxB 2 ((fun f w => F14_s10 R rec4 (f 0) (f 2) (f 3) (f 5) (f 6) (f 15) w)) (kxB 1 ((fun f w => rec4 (f 2) w)) (kxB 0 ((fun f w => F14_s3 R (f 2) w)) noX)))) f w :=
  fun f w h => cut (cT (cR (cR (cI (cR (cR (cI (cI (cR (cL (cR (cR (cR (cI (cR (cR (cI (cI (cR (cL (cR F14_b))))))))))))))))))))) .skip (K := (fun f w => rec18 (f 2) w)) (fun f w h => skip_ok h) f w (F14_s24_st R (rec18) _ f w h)
def F14_s23 (R : Ending → World → Prop) (rec4 : Value → World → Prop) (rec18 : Value → World → Prop) (v0 : Value) (v2 : Value) (v3 : Value) (v5 : Value) (v6 : Value) (v7 : Value) (v15 : Value) (v40 : Value) (v61 : Value) (w : World) : Prop :=
  Bc v61
    (F14_s24 R rec4 rec18 v0 v2 v3 v5 v6 v7 v15 v40 w)
    (rec18 v2 w)
noncomputable def F14_s23_c : Code := (.seq (cR (cR (cI (cR (cR (cI (cI (cR (cL (cR (cR (cR (cI (cR (cR (cI (cI (cR (cL (cR F14_b)))))))))))))))))))) .skip)
theorem F14_s23_e (R : Ending → World → Prop) (K : Fr → World → Prop) (X : Nat → Fr → World → Prop) (f : Fr) (w : World) (h : Bc (f 61) (wpE Try.prog F14_dc (resK Try.prog [.tmp 2] R) (panK R) F14_s24_c K X f w) (wpE Try.prog F14_dc (resK Try.prog [.tmp 2] R) (panK R) .skip K X f w)) : (wpE Try.prog F14_dc (resK Try.prog [.tmp 2] R) (panK R) (cR (cR (cI (cR (cR (cI (cI (cR (cL (cR (cR (cR (cI (cR (cR (cI (cI (cR (cL (cR F14_b)))))))))))))))))))) K X f w) := Eq.mp (by kernel_rfl) h
theorem F14_s23_ok (R : Ending → World → Prop) (rec4 : Value → World → Prop) (rec18 : Value → World → Prop) : ∀ f w, ((fun f w => F14_s23 R rec4 rec18 (f 0) (f 2) (f 3) (f 5) (f 6) (f 7) (f 15) (f 40) (f 61) w)) f w → wpE Try.prog F14_dc (resK Try.prog [.tmp 2] R) (panK R) F14_s23_c (fun f w => rec18 (f 2) w) (kxB 3 ((fun f w => rec18 (f 2) w)) (kxB 2 ((fun f w => F14_s10 R rec4 (f 0) (f 2) (f 3) (f 5) (f 6) (f 15) w)) (kxB 1 ((fun f w => rec4 (f 2) w)) (kxB 0 ((fun f w => F14_s3 R (f 2) w)) noX)))) f w :=
  fun f w h => cut (cR (cR (cI (cR (cR (cI (cI (cR (cL (cR (cR (cR (cI (cR (cR (cI (cI (cR (cL (cR F14_b)))))))))))))))))))) .skip (K := (fun f w => rec18 (f 2) w)) (fun f w h => skip_ok h) f w (F14_s23_e R _ _ f w (Bc_imp (x' := (wpE Try.prog F14_dc (resK Try.prog [.tmp 2] R) (panK R) F14_s24_c (fun f w => rec18 (f 2) w) (kxB 3 ((fun f w => rec18 (f 2) w)) (kxB 2 ((fun f w => F14_s10 R rec4 (f 0) (f 2) (f 3) (f 5) (f 6) (f 15) w)) (kxB 1 ((fun f w => rec4 (f 2) w)) (kxB 0 ((fun f w => F14_s3 R (f 2) w)) noX)))) f w)) (y' := (wpE Try.prog F14_dc (resK Try.prog [.tmp 2] R) (panK R) .skip (fun f w => rec18 (f 2) w) (kxB 3 ((fun f w => rec18 (f 2) w)) (kxB 2 ((fun f w => F14_s10 R rec4 (f 0) (f 2) (f 3) (f 5) (f 6) (f 15) w)) (kxB 1 ((fun f w => rec4 (f 2) w)) (kxB 0 ((fun f w => F14_s3 R (f 2) w)) noX)))) f w)) ((F14_s24_ok R rec4 rec18) f w) ((fun f w h => skip_ok h) f w) h))
def F14_s22_t (R : Ending → World → Prop) (K : Value → Value → Value → Value → Value → Value → Value → Value → Value → World → Prop) (v0 : Value) (v2 : Value) (v3 : Value) (v5 : Value) (v6 : Value) (v15 : Value) (v40 : Value) (w : World) : Prop :=
  uv Try.prog R (Instr.entry v40) w (fun v43 w => -- locks.go:158
  uv Try.prog R (Instr.extract v43 0) w (fun v44 w => -- locks.go:158
  uv Try.prog R (Instr.extract v43 1) w (fun v45 w => -- locks.go:158
  uv Try.prog R (Instr.loadAt 3 v3) w (fun v47 w => -- locks.go:159
  uv Try.prog R (binS Go.BinOp.neq 3 (.tmp 46) (.tmp 47) v44 v47) w (fun v48 w => -- locks.go:159
  Gk v48 true (fun k => k v45 w) w (fun v50 w => -- locks.go:159
  Gk v48 true (fun k => k v5 w) w (fun v51 w => -- locks.go:159
  Gk v48 true (fun k => un Try.prog R (nilS v51) w k) w (fun v52 w => -- locks.go:159
  Gk v48 true (fun k => uv Try.prog R (Instr.fieldAt 59 v52 1) w k) w (fun v53 w => -- locks.go:159
  Gk v48 true (fun k => uv Try.prog R (Instr.loadAt 57 v53) w k) w (fun v54 w => -- locks.go:159
  Gk v48 true (fun k => k v6 w) w (fun v55 w => -- locks.go:159
  Gk v48 true (fun k => uv Try.prog R (Instr.indexAt 57 v54 v55) w k) w (fun v56 w => -- locks.go:159
  Gk v48 true (fun k => uv Try.prog R (Instr.fieldAt 62 v56 1) w k) w (fun v57 w => -- locks.go:159
  Gk v48 true (fun k => uv Try.prog R (Instr.loadAt 3 v57) w k) w (fun v58 w => -- locks.go:159
  Gk v48 true (fun k => un Try.prog R (callFunc 37 #[v50, v58]) w k) w (fun v59 w => -- locks.go:159
  Gk v48 true (fun k => uv Try.prog R (Op.unary Go.UnOp.not v59) w k) w (fun v60 w => -- locks.go:159
  uv Try.prog R (pickS v48 v60 (Go.Value.bool false)) w (fun v61 w => -- locks.go:159
  K v0 v2 v3 v5 v6 v44 v15 v40 v61 w)))))))))))))))))
theorem F14_s22_st (R : Ending → World → Prop) (K : Value → Value → Value → Value → Value → Value → Value → Value → Value → World → Prop) (X : Nat → Fr → World → Prop) (f : Fr) (w : World) (h : F14_s22_t R K (f 0) (f 2) (f 3) (f 5) (f 6) (f 15) (f 40) w) : wpE Try.prog F14_dc (resK Try.prog [.tmp 2] R) (panK R) (.seq (cL (cI (cR (cR (cI (cI (cR (cL (cR (cR (cR (cI (cR (cR (cI (cI (cR (cL (cR F14_b))))))))))))))))))) (cL (cR (cI (cR (cR (cI (cI (cR (cL (cR (cR (cR (cI (cR (cR (cI (cI (cR (cL (cR F14_b))))))))))))))))))))) (fun f w => K (f 0) (f 2) (f 3) (f 5) (f 6) (f 7) (f 15) (f 40) (f 61) w) X f w := Eq.mp (by kernel_rfl) h
def F14_s22 (R : Ending → World → Prop) (rec4 : Value → World → Prop) (rec18 : Value → World → Prop) (v0 : Value) (v2 : Value) (v3 : Value) (v5 : Value) (v6 : Value) (v15 : Value) (v40 : Value) (w : World) : Prop :=
  F14_s22_t R (F14_s23 R rec4 rec18) v0 v2 v3 v5 v6 v15 v40 w
noncomputable def F14_s22_c : Code := (.seq (.seq (cL (cI (cR (cR (cI (cI (cR (cL (cR (cR (cR (cI (cR (cR (cI (cI (cR (cL (cR F14_b))))))))))))))))))) (cL (cR (cI (cR (cR (cI (cI (cR (cL (cR (cR (cR (cI (cR (cR (cI (cI (cR (cL (cR F14_b))))))))))))))))))))) F14_s23_c)
theorem F14_s22_ok (R : Ending → World → Prop) (rec4 : Value → World → Prop) (rec18 : Value → World → Prop) : ∀ f w, ((fun f w => F14_s22 R rec4 rec18 (f 0) (f 2) (f 3) (f 5) (f 6) (f 15) (f 40) w)) f w → wpE Try.prog F14_dc (resK Try.prog [.tmp 2] R) (panK R) F14_s22_c (fun f w => rec18 (f 2) w) (kxB 3 ((fun f w => rec18 (f 2) w)) (kxB 2 ((fun f w => F14_s10 R rec4 (f 0) (f 2) (f 3) (f 5) (f 6) (f 15) w)) (kxB 1 ((fun f w => rec4 (f 2) w)) (kxB 0 ((fun f w => F14_s3 R (f 2) w)) noX)))) f w :=
  fun f w h => cut (.seq (cL (cI (cR (cR (cI (cI (cR (cL (cR (cR (cR (cI (cR (cR (cI (cI (cR (cL (cR F14_b))))))))))))))))))) (cL (cR (cI (cR (cR (cI (cI (cR (cL (cR (cR (cR (cI (cR (cR (cI (cI (cR (cL (cR F14_b))))))))))))))))))))) F14_s23_c (K := (fun f w => F14_s23 R rec4 rec18 (f 0) (f 2) (f 3) (f 5) (f 6) (f 7) (f 15) (f 40) (f 61) w)) (F14_s23_ok R rec4 rec18) f w (F14_s22_st R (F14_s23 R rec4 rec18) _ f w h)
noncomputable def F14_s21_c : Code := (.seq (cR (cR (cI (cI (cR (cL (cR (cR (cR (cI (cR (cR (cI (cI (cR (cL (cR F14_b))))))))))))))))) .skip)
theorem F14_s21_e (R : Ending → World → Prop) (K : Fr → World → Prop) (X : Nat → Fr → World → Prop) (f : Fr) (w : World) (h : wpE Try.prog F14_dc (resK Try.prog [.tmp 2] R) (panK R) F14_s22_c K (kxB 3 K X) f w) : wpE Try.prog F14_dc (resK Try.prog [.tmp 2] R) (panK R) (cR (cR (cI (cI (cR (cL (cR (cR (cR (cI (cR (cR (cI (cI (cR (cL (cR F14_b))))))))))))))))) K X f w := Eq.mp (by kernel_rfl) h
theorem F14_s21_ok (R : Ending → World → Prop) (rec4 : Value → World → Prop) (rec18 : Value → World → Prop) : ∀ f w, ((fun f w => F14_s22 R rec4 rec18 (f 0) (f 2) (f 3) (f 5) (f 6) (f 15) (f 40) w)) f w → wpE Try.prog F14_dc (resK Try.prog [.tmp 2] R) (panK R) F14_s21_c (fun f w => rec18 (f 2) w) (kxB 2 ((fun f w => F14_s10 R rec4 (f 0) (f 2) (f 3) (f 5) (f 6) (f 15) w)) (kxB 1 ((fun f w => rec4 (f 2) w)) (kxB 0 ((fun f w => F14_s3 R (f 2) w)) noX))) f w :=
  fun f w h => cut (cR (cR (cI (cI (cR (cL (cR (cR (cR (cI (cR (cR (cI (cI (cR (cL (cR F14_b))))))))))))))))) .skip (K := (fun f w => rec18 (f 2) w)) (fun f w h => skip_ok h) f w (F14_s21_e R _ _ f w ((F14_s22_ok R rec4 rec18) f w h))
def F14_s20 (R : Ending → World → Prop) (rec4 : Value → World → Prop) (rec18 : Value → World → Prop) (v0 : Value) (v2 : Value) (v3 : Value) (v5 : Value) (v6 : Value) (v15 : Value) (v40 : Value) (v42 : Value) (w : World) : Prop :=
  Bc v42
    (F14_s22 R rec4 rec18 v0 v2 v3 v5 v6 v15 v40 w)
    (F14_s10 R rec4 v0 v2 v3 v5 v6 v15 w)
noncomputable def F14_s20_c : Code := (.seq (cL (cR (cI (cI (cR (cL (cR (cR (cR (cI (cR (cR (cI (cI (cR (cL (cR F14_b))))))))))))))))) F14_s21_c)
theorem F14_s20_e (R : Ending → World → Prop) (K : Fr → World → Prop) (X : Nat → Fr → World → Prop) (f : Fr) (w : World) (h : Bc (f 42) (wpE Try.prog F14_dc (resK Try.prog [.tmp 2] R) (panK R) .skip K X f w) (wpE Try.prog F14_dc (resK Try.prog [.tmp 2] R) (panK R) (.exit 2) K X f w)) : (wpE Try.prog F14_dc (resK Try.prog [.tmp 2] R) (panK R) (cL (cR (cI (cI (cR (cL (cR (cR (cR (cI (cR (cR (cI (cI (cR (cL (cR F14_b))))))))))))))))) K X f w) := Eq.mp (by kernel_rfl) h
theorem F14_s20_ok (R : Ending → World → Prop) (rec4 : Value → World → Prop) (rec18 : Value → World → Prop) : ∀ f w, ((fun f w => F14_s20 R rec4 rec18 (f 0) (f 2) (f 3) (f 5) (f 6) (f 15) (f 40) (f 42) w)) f w → wpE Try.prog F14_dc (resK Try.prog [.tmp 2] R) (panK R) F14_s20_c (fun f w => rec18 (f 2) w) (kxB 2 ((fun f w => F14_s10 R rec4 (f 0) (f 2) (f 3) (f 5) (f 6) (f 15) w)) (kxB 1 ((fun f w => rec4 (f 2) w)) (kxB 0 ((fun f w => F14_s3 R (f 2) w)) noX))) f w :=
  fun f w h => cut (cL (cR (cI (cI (cR (cL (cR (cR (cR (cI (cR (cR (cI (cI (cR (cL (cR F14_b))))))))))))))))) F14_s21_c (K := (fun f w => F14_s22 R rec4 rec18 (f 0) (f 2) (f 3) (f 5) (f 6) (f 15) (f 40) w)) (F14_s21_ok R rec4 rec18) f w (F14_s20_e R _ _ f w (Bc_imp (x' := (wpE Try.prog F14_dc (resK Try.prog [.tmp 2] R) (panK R) .skip (fun f w => F14_s22 R rec4 rec18 (f 0) (f 2) (f 3) (f 5) (f 6) (f 15) (f 40) w) (kxB 2 ((fun f w => F14_s10 R rec4 (f 0) (f 2) (f 3) (f 5) (f 6) (f 15) w)) (kxB 1 ((fun f w => rec4 (f 2) w)) (kxB 0 ((fun f w => F14_s3 R (f 2) w)) noX))) f w)) (y' := (wpE Try.prog F14_dc (resK Try.prog [.tmp 2] R) (panK R) (.exit 2) (fun f w => F14_s22 R rec4 rec18 (f 0) (f 2) (f 3) (f 5) (f 6) (f 15) (f 40) w) (kxB 2 ((fun f w => F14_s10 R rec4 (f 0) (f 2) (f 3) (f 5) (f 6) (f 15) w)) (kxB 1 ((fun f w => rec4 (f 2) w)) (kxB 0 ((fun f w => F14_s3 R (f 2) w)) noX))) f w)) ((fun f w h => skip_ok h) f w) ((fun f w h => exit_hit h) f w) h))
def F14_s19_t (R : Ending → World → Prop) (K : Value → Value → Value → Value → Value → Value → Value → Value → World → Prop) (v0 : Value) (v2 : Value) (v3 : Value) (v5 : Value) (v6 : Value) (v15 : Value) (v40 : Value) (w : World) : Prop :=
  uv Try.prog R (Instr.next v40 false 0) w (fun v41 w => -- locks.go:158
  uv Try.prog R (Instr.extract v41 0) w (fun v42 w => -- locks.go:158
  K v0 v2 v3 v5 v6 v15 v40 v42 w))
theorem F14_s19_st (R : Ending → World → Prop) (K : Value → Value → Value → Value → Value → Value → Value → Value → World → Prop) (X : Nat → Fr → World → Prop) (f : Fr) (w : World) (h : F14_s19_t R K (f 0) (f 2) (f 3) (f 5) (f 6) (f 15) (f 40) w) : wpE Try.prog F14_dc (resK Try.prog [.tmp 2] R) (panK R) (cL (cI (cI (cR (cL (cR (cR (cR (cI (cR (cR (cI (cI (cR (cL (cR F14_b)))))))))))))))) (fun f w => K (f 0) (f 2) (f 3) (f 5) (f 6) (f 15) (f 40) (f 42) w) X f w := Eq.mp (by kernel_rfl) h
def F14_s19 (R : Ending → World → Prop) (rec4 : Value → World → Prop) (rec18 : Value → World → Prop) (v0 : Value) (v2 : Value) (v3 : Value) (v5 : Value) (v6 : Value) (v15 : Value) (v40 : Value) (w : World) : Prop :=
  F14_s19_t R (F14_s20 R rec4 rec18) v0 v2 v3 v5 v6 v15 v40 w
noncomputable def F14_s19_c : Code := (.seq (cL (cI (cI (cR (cL (cR (cR (cR (cI (cR (cR (cI (cI (cR (cL (cR F14_b)))))))))))))))) F14_s20_c)
theorem F14_s19_ok (R : Ending → World → Prop) (rec4 : Value → World → Prop) (rec18 : Value → World → Prop) : ∀ f w, ((fun f w => F14_s19 R rec4 rec18 (f 0) (f 2) (f 3) (f 5) (f 6) (f 15) (f 40) w)) f w → wpE Try.prog F14_dc (resK Try.prog [.tmp 2] R) (panK R) F14_s19_c (fun f w => rec18 (f 2) w) (kxB 2 ((fun f w => F14_s10 R rec4 (f 0) (f 2) (f 3) (f 5) (f 6) (f 15) w)) (kxB 1 ((fun f w => rec4 (f 2) w)) (kxB 0 ((fun f w => F14_s3 R (f 2) w)) noX))) f w :=
  fun f w h => cut (cL (cI (cI (cR (cL (cR (cR (cR (cI (cR (cR (cI (cI (cR (cL (cR F14_b)))))))))))))))) F14_s20_c (K := (fun f w => F14_s20 R rec4 rec18 (f 0) (f 2) (f 3) (f 5) (f 6) (f 15) (f 40) (f 42) w)) (F14_s20_ok R rec4 rec18) f w (F14_s19_st R (F14_s20 R rec4 rec18) _ f w h)
def F14_s18 (R : Ending → World → Prop) (rec4 : Value → World → Prop) (v0 : Value) (v2 : Value) (v3 : Value) (v5 : Value) (v6 : Value) (v15 : Value) (v40 : Value) (w : World) : Prop :=
  Lp1 (fun rec18 v2 w => F14_s19 R rec4 rec18 v0 v2 v3 v5 v6 v15 v40 w) v2 w
theorem F14_s18_e (R : Ending → World → Prop) (K : Fr → World → Prop) (X : Nat → Fr → World → Prop) (f : Fr) (w : World) (h : wpE Try.prog F14_dc (resK Try.prog [.tmp 2] R) (panK R) (.loop (cI (cI (cR (cL (cR (cR (cR (cI (cR (cR (cI (cI (cR (cL (cR F14_b)))))))))))))))) K X f w) : wpE Try.prog F14_dc (resK Try.prog [.tmp 2] R) (panK R) (cI (cR (cL (cR (cR (cR (cI (cR (cR (cI (cI (cR (cL (cR F14_b)))))))))))))) K X f w := Eq.mp (by kernel_rfl) h
theorem F14_s18b_e (R : Ending → World → Prop) (K : Fr → World → Prop) (X : Nat → Fr → World → Prop) (f : Fr) (w : World) (h : wpE Try.prog F14_dc (resK Try.prog [.tmp 2] R) (panK R) F14_s19_c K X f w) : wpE Try.prog F14_dc (resK Try.prog [.tmp 2] R) (panK R) (cI (cI (cR (cL (cR (cR (cR (cI (cR (cR (cI (cI (cR (cL (cR F14_b))))))))))))))) K X f w := Eq.mp (by kernel_rfl) h
theorem F14_s18_ok (R : Ending → World → Prop) (rec4 : Value → World → Prop) : ∀ f w, ((fun f w => F14_s18 R rec4 (f 0) (f 2) (f 3) (f 5) (f 6) (f 15) (f 40) w)) f w → wpE Try.prog F14_dc (resK Try.prog [.tmp 2] R) (panK R) (cI (cR (cL (cR (cR (cR (cI (cR (cR (cI (cI (cR (cL (cR F14_b)))))))))))))) (fun f w => F14_s10 R rec4 (f 0) (f 2) (f 3) (f 5) (f 6) (f 15) w) (kxB 2 ((fun f w => F14_s10 R rec4 (f 0) (f 2) (f 3) (f 5) (f 6) (f 15) w)) (kxB 1 ((fun f w => rec4 (f 2) w)) (kxB 0 ((fun f w => F14_s3 R (f 2) w)) noX))) f w :=
  fun f w h => F14_s18_e R _ _ f w (loop1_ok (P := Try.prog) (dc := F14_dc) (kr := (resK Try.prog [.tmp 2] R)) (pan := panK R) (cI (cI (cR (cL (cR (cR (cR (cI (cR (cR (cI (cI (cR (cL (cR F14_b))))))))))))))) (kn := (fun f w => F14_s10 R rec4 (f 0) (f 2) (f 3) (f 5) (f 6) (f 15) w)) (kx := (kxB 2 ((fun f w => F14_s10 R rec4 (f 0) (f 2) (f 3) (f 5) (f 6) (f 15) w)) (kxB 1 ((fun f w => rec4 (f 2) w)) (kxB 0 ((fun f w => F14_s3 R (f 2) w)) noX)))) (s0 := 2) (fun rec18 v2 w => F14_s19 R rec4 rec18 (f 0) v2 (f 3) (f 5) (f 6) (f 15) (f 40) w) f (fun rec18 f' w' hf h' => F14_s18b_e R _ _ f' w' ((F14_s19_ok R rec4 rec18) f' w' (by simp only [hf 0 (by kernel_rfl), hf 3 (by kernel_rfl), hf 5 (by kernel_rfl), hf 6 (by kernel_rfl), hf 15 (by kernel_rfl), hf 40 (by kernel_rfl)]; exact h'))) w h)
noncomputable def F14_s9_c : Code := (.seq (cR (cL (cR (cR (cR (cI (cR (cR (cI (cI (cR (cL (cR F14_b))))))))))))) F14_s10_c)
theorem F14_s9_e (R : Ending → World → Prop) (K : Fr → World → Prop) (X : Nat → Fr → World → Prop) (f : Fr) (w : World) (h : wpE Try.prog F14_dc (resK Try.prog [.tmp 2] R) (panK R) (cI (cR (cL (cR (cR (cR (cI (cR (cR (cI (cI (cR (cL (cR F14_b)))))))))))))) K (kxB 2 K X) f w) : wpE Try.prog F14_dc (resK Try.prog [.tmp 2] R) (panK R) (cR (cL (cR (cR (cR (cI (cR (cR (cI (cI (cR (cL (cR F14_b))))))))))))) K X f w := Eq.mp (by kernel_rfl) h
theorem F14_s9_ok (R : Ending → World → Prop) (rec4 : Value → World → Prop) : ∀ f w, ((fun f w => F14_s18 R rec4 (f 0) (f 2) (f 3) (f 5) (f 6) (f 15) (f 40) w)) f w → wpE Try.prog F14_dc (resK Try.prog [.tmp 2] R) (panK R) F14_s9_c (fun f w => rec4 (f 2) w) (kxB 1 ((fun f w => rec4 (f 2) w)) (kxB 0 ((fun f w => F14_s3 R (f 2) w)) noX)) f w :=
  fun f w h => cut (cR (cL (cR (cR (cR (cI (cR (cR (cI (cI (cR (cL (cR F14_b))))))))))))) F14_s10_c (K := (fun f w => F14_s10 R rec4 (f 0) (f 2) (f 3) (f 5) (f 6) (f 15) w)) (F14_s10_ok R rec4) f w (F14_s9_e R _ _ f w ((F14_s18_ok R rec4) f w h))
def F14_s8_t (R : Ending → World → Prop) (K : Value → Value → Value → Value → Value → Value → Value → World → Prop) (v0 : Value) (v2 : Value) (v15 : Value) (w : World) : Prop :=
  uv Try.prog R (Instr.entry v15) w (fun v18 w => -- locks.go:155
  uv Try.prog R (Instr.extract v18 0) w (fun v19 w => -- locks.go:155
  uv Try.prog R (Instr.extract v18 1) w (fun v20 w => -- locks.go:155
  uv Try.prog R (Instr.alloc 3 true (.tuple #[])) w (fun v3 w => -- locks.go:155
  uu Try.prog R (Instr.storeAt 3 v3 v19) w (fun w => -- locks.go:155
  Dr (fun S w => -- locks.go:156
  HN Try.prog (fun _ => True) (nilS v0) (fun v22 => -- locks.go:156
  HV Try.prog (fun _ => True) (Instr.fieldAt 53 v22 0) (fun v23 => -- locks.go:156
  HV Try.prog S (Instr.loadAt 50 v23) (fun v24 => -- locks.go:156
  HN Try.prog (fun _ => True) (nilS v20) (fun v26 => -- locks.go:156
  HV Try.prog (fun _ => True) (Instr.fieldAt 67 v26 0) (fun v27 => -- locks.go:156
  HV Try.prog S (Instr.loadAt 9 v27) (fun v28 => -- locks.go:156
  HV Try.prog S (Instr.lookup 50 v24 v28 false) (fun v29 => -- locks.go:156
  un Try.prog R (nilS v29) w (fun v31 w => -- locks.go:157
  uv Try.prog R (Instr.fieldAt 59 v31 1) w (fun v32 w => -- locks.go:157
  uv Try.prog R (Instr.loadAt 57 v32) w (fun v33 w => -- locks.go:157
  uv Try.prog R (Instr.makeFunc (Go.Fn.func 36) #[] #[v3]) w (fun v34 w => -- locks.go:157
  un Try.prog R (callFunc 25 #[v33, v34]) w (fun v35 w => -- locks.go:157
  un Try.prog R (nilS v29) w (fun v37 w => -- locks.go:158
  uv Try.prog R (Instr.fieldAt 59 v37 0) w (fun v38 w => -- locks.go:158
  uv Try.prog R (Instr.loadAt 35 v38) w (fun v39 w => -- locks.go:158
  uv Try.prog R (Instr.range 35 v39) w (fun v40 w => -- locks.go:158
  K v0 v2 v3 v29 v35 v15 v40 w))))))))))))))))) w)))))
theorem F14_s8_st (R : Ending → World → Prop) (K : Value → Value → Value → Value → Value → Value → Value → World → Prop) (X : Nat → Fr → World → Prop) (f : Fr) (w : World) (h : F14_s8_t R K (f 0) (f 2) (f 15) w) : wpE Try.prog F14_dc (resK Try.prog [.tmp 2] R) (panK R) (.seq (cL (cI (cR (cR (cI (cI (cR (cL (cR F14_b))))))))) (.seq (cL (cR (cI (cR (cR (cI (cI (cR (cL (cR F14_b)))))))))) (.seq (cL (cR (cR (cI (cR (cR (cI (cI (cR (cL (cR F14_b))))))))))) (cL (cL (cR (cR (cR (cI (cR (cR (cI (cI (cR (cL (cR F14_b)))))))))))))))) (fun f w => K (f 0) (f 2) (f 3) (f 5) (f 6) (f 15) (f 40) w) X f w := Eq.mp (by kernel_rfl) h
def F14_s8 (R : Ending → World → Prop) (rec4 : Value → World → Prop) (v0 : Value) (v2 : Value) (v15 : Value) (w : World) : Prop :=
  F14_s8_t R (F14_s18 R rec4) v0 v2 v15 w
noncomputable def F14_s8_c : Code := (.seq (.seq (cL (cI (cR (cR (cI (cI (cR (cL (cR F14_b))))))))) (.seq (cL (cR (cI (cR (cR (cI (cI (cR (cL (cR F14_b)))))))))) (.seq (cL (cR (cR (cI (cR (cR (cI (cI (cR (cL (cR F14_b))))))))))) (cL (cL (cR (cR (cR (cI (cR (cR (cI (cI (cR (cL (cR F14_b)))))))))))))))) F14_s9_c)
theorem F14_s8_ok (R : Ending → World → Prop) (rec4 : Value → World → Prop) : ∀ f w, ((fun f w => F14_s8 R rec4 (f 0) (f 2) (f 15) w)) f w → wpE Try.prog F14_dc (resK Try.prog [.tmp 2] R) (panK R) F14_s8_c (fun f w => rec4 (f 2) w) (kxB 1 ((fun f w => rec4 (f 2) w)) (kxB 0 ((fun f w => F14_s3 R (f 2) w)) noX)) f w :=
  fun f w h => cut (.seq (cL (cI (cR (cR (cI (cI (cR (cL (cR F14_b))))))))) (.seq (cL (cR (cI (cR (cR (cI (cI (cR (cL (cR F14_b)))))))))) (.seq (cL (cR (cR (cI (cR (cR (cI (cI (cR (cL (cR F14_b))))))))))) (cL (cL (cR (cR (cR (cI (cR (cR (cI (cI (cR (cL (cR F14_b)))))))))))))))) F14_s9_c (K := (fun f w => F14_s18 R rec4 (f 0) (f 2) (f 3) (f 5) (f 6) (f 15) (f 40) w)) (F14_s9_ok R rec4) f w (F14_s8_st R (F14_s18 R rec4) _ f w h)
noncomputable def F14_s7_c : Code := (.seq (cR (cR (cI (cI (cR (cL (cR F14_b))))))) .skip)
theorem F14_s7_e (R : Ending → World → Prop) (K : Fr → World → Prop) (X : Nat → Fr → World → Prop) (f : Fr) (w : World) (h : wpE Try.prog F14_dc (resK Try.prog [.tmp 2] R) (panK R) F14_s8_c K (kxB 1 K X) f w) : wpE Try.prog F14_dc (resK Try.prog [.tmp 2] R) (panK R) (cR (cR (cI (cI (cR (cL (cR F14_b))))))) K X f w := Eq.mp (by kernel_rfl) h
theorem F14_s7_ok (R : Ending → World → Prop) (rec4 : Value → World → Prop) : ∀ f w, ((fun f w => F14_s8 R rec4 (f 0) (f 2) (f 15) w)) f w → wpE Try.prog F14_dc (resK Try.prog [.tmp 2] R) (panK R) F14_s7_c (fun f w => rec4 (f 2) w) (kxB 0 ((fun f w => F14_s3 R (f 2) w)) noX) f w :=
  fun f w h => cut (cR (cR (cI (cI (cR (cL (cR F14_b))))))) .skip (K := (fun f w => rec4 (f 2) w)) (fun f w h => skip_ok h) f w (F14_s7_e R _ _ f w ((F14_s8_ok R rec4) f w h))
def F14_s6 (R : Ending → World → Prop) (rec4 : Value → World → Prop) (v0 : Value) (v2 : Value) (v15 : Value) (v17 : Value) (w : World) : Prop :=
  Bc v17
    (F14_s8 R rec4 v0 v2 v15 w)
    (F14_s3 R v2 w)
noncomputable def F14_s6_c : Code := (.seq (cL (cR (cI (cI (cR (cL (cR F14_b))))))) F14_s7_c)
theorem F14_s6_e (R : Ending → World → Prop) (K : Fr → World → Prop) (X : Nat → Fr → World → Prop) (f : Fr) (w : World) (h : Bc (f 17) (wpE Try.prog F14_dc (resK Try.prog [.tmp 2] R) (panK R) .skip K X f w) (wpE Try.prog F14_dc (resK Try.prog [.tmp 2] R) (panK R) (.exit 0) K X f w)) : (wpE Try.prog F14_dc (resK Try.prog [.tmp 2] R) (panK R) (cL (cR (cI (cI (cR (cL (cR F14_b))))))) K X f w) := Eq.mp (by kernel_rfl) h
theorem F14_s6_ok (R : Ending → World → Prop) (rec4 : Value → World → Prop) : ∀ f w, ((fun f w => F14_s6 R rec4 (f 0) (f 2) (f 15) (f 17) w)) f w → wpE Try.prog F14_dc (resK Try.prog [.tmp 2] R) (panK R) F14_s6_c (fun f w => rec4 (f 2) w) (kxB 0 ((fun f w => F14_s3 R (f 2) w)) noX) f w :=
  fun f w h => cut (cL (cR (cI (cI (cR (cL (cR F14_b))))))) F14_s7_c (K := (fun f w => F14_s8 R rec4 (f 0) (f 2) (f 15) w)) (F14_s7_ok R rec4) f w (F14_s6_e R _ _ f w (Bc_imp (x' := (wpE Try.prog F14_dc (resK Try.prog [.tmp 2] R) (panK R) .skip (fun f w => F14_s8 R rec4 (f 0) (f 2) (f 15) w) (kxB 0 ((fun f w => F14_s3 R (f 2) w)) noX) f w)) (y' := (wpE Try.prog F14_dc (resK Try.prog [.tmp 2] R) (panK R) (.exit 0) (fun f w => F14_s8 R rec4 (f 0) (f 2) (f 15) w) (kxB 0 ((fun f w => F14_s3 R (f 2) w)) noX) f w)) ((fun f w h => skip_ok h) f w) ((fun f w h => exit_hit h) f w) h))
def F14_s5_t (R : Ending → World → Prop) (K : Value → Value → Value → Value → World → Prop) (v0 : Value) (v2 : Value) (v15 : Value) (w : World) : Prop :=
  uv Try.prog R (Instr.next v15 false 0) w (fun v16 w => -- locks.go:155
  uv Try.prog R (Instr.extract v16 0) w (fun v17 w => -- locks.go:155
  K v0 v2 v15 v17 w))
theorem F14_s5_st (R : Ending → World → Prop) (K : Value → Value → Value → Value → World → Prop) (X : Nat → Fr → World → Prop) (f : Fr) (w : World) (h : F14_s5_t R K (f 0) (f 2) (f 15) w) : wpE Try.prog F14_dc (resK Try.prog [.tmp 2] R) (panK R) (cL (cI (cI (cR (cL (cR F14_b)))))) (fun f w => K (f 0) (f 2) (f 15) (f 17) w) X f w := Eq.mp (by kernel_rfl) h
def F14_s5 (R : Ending → World → Prop) (rec4 : Value → World → Prop) (v0 : Value) (v2 : Value) (v15 : Value) (w : World) : Prop :=
  F14_s5_t R (F14_s6 R rec4) v0 v2 v15 w
noncomputable def F14_s5_c : Code := (.seq (cL (cI (cI (cR (cL (cR F14_b)))))) F14_s6_c)
theorem F14_s5_ok (R : Ending → World → Prop) (rec4 : Value → World → Prop) : ∀ f w, ((fun f w => F14_s5 R rec4 (f 0) (f 2) (f 15) w)) f w → wpE Try.prog F14_dc (resK Try.prog [.tmp 2] R) (panK R) F14_s5_c (fun f w => rec4 (f 2) w) (kxB 0 ((fun f w => F14_s3 R (f 2) w)) noX) f w :=
  fun f w h => cut (cL (cI (cI (cR (cL (cR F14_b)))))) F14_s6_c (K := (fun f w => F14_s6 R rec4 (f 0) (f 2) (f 15) (f 17) w)) (F14_s6_ok R rec4) f w (F14_s5_st R (F14_s6 R rec4) _ f w h)
def F14_s4 (R : Ending → World → Prop) (v0 : Value) (v2 : Value) (v15 : Value) (w : World) : Prop :=
  Lp1 (fun rec4 v2 w => F14_s5 R rec4 v0 v2 v15 w) v2 w
theorem F14_s4_e (R : Ending → World → Prop) (K : Fr → World → Prop) (X : Nat → Fr → World → Prop) (f : Fr) (w : World) (h : wpE Try.prog F14_dc (resK Try.prog [.tmp 2] R) (panK R) (.loop (cI (cI (cR (cL (cR F14_b)))))) K X f w) : wpE Try.prog F14_dc (resK Try.prog [.tmp 2] R) (panK R) (cI (cR (cL (cR F14_b)))) K X f w := Eq.mp (by kernel_rfl) h
theorem F14_s4b_e (R : Ending → World → Prop) (K : Fr → World → Prop) (X : Nat → Fr → World → Prop) (f : Fr) (w : World) (h : wpE Try.prog F14_dc (resK Try.prog [.tmp 2] R) (panK R) F14_s5_c K X f w) : wpE Try.prog F14_dc (resK Try.prog [.tmp 2] R) (panK R) (cI (cI (cR (cL (cR F14_b))))) K X f w := Eq.mp (by kernel_rfl) h
theorem F14_s4_ok (R : Ending → World → Prop) : ∀ f w, ((fun f w => F14_s4 R (f 0) (f 2) (f 15) w)) f w → wpE Try.prog F14_dc (resK Try.prog [.tmp 2] R) (panK R) (cI (cR (cL (cR F14_b)))) (fun f w => F14_s3 R (f 2) w) (kxB 0 ((fun f w => F14_s3 R (f 2) w)) noX) f w :=
  fun f w h => F14_s4_e R _ _ f w (loop1_ok (P := Try.prog) (dc := F14_dc) (kr := (resK Try.prog [.tmp 2] R)) (pan := panK R) (cI (cI (cR (cL (cR F14_b))))) (kn := (fun f w => F14_s3 R (f 2) w)) (kx := (kxB 0 ((fun f w => F14_s3 R (f 2) w)) noX)) (s0 := 2) (fun rec4 v2 w => F14_s5 R rec4 (f 0) v2 (f 15) w) f (fun rec4 f' w' hf h' => F14_s4b_e R _ _ f' w' ((F14_s5_ok R rec4) f' w' (by simp only [hf 0 (by kernel_rfl), hf 15 (by kernel_rfl)]; exact h'))) w h)
noncomputable def F14_s2_c : Code := (.seq (cR (cL (cR F14_b))) F14_s3_c)
theorem F14_s2_e (R : Ending → World → Prop) (K : Fr → World → Prop) (X : Nat → Fr → World → Prop) (f : Fr) (w : World) (h : wpE Try.prog F14_dc (resK Try.prog [.tmp 2] R) (panK R) (cI (cR (cL (cR F14_b)))) K (kxB 0 K X) f w) : wpE Try.prog F14_dc (resK Try.prog [.tmp 2] R) (panK R) (cR (cL (cR F14_b))) K X f w := Eq.mp (by kernel_rfl) h
theorem F14_s2_ok (R : Ending → World → Prop) : ∀ f w, ((fun f w => F14_s4 R (f 0) (f 2) (f 15) w)) f w → wpE Try.prog F14_dc (resK Try.prog [.tmp 2] R) (panK R) F14_s2_c (resK Try.prog [.tmp 2] R) noX f w :=
  fun f w h => cut (cR (cL (cR F14_b))) F14_s3_c (K := (fun f w => F14_s3 R (f 2) w)) (F14_s3_ok R) f w (F14_s2_e R _ _ f w ((F14_s4_ok R) f w h))
def F14_s1_t (R : Ending → World → Prop) (K : Value → Value → Value → World → Prop) (v0 : Value) (w : World) : Prop :=
  un Try.prog R (nilS v0) w (fun v12 w => -- locks.go:155
  uv Try.prog R (Instr.fieldAt 53 v12 1) w (fun v13 w => -- locks.go:155
  uv Try.prog R (Instr.loadAt 51 v13) w (fun v14 w => -- locks.go:155
  uv Try.prog R (Instr.range 51 v14) w (fun v15 w => -- locks.go:155
  K v0 (Go.Value.slice none 0 0) v15 w))))
theorem F14_s1_st (R : Ending → World → Prop) (K : Value → Value → Value → World → Prop) (X : Nat → Fr → World → Prop) (f : Fr) (w : World) (h : F14_s1_t R K (f 0) w) : wpE Try.prog F14_dc (resK Try.prog [.tmp 2] R) (panK R) (.seq (cL F14_b) (cL (cL (cR F14_b)))) (fun f w => K (f 0) (f 2) (f 15) w) X f w := Eq.mp (by kernel_rfl) h
def F14_s1 (R : Ending → World → Prop) (v0 : Value) (w : World) : Prop :=
  F14_s1_t R (F14_s4 R) v0 w
noncomputable def F14_s1_c : Code := (.seq (.seq (cL F14_b) (cL (cL (cR F14_b)))) F14_s2_c)
theorem F14_s1_ok (R : Ending → World → Prop) : ∀ f w, ((fun f w => F14_s1 R (f 0) w)) f w → wpE Try.prog F14_dc (resK Try.prog [.tmp 2] R) (panK R) F14_s1_c (resK Try.prog [.tmp 2] R) noX f w :=
  fun f w h => cut (.seq (cL F14_b) (cL (cL (cR F14_b)))) F14_s2_c (K := (fun f w => F14_s4 R (f 0) (f 2) (f 15) w)) (F14_s2_ok R) f w (F14_s1_st R (F14_s4 R) _ f w h)
theorem F14_all_e (R : Ending → World → Prop) (K : Fr → World → Prop) (X : Nat → Fr → World → Prop) (f : Fr) (w : World) (h : wpE Try.prog F14_dc (resK Try.prog [.tmp 2] R) (panK R) F14_s1_c K X f w) : wpE Try.prog F14_dc (resK Try.prog [.tmp 2] R) (panK R) F14_b K X f w := Eq.mp (by kernel_rfl) h
theorem F14_calls (R : Ending → World → Prop) (v0 : Value) (w : World) (h : F14_s1 R v0 w) : Calls Try.prog 14 #[v0] w R :=
  calls_of_wpE (dc := F14_dc) (args := [v0]) hmixed Try.func14 (c := F14_b) rfl (rs := [.tmp 2]) rfl (by kernel_rfl) (Nat.le_of_ble_eq_true (by kernel_rfl)) (F14_all_e R _ _ _ w ((F14_s1_ok R) (initFr [v0]) w h))

/-! ### (*hasp/locks.Table).Edges$1 -/
noncomputable def F36_b : Code := bodyOf Try.f36
def F36_dc : Nat → List (Nat × Bool)
  | _ => []
def F36_s1_t (R : Ending → World → Prop) (v0 : Value) (v1 : Value) (w : World) : Prop :=
  uv Try.prog R (Instr.box 62 v0) w (fun v2 w => -- locks.go:157
  uv Try.prog R (Instr.fieldAt 62 v2 0) w (fun v4 w => -- locks.go:157
  uv Try.prog R (Instr.loadAt 3 v4) w (fun v5 w => -- locks.go:157
  uv Try.prog R (Instr.loadAt 3 v1) w (fun v6 w => -- locks.go:157
  uv Try.prog R (binS Go.BinOp.eql 3 (.tmp 5) (.tmp 6) v5 v6) w (fun v7 w => -- locks.go:157
  R (.returned v7) w)))))
theorem F36_s1_st (R : Ending → World → Prop) (X : Nat → Fr → World → Prop) (f : Fr) (w : World) (h : F36_s1_t R (f 0) (f 1) w) : wpE Try.prog F36_dc (resK Try.prog [.tmp 3] R) (panK R) (.seq (cL F36_b) (cL (cR F36_b))) (resK Try.prog [.tmp 3] R) X f w := Eq.mp (by kernel_rfl) h
def F36_s1 (R : Ending → World → Prop) (v0 : Value) (v1 : Value) (w : World) : Prop :=
  F36_s1_t R v0 v1 w
noncomputable def F36_s1_c : Code := (.seq (.seq (cL F36_b) (cL (cR F36_b))) .ret)
theorem F36_s1_ok (R : Ending → World → Prop) : ∀ f w, ((fun f w => F36_s1 R (f 0) (f 1) w)) f w → wpE Try.prog F36_dc (resK Try.prog [.tmp 3] R) (panK R) F36_s1_c (resK Try.prog [.tmp 3] R) noX f w :=
  fun f w h => cut (.seq (cL F36_b) (cL (cR F36_b))) .ret (K := (resK Try.prog [.tmp 3] R)) (fun f w h => ret_ok h) f w (F36_s1_st R _ f w h)
theorem F36_all_e (R : Ending → World → Prop) (K : Fr → World → Prop) (X : Nat → Fr → World → Prop) (f : Fr) (w : World) (h : wpE Try.prog F36_dc (resK Try.prog [.tmp 3] R) (panK R) F36_s1_c K X f w) : wpE Try.prog F36_dc (resK Try.prog [.tmp 3] R) (panK R) F36_b K X f w := Eq.mp (by kernel_rfl) h
theorem F36_calls (R : Ending → World → Prop) (v0 : Value) (v1 : Value) (w : World) (h : F36_s1 R v0 v1 w) : Calls Try.prog 36 #[v0, v1] w R :=
  calls_of_wpE (dc := F36_dc) (args := [v0, v1]) hmixed Try.func36 (c := F36_b) rfl (rs := [.tmp 3]) rfl (by kernel_rfl) (Nat.le_of_ble_eq_true (by kernel_rfl)) (F36_all_e R _ _ _ w ((F36_s1_ok R) (initFr [v0, v1]) w h))

/-! ### (*hasp/locks.Table).Edges$2 -/
noncomputable def F39_b : Code := bodyOf Try.f39
def F39_dc : Nat → List (Nat × Bool)
  | 1 => [(0, true), (1, true), (2, true), (3, true), (5, true), (6, true), (7, true), (8, true), (4, false), (9, false), (10, false), (11, false), (12, true)]
  | _ => []
def F39_s1_t (R : Ending → World → Prop) (v0 : Value) (v1 : Value) (w : World) : Prop :=
  uv Try.prog R (Instr.box 81 v0) w (fun v2 w => -- locks.go:167
  uv Try.prog R (Instr.box 81 v1) w (fun v3 w => -- locks.go:167
  Dr (fun S w => -- locks.go:167
  HV Try.prog (fun _ => True) (Instr.fieldAt 81 v2 0) (fun v5 => -- locks.go:167
  HV Try.prog S (Instr.loadAt 3 v5) (fun v6 => -- locks.go:167
  HV Try.prog (fun _ => True) (Instr.fieldAt 81 v3 0) (fun v7 => -- locks.go:167
  HV Try.prog S (Instr.loadAt 3 v7) (fun v8 => -- locks.go:167
  HV Try.prog (fun _ => True) (Instr.fieldAt 81 v2 1) (fun v10 => -- locks.go:167
  HV Try.prog S (Instr.loadAt 3 v10) (fun v11 => -- locks.go:167
  HV Try.prog (fun _ => True) (Instr.fieldAt 81 v3 1) (fun v12 => -- locks.go:167
  HV Try.prog S (Instr.loadAt 3 v12) (fun v13 => -- locks.go:167
  un Try.prog R (callFunc 41 #[v6, v8]) w (fun v9 w => -- locks.go:167
  S w ∧ (
  un Try.prog R (callFunc 41 #[v11, v13]) w (fun v14 w => -- locks.go:167
  uv Try.prog R (Instr.buildSlice 29 2 #[(0, v9), (1, v14)]) w (fun v15 w => -- locks.go:167
  un Try.prog R (callFunc 40 #[v15]) w (fun v16 w => -- locks.go:167
  R (.returned v16) w)))))))))))))) w))
theorem F39_s1_st (R : Ending → World → Prop) (X : Nat → Fr → World → Prop) (f : Fr) (w : World) (h : F39_s1_t R (f 0) (f 1) w) : wpE Try.prog F39_dc (resK Try.prog [.tmp 4] R) (panK R) (.seq (cL F39_b) (cL (cR F39_b))) (resK Try.prog [.tmp 4] R) X f w := Eq.mp (by kernel_rfl) h
def F39_s1 (R : Ending → World → Prop) (v0 : Value) (v1 : Value) (w : World) : Prop :=
  F39_s1_t R v0 v1 w
noncomputable def F39_s1_c : Code := (.seq (.seq (cL F39_b) (cL (cR F39_b))) .ret)
theorem F39_s1_ok (R : Ending → World → Prop) : ∀ f w, ((fun f w => F39_s1 R (f 0) (f 1) w)) f w → wpE Try.prog F39_dc (resK Try.prog [.tmp 4] R) (panK R) F39_s1_c (resK Try.prog [.tmp 4] R) noX f w :=
  fun f w h => cut (.seq (cL F39_b) (cL (cR F39_b))) .ret (K := (resK Try.prog [.tmp 4] R)) (fun f w h => ret_ok h) f w (F39_s1_st R _ f w h)
theorem F39_all_e (R : Ending → World → Prop) (K : Fr → World → Prop) (X : Nat → Fr → World → Prop) (f : Fr) (w : World) (h : wpE Try.prog F39_dc (resK Try.prog [.tmp 4] R) (panK R) F39_s1_c K X f w) : wpE Try.prog F39_dc (resK Try.prog [.tmp 4] R) (panK R) F39_b K X f w := Eq.mp (by kernel_rfl) h
theorem F39_calls (R : Ending → World → Prop) (v0 : Value) (v1 : Value) (w : World) (h : F39_s1 R v0 v1 w) : Calls Try.prog 39 #[v0, v1] w R :=
  calls_of_wpE (dc := F39_dc) (args := [v0, v1]) hmixed Try.func39 (c := F39_b) rfl (rs := [.tmp 4]) rfl (by kernel_rfl) (Nat.le_of_ble_eq_true (by kernel_rfl)) (F39_all_e R _ _ _ w ((F39_s1_ok R) (initFr [v0, v1]) w h))

/-! ### (*hasp/locks.Table).Mode -/
noncomputable def F16_b : Code := bodyOf Try.f16
def F16_dc : Nat → List (Nat × Bool)
  | _ => []
def F16_s3_t (R : Ending → World → Prop) (w : World) : Prop :=
  R (.returned (Go.Value.int Go.IntKind.i64 0)) w
theorem F16_s3_st (R : Ending → World → Prop) (X : Nat → Fr → World → Prop) (f : Fr) (w : World) (h : F16_s3_t R w) : wpE Try.prog F16_dc (resK Try.prog [.tmp 6] R) (panK R) (cL (cR (cR F16_b))) (resK Try.prog [.tmp 6] R) X f w := Eq.mp (by kernel_rfl) h
def F16_s3 (R : Ending → World → Prop) (w : World) : Prop :=
  F16_s3_t R w
noncomputable def F16_s3_c : Code := (.seq (cL (cR (cR F16_b))) .ret)
theorem F16_s3_ok (R : Ending → World → Prop) : ∀ f w, ((fun f w => F16_s3 R w)) f w → wpE Try.prog F16_dc (resK Try.prog [.tmp 6] R) (panK R) F16_s3_c (resK Try.prog [.tmp 6] R) noX f w :=
  fun f w h => cut (cL (cR (cR F16_b))) .ret (K := (resK Try.prog [.tmp 6] R)) (fun f w h => ret_ok h) f w (F16_s3_st R _ f w h)
def F16_s4_t (R : Ending → World → Prop) (v1 : Value) (v7 : Value) (w : World) : Prop :=
  un Try.prog R (nilS v7) w (fun v17 w => -- locks.go:113
  uv Try.prog R (Instr.fieldAt 59 v17 0) w (fun v18 w => -- locks.go:113
  uv Try.prog R (Instr.loadAt 35 v18) w (fun v19 w => -- locks.go:113
  uv Try.prog R (Instr.lookup 35 v19 v1 false) w (fun v21 w => -- locks.go:113
  R (.returned v21) w))))
theorem F16_s4_st (R : Ending → World → Prop) (X : Nat → Fr → World → Prop) (f : Fr) (w : World) (h : F16_s4_t R (f 1) (f 7) w) : wpE Try.prog F16_dc (resK Try.prog [.tmp 6] R) (panK R) (cL (cT (cR (cR (cL (cR F16_b)))))) (resK Try.prog [.tmp 6] R) X f w := Eq.mp (by kernel_rfl) h
def F16_s4 (R : Ending → World → Prop) (v1 : Value) (v7 : Value) (w : World) : Prop :=
  F16_s4_t R v1 v7 w
noncomputable def F16_s4_c : Code := (.seq (cL (cT (cR (cR (cL (cR F16_b)))))) .ret)
theorem F16_s4_ok (R : Ending → World → Prop) : ∀ f w, ((fun f w => F16_s4 R (f 1) (f 7) w)) f w → wpE Try.prog F16_dc (resK Try.prog [.tmp 6] R) (panK R) F16_s4_c (fun f w => F16_s3 R w) noX f w :=
  fun f w h => cut (cL (cT (cR (cR (cL (cR F16_b)))))) .ret (K := (resK Try.prog [.tmp 6] R)) (fun f w h => ret_ok h) f w (F16_s4_st R _ f w h)
def F16_s2 (R : Ending → World → Prop) (v1 : Value) (v7 : Value) (v15 : Value) (w : World) : Prop :=
  Bc v15
    (F16_s4 R v1 v7 w)
    (F16_s3 R w)
noncomputable def F16_s2_c : Code := (.seq (cR (cR (cL (cR F16_b)))) F16_s3_c)
theorem F16_s2_e (R : Ending → World → Prop) (K : Fr → World → Prop) (X : Nat → Fr → World → Prop) (f : Fr) (w : World) (h : Bc (f 15) (wpE Try.prog F16_dc (resK Try.prog [.tmp 6] R) (panK R) F16_s4_c K X f w) (wpE Try.prog F16_dc (resK Try.prog [.tmp 6] R) (panK R) .skip K X f w)) : (wpE Try.prog F16_dc (resK Try.prog [.tmp 6] R) (panK R) (cR (cR (cL (cR F16_b)))) K X f w) := Eq.mp (by kernel_rfl) h
theorem F16_s2_ok (R : Ending → World → Prop) : ∀ f w, ((fun f w => F16_s2 R (f 1) (f 7) (f 15) w)) f w → wpE Try.prog F16_dc (resK Try.prog [.tmp 6] R) (panK R) F16_s2_c (resK Try.prog [.tmp 6] R) noX f w :=
  fun f w h => cut (cR (cR (cL (cR F16_b)))) F16_s3_c (K := (fun f w => F16_s3 R w)) (F16_s3_ok R) f w (F16_s2_e R _ _ f w (Bc_imp (x' := (wpE Try.prog F16_dc (resK Try.prog [.tmp 6] R) (panK R) F16_s4_c (fun f w => F16_s3 R w) noX f w)) (y' := (wpE Try.prog F16_dc (resK Try.prog [.tmp 6] R) (panK R) .skip (fun f w => F16_s3 R w) noX f w)) ((F16_s4_ok R) f w) ((fun f w h => skip_ok h) f w) h))
def F16_s1_t (R : Ending → World → Prop) (K : Value → Value → Value → World → Prop) (v0 : Value) (v1 : Value) (v2 : Value) (w : World) : Prop :=
  un Try.prog R (nilS v0) w (fun v9 w => -- locks.go:112
  uv Try.prog R (Instr.fieldAt 53 v9 0) w (fun v10 w => -- locks.go:112
  uv Try.prog R (Instr.loadAt 50 v10) w (fun v11 w => -- locks.go:112
  uv Try.prog R (Instr.lookup 50 v11 v2 false) w (fun v13 w => -- locks.go:112
  uv Try.prog R (binS Go.BinOp.neq 56 (.tmp 14) (.const (Go.Value.pointer none)) v13 (Go.Value.pointer none)) w (fun v15 w => -- locks.go:112
  K v1 v13 v15 w)))))
theorem F16_s1_st (R : Ending → World → Prop) (K : Value → Value → Value → World → Prop) (X : Nat → Fr → World → Prop) (f : Fr) (w : World) (h : F16_s1_t R K (f 0) (f 1) (f 2) w) : wpE Try.prog F16_dc (resK Try.prog [.tmp 6] R) (panK R) (.seq (cL F16_b) (.seq (cL (cL (cR F16_b))) (cL (cR (cL (cR F16_b)))))) (fun f w => K (f 1) (f 7) (f 15) w) X f w := Eq.mp (by kernel_rfl) h
def F16_s1 (R : Ending → World → Prop) (v0 : Value) (v1 : Value) (v2 : Value) (w : World) : Prop :=
  F16_s1_t R (F16_s2 R) v0 v1 v2 w
noncomputable def F16_s1_c : Code := (.seq (.seq (cL F16_b) (.seq (cL (cL (cR F16_b))) (cL (cR (cL (cR F16_b)))))) F16_s2_c)
theorem F16_s1_ok (R : Ending → World → Prop) : ∀ f w, ((fun f w => F16_s1 R (f 0) (f 1) (f 2) w)) f w → wpE Try.prog F16_dc (resK Try.prog [.tmp 6] R) (panK R) F16_s1_c (resK Try.prog [.tmp 6] R) noX f w :=
  fun f w h => cut (.seq (cL F16_b) (.seq (cL (cL (cR F16_b))) (cL (cR (cL (cR F16_b)))))) F16_s2_c (K := (fun f w => F16_s2 R (f 1) (f 7) (f 15) w)) (F16_s2_ok R) f w (F16_s1_st R (F16_s2 R) _ f w h)
theorem F16_all_e (R : Ending → World → Prop) (K : Fr → World → Prop) (X : Nat → Fr → World → Prop) (f : Fr) (w : World) (h : wpE Try.prog F16_dc (resK Try.prog [.tmp 6] R) (panK R) F16_s1_c K X f w) : wpE Try.prog F16_dc (resK Try.prog [.tmp 6] R) (panK R) F16_b K X f w := Eq.mp (by kernel_rfl) h
theorem F16_calls (R : Ending → World → Prop) (v0 : Value) (v1 : Value) (v2 : Value) (w : World) (h : F16_s1 R v0 v1 v2 w) : Calls Try.prog 16 #[v0, v1, v2] w R :=
  calls_of_wpE (dc := F16_dc) (args := [v0, v1, v2]) hmixed Try.func16 (c := F16_b) rfl (rs := [.tmp 6]) rfl (by kernel_rfl) (Nat.le_of_ble_eq_true (by kernel_rfl)) (F16_all_e R _ _ _ w ((F16_s1_ok R) (initFr [v0, v1, v2]) w h))

/-! ### (*hasp/locks.Table).Wish -/
noncomputable def F17_b : Code := bodyOf Try.f17
def F17_dc : Nat → List (Nat × Bool)
  | _ => []
def F17_s5_t (R : Ending → World → Prop) (v4 : Value) (w : World) : Prop :=
  uv Try.prog R (Instr.build 37 #[]) w (fun v35 w => -- locks.go:129
  uu Try.prog R (Instr.storeAt 37 v4 v35) w (fun w => -- locks.go:129
  Rc Try.prog 37 v4 w (fun r0 => R (.returned (.tuple #[r0, (Go.Value.bool false)])) w)))
theorem F17_s5_st (R : Ending → World → Prop) (X : Nat → Fr → World → Prop) (f : Fr) (w : World) (h : F17_s5_t R (f 4) w) : wpE Try.prog F17_dc (resK Try.prog [.cell 4 37, .tmp 5] R) (panK R) (cL (cR (cR (cR (cR F17_b))))) (resK Try.prog [.cell 4 37, .tmp 5] R) X f w := Eq.mp (by kernel_rfl) h
def F17_s5 (R : Ending → World → Prop) (v4 : Value) (w : World) : Prop :=
  F17_s5_t R v4 w
noncomputable def F17_s5_c : Code := (.seq (cL (cR (cR (cR (cR F17_b))))) .ret)
theorem F17_s5_ok (R : Ending → World → Prop) : ∀ f w, ((fun f w => F17_s5 R (f 4) w)) f w → wpE Try.prog F17_dc (resK Try.prog [.cell 4 37, .tmp 5] R) (panK R) F17_s5_c (resK Try.prog [.cell 4 37, .tmp 5] R) noX f w :=
  fun f w h => cut (cL (cR (cR (cR (cR F17_b))))) .ret (K := (resK Try.prog [.cell 4 37, .tmp 5] R)) (fun f w h => ret_ok h) f w (F17_s5_st R _ f w h)
def F17_s10_t (R : Ending → World → Prop) (K : Value → World → Prop) (v1 : Value) (v4 : Value) (v23 : Value) (v24 : Value) (v25 : Value) (w : World) : Prop :=
  uv Try.prog R (binS Go.BinOp.add 3 (.tmp 25) (.const (Go.Value.int Go.IntKind.i64 1)) v25 (Go.Value.int Go.IntKind.i64 1)) w (fun v34 w => -- locks.go:124
  K v34 w)
theorem F17_s10_st (R : Ending → World → Prop) (K : Value → World → Prop) (X : Nat → Fr → World → Prop) (f : Fr) (w : World) (h : F17_s10_t R K (f 1) (f 4) (f 23) (f 24) (f 25) w) : wpE Try.prog F17_dc (resK Try.prog [.cell 4 37, .tmp 5] R) (panK R) (cR (cR (cR (cI (cI (cR (cL (cR (cR (cR F17_b)))))))))) (fun f w => K (f 25) w) X f w := Eq.mp (by kernel_rfl) h
def F17_s10 (R : Ending → World → Prop) (rec6 : Value → World → Prop) (v1 : Value) (v4 : Value) (v23 : Value) (v24 : Value) (v25 : Value) (w : World) : Prop :=
  F17_s10_t R (rec6) v1 v4 v23 v24 v25 w
noncomputable def F17_s10_c : Code := (.seq (cR (cR (cR (cI (cI (cR (cL (cR (cR (cR F17_b)))))))))) .skip)
theorem F17_s10_ok (R : Ending → World → Prop) (rec6 : Value → World → Prop) : ∀ f w, ((fun f w => F17_s10 R rec6 (f 1) (f 4) (f 23) (f 24) (f 25) w)) f w → wpE Try.prog F17_dc (resK Try.prog [.cell 4 37, .tmp 5] R) (panK R) F17_s10_c (fun f w => rec6 (f 25) w) (kxB 0 ((fun f w => F17_s5 R (f 4) w)) noX) f w :=
  fun f w h => cut (cR (cR (cR (cI (cI (cR (cL (cR (cR (cR F17_b)))))))))) .skip (K := (fun f w => rec6 (f 25) w)) (fun f w h => skip_ok h) f w (F17_s10_st R (rec6) _ f w h)
def F17_s13_t (R : Ending → World → Prop) (v4 : Value) (v8 : Value) (w : World) : Prop :=
  uv Try.prog R (Instr.loadAt 37 v8) w (fun v33 w => -- locks.go:126
  uu Try.prog R (Instr.storeAt 37 v4 v33) w (fun w => -- locks.go:126
  Rc Try.prog 37 v4 w (fun r0 => R (.returned (.tuple #[r0, (Go.Value.bool true)])) w)))
theorem F17_s13_st (R : Ending → World → Prop) (X : Nat → Fr → World → Prop) (f : Fr) (w : World) (h : F17_s13_t R (f 4) (f 8) w) : wpE Try.prog F17_dc (resK Try.prog [.cell 4 37, .tmp 5] R) (panK R) (cL (cT (cR (cR (cI (cL (cR (cR (cI (cI (cR (cL (cR (cR (cR F17_b))))))))))))))) (resK Try.prog [.cell 4 37, .tmp 5] R) X f w := Eq.mp (by kernel_rfl) h
def F17_s13 (R : Ending → World → Prop) (rec6 : Value → World → Prop) (v4 : Value) (v8 : Value) (w : World) : Prop :=
  F17_s13_t R v4 v8 w
noncomputable def F17_s13_c : Code := (.seq (cL (cT (cR (cR (cI (cL (cR (cR (cI (cI (cR (cL (cR (cR (cR F17_b))))))))))))))) .ret)
theorem F17_s13_ok (R : Ending → World → Prop) (rec6 : Value → World → Prop) : ∀ f w, ((fun f w => F17_s13 R rec6 (f 4) (f 8) w)) f w → wpE Try.prog F17_dc (resK Try.prog [.cell 4 37, .tmp 5] R) (panK R) F17_s13_c (fun f w => F17_s10 R rec6 (f 1) (f 4) (f 23) (f 24) (f 25) w) (kxB 1 ((fun f w => F17_s10 R rec6 (f 1) (f 4) (f 23) (f 24) (f 25) w)) (kxB 0 ((fun f w => F17_s5 R (f 4) w)) noX)) f w :=
  fun f w h => cut (cL (cT (cR (cR (cI (cL (cR (cR (cI (cI (cR (cL (cR (cR (cR F17_b))))))))))))))) .ret (K := (resK Try.prog [.cell 4 37, .tmp 5] R)) (fun f w h => ret_ok h) f w (F17_s13_st R _ f w h)
def F17_s12 (R : Ending → World → Prop) (rec6 : Value → World → Prop) (v1 : Value) (v4 : Value) (v8 : Value) (v23 : Value) (v24 : Value) (v25 : Value) (v32 : Value) (w : World) : Prop :=
  Bc v32
    (F17_s13 R rec6 v4 v8 w)
    (F17_s10 R rec6 v1 v4 v23 v24 v25 w)
noncomputable def F17_s12_c : Code := (.seq (cR (cR (cI (cL (cR (cR (cI (cI (cR (cL (cR (cR (cR F17_b))))))))))))) .skip)
theorem F17_s12_e (R : Ending → World → Prop) (K : Fr → World → Prop) (X : Nat → Fr → World → Prop) (f : Fr) (w : World) (h : Bc (f 32) (wpE Try.prog F17_dc (resK Try.prog [.cell 4 37, .tmp 5] R) (panK R) F17_s13_c K X f w) (wpE Try.prog F17_dc (resK Try.prog [.cell 4 37, .tmp 5] R) (panK R) .skip K X f w)) : (wpE Try.prog F17_dc (resK Try.prog [.cell 4 37, .tmp 5] R) (panK R) (cR (cR (cI (cL (cR (cR (cI (cI (cR (cL (cR (cR (cR F17_b))))))))))))) K X f w) := Eq.mp (by kernel_rfl) h
theorem F17_s12_ok (R : Ending → World → Prop) (rec6 : Value → World → Prop) : ∀ f w, ((fun f w => F17_s12 R rec6 (f 1) (f 4) (f 8) (f 23) (f 24) (f 25) (f 32) w)) f w → wpE Try.prog F17_dc (resK Try.prog [.cell 4 37, .tmp 5] R) (panK R) F17_s12_c (fun f w => F17_s10 R rec6 (f 1) (f 4) (f 23) (f 24) (f 25) w) (kxB 1 ((fun f w => F17_s10 R rec6 (f 1) (f 4) (f 23) (f 24) (f 25) w)) (kxB 0 ((fun f w => F17_s5 R (f 4) w)) noX)) f w :=
  fun f w h => cut (cR (cR (cI (cL (cR (cR (cI (cI (cR (cL (cR (cR (cR F17_b))))))))))))) .skip (K := (fun f w => F17_s10 R rec6 (f 1) (f 4) (f 23) (f 24) (f 25) w)) (fun f w h => skip_ok h) f w (F17_s12_e R _ _ f w (Bc_imp (x' := (wpE Try.prog F17_dc (resK Try.prog [.cell 4 37, .tmp 5] R) (panK R) F17_s13_c (fun f w => F17_s10 R rec6 (f 1) (f 4) (f 23) (f 24) (f 25) w) (kxB 1 ((fun f w => F17_s10 R rec6 (f 1) (f 4) (f 23) (f 24) (f 25) w)) (kxB 0 ((fun f w => F17_s5 R (f 4) w)) noX)) f w)) (y' := (wpE Try.prog F17_dc (resK Try.prog [.cell 4 37, .tmp 5] R) (panK R) .skip (fun f w => F17_s10 R rec6 (f 1) (f 4) (f 23) (f 24) (f 25) w) (kxB 1 ((fun f w => F17_s10 R rec6 (f 1) (f 4) (f 23) (f 24) (f 25) w)) (kxB 0 ((fun f w => F17_s5 R (f 4) w)) noX)) f w)) ((F17_s13_ok R rec6) f w) ((fun f w h => skip_ok h) f w) h))
def F17_s11_t (R : Ending → World → Prop) (K : Value → Value → Value → Value → Value → Value → Value → World → Prop) (v1 : Value) (v4 : Value) (v23 : Value) (v24 : Value) (v25 : Value) (w : World) : Prop :=
  uv Try.prog R (Instr.indexAt 32 v23 v25) w (fun v27 w => -- locks.go:124
  uv Try.prog R (Instr.loadAt 37 v27) w (fun v28 w => -- locks.go:124
  uv Try.prog R (Instr.alloc 37 true (.tuple #[])) w (fun v8 w => -- locks.go:124
  uu Try.prog R (Instr.storeAt 37 v8 v28) w (fun w => -- locks.go:124
  uv Try.prog R (Instr.fieldAt 37 v8 0) w (fun v29 w => -- locks.go:125
  uv Try.prog R (Instr.loadAt 3 v29) w (fun v30 w => -- locks.go:125
  uv Try.prog R (binS Go.BinOp.eql 3 (.tmp 30) (.tmp 31) v30 v1) w (fun v32 w => -- locks.go:125
  K v1 v4 v8 v23 v24 v25 v32 w)))))))
theorem F17_s11_st (R : Ending → World → Prop) (K : Value → Value → Value → Value → Value → Value → Value → World → Prop) (X : Nat → Fr → World → Prop) (f : Fr) (w : World) (h : F17_s11_t R K (f 1) (f 4) (f 23) (f 24) (f 25) w) : wpE Try.prog F17_dc (resK Try.prog [.cell 4 37, .tmp 5] R) (panK R) (.seq (cL (cI (cL (cR (cR (cI (cI (cR (cL (cR (cR (cR F17_b)))))))))))) (cL (cR (cI (cL (cR (cR (cI (cI (cR (cL (cR (cR (cR F17_b)))))))))))))) (fun f w => K (f 1) (f 4) (f 8) (f 23) (f 24) (f 25) (f 32) w) X f w := Eq.mp (by kernel_rfl) h
def F17_s11 (R : Ending → World → Prop) (rec6 : Value → World → Prop) (v1 : Value) (v4 : Value) (v23 : Value) (v24 : Value) (v25 : Value) (w : World) : Prop :=
  F17_s11_t R (F17_s12 R rec6) v1 v4 v23 v24 v25 w
noncomputable def F17_s11_c : Code := (.seq (.seq (cL (cI (cL (cR (cR (cI (cI (cR (cL (cR (cR (cR F17_b)))))))))))) (cL (cR (cI (cL (cR (cR (cI (cI (cR (cL (cR (cR (cR F17_b)))))))))))))) F17_s12_c)
theorem F17_s11_ok (R : Ending → World → Prop) (rec6 : Value → World → Prop) : ∀ f w, ((fun f w => F17_s11 R rec6 (f 1) (f 4) (f 23) (f 24) (f 25) w)) f w → wpE Try.prog F17_dc (resK Try.prog [.cell 4 37, .tmp 5] R) (panK R) F17_s11_c (fun f w => F17_s10 R rec6 (f 1) (f 4) (f 23) (f 24) (f 25) w) (kxB 1 ((fun f w => F17_s10 R rec6 (f 1) (f 4) (f 23) (f 24) (f 25) w)) (kxB 0 ((fun f w => F17_s5 R (f 4) w)) noX)) f w :=
  fun f w h => cut (.seq (cL (cI (cL (cR (cR (cI (cI (cR (cL (cR (cR (cR F17_b)))))))))))) (cL (cR (cI (cL (cR (cR (cI (cI (cR (cL (cR (cR (cR F17_b)))))))))))))) F17_s12_c (K := (fun f w => F17_s12 R rec6 (f 1) (f 4) (f 8) (f 23) (f 24) (f 25) (f 32) w)) (F17_s12_ok R rec6) f w (F17_s11_st R (F17_s12 R rec6) _ f w h)
noncomputable def F17_s9_c : Code := (.seq (cL (cR (cR (cI (cI (cR (cL (cR (cR (cR F17_b)))))))))) F17_s10_c)
theorem F17_s9_e (R : Ending → World → Prop) (K : Fr → World → Prop) (X : Nat → Fr → World → Prop) (f : Fr) (w : World) (h : wpE Try.prog F17_dc (resK Try.prog [.cell 4 37, .tmp 5] R) (panK R) F17_s11_c K (kxB 1 K X) f w) : wpE Try.prog F17_dc (resK Try.prog [.cell 4 37, .tmp 5] R) (panK R) (cL (cR (cR (cI (cI (cR (cL (cR (cR (cR F17_b)))))))))) K X f w := Eq.mp (by kernel_rfl) h
theorem F17_s9_ok (R : Ending → World → Prop) (rec6 : Value → World → Prop) : ∀ f w, ((fun f w => F17_s11 R rec6 (f 1) (f 4) (f 23) (f 24) (f 25) w)) f w → wpE Try.prog F17_dc (resK Try.prog [.cell 4 37, .tmp 5] R) (panK R) F17_s9_c (fun f w => rec6 (f 25) w) (kxB 0 ((fun f w => F17_s5 R (f 4) w)) noX) f w :=
  fun f w h => cut (cL (cR (cR (cI (cI (cR (cL (cR (cR (cR F17_b)))))))))) F17_s10_c (K := (fun f w => F17_s10 R rec6 (f 1) (f 4) (f 23) (f 24) (f 25) w)) (F17_s10_ok R rec6) f w (F17_s9_e R _ _ f w ((F17_s11_ok R rec6) f w h))
def F17_s8 (R : Ending → World → Prop) (rec6 : Value → World → Prop) (v1 : Value) (v4 : Value) (v23 : Value) (v24 : Value) (v25 : Value) (v26 : Value) (w : World) : Prop :=
  Bc v26
    (F17_s11 R rec6 v1 v4 v23 v24 v25 w)
    (F17_s5 R v4 w)
noncomputable def F17_s8_c : Code := (.seq (cL (cR (cI (cI (cR (cL (cR (cR (cR F17_b))))))))) F17_s9_c)
theorem F17_s8_e (R : Ending → World → Prop) (K : Fr → World → Prop) (X : Nat → Fr → World → Prop) (f : Fr) (w : World) (h : Bc (f 26) (wpE Try.prog F17_dc (resK Try.prog [.cell 4 37, .tmp 5] R) (panK R) .skip K X f w) (wpE Try.prog F17_dc (resK Try.prog [.cell 4 37, .tmp 5] R) (panK R) (.exit 0) K X f w)) : (wpE Try.prog F17_dc (resK Try.prog [.cell 4 37, .tmp 5] R) (panK R) (cL (cR (cI (cI (cR (cL (cR (cR (cR F17_b))))))))) K X f w) := Eq.mp (by kernel_rfl) h
theorem F17_s8_ok (R : Ending → World → Prop) (rec6 : Value → World → Prop) : ∀ f w, ((fun f w => F17_s8 R rec6 (f 1) (f 4) (f 23) (f 24) (f 25) (f 26) w)) f w → wpE Try.prog F17_dc (resK Try.prog [.cell 4 37, .tmp 5] R) (panK R) F17_s8_c (fun f w => rec6 (f 25) w) (kxB 0 ((fun f w => F17_s5 R (f 4) w)) noX) f w :=
  fun f w h => cut (cL (cR (cI (cI (cR (cL (cR (cR (cR F17_b))))))))) F17_s9_c (K := (fun f w => F17_s11 R rec6 (f 1) (f 4) (f 23) (f 24) (f 25) w)) (F17_s9_ok R rec6) f w (F17_s8_e R _ _ f w (Bc_imp (x' := (wpE Try.prog F17_dc (resK Try.prog [.cell 4 37, .tmp 5] R) (panK R) .skip (fun f w => F17_s11 R rec6 (f 1) (f 4) (f 23) (f 24) (f 25) w) (kxB 0 ((fun f w => F17_s5 R (f 4) w)) noX) f w)) (y' := (wpE Try.prog F17_dc (resK Try.prog [.cell 4 37, .tmp 5] R) (panK R) (.exit 0) (fun f w => F17_s11 R rec6 (f 1) (f 4) (f 23) (f 24) (f 25) w) (kxB 0 ((fun f w => F17_s5 R (f 4) w)) noX) f w)) ((fun f w h => skip_ok h) f w) ((fun f w h => exit_hit h) f w) h))
def F17_s7_t (R : Ending → World → Prop) (K : Value → Value → Value → Value → Value → Value → World → Prop) (v1 : Value) (v4 : Value) (v23 : Value) (v24 : Value) (v25 : Value) (w : World) : Prop :=
  uv Try.prog R (binS Go.BinOp.lss 3 (.tmp 25) (.tmp 24) v25 v24) w (fun v26 w => -- locks.go:124
  K v1 v4 v23 v24 v25 v26 w)
theorem F17_s7_st (R : Ending → World → Prop) (K : Value → Value → Value → Value → Value → Value → World → Prop) (X : Nat → Fr → World → Prop) (f : Fr) (w : World) (h : F17_s7_t R K (f 1) (f 4) (f 23) (f 24) (f 25) w) : wpE Try.prog F17_dc (resK Try.prog [.cell 4 37, .tmp 5] R) (panK R) (cL (cI (cI (cR (cL (cR (cR (cR F17_b)))))))) (fun f w => K (f 1) (f 4) (f 23) (f 24) (f 25) (f 26) w) X f w := Eq.mp (by kernel_rfl) h
def F17_s7 (R : Ending → World → Prop) (rec6 : Value → World → Prop) (v1 : Value) (v4 : Value) (v23 : Value) (v24 : Value) (v25 : Value) (w : World) : Prop :=
  F17_s7_t R (F17_s8 R rec6) v1 v4 v23 v24 v25 w
noncomputable def F17_s7_c : Code := (.seq (cL (cI (cI (cR (cL (cR (cR (cR F17_b)))))))) F17_s8_c)
theorem F17_s7_ok (R : Ending → World → Prop) (rec6 : Value → World → Prop) : ∀ f w, ((fun f w => F17_s7 R rec6 (f 1) (f 4) (f 23) (f 24) (f 25) w)) f w → wpE Try.prog F17_dc (resK Try.prog [.cell 4 37, .tmp 5] R) (panK R) F17_s7_c (fun f w => rec6 (f 25) w) (kxB 0 ((fun f w => F17_s5 R (f 4) w)) noX) f w :=
  fun f w h => cut (cL (cI (cI (cR (cL (cR (cR (cR F17_b)))))))) F17_s8_c (K := (fun f w => F17_s8 R rec6 (f 1) (f 4) (f 23) (f 24) (f 25) (f 26) w)) (F17_s8_ok R rec6) f w (F17_s7_st R (F17_s8 R rec6) _ f w h)
def F17_s6 (R : Ending → World → Prop) (v1 : Value) (v4 : Value) (v23 : Value) (v24 : Value) (v25 : Value) (w : World) : Prop :=
  Lp1 (fun rec6 v25 w => F17_s7 R rec6 v1 v4 v23 v24 v25 w) v25 w
theorem F17_s6_e (R : Ending → World → Prop) (K : Fr → World → Prop) (X : Nat → Fr → World → Prop) (f : Fr) (w : World) (h : wpE Try.prog F17_dc (resK Try.prog [.cell 4 37, .tmp 5] R) (panK R) (.loop (cI (cI (cR (cL (cR (cR (cR F17_b)))))))) K X f w) : wpE Try.prog F17_dc (resK Try.prog [.cell 4 37, .tmp 5] R) (panK R) (cI (cR (cL (cR (cR (cR F17_b)))))) K X f w := Eq.mp (by kernel_rfl) h
theorem F17_s6b_e (R : Ending → World → Prop) (K : Fr → World → Prop) (X : Nat → Fr → World → Prop) (f : Fr) (w : World) (h : wpE Try.prog F17_dc (resK Try.prog [.cell 4 37, .tmp 5] R) (panK R) F17_s7_c K X f w) : wpE Try.prog F17_dc (resK Try.prog [.cell 4 37, .tmp 5] R) (panK R) (cI (cI (cR (cL (cR (cR (cR F17_b))))))) K X f w := Eq.mp (by kernel_rfl) h
theorem F17_s6_ok (R : Ending → World → Prop) : ∀ f w, ((fun f w => F17_s6 R (f 1) (f 4) (f 23) (f 24) (f 25) w)) f w → wpE Try.prog F17_dc (resK Try.prog [.cell 4 37, .tmp 5] R) (panK R) (cI (cR (cL (cR (cR (cR F17_b)))))) (fun f w => F17_s5 R (f 4) w) (kxB 0 ((fun f w => F17_s5 R (f 4) w)) noX) f w :=
  fun f w h => F17_s6_e R _ _ f w (loop1_ok (P := Try.prog) (dc := F17_dc) (kr := (resK Try.prog [.cell 4 37, .tmp 5] R)) (pan := panK R) (cI (cI (cR (cL (cR (cR (cR F17_b))))))) (kn := (fun f w => F17_s5 R (f 4) w)) (kx := (kxB 0 ((fun f w => F17_s5 R (f 4) w)) noX)) (s0 := 25) (fun rec6 v25 w => F17_s7 R rec6 (f 1) (f 4) (f 23) (f 24) v25 w) f (fun rec6 f' w' hf h' => F17_s6b_e R _ _ f' w' ((F17_s7_ok R rec6) f' w' (by simp only [hf 1 (by kernel_rfl), hf 4 (by kernel_rfl), hf 23 (by kernel_rfl), hf 24 (by kernel_rfl)]; exact h'))) w h)
noncomputable def F17_s4_c : Code := (.seq (cR (cL (cR (cR (cR F17_b))))) F17_s5_c)
theorem F17_s4_e (R : Ending → World → Prop) (K : Fr → World → Prop) (X : Nat → Fr → World → Prop) (f : Fr) (w : World) (h : wpE Try.prog F17_dc (resK Try.prog [.cell 4 37, .tmp 5] R) (panK R) (cI (cR (cL (cR (cR (cR F17_b)))))) K (kxB 0 K X) f w) : wpE Try.prog F17_dc (resK Try.prog [.cell 4 37, .tmp 5] R) (panK R) (cR (cL (cR (cR (cR F17_b))))) K X f w := Eq.mp (by kernel_rfl) h
theorem F17_s4_ok (R : Ending → World → Prop) : ∀ f w, ((fun f w => F17_s6 R (f 1) (f 4) (f 23) (f 24) (f 25) w)) f w → wpE Try.prog F17_dc (resK Try.prog [.cell 4 37, .tmp 5] R) (panK R) F17_s4_c (resK Try.prog [.cell 4 37, .tmp 5] R) noX f w :=
  fun f w h => cut (cR (cL (cR (cR (cR F17_b))))) F17_s5_c (K := (fun f w => F17_s5 R (f 4) w)) (F17_s5_ok R) f w (F17_s4_e R _ _ f w ((F17_s6_ok R) f w h))
def F17_s3_t (R : Ending → World → Prop) (K : Value → Value → Value → Value → Value → World → Prop) (v0 : Value) (v1 : Value) (v4 : Value) (v6 : Value) (w : World) : Prop :=
  un Try.prog R (nilS v6) w (fun v20 w => -- locks.go:124
  uv Try.prog R (Instr.fieldAt 67 v20 0) w (fun v21 w => -- locks.go:124
  uv Try.prog R (Instr.loadAt 9 v21) w (fun v22 w => -- locks.go:124
  un Try.prog R (callFunc 21 #[v0, v22]) w (fun v23 w => -- locks.go:124
  un Try.prog R (builtin Go.Builtin.len #[32] 3 #[false] #[v23]) w (fun v24 w => -- locks.go:124
  K v1 v4 v23 v24 (Go.Value.int Go.IntKind.i64 0) w)))))
theorem F17_s3_st (R : Ending → World → Prop) (K : Value → Value → Value → Value → Value → World → Prop) (X : Nat → Fr → World → Prop) (f : Fr) (w : World) (h : F17_s3_t R K (f 0) (f 1) (f 4) (f 6) w) : wpE Try.prog F17_dc (resK Try.prog [.cell 4 37, .tmp 5] R) (panK R) (cL (cL (cR (cR (cR F17_b))))) (fun f w => K (f 1) (f 4) (f 23) (f 24) (f 25) w) X f w := Eq.mp (by kernel_rfl) h
def F17_s3 (R : Ending → World → Prop) (v0 : Value) (v1 : Value) (v4 : Value) (v6 : Value) (w : World) : Prop :=
  F17_s3_t R (F17_s6 R) v0 v1 v4 v6 w
noncomputable def F17_s3_c : Code := (.seq (cL (cL (cR (cR (cR F17_b))))) F17_s4_c)
theorem F17_s3_ok (R : Ending → World → Prop) : ∀ f w, ((fun f w => F17_s3 R (f 0) (f 1) (f 4) (f 6) w)) f w → wpE Try.prog F17_dc (resK Try.prog [.cell 4 37, .tmp 5] R) (panK R) F17_s3_c (resK Try.prog [.cell 4 37, .tmp 5] R) noX f w :=
  fun f w h => cut (cL (cL (cR (cR (cR F17_b))))) F17_s4_c (K := (fun f w => F17_s6 R (f 1) (f 4) (f 23) (f 24) (f 25) w)) (F17_s4_ok R) f w (F17_s3_st R (F17_s6 R) _ f w h)
def F17_s14_t (R : Ending → World → Prop) (v4 : Value) (w : World) : Prop :=
  uv Try.prog R (Instr.build 37 #[]) w (fun v17 w => -- locks.go:122
  uu Try.prog R (Instr.storeAt 37 v4 v17) w (fun w => -- locks.go:122
  Rc Try.prog 37 v4 w (fun r0 => R (.returned (.tuple #[r0, (Go.Value.bool false)])) w)))
theorem F17_s14_st (R : Ending → World → Prop) (X : Nat → Fr → World → Prop) (f : Fr) (w : World) (h : F17_s14_t R (f 4) w) : wpE Try.prog F17_dc (resK Try.prog [.cell 4 37, .tmp 5] R) (panK R) (cL (cT (cR (cL (cR (cR F17_b)))))) (resK Try.prog [.cell 4 37, .tmp 5] R) X f w := Eq.mp (by kernel_rfl) h
def F17_s14 (R : Ending → World → Prop) (v4 : Value) (w : World) : Prop :=
  F17_s14_t R v4 w
noncomputable def F17_s14_c : Code := (.seq (cL (cT (cR (cL (cR (cR F17_b)))))) .ret)
theorem F17_s14_ok (R : Ending → World → Prop) : ∀ f w, ((fun f w => F17_s14 R (f 4) w)) f w → wpE Try.prog F17_dc (resK Try.prog [.cell 4 37, .tmp 5] R) (panK R) F17_s14_c (fun f w => F17_s3 R (f 0) (f 1) (f 4) (f 6) w) noX f w :=
  fun f w h => cut (cL (cT (cR (cL (cR (cR F17_b)))))) .ret (K := (resK Try.prog [.cell 4 37, .tmp 5] R)) (fun f w h => ret_ok h) f w (F17_s14_st R _ f w h)
def F17_s2 (R : Ending → World → Prop) (v0 : Value) (v1 : Value) (v4 : Value) (v6 : Value) (v16 : Value) (w : World) : Prop :=
  Bc v16
    (F17_s14 R v4 w)
    (F17_s3 R v0 v1 v4 v6 w)
noncomputable def F17_s2_c : Code := (.seq (cR (cL (cR (cR F17_b)))) F17_s3_c)
theorem F17_s2_e (R : Ending → World → Prop) (K : Fr → World → Prop) (X : Nat → Fr → World → Prop) (f : Fr) (w : World) (h : Bc (f 16) (wpE Try.prog F17_dc (resK Try.prog [.cell 4 37, .tmp 5] R) (panK R) F17_s14_c K X f w) (wpE Try.prog F17_dc (resK Try.prog [.cell 4 37, .tmp 5] R) (panK R) .skip K X f w)) : (wpE Try.prog F17_dc (resK Try.prog [.cell 4 37, .tmp 5] R) (panK R) (cR (cL (cR (cR F17_b)))) K X f w) := Eq.mp (by kernel_rfl) h
theorem F17_s2_ok (R : Ending → World → Prop) : ∀ f w, ((fun f w => F17_s2 R (f 0) (f 1) (f 4) (f 6) (f 16) w)) f w → wpE Try.prog F17_dc (resK Try.prog [.cell 4 37, .tmp 5] R) (panK R) F17_s2_c (resK Try.prog [.cell 4 37, .tmp 5] R) noX f w :=
  fun f w h => cut (cR (cL (cR (cR F17_b)))) F17_s3_c (K := (fun f w => F17_s3 R (f 0) (f 1) (f 4) (f 6) w)) (F17_s3_ok R) f w (F17_s2_e R _ _ f w (Bc_imp (x' := (wpE Try.prog F17_dc (resK Try.prog [.cell 4 37, .tmp 5] R) (panK R) F17_s14_c (fun f w => F17_s3 R (f 0) (f 1) (f 4) (f 6) w) noX f w)) (y' := (wpE Try.prog F17_dc (resK Try.prog [.cell 4 37, .tmp 5] R) (panK R) .skip (fun f w => F17_s3 R (f 0) (f 1) (f 4) (f 6) w) noX f w)) ((F17_s14_ok R) f w) ((fun f w h => skip_ok h) f w) h))
def F17_s1_t (R : Ending → World → Prop) (K : Value → Value → Value → Value → Value → World → Prop) (v0 : Value) (v1 : Value) (w : World) : Prop :=
  uv Try.prog R (Instr.alloc 37 true (.tuple #[])) w (fun v4 w => -- locks.go:119
  un Try.prog R (nilS v0) w (fun v10 w => -- locks.go:120
  uv Try.prog R (Instr.fieldAt 53 v10 1) w (fun v11 w => -- locks.go:120
  uv Try.prog R (Instr.loadAt 51 v11) w (fun v12 w => -- locks.go:120
  uv Try.prog R (Instr.lookup 51 v12 v1 false) w (fun v14 w => -- locks.go:120
  uv Try.prog R (binS Go.BinOp.eql 55 (.tmp 15) (.const (Go.Value.pointer none)) v14 (Go.Value.pointer none)) w (fun v16 w => -- locks.go:121
  K v0 v1 v4 v14 v16 w))))))
theorem F17_s1_st (R : Ending → World → Prop) (K : Value → Value → Value → Value → Value → World → Prop) (X : Nat → Fr → World → Prop) (f : Fr) (w : World) (h : F17_s1_t R K (f 0) (f 1) w) : wpE Try.prog F17_dc (resK Try.prog [.cell 4 37, .tmp 5] R) (panK R) (.seq (cL F17_b) (.seq (cL (cR F17_b)) (cL (cL (cR (cR F17_b)))))) (fun f w => K (f 0) (f 1) (f 4) (f 6) (f 16) w) X f w := Eq.mp (by kernel_rfl) h
def F17_s1 (R : Ending → World → Prop) (v0 : Value) (v1 : Value) (w : World) : Prop :=
  F17_s1_t R (F17_s2 R) v0 v1 w
noncomputable def F17_s1_c : Code := (.seq (.seq (cL F17_b) (.seq (cL (cR F17_b)) (cL (cL (cR (cR F17_b)))))) F17_s2_c)
theorem F17_s1_ok (R : Ending → World → Prop) : ∀ f w, ((fun f w => F17_s1 R (f 0) (f 1) w)) f w → wpE Try.prog F17_dc (resK Try.prog [.cell 4 37, .tmp 5] R) (panK R) F17_s1_c (resK Try.prog [.cell 4 37, .tmp 5] R) noX f w :=
  fun f w h => cut (.seq (cL F17_b) (.seq (cL (cR F17_b)) (cL (cL (cR (cR F17_b)))))) F17_s2_c (K := (fun f w => F17_s2 R (f 0) (f 1) (f 4) (f 6) (f 16) w)) (F17_s2_ok R) f w (F17_s1_st R (F17_s2 R) _ f w h)
theorem F17_all_e (R : Ending → World → Prop) (K : Fr → World → Prop) (X : Nat → Fr → World → Prop) (f : Fr) (w : World) (h : wpE Try.prog F17_dc (resK Try.prog [.cell 4 37, .tmp 5] R) (panK R) F17_s1_c K X f w) : wpE Try.prog F17_dc (resK Try.prog [.cell 4 37, .tmp 5] R) (panK R) F17_b K X f w := Eq.mp (by kernel_rfl) h
theorem F17_calls (R : Ending → World → Prop) (v0 : Value) (v1 : Value) (w : World) (h : F17_s1 R v0 v1 w) : Calls Try.prog 17 #[v0, v1] w R :=
  calls_of_wpE (dc := F17_dc) (args := [v0, v1]) hmixed Try.func17 (c := F17_b) rfl (rs := [.cell 4 37, .tmp 5]) rfl (by kernel_rfl) (Nat.le_of_ble_eq_true (by kernel_rfl)) (F17_all_e R _ _ _ w ((F17_s1_ok R) (initFr [v0, v1]) w h))

/-! ### (*hasp/locks.Table).Queue -/
noncomputable def F21_b : Code := bodyOf Try.f21
def F21_dc : Nat → List (Nat × Bool)
  | _ => []
def F21_s3_t (R : Ending → World → Prop) (v4 : Value) (w : World) : Prop :=
  R (.returned v4) w
theorem F21_s3_st (R : Ending → World → Prop) (X : Nat → Fr → World → Prop) (f : Fr) (w : World) (h : F21_s3_t R (f 4) w) : wpE Try.prog F21_dc (resK Try.prog [.tmp 4] R) (panK R) (cL (cR (cR F21_b))) (resK Try.prog [.tmp 4] R) X f w := Eq.mp (by kernel_rfl) h
def F21_s3 (R : Ending → World → Prop) (v4 : Value) (w : World) : Prop :=
  F21_s3_t R v4 w
noncomputable def F21_s3_c : Code := (.seq (cL (cR (cR F21_b))) .ret)
theorem F21_s3_ok (R : Ending → World → Prop) : ∀ f w, ((fun f w => F21_s3 R (f 4) w)) f w → wpE Try.prog F21_dc (resK Try.prog [.tmp 4] R) (panK R) F21_s3_c (resK Try.prog [.tmp 4] R) noX f w :=
  fun f w h => cut (cL (cR (cR F21_b))) .ret (K := (resK Try.prog [.tmp 4] R)) (fun f w h => ret_ok h) f w (F21_s3_st R _ f w h)
def F21_s10_t (R : Ending → World → Prop) (K : Value → Value → World → Prop) (v1 : Value) (v4 : Value) (v19 : Value) (v20 : Value) (v21 : Value) (w : World) : Prop :=
  uv Try.prog R (binS Go.BinOp.add 3 (.tmp 21) (.const (Go.Value.int Go.IntKind.i64 1)) v21 (Go.Value.int Go.IntKind.i64 1)) w (fun v34 w => -- locks.go:146
  K v4 v34 w)
theorem F21_s10_st (R : Ending → World → Prop) (K : Value → Value → World → Prop) (X : Nat → Fr → World → Prop) (f : Fr) (w : World) (h : F21_s10_t R K (f 1) (f 4) (f 19) (f 20) (f 21) w) : wpE Try.prog F21_dc (resK Try.prog [.tmp 4] R) (panK R) (cR (cR (cR (cI (cI (cR (cT (cR (cR (cL (cR F21_b))))))))))) (fun f w => K (f 4) (f 21) w) X f w := Eq.mp (by kernel_rfl) h
def F21_s10 (R : Ending → World → Prop) (rec6 : Value → Value → World → Prop) (v1 : Value) (v4 : Value) (v19 : Value) (v20 : Value) (v21 : Value) (w : World) : Prop :=
  F21_s10_t R (rec6) v1 v4 v19 v20 v21 w
noncomputable def F21_s10_c : Code := (.seq (cR (cR (cR (cI (cI (cR (cT (cR (cR (cL (cR F21_b))))))))))) .skip)
theorem F21_s10_ok (R : Ending → World → Prop) (rec6 : Value → Value → World → Prop) : ∀ f w, ((fun f w => F21_s10 R rec6 (f 1) (f 4) (f 19) (f 20) (f 21) w)) f w → wpE Try.prog F21_dc (resK Try.prog [.tmp 4] R) (panK R) F21_s10_c (fun f w => rec6 (f 4) (f 21) w) (kxB 0 ((fun f w => F21_s3 R (f 4) w)) noX) f w :=
  fun f w h => cut (cR (cR (cR (cI (cI (cR (cT (cR (cR (cL (cR F21_b))))))))))) .skip (K := (fun f w => rec6 (f 4) (f 21) w)) (fun f w h => skip_ok h) f w (F21_s10_st R (rec6) _ f w h)
def F21_s11_t (R : Ending → World → Prop) (K : Value → Value → Value → Value → Value → World → Prop) (v1 : Value) (v4 : Value) (v19 : Value) (v20 : Value) (v21 : Value) (w : World) : Prop :=
  uv Try.prog R (Instr.indexAt 57 v19 v21) w (fun v23 w => -- locks.go:146
  uv Try.prog R (Instr.loadAt 62 v23) w (fun v24 w => -- locks.go:146
  uv Try.prog R (Instr.alloc 62 true (.tuple #[])) w (fun v7 w => -- locks.go:146
  uu Try.prog R (Instr.storeAt 62 v7 v24) w (fun w => -- locks.go:146
  uv Try.prog R (Instr.fieldAt 62 v7 0) w (fun v26 w => -- locks.go:147
  uv Try.prog R (Instr.loadAt 3 v26) w (fun v27 w => -- locks.go:147
  uv Try.prog R (Instr.fieldAt 62 v7 1) w (fun v29 w => -- locks.go:147
  uv Try.prog R (Instr.loadAt 3 v29) w (fun v30 w => -- locks.go:147
  uv Try.prog R (Instr.build 37 #[(0, v27), (1, v1), (2, v30)]) w (fun v31 w => -- locks.go:147
  uv Try.prog R (Instr.buildSlice 32 1 #[(0, v31)]) w (fun v32 w => -- locks.go:147
  un Try.prog R (builtin Go.Builtin.append #[32, 32] 32 #[false, false] #[v4, v32]) w (fun v33 w => -- locks.go:147
  K v1 v33 v19 v20 v21 w)))))))))))
theorem F21_s11_st (R : Ending → World → Prop) (K : Value → Value → Value → Value → Value → World → Prop) (X : Nat → Fr → World → Prop) (f : Fr) (w : World) (h : F21_s11_t R K (f 1) (f 4) (f 19) (f 20) (f 21) w) : wpE Try.prog F21_dc (resK Try.prog [.tmp 4] R) (panK R) (.seq (cL (cI (cL (cR (cR (cI (cI (cR (cT (cR (cR (cL (cR F21_b))))))))))))) (cR (cI (cL (cR (cR (cI (cI (cR (cT (cR (cR (cL (cR F21_b)))))))))))))) (fun f w => K (f 1) (f 4) (f 19) (f 20) (f 21) w) X f w := Eq.mp (by kernel_rfl) h
def F21_s11 (R : Ending → World → Prop) (rec6 : Value → Value → World → Prop) (v1 : Value) (v4 : Value) (v19 : Value) (v20 : Value) (v21 : Value) (w : World) : Prop :=
  F21_s11_t R (F21_s10 R rec6) v1 v4 v19 v20 v21 w
noncomputable def F21_s11_c : Code := (.seq (.seq (cL (cI (cL (cR (cR (cI (cI (cR (cT (cR (cR (cL (cR F21_b))))))))))))) (cR (cI (cL (cR (cR (cI (cI (cR (cT (cR (cR (cL (cR F21_b)))))))))))))) .skip)
theorem F21_s11_ok (R : Ending → World → Prop) (rec6 : Value → Value → World → Prop) : ∀ f w, ((fun f w => F21_s11 R rec6 (f 1) (f 4) (f 19) (f 20) (f 21) w)) f w → wpE Try.prog F21_dc (resK Try.prog [.tmp 4] R) (panK R) F21_s11_c (fun f w => F21_s10 R rec6 (f 1) (f 4) (f 19) (f 20) (f 21) w) (kxB 1 ((fun f w => F21_s10 R rec6 (f 1) (f 4) (f 19) (f 20) (f 21) w)) (kxB 0 ((fun f w => F21_s3 R (f 4) w)) noX)) f w :=
  fun f w h => cut (.seq (cL (cI (cL (cR (cR (cI (cI (cR (cT (cR (cR (cL (cR F21_b))))))))))))) (cR (cI (cL (cR (cR (cI (cI (cR (cT (cR (cR (cL (cR F21_b)))))))))))))) .skip (K := (fun f w => F21_s10 R rec6 (f 1) (f 4) (f 19) (f 20) (f 21) w)) (fun f w h => skip_ok h) f w (F21_s11_st R (F21_s10 R rec6) _ f w h)
noncomputable def F21_s9_c : Code := (.seq (cL (cR (cR (cI (cI (cR (cT (cR (cR (cL (cR F21_b))))))))))) F21_s10_c)
theorem F21_s9_e (R : Ending → World → Prop) (K : Fr → World → Prop) (X : Nat → Fr → World → Prop) (f : Fr) (w : World) (h : wpE Try.prog F21_dc (resK Try.prog [.tmp 4] R) (panK R) F21_s11_c K (kxB 1 K X) f w) : wpE Try.prog F21_dc (resK Try.prog [.tmp 4] R) (panK R) (cL (cR (cR (cI (cI (cR (cT (cR (cR (cL (cR F21_b))))))))))) K X f w := Eq.mp (by kernel_rfl) h
theorem F21_s9_ok (R : Ending → World → Prop) (rec6 : Value → Value → World → Prop) : ∀ f w, ((fun f w => F21_s11 R rec6 (f 1) (f 4) (f 19) (f 20) (f 21) w)) f w → wpE Try.prog F21_dc (resK Try.prog [.tmp 4] R) (panK R) F21_s9_c (fun f w => rec6 (f 4) (f 21) w) (kxB 0 ((fun f w => F21_s3 R (f 4) w)) noX) f w :=
  fun f w h => cut (cL (cR (cR (cI (cI (cR (cT (cR (cR (cL (cR F21_b))))))))))) F21_s10_c (K := (fun f w => F21_s10 R rec6 (f 1) (f 4) (f 19) (f 20) (f 21) w)) (F21_s10_ok R rec6) f w (F21_s9_e R _ _ f w ((F21_s11_ok R rec6) f w h))
def F21_s8 (R : Ending → World → Prop) (rec6 : Value → Value → World → Prop) (v1 : Value) (v4 : Value) (v19 : Value) (v20 : Value) (v21 : Value) (v22 : Value) (w : World) : Prop :=
  Bc v22
    (F21_s11 R rec6 v1 v4 v19 v20 v21 w)
    (F21_s3 R v4 w)
noncomputable def F21_s8_c : Code := (.seq (cL (cR (cI (cI (cR (cT (cR (cR (cL (cR F21_b)))))))))) F21_s9_c)
theorem F21_s8_e (R : Ending → World → Prop) (K : Fr → World → Prop) (X : Nat → Fr → World → Prop) (f : Fr) (w : World) (h : Bc (f 22) (wpE Try.prog F21_dc (resK Try.prog [.tmp 4] R) (panK R) .skip K X f w) (wpE Try.prog F21_dc (resK Try.prog [.tmp 4] R) (panK R) (.exit 0) K X f w)) : (wpE Try.prog F21_dc (resK Try.prog [.tmp 4] R) (panK R) (cL (cR (cI (cI (cR (cT (cR (cR (cL (cR F21_b)))))))))) K X f w) := Eq.mp (by kernel_rfl) h
theorem F21_s8_ok (R : Ending → World → Prop) (rec6 : Value → Value → World → Prop) : ∀ f w, ((fun f w => F21_s8 R rec6 (f 1) (f 4) (f 19) (f 20) (f 21) (f 22) w)) f w → wpE Try.prog F21_dc (resK Try.prog [.tmp 4] R) (panK R) F21_s8_c (fun f w => rec6 (f 4) (f 21) w) (kxB 0 ((fun f w => F21_s3 R (f 4) w)) noX) f w :=
  fun f w h => cut (cL (cR (cI (cI (cR (cT (cR (cR (cL (cR F21_b)))))))))) F21_s9_c (K := (fun f w => F21_s11 R rec6 (f 1) (f 4) (f 19) (f 20) (f 21) w)) (F21_s9_ok R rec6) f w (F21_s8_e R _ _ f w (Bc_imp (x' := (wpE Try.prog F21_dc (resK Try.prog [.tmp 4] R) (panK R) .skip (fun f w => F21_s11 R rec6 (f 1) (f 4) (f 19) (f 20) (f 21) w) (kxB 0 ((fun f w => F21_s3 R (f 4) w)) noX) f w)) (y' := (wpE Try.prog F21_dc (resK Try.prog [.tmp 4] R) (panK R) (.exit 0) (fun f w => F21_s11 R rec6 (f 1) (f 4) (f 19) (f 20) (f 21) w) (kxB 0 ((fun f w => F21_s3 R (f 4) w)) noX) f w)) ((fun f w h => skip_ok h) f w) ((fun f w h => exit_hit h) f w) h))
def F21_s7_t (R : Ending → World → Prop) (K : Value → Value → Value → Value → Value → Value → World → Prop) (v1 : Value) (v4 : Value) (v19 : Value) (v20 : Value) (v21 : Value) (w : World) : Prop :=
  uv Try.prog R (binS Go.BinOp.lss 3 (.tmp 21) (.tmp 20) v21 v20) w (fun v22 w => -- locks.go:146
  K v1 v4 v19 v20 v21 v22 w)
theorem F21_s7_st (R : Ending → World → Prop) (K : Value → Value → Value → Value → Value → Value → World → Prop) (X : Nat → Fr → World → Prop) (f : Fr) (w : World) (h : F21_s7_t R K (f 1) (f 4) (f 19) (f 20) (f 21) w) : wpE Try.prog F21_dc (resK Try.prog [.tmp 4] R) (panK R) (cL (cI (cI (cR (cT (cR (cR (cL (cR F21_b))))))))) (fun f w => K (f 1) (f 4) (f 19) (f 20) (f 21) (f 22) w) X f w := Eq.mp (by kernel_rfl) h
def F21_s7 (R : Ending → World → Prop) (rec6 : Value → Value → World → Prop) (v1 : Value) (v4 : Value) (v19 : Value) (v20 : Value) (v21 : Value) (w : World) : Prop :=
  F21_s7_t R (F21_s8 R rec6) v1 v4 v19 v20 v21 w
noncomputable def F21_s7_c : Code := (.seq (cL (cI (cI (cR (cT (cR (cR (cL (cR F21_b))))))))) F21_s8_c)
theorem F21_s7_ok (R : Ending → World → Prop) (rec6 : Value → Value → World → Prop) : ∀ f w, ((fun f w => F21_s7 R rec6 (f 1) (f 4) (f 19) (f 20) (f 21) w)) f w → wpE Try.prog F21_dc (resK Try.prog [.tmp 4] R) (panK R) F21_s7_c (fun f w => rec6 (f 4) (f 21) w) (kxB 0 ((fun f w => F21_s3 R (f 4) w)) noX) f w :=
  fun f w h => cut (cL (cI (cI (cR (cT (cR (cR (cL (cR F21_b))))))))) F21_s8_c (K := (fun f w => F21_s8 R rec6 (f 1) (f 4) (f 19) (f 20) (f 21) (f 22) w)) (F21_s8_ok R rec6) f w (F21_s7_st R (F21_s8 R rec6) _ f w h)
def F21_s6 (R : Ending → World → Prop) (v1 : Value) (v4 : Value) (v19 : Value) (v20 : Value) (v21 : Value) (w : World) : Prop :=
  Lp2 (fun rec6 v4 v21 w => F21_s7 R rec6 v1 v4 v19 v20 v21 w) v4 v21 w
theorem F21_s6_e (R : Ending → World → Prop) (K : Fr → World → Prop) (X : Nat → Fr → World → Prop) (f : Fr) (w : World) (h : wpE Try.prog F21_dc (resK Try.prog [.tmp 4] R) (panK R) (.loop (cI (cI (cR (cT (cR (cR (cL (cR F21_b))))))))) K X f w) : wpE Try.prog F21_dc (resK Try.prog [.tmp 4] R) (panK R) (cI (cR (cT (cR (cR (cL (cR F21_b))))))) K X f w := Eq.mp (by kernel_rfl) h
theorem F21_s6b_e (R : Ending → World → Prop) (K : Fr → World → Prop) (X : Nat → Fr → World → Prop) (f : Fr) (w : World) (h : wpE Try.prog F21_dc (resK Try.prog [.tmp 4] R) (panK R) F21_s7_c K X f w) : wpE Try.prog F21_dc (resK Try.prog [.tmp 4] R) (panK R) (cI (cI (cR (cT (cR (cR (cL (cR F21_b)))))))) K X f w := Eq.mp (by kernel_rfl) h
theorem F21_s6_ok (R : Ending → World → Prop) : ∀ f w, ((fun f w => F21_s6 R (f 1) (f 4) (f 19) (f 20) (f 21) w)) f w → wpE Try.prog F21_dc (resK Try.prog [.tmp 4] R) (panK R) (cI (cR (cT (cR (cR (cL (cR F21_b))))))) (fun f w => F21_s3 R (f 4) w) (kxB 0 ((fun f w => F21_s3 R (f 4) w)) noX) f w :=
  fun f w h => F21_s6_e R _ _ f w (loop2_ok (P := Try.prog) (dc := F21_dc) (kr := (resK Try.prog [.tmp 4] R)) (pan := panK R) (cI (cI (cR (cT (cR (cR (cL (cR F21_b)))))))) (kn := (fun f w => F21_s3 R (f 4) w)) (kx := (kxB 0 ((fun f w => F21_s3 R (f 4) w)) noX)) (s0 := 4) (s1 := 21) (fun rec6 v4 v21 w => F21_s7 R rec6 (f 1) v4 (f 19) (f 20) v21 w) f (fun rec6 f' w' hf h' => F21_s6b_e R _ _ f' w' ((F21_s7_ok R rec6) f' w' (by simp only [hf 1 (by kernel_rfl), hf 19 (by kernel_rfl), hf 20 (by kernel_rfl)]; exact h'))) w h)
noncomputable def F21_s5_c : Code := (.seq (cR (cT (cR (cR (cL (cR F21_b)))))) .skip)
theorem F21_s5_e (R : Ending → World → Prop) (K : Fr → World → Prop) (X : Nat → Fr → World → Prop) (f : Fr) (w : World) (h : wpE Try.prog F21_dc (resK Try.prog [.tmp 4] R) (panK R) (cI (cR (cT (cR (cR (cL (cR F21_b))))))) K (kxB 0 K X) f w) : wpE Try.prog F21_dc (resK Try.prog [.tmp 4] R) (panK R) (cR (cT (cR (cR (cL (cR F21_b)))))) K X f w := Eq.mp (by kernel_rfl) h
theorem F21_s5_ok (R : Ending → World → Prop) : ∀ f w, ((fun f w => F21_s6 R (f 1) (f 4) (f 19) (f 20) (f 21) w)) f w → wpE Try.prog F21_dc (resK Try.prog [.tmp 4] R) (panK R) F21_s5_c (fun f w => F21_s3 R (f 4) w) noX f w :=
  fun f w h => cut (cR (cT (cR (cR (cL (cR F21_b)))))) .skip (K := (fun f w => F21_s3 R (f 4) w)) (fun f w h => skip_ok h) f w (F21_s5_e R _ _ f w ((F21_s6_ok R) f w h))
def F21_s4_t (R : Ending → World → Prop) (K : Value → Value → Value → Value → Value → World → Prop) (v1 : Value) (v4 : Value) (v5 : Value) (w : World) : Prop :=
  un Try.prog R (nilS v5) w (fun v17 w => -- locks.go:146
  uv Try.prog R (Instr.fieldAt 59 v17 1) w (fun v18 w => -- locks.go:146
  uv Try.prog R (Instr.loadAt 57 v18) w (fun v19 w => -- locks.go:146
  un Try.prog R (builtin Go.Builtin.len #[57] 3 #[false] #[v19]) w (fun v20 w => -- locks.go:146
  K v1 v4 v19 v20 (Go.Value.int Go.IntKind.i64 0) w))))
theorem F21_s4_st (R : Ending → World → Prop) (K : Value → Value → Value → Value → Value → World → Prop) (X : Nat → Fr → World → Prop) (f : Fr) (w : World) (h : F21_s4_t R K (f 1) (f 4) (f 5) w) : wpE Try.prog F21_dc (resK Try.prog [.tmp 4] R) (panK R) (cL (cT (cR (cR (cL (cR F21_b)))))) (fun f w => K (f 1) (f 4) (f 19) (f 20) (f 21) w) X f w := Eq.mp (by kernel_rfl) h
def F21_s4 (R : Ending → World → Prop) (v1 : Value) (v4 : Value) (v5 : Value) (w : World) : Prop :=
  F21_s4_t R (F21_s6 R) v1 v4 v5 w
noncomputable def F21_s4_c : Code := (.seq (cL (cT (cR (cR (cL (cR F21_b)))))) F21_s5_c)
theorem F21_s4_ok (R : Ending → World → Prop) : ∀ f w, ((fun f w => F21_s4 R (f 1) (f 4) (f 5) w)) f w → wpE Try.prog F21_dc (resK Try.prog [.tmp 4] R) (panK R) F21_s4_c (fun f w => F21_s3 R (f 4) w) noX f w :=
  fun f w h => cut (cL (cT (cR (cR (cL (cR F21_b)))))) F21_s5_c (K := (fun f w => F21_s6 R (f 1) (f 4) (f 19) (f 20) (f 21) w)) (F21_s5_ok R) f w (F21_s4_st R (F21_s6 R) _ f w h)
def F21_s2 (R : Ending → World → Prop) (v1 : Value) (v4 : Value) (v5 : Value) (v15 : Value) (w : World) : Prop :=
  Bc v15
    (F21_s4 R v1 v4 v5 w)
    (F21_s3 R v4 w)
noncomputable def F21_s2_c : Code := (.seq (cR (cR (cL (cR F21_b)))) F21_s3_c)
theorem F21_s2_e (R : Ending → World → Prop) (K : Fr → World → Prop) (X : Nat → Fr → World → Prop) (f : Fr) (w : World) (h : Bc (f 15) (wpE Try.prog F21_dc (resK Try.prog [.tmp 4] R) (panK R) F21_s4_c K X f w) (wpE Try.prog F21_dc (resK Try.prog [.tmp 4] R) (panK R) .skip K X f w)) : (wpE Try.prog F21_dc (resK Try.prog [.tmp 4] R) (panK R) (cR (cR (cL (cR F21_b)))) K X f w) := Eq.mp (by kernel_rfl) h
theorem F21_s2_ok (R : Ending → World → Prop) : ∀ f w, ((fun f w => F21_s2 R (f 1) (f 4) (f 5) (f 15) w)) f w → wpE Try.prog F21_dc (resK Try.prog [.tmp 4] R) (panK R) F21_s2_c (resK Try.prog [.tmp 4] R) noX f w :=
  fun f w h => cut (cR (cR (cL (cR F21_b)))) F21_s3_c (K := (fun f w => F21_s3 R (f 4) w)) (F21_s3_ok R) f w (F21_s2_e R _ _ f w (Bc_imp (x' := (wpE Try.prog F21_dc (resK Try.prog [.tmp 4] R) (panK R) F21_s4_c (fun f w => F21_s3 R (f 4) w) noX f w)) (y' := (wpE Try.prog F21_dc (resK Try.prog [.tmp 4] R) (panK R) .skip (fun f w => F21_s3 R (f 4) w) noX f w)) ((F21_s4_ok R) f w) ((fun f w h => skip_ok h) f w) h))
def F21_s1_t (R : Ending → World → Prop) (K : Value → Value → Value → Value → World → Prop) (v0 : Value) (v1 : Value) (w : World) : Prop :=
  un Try.prog R (nilS v0) w (fun v9 w => -- locks.go:145
  uv Try.prog R (Instr.fieldAt 53 v9 0) w (fun v10 w => -- locks.go:145
  uv Try.prog R (Instr.loadAt 50 v10) w (fun v11 w => -- locks.go:145
  uv Try.prog R (Instr.lookup 50 v11 v1 false) w (fun v13 w => -- locks.go:145
  uv Try.prog R (binS Go.BinOp.neq 56 (.tmp 14) (.const (Go.Value.pointer none)) v13 (Go.Value.pointer none)) w (fun v15 w => -- locks.go:145
  K v1 (Go.Value.slice none 0 0) v13 v15 w)))))
theorem F21_s1_st (R : Ending → World → Prop) (K : Value → Value → Value → Value → World → Prop) (X : Nat → Fr → World → Prop) (f : Fr) (w : World) (h : F21_s1_t R K (f 0) (f 1) w) : wpE Try.prog F21_dc (resK Try.prog [.tmp 4] R) (panK R) (.seq (cL F21_b) (.seq (cL (cL (cR F21_b))) (cL (cR (cL (cR F21_b)))))) (fun f w => K (f 1) (f 4) (f 5) (f 15) w) X f w := Eq.mp (by kernel_rfl) h
def F21_s1 (R : Ending → World → Prop) (v0 : Value) (v1 : Value) (w : World) : Prop :=
  F21_s1_t R (F21_s2 R) v0 v1 w
noncomputable def F21_s1_c : Code := (.seq (.seq (cL F21_b) (.seq (cL (cL (cR F21_b))) (cL (cR (cL (cR F21_b)))))) F21_s2_c)
theorem F21_s1_ok (R : Ending → World → Prop) : ∀ f w, ((fun f w => F21_s1 R (f 0) (f 1) w)) f w → wpE Try.prog F21_dc (resK Try.prog [.tmp 4] R) (panK R) F21_s1_c (resK Try.prog [.tmp 4] R) noX f w :=
  fun f w h => cut (.seq (cL F21_b) (.seq (cL (cL (cR F21_b))) (cL (cR (cL (cR F21_b)))))) F21_s2_c (K := (fun f w => F21_s2 R (f 1) (f 4) (f 5) (f 15) w)) (F21_s2_ok R) f w (F21_s1_st R (F21_s2 R) _ f w h)
theorem F21_all_e (R : Ending → World → Prop) (K : Fr → World → Prop) (X : Nat → Fr → World → Prop) (f : Fr) (w : World) (h : wpE Try.prog F21_dc (resK Try.prog [.tmp 4] R) (panK R) F21_s1_c K X f w) : wpE Try.prog F21_dc (resK Try.prog [.tmp 4] R) (panK R) F21_b K X f w := Eq.mp (by kernel_rfl) h
theorem F21_calls (R : Ending → World → Prop) (v0 : Value) (v1 : Value) (w : World) (h : F21_s1 R v0 v1 w) : Calls Try.prog 21 #[v0, v1] w R :=
  calls_of_wpE (dc := F21_dc) (args := [v0, v1]) hmixed Try.func21 (c := F21_b) rfl (rs := [.tmp 4]) rfl (by kernel_rfl) (Nat.le_of_ble_eq_true (by kernel_rfl)) (F21_all_e R _ _ _ w ((F21_s1_ok R) (initFr [v0, v1]) w h))

/-! ### (*hasp/locks.thing).can -/
noncomputable def F24_b : Code := bodyOf Try.f24
def F24_dc : Nat → List (Nat × Bool)
  | _ => []
def F24_s3_t (R : Ending → World → Prop) (w : World) : Prop :=
  R (.returned (Go.Value.bool true)) w
theorem F24_s3_st (R : Ending → World → Prop) (X : Nat → Fr → World → Prop) (f : Fr) (w : World) (h : F24_s3_t R w) : wpE Try.prog F24_dc (resK Try.prog [.tmp 4] R) (panK R) (cL (cR (cR F24_b))) (resK Try.prog [.tmp 4] R) X f w := Eq.mp (by kernel_rfl) h
def F24_s3 (R : Ending → World → Prop) (w : World) : Prop :=
  F24_s3_t R w
noncomputable def F24_s3_c : Code := (.seq (cL (cR (cR F24_b))) .ret)
theorem F24_s3_ok (R : Ending → World → Prop) : ∀ f w, ((fun f w => F24_s3 R w)) f w → wpE Try.prog F24_dc (resK Try.prog [.tmp 4] R) (panK R) F24_s3_c (resK Try.prog [.tmp 4] R) noX f w :=
  fun f w h => cut (cL (cR (cR F24_b))) .ret (K := (resK Try.prog [.tmp 4] R)) (fun f w h => ret_ok h) f w (F24_s3_st R _ f w h)
def F24_s10_t (R : Ending → World → Prop) (w : World) : Prop :=
  R (.returned (Go.Value.bool false)) w
theorem F24_s10_st (R : Ending → World → Prop) (X : Nat → Fr → World → Prop) (f : Fr) (w : World) (h : F24_s10_t R w) : wpE Try.prog F24_dc (resK Try.prog [.tmp 4] R) (panK R) (cL (cT (cR (cR (cI (cR (cR (cI (cI (cR (cL (cR F24_b)))))))))))) (resK Try.prog [.tmp 4] R) X f w := Eq.mp (by kernel_rfl) h
def F24_s10 (R : Ending → World → Prop) (rec4 : World → Prop) (w : World) : Prop :=
  F24_s10_t R w
noncomputable def F24_s10_c : Code := (.seq (cL (cT (cR (cR (cI (cR (cR (cI (cI (cR (cL (cR F24_b)))))))))))) .ret)
theorem F24_s10_ok (R : Ending → World → Prop) (rec4 : World → Prop) : ∀ f w, ((fun f w => F24_s10 R rec4 w)) f w → wpE Try.prog F24_dc (resK Try.prog [.tmp 4] R) (panK R) F24_s10_c (fun f w => rec4 w) (kxB 1 ((fun f w => rec4 w)) (kxB 0 ((fun f w => F24_s3 R w)) noX)) f w :=
  fun f w h => cut (cL (cT (cR (cR (cI (cR (cR (cI (cI (cR (cL (cR F24_b)))))))))))) .ret (K := (resK Try.prog [.tmp 4] R)) (fun f w h => ret_ok h) f w (F24_s10_st R _ f w h)
def F24_s9 (R : Ending → World → Prop) (rec4 : World → Prop) (v3 : Value) (v11 : Value) (v27 : Value) (w : World) : Prop :=
  Bc v27
    (F24_s10 R rec4 w)
    (rec4 w)
noncomputable def F24_s9_c : Code := (.seq (cR (cR (cI (cR (cR (cI (cI (cR (cL (cR F24_b)))))))))) .skip)
theorem F24_s9_e (R : Ending → World → Prop) (K : Fr → World → Prop) (X : Nat → Fr → World → Prop) (f : Fr) (w : World) (h : Bc (f 27) (wpE Try.prog F24_dc (resK Try.prog [.tmp 4] R) (panK R) F24_s10_c K X f w) (wpE Try.prog F24_dc (resK Try.prog [.tmp 4] R) (panK R) .skip K X f w)) : (wpE Try.prog F24_dc (resK Try.prog [.tmp 4] R) (panK R) (cR (cR (cI (cR (cR (cI (cI (cR (cL (cR F24_b)))))))))) K X f w) := Eq.mp (by kernel_rfl) h
theorem F24_s9_ok (R : Ending → World → Prop) (rec4 : World → Prop) : ∀ f w, ((fun f w => F24_s9 R rec4 (f 3) (f 11) (f 27) w)) f w → wpE Try.prog F24_dc (resK Try.prog [.tmp 4] R) (panK R) F24_s9_c (fun f w => rec4 w) (kxB 1 ((fun f w => rec4 w)) (kxB 0 ((fun f w => F24_s3 R w)) noX)) f w :=
  fun f w h => cut (cR (cR (cI (cR (cR (cI (cI (cR (cL (cR F24_b)))))))))) .skip (K := (fun f w => rec4 w)) (fun f w h => skip_ok h) f w (F24_s9_e R _ _ f w (Bc_imp (x' := (wpE Try.prog F24_dc (resK Try.prog [.tmp 4] R) (panK R) F24_s10_c (fun f w => rec4 w) (kxB 1 ((fun f w => rec4 w)) (kxB 0 ((fun f w => F24_s3 R w)) noX)) f w)) (y' := (wpE Try.prog F24_dc (resK Try.prog [.tmp 4] R) (panK R) .skip (fun f w => rec4 w) (kxB 1 ((fun f w => rec4 w)) (kxB 0 ((fun f w => F24_s3 R w)) noX)) f w)) ((F24_s10_ok R rec4) f w) ((fun f w h => skip_ok h) f w) h))
def F24_s8_t (R : Ending → World → Prop) (K : Value → Value → Value → World → Prop) (v3 : Value) (v11 : Value) (w : World) : Prop :=
  uv Try.prog R (Instr.entry v11) w (fun v14 w => -- locks.go:39
  uv Try.prog R (Instr.extract v14 0) w (fun v15 w => -- locks.go:39
  uv Try.prog R (Instr.extract v14 1) w (fun v16 w => -- locks.go:39
  uv Try.prog R (Instr.fieldAt 62 v3 0) w (fun v18 w => -- locks.go:40
  uv Try.prog R (Instr.loadAt 3 v18) w (fun v19 w => -- locks.go:40
  uv Try.prog R (binS Go.BinOp.neq 3 (.tmp 17) (.tmp 19) v15 v19) w (fun v20 w => -- locks.go:40
  Gk v20 true (fun k => k v16 w) w (fun v22 w => -- locks.go:40
  Gk v20 true (fun k => uv Try.prog R (Instr.fieldAt 62 v3 1) w k) w (fun v23 w => -- locks.go:40
  Gk v20 true (fun k => uv Try.prog R (Instr.loadAt 3 v23) w k) w (fun v24 w => -- locks.go:40
  Gk v20 true (fun k => un Try.prog R (callFunc 37 #[v22, v24]) w k) w (fun v25 w => -- locks.go:40
  Gk v20 true (fun k => uv Try.prog R (Op.unary Go.UnOp.not v25) w k) w (fun v26 w => -- locks.go:40
  uv Try.prog R (pickS v20 v26 (Go.Value.bool false)) w (fun v27 w => -- locks.go:40
  K v3 v11 v27 w))))))))))))
theorem F24_s8_st (R : Ending → World → Prop) (K : Value → Value → Value → World → Prop) (X : Nat → Fr → World → Prop) (f : Fr) (w : World) (h : F24_s8_t R K (f 3) (f 11) w) : wpE Try.prog F24_dc (resK Try.prog [.tmp 4] R) (panK R) (.seq (cL (cI (cR (cR (cI (cI (cR (cL (cR F24_b))))))))) (cL (cR (cI (cR (cR (cI (cI (cR (cL (cR F24_b))))))))))) (fun f w => K (f 3) (f 11) (f 27) w) X f w := Eq.mp (by kernel_rfl) h
def F24_s8 (R : Ending → World → Prop) (rec4 : World → Prop) (v3 : Value) (v11 : Value) (w : World) : Prop :=
  F24_s8_t R (F24_s9 R rec4) v3 v11 w
noncomputable def F24_s8_c : Code := (.seq (.seq (cL (cI (cR (cR (cI (cI (cR (cL (cR F24_b))))))))) (cL (cR (cI (cR (cR (cI (cI (cR (cL (cR F24_b))))))))))) F24_s9_c)
theorem F24_s8_ok (R : Ending → World → Prop) (rec4 : World → Prop) : ∀ f w, ((fun f w => F24_s8 R rec4 (f 3) (f 11) w)) f w → wpE Try.prog F24_dc (resK Try.prog [.tmp 4] R) (panK R) F24_s8_c (fun f w => rec4 w) (kxB 1 ((fun f w => rec4 w)) (kxB 0 ((fun f w => F24_s3 R w)) noX)) f w :=
  fun f w h => cut (.seq (cL (cI (cR (cR (cI (cI (cR (cL (cR F24_b))))))))) (cL (cR (cI (cR (cR (cI (cI (cR (cL (cR F24_b))))))))))) F24_s9_c (K := (fun f w => F24_s9 R rec4 (f 3) (f 11) (f 27) w)) (F24_s9_ok R rec4) f w (F24_s8_st R (F24_s9 R rec4) _ f w h)
noncomputable def F24_s7_c : Code := (.seq (cR (cR (cI (cI (cR (cL (cR F24_b))))))) .skip)
theorem F24_s7_e (R : Ending → World → Prop) (K : Fr → World → Prop) (X : Nat → Fr → World → Prop) (f : Fr) (w : World) (h : wpE Try.prog F24_dc (resK Try.prog [.tmp 4] R) (panK R) F24_s8_c K (kxB 1 K X) f w) : wpE Try.prog F24_dc (resK Try.prog [.tmp 4] R) (panK R) (cR (cR (cI (cI (cR (cL (cR F24_b))))))) K X f w := Eq.mp (by kernel_rfl) h
theorem F24_s7_ok (R : Ending → World → Prop) (rec4 : World → Prop) : ∀ f w, ((fun f w => F24_s8 R rec4 (f 3) (f 11) w)) f w → wpE Try.prog F24_dc (resK Try.prog [.tmp 4] R) (panK R) F24_s7_c (fun f w => rec4 w) (kxB 0 ((fun f w => F24_s3 R w)) noX) f w :=
  fun f w h => cut (cR (cR (cI (cI (cR (cL (cR F24_b))))))) .skip (K := (fun f w => rec4 w)) (fun f w h => skip_ok h) f w (F24_s7_e R _ _ f w ((F24_s8_ok R rec4) f w h))
def F24_s6 (R : Ending → World → Prop) (rec4 : World → Prop) (v3 : Value) (v11 : Value) (v13 : Value) (w : World) : Prop :=
  Bc v13
    (F24_s8 R rec4 v3 v11 w)
    (F24_s3 R w)
noncomputable def F24_s6_c : Code := (.seq (cL (cR (cI (cI (cR (cL (cR F24_b))))))) F24_s7_c)
theorem F24_s6_e (R : Ending → World → Prop) (K : Fr → World → Prop) (X : Nat → Fr → World → Prop) (f : Fr) (w : World) (h : Bc (f 13) (wpE Try.prog F24_dc (resK Try.prog [.tmp 4] R) (panK R) .skip K X f w) (wpE Try.prog F24_dc (resK Try.prog [.tmp 4] R) (panK R) (.exit 0) K X f w)) : (wpE Try.prog F24_dc (resK Try.prog [.tmp 4] R) (panK R) (cL (cR (cI (cI (cR (cL (cR F24_b))))))) K X f w) := Eq.mp (by kernel_rfl) h
theorem F24_s6_ok (R : Ending → World → Prop) (rec4 : World → Prop) : ∀ f w, ((fun f w => F24_s6 R rec4 (f 3) (f 11) (f 13) w)) f w → wpE Try.prog F24_dc (resK Try.prog [.tmp 4] R) (panK R) F24_s6_c (fun f w => rec4 w) (kxB 0 ((fun f w => F24_s3 R w)) noX) f w :=
  fun f w h => cut (cL (cR (cI (cI (cR (cL (cR F24_b))))))) F24_s7_c (K := (fun f w => F24_s8 R rec4 (f 3) (f 11) w)) (F24_s7_ok R rec4) f w (F24_s6_e R _ _ f w (Bc_imp (x' := (wpE Try.prog F24_dc (resK Try.prog [.tmp 4] R) (panK R) .skip (fun f w => F24_s8 R rec4 (f 3) (f 11) w) (kxB 0 ((fun f w => F24_s3 R w)) noX) f w)) (y' := (wpE Try.prog F24_dc (resK Try.prog [.tmp 4] R) (panK R) (.exit 0) (fun f w => F24_s8 R rec4 (f 3) (f 11) w) (kxB 0 ((fun f w => F24_s3 R w)) noX) f w)) ((fun f w h => skip_ok h) f w) ((fun f w h => exit_hit h) f w) h))
def F24_s5_t (R : Ending → World → Prop) (K : Value → Value → Value → World → Prop) (v3 : Value) (v11 : Value) (w : World) : Prop :=
  uv Try.prog R (Instr.next v11 false 0) w (fun v12 w => -- locks.go:39
  uv Try.prog R (Instr.extract v12 0) w (fun v13 w => -- locks.go:39
  K v3 v11 v13 w))
theorem F24_s5_st (R : Ending → World → Prop) (K : Value → Value → Value → World → Prop) (X : Nat → Fr → World → Prop) (f : Fr) (w : World) (h : F24_s5_t R K (f 3) (f 11) w) : wpE Try.prog F24_dc (resK Try.prog [.tmp 4] R) (panK R) (cL (cI (cI (cR (cL (cR F24_b)))))) (fun f w => K (f 3) (f 11) (f 13) w) X f w := Eq.mp (by kernel_rfl) h
def F24_s5 (R : Ending → World → Prop) (rec4 : World → Prop) (v3 : Value) (v11 : Value) (w : World) : Prop :=
  F24_s5_t R (F24_s6 R rec4) v3 v11 w
noncomputable def F24_s5_c : Code := (.seq (cL (cI (cI (cR (cL (cR F24_b)))))) F24_s6_c)
theorem F24_s5_ok (R : Ending → World → Prop) (rec4 : World → Prop) : ∀ f w, ((fun f w => F24_s5 R rec4 (f 3) (f 11) w)) f w → wpE Try.prog F24_dc (resK Try.prog [.tmp 4] R) (panK R) F24_s5_c (fun f w => rec4 w) (kxB 0 ((fun f w => F24_s3 R w)) noX) f w :=
  fun f w h => cut (cL (cI (cI (cR (cL (cR F24_b)))))) F24_s6_c (K := (fun f w => F24_s6 R rec4 (f 3) (f 11) (f 13) w)) (F24_s6_ok R rec4) f w (F24_s5_st R (F24_s6 R rec4) _ f w h)
def F24_s4 (R : Ending → World → Prop) (v3 : Value) (v11 : Value) (w : World) : Prop :=
  Lp0 (fun rec4 w => F24_s5 R rec4 v3 v11 w) w
theorem F24_s4_e (R : Ending → World → Prop) (K : Fr → World → Prop) (X : Nat → Fr → World → Prop) (f : Fr) (w : World) (h : wpE Try.prog F24_dc (resK Try.prog [.tmp 4] R) (panK R) (.loop (cI (cI (cR (cL (cR F24_b)))))) K X f w) : wpE Try.prog F24_dc (resK Try.prog [.tmp 4] R) (panK R) (cI (cR (cL (cR F24_b)))) K X f w := Eq.mp (by kernel_rfl) h
theorem F24_s4b_e (R : Ending → World → Prop) (K : Fr → World → Prop) (X : Nat → Fr → World → Prop) (f : Fr) (w : World) (h : wpE Try.prog F24_dc (resK Try.prog [.tmp 4] R) (panK R) F24_s5_c K X f w) : wpE Try.prog F24_dc (resK Try.prog [.tmp 4] R) (panK R) (cI (cI (cR (cL (cR F24_b))))) K X f w := Eq.mp (by kernel_rfl) h
theorem F24_s4_ok (R : Ending → World → Prop) : ∀ f w, ((fun f w => F24_s4 R (f 3) (f 11) w)) f w → wpE Try.prog F24_dc (resK Try.prog [.tmp 4] R) (panK R) (cI (cR (cL (cR F24_b)))) (fun f w => F24_s3 R w) (kxB 0 ((fun f w => F24_s3 R w)) noX) f w :=
  fun f w h => F24_s4_e R _ _ f w (loop0_ok (P := Try.prog) (dc := F24_dc) (kr := (resK Try.prog [.tmp 4] R)) (pan := panK R) (cI (cI (cR (cL (cR F24_b))))) (kn := (fun f w => F24_s3 R w)) (kx := (kxB 0 ((fun f w => F24_s3 R w)) noX)) (fun rec4 w => F24_s5 R rec4 (f 3) (f 11) w) f (fun rec4 f' w' hf h' => F24_s4b_e R _ _ f' w' ((F24_s5_ok R rec4) f' w' (by simp only [hf 3 (by kernel_rfl), hf 11 (by kernel_rfl)]; exact h'))) w h)
noncomputable def F24_s2_c : Code := (.seq (cR (cL (cR F24_b))) F24_s3_c)
theorem F24_s2_e (R : Ending → World → Prop) (K : Fr → World → Prop) (X : Nat → Fr → World → Prop) (f : Fr) (w : World) (h : wpE Try.prog F24_dc (resK Try.prog [.tmp 4] R) (panK R) (cI (cR (cL (cR F24_b)))) K (kxB 0 K X) f w) : wpE Try.prog F24_dc (resK Try.prog [.tmp 4] R) (panK R) (cR (cL (cR F24_b))) K X f w := Eq.mp (by kernel_rfl) h
theorem F24_s2_ok (R : Ending → World → Prop) : ∀ f w, ((fun f w => F24_s4 R (f 3) (f 11) w)) f w → wpE Try.prog F24_dc (resK Try.prog [.tmp 4] R) (panK R) F24_s2_c (resK Try.prog [.tmp 4] R) noX f w :=
  fun f w h => cut (cR (cL (cR F24_b))) F24_s3_c (K := (fun f w => F24_s3 R w)) (F24_s3_ok R) f w (F24_s2_e R _ _ f w ((F24_s4_ok R) f w h))
def F24_s1_t (R : Ending → World → Prop) (K : Value → Value → World → Prop) (v0 : Value) (v1 : Value) (w : World) : Prop :=
  uv Try.prog R (Instr.box 62 v1) w (fun v3 w => -- locks.go:38
  un Try.prog R (nilS v0) w (fun v8 w => -- locks.go:39
  uv Try.prog R (Instr.fieldAt 59 v8 0) w (fun v9 w => -- locks.go:39
  uv Try.prog R (Instr.loadAt 35 v9) w (fun v10 w => -- locks.go:39
  uv Try.prog R (Instr.range 35 v10) w (fun v11 w => -- locks.go:39
  K v3 v11 w)))))
theorem F24_s1_st (R : Ending → World → Prop) (K : Value → Value → World → Prop) (X : Nat → Fr → World → Prop) (f : Fr) (w : World) (h : F24_s1_t R K (f 0) (f 1) w) : wpE Try.prog F24_dc (resK Try.prog [.tmp 4] R) (panK R) (.seq (cL F24_b) (cL (cL (cR F24_b)))) (fun f w => K (f 3) (f 11) w) X f w := Eq.mp (by kernel_rfl) h
def F24_s1 (R : Ending → World → Prop) (v0 : Value) (v1 : Value) (w : World) : Prop :=
  F24_s1_t R (F24_s4 R) v0 v1 w
noncomputable def F24_s1_c : Code := (.seq (.seq (cL F24_b) (cL (cL (cR F24_b)))) F24_s2_c)
theorem F24_s1_ok (R : Ending → World → Prop) : ∀ f w, ((fun f w => F24_s1 R (f 0) (f 1) w)) f w → wpE Try.prog F24_dc (resK Try.prog [.tmp 4] R) (panK R) F24_s1_c (resK Try.prog [.tmp 4] R) noX f w :=
  fun f w h => cut (.seq (cL F24_b) (cL (cL (cR F24_b)))) F24_s2_c (K := (fun f w => F24_s4 R (f 3) (f 11) w)) (F24_s2_ok R) f w (F24_s1_st R (F24_s4 R) _ f w h)
theorem F24_all_e (R : Ending → World → Prop) (K : Fr → World → Prop) (X : Nat → Fr → World → Prop) (f : Fr) (w : World) (h : wpE Try.prog F24_dc (resK Try.prog [.tmp 4] R) (panK R) F24_s1_c K X f w) : wpE Try.prog F24_dc (resK Try.prog [.tmp 4] R) (panK R) F24_b K X f w := Eq.mp (by kernel_rfl) h
theorem F24_calls (R : Ending → World → Prop) (v0 : Value) (v1 : Value) (w : World) (h : F24_s1 R v0 v1 w) : Calls Try.prog 24 #[v0, v1] w R :=
  calls_of_wpE (dc := F24_dc) (args := [v0, v1]) hmixed Try.func24 (c := F24_b) rfl (rs := [.tmp 4]) rfl (by kernel_rfl) (Nat.le_of_ble_eq_true (by kernel_rfl)) (F24_all_e R _ _ _ w ((F24_s1_ok R) (initFr [v0, v1]) w h))

end Go.Proofs.Ytpghlemcgjogpaa
