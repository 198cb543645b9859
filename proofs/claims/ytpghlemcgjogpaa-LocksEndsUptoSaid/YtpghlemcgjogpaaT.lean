/- Closed facts on the program: its orders, its types. -/
import Derived.Test.YtpghlemcgjogpaaProg
import Derived.Test.YtpghlemcgjogpaaSxo
set_option maxRecDepth 100000
namespace Go.Proofs.Ytpghlemcgjogpaa
open Go.Sx
theorem hmixed : Try.prog.follows .mixedOrders = true := by kernel_rfl
theorem fld27_0 : fieldT Try.prog 27 0 = some 0 := by kernel_rfl
theorem fld27_1 : fieldT Try.prog 27 1 = some 1 := by kernel_rfl
theorem fld27_2 : fieldT Try.prog 27 2 = some 2 := by kernel_rfl
theorem fld27_3 : fieldT Try.prog 27 3 = some 3 := by kernel_rfl
theorem fld37_0 : fieldT Try.prog 37 0 = some 0 := by kernel_rfl
theorem fld37_1 : fieldT Try.prog 37 1 = some 1 := by kernel_rfl
theorem fld37_2 : fieldT Try.prog 37 2 = some 2 := by kernel_rfl
theorem fld53_0 : fieldT Try.prog 53 0 = some 0 := by kernel_rfl
theorem fld53_1 : fieldT Try.prog 53 1 = some 1 := by kernel_rfl
theorem fld59_0 : fieldT Try.prog 59 0 = some 0 := by kernel_rfl
theorem fld59_1 : fieldT Try.prog 59 1 = some 1 := by kernel_rfl
theorem fld62_0 : fieldT Try.prog 62 0 = some 0 := by kernel_rfl
theorem fld62_1 : fieldT Try.prog 62 1 = some 1 := by kernel_rfl
theorem fld62_2 : fieldT Try.prog 62 2 = some 2 := by kernel_rfl
theorem fld67_0 : fieldT Try.prog 67 0 = some 0 := by kernel_rfl
theorem fld81_0 : fieldT Try.prog 81 0 = some 0 := by kernel_rfl
theorem fld81_1 : fieldT Try.prog 81 1 = some 1 := by kernel_rfl
theorem pln3 : plainT Try.prog 3 = true := by kernel_rfl
theorem siz3 : (Try.prog.info? 3).map (·.size) = some 1 := by kernel_rfl
theorem pln4 : plainT Try.prog 4 = true := by kernel_rfl
theorem siz4 : (Try.prog.info? 4).map (·.size) = some 1 := by kernel_rfl
theorem pln9 : plainT Try.prog 9 = true := by kernel_rfl
theorem siz9 : (Try.prog.info? 9).map (·.size) = some 1 := by kernel_rfl
theorem agg27 : aggT Try.prog 27 = some 4 := by kernel_rfl
theorem pln35 : plainT Try.prog 35 = true := by kernel_rfl
theorem siz35 : (Try.prog.info? 35).map (·.size) = some 1 := by kernel_rfl
theorem agg37 : aggT Try.prog 37 = some 3 := by kernel_rfl
theorem pln50 : plainT Try.prog 50 = true := by kernel_rfl
theorem siz50 : (Try.prog.info? 50).map (·.size) = some 1 := by kernel_rfl
theorem pln51 : plainT Try.prog 51 = true := by kernel_rfl
theorem siz51 : (Try.prog.info? 51).map (·.size) = some 1 := by kernel_rfl
theorem pln57 : plainT Try.prog 57 = true := by kernel_rfl
theorem siz57 : (Try.prog.info? 57).map (·.size) = some 1 := by kernel_rfl
theorem agg62 : aggT Try.prog 62 = some 3 := by kernel_rfl
theorem agg81 : aggT Try.prog 81 = some 2 := by kernel_rfl
theorem agg91 : aggT Try.prog 91 = some 7 := by kernel_rfl
theorem slc22 : sliceT Try.prog 22 = some (27, 4) := by kernel_rfl
theorem ptr24 : ptrT Try.prog 24 = true := by kernel_rfl
theorem slc29 : sliceT Try.prog 29 = some (3, 1) := by kernel_rfl
theorem slc32 : sliceT Try.prog 32 = some (37, 3) := by kernel_rfl
theorem slc38 : sliceT Try.prog 38 = some (81, 2) := by kernel_rfl
theorem ptr55 : ptrT Try.prog 55 = true := by kernel_rfl
theorem ptr56 : ptrT Try.prog 56 = true := by kernel_rfl
theorem slc57 : sliceT Try.prog 57 = some (62, 3) := by kernel_rfl
theorem slc68 : sliceT Try.prog 68 = some (9, 1) := by kernel_rfl
end Go.Proofs.Ytpghlemcgjogpaa
