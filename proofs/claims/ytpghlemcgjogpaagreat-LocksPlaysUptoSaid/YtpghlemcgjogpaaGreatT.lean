/- Closed facts on the program: its orders, its types. -/
import Derived.Test.YtpghlemcgjogpaaGreatProg
import Derived.Test.YtpghlemcgjogpaaGreatSxo
set_option maxRecDepth 100000
namespace Go.Proofs.YtpghlemcgjogpaaGreat
open Go.Sx
theorem hmixed : Tryz.prog.follows .mixedOrders = true := by kernel_rfl
theorem fld30_0 : fieldT Tryz.prog 30 0 = some 0 := by kernel_rfl
theorem fld30_1 : fieldT Tryz.prog 30 1 = some 1 := by kernel_rfl
theorem fld32_0 : fieldT Tryz.prog 32 0 = some 0 := by kernel_rfl
theorem fld32_1 : fieldT Tryz.prog 32 1 = some 1 := by kernel_rfl
theorem fld32_2 : fieldT Tryz.prog 32 2 = some 2 := by kernel_rfl
theorem fld32_3 : fieldT Tryz.prog 32 3 = some 3 := by kernel_rfl
theorem fld42_0 : fieldT Tryz.prog 42 0 = some 0 := by kernel_rfl
theorem fld42_1 : fieldT Tryz.prog 42 1 = some 1 := by kernel_rfl
theorem fld42_2 : fieldT Tryz.prog 42 2 = some 2 := by kernel_rfl
theorem fld51_0 : fieldT Tryz.prog 51 0 = some 0 := by kernel_rfl
theorem fld51_1 : fieldT Tryz.prog 51 1 = some 1 := by kernel_rfl
theorem fld58_0 : fieldT Tryz.prog 58 0 = some 0 := by kernel_rfl
theorem fld58_1 : fieldT Tryz.prog 58 1 = some 1 := by kernel_rfl
theorem fld61_0 : fieldT Tryz.prog 61 0 = some 0 := by kernel_rfl
theorem fld61_1 : fieldT Tryz.prog 61 1 = some 1 := by kernel_rfl
theorem fld61_2 : fieldT Tryz.prog 61 2 = some 2 := by kernel_rfl
theorem fld66_0 : fieldT Tryz.prog 66 0 = some 0 := by kernel_rfl
theorem fld70_0 : fieldT Tryz.prog 70 0 = some 0 := by kernel_rfl
theorem fld70_1 : fieldT Tryz.prog 70 1 = some 3 := by kernel_rfl
theorem fld83_0 : fieldT Tryz.prog 83 0 = some 0 := by kernel_rfl
theorem fld83_1 : fieldT Tryz.prog 83 1 = some 1 := by kernel_rfl
theorem pln3 : plainT Tryz.prog 3 = true := by kernel_rfl
theorem siz3 : (Tryz.prog.info? 3).map (·.size) = some 1 := by kernel_rfl
theorem pln4 : plainT Tryz.prog 4 = true := by kernel_rfl
theorem siz4 : (Tryz.prog.info? 4).map (·.size) = some 1 := by kernel_rfl
theorem pln9 : plainT Tryz.prog 9 = true := by kernel_rfl
theorem siz9 : (Tryz.prog.info? 9).map (·.size) = some 1 := by kernel_rfl
theorem pln27 : plainT Tryz.prog 27 = true := by kernel_rfl
theorem siz27 : (Tryz.prog.info? 27).map (·.size) = some 1 := by kernel_rfl
theorem pln28 : plainT Tryz.prog 28 = true := by kernel_rfl
theorem siz28 : (Tryz.prog.info? 28).map (·.size) = some 1 := by kernel_rfl
theorem agg32 : aggT Tryz.prog 32 = some 4 := by kernel_rfl
theorem agg42 : aggT Tryz.prog 42 = some 3 := by kernel_rfl
theorem pln48 : plainT Tryz.prog 48 = true := by kernel_rfl
theorem siz48 : (Tryz.prog.info? 48).map (·.size) = some 1 := by kernel_rfl
theorem pln49 : plainT Tryz.prog 49 = true := by kernel_rfl
theorem siz49 : (Tryz.prog.info? 49).map (·.size) = some 1 := by kernel_rfl
theorem pln55 : plainT Tryz.prog 55 = true := by kernel_rfl
theorem siz55 : (Tryz.prog.info? 55).map (·.size) = some 1 := by kernel_rfl
theorem pln56 : plainT Tryz.prog 56 = true := by kernel_rfl
theorem siz56 : (Tryz.prog.info? 56).map (·.size) = some 1 := by kernel_rfl
theorem agg61 : aggT Tryz.prog 61 = some 3 := by kernel_rfl
theorem agg70 : aggT Tryz.prog 70 = some 4 := by kernel_rfl
theorem agg83 : aggT Tryz.prog 83 = some 2 := by kernel_rfl
theorem agg96 : aggT Tryz.prog 96 = some 7 := by kernel_rfl
theorem slc22 : sliceT Tryz.prog 22 = some (32, 4) := by kernel_rfl
theorem ptr24 : ptrT Tryz.prog 24 = true := by kernel_rfl
theorem slc27 : sliceT Tryz.prog 27 = some (42, 3) := by kernel_rfl
theorem slc28 : sliceT Tryz.prog 28 = some (70, 4) := by kernel_rfl
theorem slc35 : sliceT Tryz.prog 35 = some (3, 1) := by kernel_rfl
theorem slc39 : sliceT Tryz.prog 39 = some (83, 2) := by kernel_rfl
theorem ptr53 : ptrT Tryz.prog 53 = true := by kernel_rfl
theorem ptr54 : ptrT Tryz.prog 54 = true := by kernel_rfl
theorem slc56 : sliceT Tryz.prog 56 = some (61, 3) := by kernel_rfl
theorem slc71 : sliceT Tryz.prog 71 = some (9, 1) := by kernel_rfl
/-- All of them, as one. -/
def tL := PProd.mk (And.intro fld30_0 <| And.intro fld30_1 <| And.intro fld32_0 <| And.intro fld32_1 <| And.intro fld32_2 <| And.intro fld32_3 <| And.intro fld42_0 <| And.intro fld42_1 <| And.intro fld42_2 <| And.intro fld51_0 <| And.intro fld51_1 <| And.intro fld58_0 <| And.intro fld58_1 <| And.intro fld61_0 <| And.intro fld61_1 <| And.intro fld61_2 <| And.intro fld66_0 <| And.intro fld70_0 <| And.intro fld70_1 <| And.intro fld83_0 <| And.intro fld83_1 <| And.intro pln3 <| And.intro siz3 <| And.intro pln4 <| And.intro siz4 <| And.intro pln9 <| And.intro siz9 <| And.intro pln27 <| And.intro siz27 <| And.intro pln28 <| And.intro siz28 <| And.intro agg32 <| And.intro agg42 <| And.intro pln48 <| And.intro siz48 <| And.intro pln49 <| And.intro siz49 <| And.intro pln55 <| And.intro siz55 <| And.intro pln56 <| And.intro siz56 <| And.intro agg61 <| And.intro agg70 <| And.intro agg83 <| And.intro agg96 <| And.intro slc22 <| And.intro ptr24 <| And.intro slc27 <| And.intro slc28 <| And.intro slc35 <| And.intro slc39 <| And.intro ptr53 <| And.intro ptr54 <| And.intro slc56 <| slc71) Unit.unit
end Go.Proofs.YtpghlemcgjogpaaGreat
