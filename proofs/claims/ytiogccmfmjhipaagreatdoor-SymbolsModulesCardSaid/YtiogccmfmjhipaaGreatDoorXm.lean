/- Facts of the whole cut that every row's closing asks. -/
import Derived.Test.YtiogccmfmjhipaaGreatDoorXl
import Derived.JoinedOf
import Derived.Test.YtiogccmfmjhipaaGreatDoorCards
set_option linter.unusedVariables false
set_option linter.unusedSimpArgs false
namespace Go.Proofs.YtiogccmfmjhipaaGreatDoor
open Go.ChangeShapes Go.WideShapes Go.ChangeAt Go.RowKit Go.Gx
set_option maxRecDepth 100000
theorem aZ {a b : Bool} (h : a = true) (k : b = true) : (a && b) = true := by rw [h,k]; rfl
theorem Aq : mapsRowed Tryz.prog = true := by kernel_rfl
theorem Ho : (Rows.parserLosslessRow.plainKeys == Tryz.prog.plainKeys) = true := by kernel_rfl
theorem Ar : Tryz.prog.stopsHeard = true := by kernel_rfl
theorem vP : Tryz.prog.mayEnter = true := by kernel_rfl
theorem Au : (Rows.parserLosslessRow.lifted == Tryz.prog.liftsFinal) = true := by kernel_rfl
theorem Hp : (Tryz.prog.make == some Rows.parserLosslessRow.make) = true := by kernel_rfl
theorem Av : true = Tryz.prog.looks [] := by kernel_rfl
end Go.Proofs.YtiogccmfmjhipaaGreatDoor
