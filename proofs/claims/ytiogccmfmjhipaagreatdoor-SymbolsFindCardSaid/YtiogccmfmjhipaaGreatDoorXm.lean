/- Facts of the whole cut that every row's closing asks. -/
import Derived.Test.YtiogccmfmjhipaaGreatDoorXl
import Derived.JoinedOf
import Derived.Test.YtiogccmfmjhipaaGreatDoorCards
set_option linter.unusedVariables false
set_option linter.unusedSimpArgs false
namespace Go.Proofs.YtiogccmfmjhipaaGreatDoor
open Go.ChangeShapes Go.WideShapes Go.ChangeAt Go.RowKit Go.Gx
set_option maxRecDepth 100000
theorem and_of {a b : Bool} (h : a = true) (k : b = true) : (a && b) = true := by rw [h,k]; rfl
theorem rowed_ : mapsRowed Tryz.prog = true := by kernel_rfl
theorem keys_ : (Rows.parserLosslessRow.plainKeys == Tryz.prog.plainKeys) = true := by kernel_rfl
theorem heard_ : Tryz.prog.stopsHeard = true := by kernel_rfl
theorem enters_ : Tryz.prog.mayEnter = true := by kernel_rfl
theorem lifts_ : (Rows.parserLosslessRow.lifted == Tryz.prog.liftsFinal) = true := by kernel_rfl
theorem make_ : (Tryz.prog.make == some Rows.parserLosslessRow.make) = true := by kernel_rfl
theorem looks_ : true = Tryz.prog.looks [] := by kernel_rfl
end Go.Proofs.YtiogccmfmjhipaaGreatDoor
