/- Facts of the whole cut that every row's closing asks. -/
import Derived.Test.YtlndmiegodcfjaaGreatDoorXl
import Derived.JoinedOf
import Derived.Test.YtlndmiegodcfjaaGreatDoorCards
set_option linter.unusedVariables false
set_option linter.unusedSimpArgs false
namespace Go.Proofs.YtlndmiegodcfjaaGreatDoor
open Go.ChangeShapes Go.WideShapes Go.ChangeAt Go.RowKit Go.Gx
set_option maxRecDepth 100000
theorem cV {a b : Bool} (h : a = true) (k : b = true) : (a && b) = true := by rw [h,k]; rfl
theorem I0 : mapsRowed Tryz.prog = true := by kernel_rfl
theorem Ju : (Rows.astPathRow.plainKeys == Tryz.prog.plainKeys) = true := by kernel_rfl
theorem I1 : Tryz.prog.stopsHeard = true := by kernel_rfl
theorem G4 : Tryz.prog.mayEnter = true := by kernel_rfl
theorem I2 : (Rows.astPathRow.lifted == Tryz.prog.liftsFinal) = true := by kernel_rfl
theorem Jv : (Tryz.prog.make == some Rows.astPathRow.make) = true := by kernel_rfl
theorem I3 : true = Tryz.prog.looks [] := by kernel_rfl
end Go.Proofs.YtlndmiegodcfjaaGreatDoor
