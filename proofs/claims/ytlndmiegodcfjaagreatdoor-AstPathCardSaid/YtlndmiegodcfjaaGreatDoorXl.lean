/- Facts of the whole cut that every row's closing asks. -/
import Derived.Test.YtlndmiegodcfjaaGreatDoorXk
import Derived.JoinedOf
import Derived.Test.YtlndmiegodcfjaaGreatDoorCards
set_option linter.unusedVariables false
set_option linter.unusedSimpArgs false
namespace Go.Proofs.YtlndmiegodcfjaaGreatDoor
open Go.ChangeShapes Go.WideShapes Go.ChangeAt Go.RowKit Go.Gx
set_option maxRecDepth 100000
theorem cP {a b : Bool} (h : a = true) (k : b = true) : (a && b) = true := by rw [h,k]; rfl
theorem Ho : mapsRowed Tryz.prog = true := by kernel_rfl
theorem Ig : (Rows.astPathRow.plainKeys == Tryz.prog.plainKeys) = true := by kernel_rfl
theorem Hp : Tryz.prog.stopsHeard = true := by kernel_rfl
theorem F0 : Tryz.prog.mayEnter = true := by kernel_rfl
theorem Hq : (Rows.astPathRow.lifted == Tryz.prog.liftsFinal) = true := by kernel_rfl
theorem Ii : (Tryz.prog.make == some Rows.astPathRow.make) = true := by kernel_rfl
theorem Hr : true = Tryz.prog.looks [] := by kernel_rfl
end Go.Proofs.YtlndmiegodcfjaaGreatDoor
