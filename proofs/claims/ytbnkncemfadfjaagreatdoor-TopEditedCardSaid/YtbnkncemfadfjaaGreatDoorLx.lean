/- The walks' table out of the rows' condition. -/
import Derived.Test.YtbnkncemfadfjaaGreatDoorLw
namespace Go.Proofs.YtbnkncemfadfjaaGreatDoor
set_option linter.unusedVariables false
set_option linter.unusedSimpArgs false
open Lexi (Asc)
open Go.ChangeShapes Go.WideShapes Go.ChangeAt Go.RowKit Go.Gx Go.Lib Go.Shelf
theorem asc_eq : (Rows.laid_strings_asciiSpace : DataW Unit) = tabData .u8 asciiSpaceTab := by kernel_rfl
theorem asc_of {W : World} (h : laidMet Tryz.prog spLaid W) : Asc W := by
  obtain ⟨g, t, cs, fuel, p, hg, hty, hvar, hd⟩ := laidMet.reads h (.tail _ (.head _))
  rw [asc_eq] at hd
  obtain rfl := Option.some.inj ((show Tryz.prog.globalNamed "strings.asciiSpace" = some 1 by kernel_rfl).symm.trans hg)
  obtain rfl := Option.some.inj ((show (Tryz.prog.globals[1]?).map (·.type) = some 212 by kernel_rfl).symm.trans hty)
  unfold Asc TabIs
  rw [hvar, ← cells_of_tab Tryz.underlying212 Tryz.underlying5 (by kernel_rfl) (by kernel_rfl) hd]
end Go.Proofs.YtbnkncemfadfjaaGreatDoor
