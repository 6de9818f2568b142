/- What the rows on positions lay: the two tables of unicode/utf8, and a world that holds them. -/
import Derived.Test.YteopmfijfgaldaaDoorPc
import Derived.Test.YteopmfijfgaldaaDoorRows
import Derived.ProofKit
import Derived.SizedLaws
import Derived.LaidMore
import Derived.Lib.LaidU8
import Derived.Lib.LaidIn
import Derived.PinnedBridge
import Derived.ChangeMaps5
namespace Go.Proofs.YteopmfijfgaldaaDoor
set_option linter.unusedVariables false
set_option linter.unusedSimpArgs false
open Go.ChangeShapes Go.WideShapes Go.ChangeAt Go.RowKit Go.Gx Go.Lib Go.Shelf

theorem own_ : ownKnob Tryd.prog.godebug = none := by kernel_rfl
theorem laidOut_ : laidOutB Tryd.prog = true := by kernel_rfl
def utfLaid : List (String × DataW Unit) := [("unicode/utf8.acceptRanges", Rows.laid_unicode_utf8_acceptRanges), ("unicode/utf8.first", Rows.laid_unicode_utf8_first)]
noncomputable def utfWorld (os : Os) : World :=
  let w0 := World.settled Tryd.prog os
  let put (h : Array Obj) (g : Nat) (cs : Array Value) : Array Obj := h.modify g fun
    | .cells _ t frozen => .cells cs t frozen
    | o => o
  let h1 := put w0.heap 1 (firstTab.map fun z => Value.int .u8 z).toArray
  let h2 := put h1 2 ((List.range 16).flatMap fun i => [Value.int .u8 (accLo i), Value.int .u8 (accHi i)]).toArray
  { w0 with heap := h2 }
set_option maxRecDepth 1000000 in
theorem utf_met (os : Os) (args : Array Value) : laidMet Tryd.prog utfLaid ((utfWorld os).forCall (fun _ _ => 0) ⟨#[], args, []⟩).memory :=
  (LaidIn.of_run [2, 1] 8 (by kernel_rfl) (by kernel_rfl) (by kernel_rfl) (by kernel_rfl)).met
theorem acc_eq : (Rows.laid_unicode_utf8_acceptRanges : DataW Unit) = acceptData := by kernel_rfl
theorem first_eq : Rows.laid_unicode_utf8_first = firstData := Pinned.utf8First_eq
theorem utf_tabs {W : World} (h : laidMet Tryd.prog utfLaid W) : Utf8Tabs 1 2 W := by
  have h1 := laidMet.reads h (.head _)
  have h2 := laidMet.reads h (.tail _ (.head _))
  rw [acc_eq] at h1
  rw [first_eq] at h2
  exact utf8Tabs_of_reads (ρ := Tryd.lays197_ren) { Tryd.lays197 with } ⟨by kernel_rfl, by kernel_rfl, by kernel_rfl, by kernel_rfl, by kernel_rfl, by kernel_rfl, by kernel_rfl⟩ h2 h1
end Go.Proofs.YteopmfijfgaldaaDoor
