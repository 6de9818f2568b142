/- What the rows on the lexer lay: the table of white space, and a world that holds it. -/
import Derived.Test.YtcelfjbajdffkaaGreatDoorXd
import Derived.Test.YtcelfjbajdffkaaGreatDoorRows
import Derived.ProofKit
import Derived.SizedLaws
import Derived.LaidMore
import Derived.Lib.LaidTab
import Derived.Lib.LaidU8
import Derived.Lib.LaidIn
import Derived.ChangeMaps5
import Derived.Test.YtcelfjbajdffkaaGreatDoorXo
import Derived.Deep.Strs
set_option linter.unusedVariables false
set_option linter.unusedSimpArgs false
namespace Go.Proofs.YtcelfjbajdffkaaGreatDoor
open Go.ChangeShapes Go.WideShapes Go.ChangeAt Go.RowKit Go.Gx Go.Lib Go.Shelf
theorem own_ : ownKnob Tryz.prog.godebug = none := by kernel_rfl
theorem laidOut_ : laidOutB Tryz.prog = true := by kernel_rfl
def spLaid : List (String × DataW Unit) := [("unicode.White_Space",Rows.laid_unicode_White_Space),("strings.asciiSpace",Rows.laid_strings_asciiSpace)]
noncomputable def spWorld (os : Os) : World := World.doorLaid Tryz.prog 400 os
set_option maxRecDepth 1000000 in
theorem sp_met (os : Os) (args : Array Value) : laidMetH Tryz.prog spLaid ((spWorld os).forCall (fun _ _ => 0) ⟨#[],args,[]⟩).memory :=
 laidMetH_of_parts3 (fuel := 8) (laidMet_of_run' 8 (by kernel_rfl) (by kernel_rfl)) (by kernel_rfl) (by kernel_rfl)
end Go.Proofs.YtcelfjbajdffkaaGreatDoor
namespace Go.Proofs.YtcelfjbajdffkaaGreatDoor
open Lexi (Asc)
open Go.ChangeShapes Go.WideShapes Go.ChangeAt Go.RowKit Go.Gx Go.Lib Go.Shelf
theorem asc_eq : (Rows.laid_strings_asciiSpace : DataW Unit) = tabData .u8 asciiSpaceTab := by kernel_rfl
theorem asc_of {W : World} (h : laidMet Tryz.prog spLaid W) : Asc W := by
 obtain ⟨g,t,cs,fuel,p,hg,hty,hvar,hd⟩ := laidMet.reads h (.tail _ (.head _))
 rw [asc_eq] at hd
 obtain rfl := Option.some.inj ((show Tryz.prog.globalNamed "strings.asciiSpace" = some 0 by kernel_rfl).symm.trans hg)
 obtain rfl := Option.some.inj ((show (Tryz.prog.globals[0]?).map (·.type) = some 141 by kernel_rfl).symm.trans hty)
 unfold Asc TabIs
 rw [hvar,← cells_of_tab Tryz.underlying141 Tryz.underlying5 (by kernel_rfl) (by kernel_rfl) hd]
end Go.Proofs.YtcelfjbajdffkaaGreatDoor
namespace Go.Proofs.YtcelfjbajdffkaaGreatDoor
set_option maxRecDepth 20000
open Lexi (TE tes tes_at tes_length TE.cells)
open Go.ChangeShapes Go.WideShapes Go.ChangeAt Go.RowKit Go.Gx Go.Deep
theorem cells9_ : Tryz.prog.cellsOf 9 = 1 := by kernel_rfl
theorem cells48_ : Tryz.prog.cellsOf 41 = 3 := by kernel_rfl
theorem cells3'_ : Tryz.prog.cellsOf 3 = 1 := by kernel_rfl
instance : Inhabited TE := ⟨⟨0,0,⟨#[]⟩⟩⟩
theorem okWide_agg {P : Program} {w : World} {r : Reach} {base : Nat} {t : TypeId} {fs : Array Field} {v : Value} (ht : P.underlying t = some (.struct fs)) (h : Value.okWide P w r base t v) : ∃ cs : Array Value,v = .agg cs := by
 unfold Value.okWide at h
 rw [ht] at h
 obtain ⟨cs,h1,_⟩ := h
 exact ⟨cs,h1⟩
theorem te_ready {W : World} {p : List MemPlace} {H : Type} {enc : TypeId × Value → H} {base : Nat} {d : DataW H} {cs : Array Value}
  (h0 : DataW.Trod enc Tryz.prog W base (fun _ => true) true 41 (.agg cs) d p) : ∃ e : TE,cs = (TE.cells e).toArray := by
 obtain ⟨fuel,hf⟩ := h0
 obtain ⟨y0,y1,y2,n',hD,hl3,k0,k1,k2⟩ := trod_struct3 Tryz.underlying41 hf
 rw [cells48_] at hl3
 have hc : (Value.agg cs).cells.toList = cs.toList := rfl
 rw [hc] at hl3 k0 k1 k2
 generalize hcs : cs.toList = l at hl3 k0 k1 k2
 match l,hl3 with
 | [c0,c1,c2],_ =>
  obtain ⟨z0,q0,r0,_⟩ := DataW.trod_int Tryz.underlying3 k0
  obtain ⟨z1,q1,r1,_⟩ := DataW.trod_int Tryz.underlying3 k1
  obtain ⟨z2,q2,r2,w2⟩ := DataW.trod_string Tryz.underlying9 k2
  simp [cells3'_,cells9_] at q0 q1 q2
  subst q0; subst q1; subst q2
  exact ⟨⟨z0,z1,z2⟩,by rw [← Array.toArray_toList (xs := cs),hcs]; rfl⟩
end Go.Proofs.YtcelfjbajdffkaaGreatDoor
