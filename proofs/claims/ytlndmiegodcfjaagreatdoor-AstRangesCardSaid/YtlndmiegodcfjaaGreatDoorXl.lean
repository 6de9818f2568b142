/- What the rows on the parser lay: the tables, the errors, and a world that holds them. -/
import Derived.Test.YtlndmiegodcfjaaGreatDoorXc
import Derived.Test.YtlndmiegodcfjaaGreatDoorRows
import Derived.ProofKit
import Derived.SizedLaws
import Derived.LaidMore
import Derived.Lib.LaidTab
import Derived.Lib.LaidU8
import Derived.Lib.LaidIn
import Derived.ChangeMaps5
import Derived.Test.YtlndmiegodcfjaaGreatDoorXh
import Derived.ChangeArms
set_option linter.unusedVariables false
set_option linter.unusedSimpArgs false
namespace Go.Proofs.YtlndmiegodcfjaaGreatDoor
open Go.ChangeShapes Go.WideShapes Go.ChangeAt Go.RowKit Go.Gx Go.Lib Go.Shelf
theorem aAe : ownKnob Tryz.prog.godebug = none := by kernel_rfl
theorem Eo : laidOutB Tryz.prog = true := by kernel_rfl
def oF : List (String × DataW Unit) := [("math/bits.deBruijn32tab",Rows.laid_math_bits_deBruijn32tab),("math/bits.deBruijn64tab",Rows.laid_math_bits_deBruijn64tab),("internal/strconv.uint64pow10",Rows.laid_internal_strconv_uint64pow10),("strconv.ErrRange",Rows.laid_strconv_ErrRange),("strconv.ErrSyntax",Rows.laid_strconv_ErrSyntax),("unicode.White_Space",Rows.laid_unicode_White_Space),("strings.asciiSpace",Rows.laid_strings_asciiSpace)]
noncomputable def zW (os : Os) : World := World.doorLaid Tryz.prog 2000 os
set_option maxRecDepth 1000000 in
theorem Ix (os : Os) (args : Array Value) : laidMetH Tryz.prog oF ((zW os).forCall (fun _ _ => 0) ⟨#[],args,[]⟩).memory :=
 laidMetH_of_parts3 (fuel := 8) (laidMet_of_run' 8 (by kernel_rfl) (by kernel_rfl)) (by kernel_rfl) (by kernel_rfl)
end Go.Proofs.YtlndmiegodcfjaaGreatDoor
namespace Go.Proofs.YtlndmiegodcfjaaGreatDoor
open Lexi (Asc)
open Go.ChangeShapes Go.WideShapes Go.ChangeAt Go.RowKit Go.Gx Go.Lib Go.Shelf
theorem Iy : (Rows.laid_strings_asciiSpace : DataW Unit) = tabData .u8 asciiSpaceTab := by kernel_rfl
theorem Iz {W : World} (h : laidMet Tryz.prog oF W) : Asc W := by
 obtain ⟨g,t,cs,fuel,p,hg,hty,hvar,hd⟩ := laidMet.reads h (.tail _ (.tail _ (.tail _ (.tail _ (.tail _ (.tail _ (.head _)))))));rw [Iy] at hd;obtain rfl := Option.some.inj ((show Tryz.prog.globalNamed "strings.asciiSpace" = some 0 by kernel_rfl).symm.trans hg);obtain rfl := Option.some.inj ((show (Tryz.prog.globals[0]?).map (·.type) = some 180 by kernel_rfl).symm.trans hty);unfold Asc TabIs;rw [hvar,← cells_of_tab Tryz.underlying180 Tryz.underlying5 (by kernel_rfl) (by kernel_rfl) hd]
theorem yL {H : Type} {enc : TypeId × Value → H} {P : Program} {w : World} {base : Nat} {spare : Nat → Bool} {held : Bool} {fuel : Nat} {t : TypeId} {cs : List Value} {ms : Array (String × TypeId)} {nm : String} {d : DataW H} {p : List MemPlace}
  (ht : P.underlying t = some (.interface ms)) (h : DataW.trod enc P w base spare held fuel t cs = some (.iface nm d,p)) : ∃ u v,cs = [.iface u v] := by
 cases fuel with
 | zero => simp [DataW.trod] at h
 | succ n =>
  unfold DataW.trod at h;rw [ht] at h
  split at h <;> simp_all
theorem Jt {W : World} (h : laidMet Tryz.prog oF W) : Ast.Er W := by
 obtain ⟨g,t,cs,fuel,p,hg,hty,hvar,hd⟩ := laidMet.reads h (.tail _ (.tail _ (.tail _ (.head _))));obtain rfl := Option.some.inj ((show Tryz.prog.globalNamed "strconv.ErrRange" = some 4 by kernel_rfl).symm.trans hg);obtain rfl := Option.some.inj ((show (Tryz.prog.globals[4]?).map (·.type) = some 124 by kernel_rfl).symm.trans hty);obtain ⟨u,v,e⟩ := yL Tryz.underlying124 hd;refine ⟨u,v,?_⟩;have e2 : cs = #[.iface u v] := Array.ext' (by simpa using e);subst e2;unfold World.var? at hvar;rw [hg] at hvar;simp only [Option.bind_some] at hvar
 split at hvar
 ·rename_i cs' a b hh
  obtain rfl := Option.some.inj hvar;simp [World.cell?,hh]
 ·cases hvar
end Go.Proofs.YtlndmiegodcfjaaGreatDoor
