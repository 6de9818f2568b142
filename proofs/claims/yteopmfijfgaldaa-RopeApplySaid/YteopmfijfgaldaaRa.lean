/- What came in: slices of strings, as the walks want them. -/
import Derived.Test.YteopmfijfgaldaaRl
import Derived.Test.YteopmfijfgaldaaRows
import Derived.ProofKit
import Derived.SizedLaws
namespace Go.Proofs.Yteopmfijfgaldaa
set_option linter.unusedVariables false
set_option linter.unusedSimpArgs false
open Go.ChangeShapes Go.WideShapes Go.ChangeAt Go.RowKit Go.Gx

theorem own_ : ownKnob Try.prog.godebug = none := by kernel_rfl
theorem laidOut_ : laidOutB Try.prog = true := by kernel_rfl
theorem cells9_ : Try.prog.cellsOf 9 = 1 := by kernel_rfl
theorem bytes9_ : Try.prog.bytesOf 9 = 16 := by kernel_rfl

/-- a slice of strings that came in -/
theorem strs_in {W : World} {a0 : Option Addr} {len cap : Nat} {p : List MemPlace} {H : Type} {enc : TypeId × Value → H} {base : Nat} {d : DataW H}
    (h0 : DataW.Trod enc Try.prog W base (fun _ => true) true 22 (.slice a0 len cap) d p) : ∃ ss : List ByteArray, ss.length = len ∧ SlC W (.slice a0 len cap) 1 len (ss.map .string) ∧ (len = 0 ∨ ∃ ts : List ByteArray, d = .slice (strs ss) (strs ts)) := by
  obtain ⟨fuel, hf⟩ := h0
  rcases open_strings Try.underlying22 Try.underlying9 cells9_ hf with ⟨hcs, hx⟩ | ⟨a, len', cap', ss, hcs, hh, hl, hm, hz, hx, hcell, hws⟩
  · simp [Value.cells] at hcs
    obtain ⟨rfl, rfl, rfl⟩ := hcs
    exact ⟨[], rfl, ⟨rfl, _, _, rfl, Nat.le_refl _, .inl rfl⟩, .inl rfl⟩
  · simp [Value.cells] at hcs
    obtain ⟨rfl, rfl, rfl⟩ := hcs
    simp only [Prod.mk.injEq] at hx
    replace hz : ss.length = cap := by simpa using hz
    refine ⟨ss.take len, by simp; omega, ⟨by simp; omega, _, _, rfl, hl, ?_⟩, .inr ⟨_, hx.1⟩⟩
    by_cases h0 : cap = 0
    · exact .inl h0
    · obtain ⟨b, off, spot⟩ := a
      have hspot : spot = none := by simpa [Addr.add] using World.cell?_spot (hcell 0 (by omega))
      subst hspot
      refine .inr ⟨b, off, rfl, fun i v hv => ?_⟩
      rw [List.getElem?_map, List.getElem?_take] at hv
      split at hv
      · rename_i hi
        have hc := hcell i (by omega)
        rw [addr_add] at hc
        rw [hc]
        rw [List.getElem?_eq_getElem (by omega)] at hv
        simp only [Option.map_some, Option.some.injEq] at hv
        rw [← hv, List.getD_eq_getElem?_getD, List.getElem?_eq_getElem (by omega)]
        rfl
      · cases hv

end Go.Proofs.Yteopmfijfgaldaa
