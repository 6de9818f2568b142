/- For every list of strings, the law RopeConcat answers true and leaves its argument as it was. No condition. -/
import Derived.Test.YteopmfijfgaldaaRl
import Derived.Test.YteopmfijfgaldaaRows
import Derived.ProofKit
import Derived.SizedLaws
namespace Go.Proofs.Yteopmfijfgaldaa
set_option linter.unusedVariables false
set_option linter.unusedSimpArgs false
open Go.ChangeShapes Go.WideShapes Go.ChangeAt Go.RowKit Go.Gx

theorem own_ : ownKnob Try.prog.godebug = none := by kernel_rfl
theorem laidOut_ : laidOutB Try.prog = true := by kernel_rfl
theorem cells9_ : Try.prog.cellsOf 9 = 1 := by kernel_rfl
theorem bytes9_ : Try.prog.bytesOf 9 = 16 := by kernel_rfl

/-- a slice of strings that came in -/
theorem strs_in {W : World} {a0 : Option Addr} {len cap : Nat} {p : List MemPlace} {H : Type} {enc : TypeId × Value → H} {base : Nat} {d : DataW H}
    (h0 : DataW.Trod enc Try.prog W base (fun _ => true) true 22 (.slice a0 len cap) d p) : ∃ ss : List ByteArray, ss.length = len ∧ SlC W (.slice a0 len cap) 1 len (ss.map .string) ∧ (len = 0 ∨ ∃ ts : List ByteArray, d = .slice (strs ss) (strs ts)) := by
  obtain ⟨fuel, hf⟩ := h0
  rcases open_strings Try.underlying22 Try.underlying9 cells9_ hf with ⟨hcs, hx⟩ | ⟨a, len', cap', ss, hcs, hh, hl, hm, hz, hx, hcell, hws⟩
  · simp [Value.cells] at hcs
    obtain ⟨rfl, rfl, rfl⟩ := hcs
    exact ⟨[], rfl, ⟨rfl, _, _, rfl, Nat.le_refl _, .inl rfl⟩, .inl rfl⟩
  · simp [Value.cells] at hcs
    obtain ⟨rfl, rfl, rfl⟩ := hcs
    simp only [Prod.mk.injEq] at hx
    replace hz : ss.length = cap := by simpa using hz
    refine ⟨ss.take len, by simp; omega, ⟨by simp; omega, _, _, rfl, hl, ?_⟩, .inr ⟨_, hx.1⟩⟩
    by_cases h0 : cap = 0
    · exact .inl h0
    · obtain ⟨b, off, spot⟩ := a
      have hspot : spot = none := by simpa [Addr.add] using World.cell?_spot (hcell 0 (by omega))
      subst hspot
      refine .inr ⟨b, off, rfl, fun i v hv => ?_⟩
      rw [List.getElem?_map, List.getElem?_take] at hv
      split at hv
      · rename_i hi
        have hc := hcell i (by omega)
        rw [addr_add] at hc
        rw [hc]
        rw [List.getElem?_eq_getElem (by omega)] at hv
        simp only [Option.map_some, Option.some.injEq] at hv
        rw [← hv, List.getD_eq_getElem?_getD, List.getElem?_eq_getElem (by omega)]
        rfl
      · cases hv

set_option maxRecDepth 100000 in
theorem ropeConcat_lifted (os : Os) (started : os.Started) (H : Type) (enc : TypeId × Value → H) :
    ReturnsInHanded {} Try.checked os 3 .any (Rows.ropeConcatSpec.pre6 enc Try.prog Try.f3 Rows.ropeConcatRow.domain false) (Rows.ropeConcatSpec.post enc Try.prog Try.f3 false true false false) := by
  refine returnsInHanded_of_change_sized (C := Try.checked) own_ started (by kernel_rfl) Try.func3
    (ChangeSpec.witness6 (enc := enc) (C := Try.checked) false ⟨#[], #[.slice none 0 0], []⟩ 8 (by kernel_rfl) (by kernel_rfl) (by kernel_rfl) (by kernel_rfl)) ?_
  intro W base args ds gs before hval0 hW _ hsz0 _
  have hsz : (DataW.weightsEach Try.prog (Try.f3.params.toList ++ Rows.ropeConcatSpec.plain.varTypes Try.prog) (ds ++ gs)).all (· ≤ reachBytes) = true := hsz0
  clear hsz0
  have hval : ∀ (j : Nat) t v, Try.f3.params[j]? = some t → args[j]? = some v → Value.okWide Try.prog W .any base t v := hval0
  have hW' := hW
  obtain ⟨p, q, hA0, hV, rfl, _, _⟩ := hW
  have hA : DataW.TrodAll enc Try.prog W 0 (fun _ => true) true Try.f3.params.toList args.toList ds p := hA0
  rw [Try.params3] at hA hval hsz
  obtain ⟨v0, d0, rfl, rfl, h0⟩ := trodAll_one hA
  obtain ⟨rfl, rfl⟩ := trodVars_none hV
  obtain ⟨a0, len, cap, rfl⟩ := okWide_slice Try.underlying22 (hval 0 22 v0 rfl rfl)
  have h0k := h0
  obtain ⟨fuel, hf⟩ := h0
  clear hA0 hval0
  simp only [List.append_nil] at hW'
  have hlt : ∀ x ∈ p, x.block < W.heap.size := fun x hx => by simpa using hW'.lt x hx
  have fin : ∀ W', Below W.heap.size W W' → Rows.ropeConcatSpec.post enc Try.checked.prog Try.f3 false true false false W #[.slice a0 len cap] (.bool true) W' := by
    intro W' hnx
    refine ⟨_, _, _, [] ++ [], p, [], hW', ?_, ?_, rfl, hnx.frame _, fun h => by cases h⟩
    · exact trodAll_mk1 (shut_bool Try.underlying4 true)
    · exact trodAll_mk1 (Below.trod laidOut_ (by kernel_rfl) (of_decide_eq_true (by kernel_rfl)) h0k hnx hlt)
  obtain ⟨ss, rfl, hsl, hd⟩ := strs_in h0k
  have hlen : ss.length < 4611686018427387904 := by
    rcases hd with hd | ⟨ts, rfl⟩
    · omega
    · have := sized_slice hsz (j := 0) (t := 22) (e := 9) rfl rfl Try.underlying22
      rw [bytes9_] at this
      simp only [strs, List.length_map, reachBytes] at this
      omega
  refine Calls.mono (concatLaw hsl hlen) fun e W' ⟨v, he, hv, hnx⟩ => ?_
  subst he; subst hv
  exact ⟨_, rfl, fin W' hnx⟩

/-- RopeConcat, at every input. -/
theorem ropeConcat_holds : Rows.RopeConcatSaid :=
  OpenClaim.holds_of_wide 3 Try.f3 rfl rfl rfl rfl rfl rfl rfl ⟨rfl, rfl, rfl, rfl, rfl⟩ rfl rfl rfl rfl rfl (by kernel_rfl) Try.func3 (by kernel_rfl)
    (of_decide_eq_true (by kernel_rfl)) (by unfold Func.isWrapper; rw [if_neg (of_decide_eq_false (by kernel_rfl))]; exact ⟨rfl, rfl⟩)
    (fun os started H enc _ => ropeConcat_lifted os started H enc)

#print axioms ropeConcat_holds

end Go.Proofs.Yteopmfijfgaldaa
