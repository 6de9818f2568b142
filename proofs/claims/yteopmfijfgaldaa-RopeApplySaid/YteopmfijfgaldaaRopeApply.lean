/- For every string and every list of text edits, the law RopeApply answers true and leaves its arguments as they were. No condition. -/
import Derived.Test.YteopmfijfgaldaaRk
import Derived.Test.YteopmfijfgaldaaRe
namespace Go.Proofs.Yteopmfijfgaldaa
set_option linter.unusedVariables false
set_option linter.unusedSimpArgs false
open Go.ChangeShapes Go.WideShapes Go.ChangeAt Go.RowKit Go.Gx
open Go.ChangeMaps (open_string shut_string)
set_option maxRecDepth 100000 in
theorem ropeApply_lifted (os : Os) (started : os.Started) (H : Type) (enc : TypeId × Value → H) :
    ReturnsInHanded {} Try.checked os 6 .any (Rows.ropeApplySpec.pre6 enc Try.prog Try.f6 Rows.ropeApplyRow.domain false) (Rows.ropeApplySpec.post enc Try.prog Try.f6 false true false false) := by
  refine returnsInHanded_of_change_sized (C := Try.checked) own_ started (by kernel_rfl) Try.func6
    (ChangeSpec.witness6 (enc := enc) (C := Try.checked) false ⟨#[], #[.string ⟨#[]⟩, .slice none 0 0], []⟩ 8 (by kernel_rfl) (by kernel_rfl) (by kernel_rfl) (by kernel_rfl)) ?_
  intro W base args ds gs before hval0 hW _ hsz0 _
  have hsz : (DataW.weightsEach Try.prog (Try.f6.params.toList ++ Rows.ropeApplySpec.plain.varTypes Try.prog) (ds ++ gs)).all (· ≤ reachBytes) = true := hsz0
  clear hsz0
  have hval : ∀ (j : Nat) t v, Try.f6.params[j]? = some t → args[j]? = some v → Value.okWide Try.prog W .any base t v := hval0
  have hW' := hW
  obtain ⟨p, q, hA0, hV, rfl, _, _⟩ := hW
  have hA : DataW.TrodAll enc Try.prog W 0 (fun _ => true) true Try.f6.params.toList args.toList ds p := hA0
  rw [Try.params6] at hA hval hsz
  obtain ⟨v0, v1, d0, d1, p0, p1, rfl, rfl, rfl, h0, h1⟩ := trodAll_two hA
  obtain ⟨rfl, rfl⟩ := trodVars_none hV
  obtain ⟨s0, rfl, rfl, rfl, w0⟩ := open_string Try.underlying9 (hval 0 9 v0 rfl rfl) h0
  obtain ⟨a1, len1, cap1, rfl⟩ := okWide_slice Try.underlying44 (hval 1 44 v1 rfl rfl)
  clear hA0 hval0
  simp only [List.append_nil, List.nil_append] at hW'
  have hlt1 : ∀ x ∈ p1, x.block < W.heap.size := fun x hx => hW'.lt x (by simp [hx])
  have fin : ∀ W', Below W.heap.size W W' → Rows.ropeApplySpec.post enc Try.checked.prog Try.f6 false true false false W #[.string s0, .slice a1 len1 cap1] (.bool true) W' := by
    intro W' hnx
    refine ⟨_, _, _, [] ++ [], p1, [], hW', ?_, ?_, rfl, hnx.frame _, fun h => by cases h⟩
    · exact trodAll_mk1 (shut_bool Try.underlying4 true)
    · have hh := trodAll_mk2 (shut_string Try.underlying9 w0) (Below.trod laidOut_ (by kernel_rfl) (of_decide_eq_true (by kernel_rfl)) h1 hnx hlt1)
      exact hh
  obtain ⟨es1, rfl, hsl1, hd1⟩ := edits_in h1
  have hz1 : es1.length < 4611686018427387904 ∧ ∀ e ∈ es1, (e.s.size : Int) ≤ 140737488355328 := by
    rcases hd1 with hd | ⟨rest, rfl⟩
    · obtain rfl := List.length_eq_zero_iff.1 hd
      exact ⟨by decide, fun e he => by cases he⟩
    · exact edits_sized hsz (j := 1) rfl rfl
  refine Calls.mono (applyLaw hsl1 hz1.1 hz1.2) fun e W' ⟨v, he, hv, hnx⟩ => ?_
  subst he; subst hv
  exact ⟨_, rfl, fin W' hnx⟩
theorem ropeApply_holds : Rows.RopeApplySaid :=
  OpenClaim.holds_of_wide 6 Try.f6 rfl rfl rfl rfl rfl rfl rfl ⟨rfl, rfl, rfl, rfl, rfl⟩ rfl rfl rfl rfl rfl (by kernel_rfl) Try.func6 (by kernel_rfl)
    (of_decide_eq_true (by kernel_rfl)) (by unfold Func.isWrapper; rw [if_neg (of_decide_eq_false (by kernel_rfl))]; exact ⟨rfl, rfl⟩)
    (fun os started H enc _ => ropeApply_lifted os started H enc)

#print axioms ropeApply_holds

end Go.Proofs.Yteopmfijfgaldaa
