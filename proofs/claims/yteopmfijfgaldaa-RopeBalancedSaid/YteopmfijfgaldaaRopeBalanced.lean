/- For every list of strings and every list of integers, the law RopeBalanced answers true and leaves its arguments as they were. No condition. -/
import Derived.Test.YteopmfijfgaldaaRb
import Derived.Test.YteopmfijfgaldaaRc
namespace Go.Proofs.Yteopmfijfgaldaa
set_option linter.unusedVariables false
set_option linter.unusedSimpArgs false
open Go.ChangeShapes Go.WideShapes Go.ChangeAt Go.RowKit Go.Gx
set_option maxRecDepth 100000 in
theorem ropeBalanced_lifted (os : Os) (started : os.Started) (H : Type) (enc : TypeId × Value → H) :
    ReturnsInHanded {} Try.checked os 5 .any (Rows.ropeBalancedSpec.pre6 enc Try.prog Try.f5 Rows.ropeBalancedRow.domain false) (Rows.ropeBalancedSpec.post enc Try.prog Try.f5 false true false false) := by
  refine returnsInHanded_of_change_sized (C := Try.checked) own_ started (by kernel_rfl) Try.func5
    (ChangeSpec.witness6 (enc := enc) (C := Try.checked) false ⟨#[], #[.slice none 0 0, .slice none 0 0], []⟩ 8 (by kernel_rfl) (by kernel_rfl) (by kernel_rfl) (by kernel_rfl)) ?_
  intro W base args ds gs before hval0 hW _ hsz0 _
  have hsz : (DataW.weightsEach Try.prog (Try.f5.params.toList ++ Rows.ropeBalancedSpec.plain.varTypes Try.prog) (ds ++ gs)).all (· ≤ reachBytes) = true := hsz0
  clear hsz0
  have hval : ∀ (j : Nat) t v, Try.f5.params[j]? = some t → args[j]? = some v → Value.okWide Try.prog W .any base t v := hval0
  have hW' := hW
  obtain ⟨p, q, hA0, hV, rfl, _, _⟩ := hW
  have hA : DataW.TrodAll enc Try.prog W 0 (fun _ => true) true Try.f5.params.toList args.toList ds p := hA0
  rw [Try.params5] at hA hval hsz
  obtain ⟨v0, v1, d0, d1, p0, p1, rfl, rfl, rfl, h0, h1⟩ := trodAll_two hA
  obtain ⟨rfl, rfl⟩ := trodVars_none hV
  obtain ⟨a0, len0, cap0, rfl⟩ := okWide_slice Try.underlying22 (hval 0 22 v0 rfl rfl)
  obtain ⟨a1, len1, cap1, rfl⟩ := okWide_slice Try.underlying39 (hval 1 39 v1 rfl rfl)
  clear hA0 hval0
  simp only [List.append_nil, List.nil_append] at hW'
  have hlt0 : ∀ x ∈ p0, x.block < W.heap.size := fun x hx => hW'.lt x (by simp [hx])
  have hlt1 : ∀ x ∈ p1, x.block < W.heap.size := fun x hx => hW'.lt x (by simp [hx])
  have fin : ∀ W', Below W.heap.size W W' → Rows.ropeBalancedSpec.post enc Try.checked.prog Try.f5 false true false false W #[.slice a0 len0 cap0, .slice a1 len1 cap1] (.bool true) W' := by
    intro W' hnx
    refine ⟨_, _, _, [] ++ [], p0 ++ p1, [], hW', ?_, ?_, rfl, hnx.frame _, fun h => by cases h⟩
    · exact trodAll_mk1 (shut_bool Try.underlying4 true)
    · have hh := trodAll_mk2 (Below.trod laidOut_ (by kernel_rfl) (of_decide_eq_true (by kernel_rfl)) h0 hnx hlt0) (Below.trod laidOut_ (by kernel_rfl) (of_decide_eq_true (by kernel_rfl)) h1 hnx hlt1)
      exact hh
  obtain ⟨ss0, rfl, hsl0, hd0⟩ := strs_in h0
  have hlen0 : ss0.length < 4611686018427387904 := by
    rcases hd0 with hd | ⟨ts, rfl⟩
    · omega
    · have := sized_slice hsz (j := 0) (t := 22) (e := 9) rfl rfl Try.underlying22
      rw [bytes9_] at this
      simp only [strs, List.length_map, reachBytes] at this
      omega
  obtain ⟨zs1, rfl, hsl1, hd1⟩ := ints_in h1
  have hlen1 : zs1.length < 4611686018427387904 := by
    rcases hd1 with hd | ⟨ts, rfl⟩
    · omega
    · have := sized_slice hsz (j := 1) (t := 39) (e := 3) rfl rfl Try.underlying39
      rw [bytes3_] at this
      simp only [lits, List.length_map, reachBytes] at this
      omega
  refine Calls.mono (balancedLaw hsl0 hlen0 hsl1 hlen1) fun e W' ⟨v, he, hv, hnx⟩ => ?_
  subst he; subst hv
  exact ⟨_, rfl, fin W' hnx⟩
theorem ropeBalanced_holds : Rows.RopeBalancedSaid :=
  OpenClaim.holds_of_wide 5 Try.f5 rfl rfl rfl rfl rfl rfl rfl ⟨rfl, rfl, rfl, rfl, rfl⟩ rfl rfl rfl rfl rfl (by kernel_rfl) Try.func5 (by kernel_rfl)
    (of_decide_eq_true (by kernel_rfl)) (by unfold Func.isWrapper; rw [if_neg (of_decide_eq_false (by kernel_rfl))]; exact ⟨rfl, rfl⟩)
    (fun os started H enc _ => ropeBalanced_lifted os started H enc)

#print axioms ropeBalanced_holds

end Go.Proofs.Yteopmfijfgaldaa
