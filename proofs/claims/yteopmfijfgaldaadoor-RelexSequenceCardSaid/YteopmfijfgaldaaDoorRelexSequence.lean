/- For every string and every list of text edits, the law RelexSequence answers true and leaves its arguments as they were. -/
import Derived.Test.YteopmfijfgaldaaDoorLx
import Derived.Test.YteopmfijfgaldaaDoorLv
import Derived.Test.YteopmfijfgaldaaDoorLy
import Derived.Test.YteopmfijfgaldaaDoorCards
import Derived.Test.YteopmfijfgaldaaDoorTie
namespace Go.Proofs.YteopmfijfgaldaaDoor
set_option linter.unusedVariables false
set_option linter.unusedSimpArgs false
open Go.ChangeShapes Go.WideShapes Go.ChangeAt Go.RowKit Go.Gx
open Go.ChangeMaps (open_string shut_string)
set_option maxRecDepth 100000 in
theorem relexSequence_lifted (os : Os) (started : os.Started) (H : Type) (enc : TypeId × Value → H) :
    ReturnsInHanded {} Tryd.checked os 9 .any (fun w args => (Rows.relexSequenceSpec.pre enc Tryd.prog Tryd.f9 [] false w args ∧ laidMetH Tryd.prog spLaid w) ∧ sizedMet enc Tryd.prog Tryd.f9 (OpenSpec.ofChange Rows.relexSequenceSpec) false w args)
      (Rows.relexSequenceSpec.post enc Tryd.prog Tryd.f9 false true false false) := by
  refine returnsInHanded_of_change_and (C := Tryd.checked) (X := fun w _ => laidMetH Tryd.prog spLaid w) (fun _ _ _ hh h => h.of_heap hh) own_ started (by kernel_rfl) Tryd.func9
    (ChangeSpec.witness_shaped (enc := enc) (C := Tryd.checked) (os := os) (X := fun w _ => laidMetH Tryd.prog spLaid w) false (spWorld os) #[.string ⟨#[]⟩, .slice none 0 0] 8 rfl (World.shaped_of_RefB (by kernel_rfl) (by kernel_rfl)) (by kernel_rfl) (by kernel_rfl) (by kernel_rfl) (sp_met os _)) ?_
  intro W base args ds gs before hval0 hW _ hsz hL _
  rw [MakeChecks.laidMetH_plain _ _ _ (by kernel_rfl)] at hL
  have hAsc := asc_of hL
  have hval : ∀ (j : Nat) t v, Tryd.f9.params[j]? = some t → args[j]? = some v → Value.okWide Tryd.prog W .any base t v := hval0
  have hW' := hW
  obtain ⟨p, q, hA0, hV, rfl, _, _⟩ := hW
  have hA : DataW.TrodAll enc Tryd.prog W 0 (fun _ => true) true Tryd.f9.params.toList args.toList ds p := hA0
  rw [Tryd.params9] at hA hval hsz
  obtain ⟨v0, v1, d0, d1, p0, p1, rfl, rfl, rfl, h0, h1⟩ := trodAll_two hA
  obtain ⟨rfl, rfl⟩ := trodVars_none hV
  obtain ⟨s0, rfl, rfl, rfl, w0⟩ := open_string Tryd.underlying9 (hval 0 9 v0 rfl rfl) h0
  obtain ⟨a1, len1, cap1, rfl⟩ := okWide_slice Tryd.underlying46 (hval 1 46 v1 rfl rfl)
  clear hA0 hval0
  simp only [List.append_nil, List.nil_append] at hW'
  have hlt1 : ∀ x ∈ p1, x.block < W.heap.size := fun x hx => hW'.lt x (by simp [hx])
  have fin : ∀ W', Below W.heap.size W W' → Rows.relexSequenceSpec.post enc Tryd.checked.prog Tryd.f9 false true false false W #[.string s0, .slice a1 len1 cap1] (.bool true) W' := by
    intro W' hnx
    refine ⟨_, _, _, [] ++ [], p1, [], hW', ?_, ?_, rfl, hnx.frame _, fun h => by cases h⟩
    · exact trodAll_mk1 (shut_bool Tryd.underlying4 true)
    · have hh := trodAll_mk2 (shut_string Tryd.underlying9 w0) (Below.trod laidOut_ (by kernel_rfl) (of_decide_eq_true (by kernel_rfl)) h1 hnx hlt1)
      exact hh
  obtain ⟨es1, rfl, hsl1, hd1⟩ := edits_in h1
  have hz1 : es1.length < 4611686018427387904 ∧ ∀ e ∈ es1, (e.s.size : Int) ≤ 140737488355328 := by
    rcases hd1 with hd | ⟨rest, rfl⟩
    · obtain rfl := List.length_eq_zero_iff.1 hd
      exact ⟨by decide, fun e he => by cases he⟩
    · exact edits_sized hsz (j := 1) rfl rfl
  refine Calls.mono (sequenceLaw hAsc hsl1 hz1.1 hz1.2) fun e W' ⟨v, he, hv, hnx⟩ => ?_
  subst he; subst hv
  exact ⟨_, rfl, fin W' hnx⟩
theorem relexSequence_holds : Rows.RelexSequenceSaid :=
  OpenClaim.holds_of_wide 9 Tryd.f9 rfl rfl rfl rfl rfl rfl rfl ⟨rfl, rfl, rfl, rfl, rfl⟩ rfl rfl rfl rfl rfl (by kernel_rfl) Tryd.func9 (by kernel_rfl)
    (of_decide_eq_true (by kernel_rfl)) (by unfold Func.isWrapper; rw [if_neg (of_decide_eq_false (by kernel_rfl))]; exact ⟨rfl, rfl⟩)
    (fun os started H enc _ => relexSequence_lifted os started H enc)
theorem relexSequence_card : Rows.RelexSequenceCardSaid :=
  Claim7.holds_tied_plain_at .later [] [.listed, .data] true (true, "a2df65d9ff534a6f1bd4b01dacb6e8c695180af4c2933d80e454626425e0da85") false
    relexSequence_holds (fun _ h => by cases h) (by kernel_rfl) (fun _ h => by cases h) relexSequence_row_tie rfl ⟨rfl, rfl⟩ (by kernel_rfl) rfl
    (fun f fn hf hfn => by
      obtain rfl : f = 9 := Option.some.inj ((show Tryd.prog.funcNamed "glossator/glossatorkeep1.RelexSequence" = some 9 by kernel_rfl).symm.trans hf) |>.symm
      obtain rfl : fn = Tryd.f9 := (Option.some.inj (Tryd.func9.symm.trans hfn)).symm
      exact ⟨by kernel_rfl, fun j t ht => by
        rw [Tryd.params9] at ht
        have hm : t ∈ [9, 46] := by simpa using Array.mem_of_getElem? ht
        have hall : ([9, 46].all fun u => !Tryd.prog.wantsStandIn u) = true := by kernel_rfl
        exact (show Tryd.prog.wantsStandIn t = false by simpa using List.all_eq_true.1 hall t hm)⟩)
    (by kernel_rfl)

#print axioms relexSequence_card

end Go.Proofs.YteopmfijfgaldaaDoor
