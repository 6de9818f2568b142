/- For every string and every two lists of text edits, the law TopEdited answers true and leaves its arguments as they were. -/
import Derived.Test.YtbnkncemfadfjaaGreatDoorSf
import Derived.Test.YtbnkncemfadfjaaGreatDoorLx
import Derived.Test.YtbnkncemfadfjaaGreatDoorLy
import Derived.Test.YtbnkncemfadfjaaGreatDoorCards
import Derived.Test.YtbnkncemfadfjaaGreatDoorTie
namespace Go.Proofs.YtbnkncemfadfjaaGreatDoor
set_option linter.unusedVariables false
set_option linter.unusedSimpArgs false
open Go.ChangeShapes Go.WideShapes Go.ChangeAt Go.RowKit Go.Gx
open Go.ChangeMaps (open_string shut_string)
set_option maxRecDepth 100000 in
theorem topEdited_lifted (os : Os) (started : os.Started) (H : Type) (enc : TypeId × Value → H) :
    ReturnsInHanded {} Tryz.checked os 3 .any (fun w args => (Rows.topEditedSpec.pre enc Tryz.prog Tryz.f3 [] false w args ∧ laidMetH Tryz.prog spLaid w) ∧ sizedMet enc Tryz.prog Tryz.f3 (OpenSpec.ofChange Rows.topEditedSpec) false w args)
      (Rows.topEditedSpec.post enc Tryz.prog Tryz.f3 false true false false) := by
  refine returnsInHanded_of_change_and (C := Tryz.checked) (X := fun w _ => laidMetH Tryz.prog spLaid w) (fun _ _ _ hh h => h.of_heap hh) own_ started (by kernel_rfl) Tryz.func3
    (ChangeSpec.witness_shaped (enc := enc) (C := Tryz.checked) (os := os) (X := fun w _ => laidMetH Tryz.prog spLaid w) false (spWorld os) #[.string ⟨#[]⟩, .slice none 0 0, .slice none 0 0] 8 rfl (World.shaped_of_RefB (by kernel_rfl) (by kernel_rfl)) (by kernel_rfl) (by kernel_rfl) (by kernel_rfl) (sp_met os _)) ?_
  intro W base args ds gs before hval0 hW _ hsz hL _
  rw [MakeChecks.laidMetH_plain _ _ _ (by kernel_rfl)] at hL
  have hAsc := asc_of hL
  have hval : ∀ (j : Nat) t v, Tryz.f3.params[j]? = some t → args[j]? = some v → Value.okWide Tryz.prog W .any base t v := hval0
  have hW' := hW
  obtain ⟨p, q, hA0, hV, rfl, _, _⟩ := hW
  have hA : DataW.TrodAll enc Tryz.prog W 0 (fun _ => true) true Tryz.f3.params.toList args.toList ds p := hA0
  rw [Tryz.params3] at hA hval hsz
  obtain ⟨v0, v1, v2, d0, d1, d2, p0, p1, p2, rfl, rfl, rfl, h0, h1, h2⟩ := trodAll_three hA
  obtain ⟨rfl, rfl⟩ := trodVars_none hV
  obtain ⟨s0, rfl, rfl, rfl, w0⟩ := open_string Tryz.underlying9 (hval 0 9 v0 rfl rfl) h0
  obtain ⟨a1, len1, cap1, rfl⟩ := okWide_slice Tryz.underlying22 (hval 1 22 v1 rfl rfl)
  obtain ⟨a2, len2, cap2, rfl⟩ := okWide_slice Tryz.underlying22 (hval 2 22 v2 rfl rfl)
  clear hA0 hval0
  simp only [List.append_nil, List.nil_append] at hW'
  have hlt1 : ∀ x ∈ p1, x.block < W.heap.size := fun x hx => hW'.lt x (by simp [hx])
  have hlt2 : ∀ x ∈ p2, x.block < W.heap.size := fun x hx => hW'.lt x (by simp [hx])
  have fin : ∀ W', Below W.heap.size W W' → Rows.topEditedSpec.post enc Tryz.checked.prog Tryz.f3 false true false false W #[.string s0, .slice a1 len1 cap1, .slice a2 len2 cap2] (.bool true) W' := by
    intro W' hnx
    refine ⟨_, _, _, [] ++ [], p1 ++ p2, [], hW', ?_, ?_, rfl, hnx.frame _, fun h => by cases h⟩
    · exact trodAll_mk1 (shut_bool Tryz.underlying4 true)
    · have hh := trodAll_mk3 (shut_string Tryz.underlying9 w0) (Below.trod laidOut_ (by kernel_rfl) (of_decide_eq_true (by kernel_rfl)) h1 hnx hlt1) (Below.trod laidOut_ (by kernel_rfl) (of_decide_eq_true (by kernel_rfl)) h2 hnx hlt2)
      exact hh
  obtain ⟨es1, rfl, hsl1, hd1⟩ := edits_in h1
  have hz1 : es1.length < 4611686018427387904 ∧ ∀ e ∈ es1, (e.s.size : Int) ≤ 140737488355328 := by
    rcases hd1 with hd | ⟨rest, rfl⟩
    · obtain rfl := List.length_eq_zero_iff.1 hd
      exact ⟨by decide, fun e he => by cases he⟩
    · exact edits_sized hsz (j := 1) rfl rfl
  obtain ⟨es2, rfl, hsl2, hd2⟩ := edits_in h2
  have hz2 : es2.length < 4611686018427387904 ∧ ∀ e ∈ es2, (e.s.size : Int) ≤ 140737488355328 := by
    rcases hd2 with hd | ⟨rest, rfl⟩
    · obtain rfl := List.length_eq_zero_iff.1 hd
      exact ⟨by decide, fun e he => by cases he⟩
    · exact edits_sized hsz (j := 2) rfl rfl
  refine Calls.mono (editedLaw hAsc hsl1 hz1.1 hz1.2 hsl2 hz2.1 hz2.2) fun e W' ⟨v, he, hv, hnx⟩ => ?_
  subst he; subst hv
  exact ⟨_, rfl, fin W' hnx⟩
theorem topEdited_holds : Rows.TopEditedSaid :=
  OpenClaim.holds_of_wide 3 Tryz.f3 rfl rfl rfl rfl rfl rfl rfl ⟨rfl, rfl, rfl, rfl, rfl⟩ rfl rfl rfl rfl rfl (by kernel_rfl) Tryz.func3 (by kernel_rfl)
    (of_decide_eq_true (by kernel_rfl)) (by unfold Func.isWrapper; rw [if_neg (of_decide_eq_false (by kernel_rfl))]; exact ⟨rfl, rfl⟩)
    (fun os started H enc _ => topEdited_lifted os started H enc)
theorem topEdited_card : Rows.TopEditedCardSaid :=
  Claim7.holds_tied_plain_at .later [] [.listed, .data] true (true, "9243419475ef87774db2d1aea0f9a2d3a607d0206fd46c0eb69bfea5690bac57") true
    topEdited_holds (fun _ h => by cases h) (by kernel_rfl) (fun _ h => by cases h) topEdited_row_tie rfl ⟨rfl, rfl⟩ (by kernel_rfl) rfl
    (fun f fn hf hfn => by
      obtain rfl : f = 3 := Option.some.inj ((show Tryz.prog.funcNamed "glossator/glossatortop.TopEdited" = some 3 by kernel_rfl).symm.trans hf) |>.symm
      obtain rfl : fn = Tryz.f3 := (Option.some.inj (Tryz.func3.symm.trans hfn)).symm
      exact ⟨by kernel_rfl, fun j t ht => by
        rw [Tryz.params3] at ht
        have hm : t ∈ [9, 22] := by simpa using Array.mem_of_getElem? ht
        have hall : ([9, 22].all fun u => !Tryz.prog.wantsStandIn u) = true := by kernel_rfl
        exact (show Tryz.prog.wantsStandIn t = false by simpa using List.all_eq_true.1 hall t hm)⟩)
    (by kernel_rfl)

#print axioms topEdited_card

end Go.Proofs.YtbnkncemfadfjaaGreatDoor
