/- For every two strings, the law ParserResynchronizes answers true and leaves its arguments as they were. -/
import Derived.Test.YtiogccmfmjhipaaGreatDoorXk
import Derived.Test.YtiogccmfmjhipaaGreatDoorXl
import Derived.Test.YtiogccmfmjhipaaGreatDoorXm
import Derived.Test.YtiogccmfmjhipaaGreatDoorCards
import Derived.Test.YtiogccmfmjhipaaGreatDoorTie
set_option linter.unusedVariables false
set_option linter.unusedSimpArgs false
namespace Go.Proofs.YtiogccmfmjhipaaGreatDoor
open Go.ChangeShapes Go.WideShapes Go.ChangeAt Go.RowKit Go.Gx
open Go.ChangeMaps (open_string shut_string)
set_option maxRecDepth 100000 in
theorem parserResynchronizes_lifted (os : Os) (started : os.Started) (H : Type) (enc : TypeId × Value → H) :
  ReturnsInHanded {} Tryz.checked os 3 .any (fun w args => (Rows.parserResynchronizesSpec.pre enc Tryz.prog Tryz.f3 [] false w args ∧ laidMetH Tryz.prog spLaid w) ∧ sizedMet enc Tryz.prog Tryz.f3 (OpenSpec.ofChange Rows.parserResynchronizesSpec) false w args)
   (Rows.parserResynchronizesSpec.post enc Tryz.prog Tryz.f3 false true false false) := by
 refine returnsInHanded_of_change_and (C := Tryz.checked) (X := fun w _ => laidMetH Tryz.prog spLaid w) (fun _ _ _ hh h => h.of_heap hh) own_ started (by kernel_rfl) Tryz.func3
  (ChangeSpec.witness_shaped (enc := enc) (C := Tryz.checked) (os := os) (X := fun w _ => laidMetH Tryz.prog spLaid w) false (spWorld os) #[.string ⟨#[]⟩,.string ⟨#[]⟩] 8 rfl (World.shaped_of_RefB (by kernel_rfl) (by kernel_rfl)) (by kernel_rfl) (by kernel_rfl) (by kernel_rfl) (sp_met os _)) ?_
 intro W base args ds gs before hval0 hW _ hsz hL _
 rw [MakeChecks.laidMetH_plain _ _ _ (by kernel_rfl)] at hL
 have hAsc := asc_of hL
 have hEr := er_of hL
 have hval : ∀ (j : Nat) t v,Tryz.f3.params[j]? = some t → args[j]? = some v → Value.okWide Tryz.prog W .any base t v := hval0
 have hW' := hW
 obtain ⟨p,q,hA0,hV,rfl,_,_⟩ := hW
 have hA : DataW.TrodAll enc Tryz.prog W 0 (fun _ => true) true Tryz.f3.params.toList args.toList ds p := hA0
 rw [Tryz.params3] at hA hval hsz
 obtain ⟨v0,v1,d0,d1,p0,p1,rfl,rfl,rfl,h0,h1⟩ := trodAll_two hA
 obtain ⟨rfl,rfl⟩ := trodVars_none hV
 obtain ⟨s0,rfl,rfl,rfl,w0⟩ := open_string Tryz.underlying9 (hval 0 9 v0 rfl rfl) h0
 obtain ⟨s1,rfl,rfl,rfl,w1⟩ := open_string Tryz.underlying9 (hval 1 9 v1 rfl rfl) h1
 clear hA0 hval0
 simp only [List.append_nil,List.nil_append] at hW'
 have fin : ∀ W',Below W.heap.size W W' → Rows.parserResynchronizesSpec.post enc Tryz.checked.prog Tryz.f3 false true false false W #[.string s0,.string s1] (.bool true) W' := by
  intro W' hnx
  refine ⟨_,_,_,[] ++ [],[],[],hW',?_,?_,rfl,hnx.frame _,fun h => by cases h⟩
  ·exact trodAll_mk1 (shut_bool Tryz.underlying4 true)
  ·exact trodAll_mk2 (shut_string Tryz.underlying9 w0) (shut_string Tryz.underlying9 w1)
 refine Calls.mono (Par.resyncLaw hAsc hEr ) fun e W' ⟨v,he,hv,hnx⟩ => ?_
 subst he; subst hv
 exact ⟨_,rfl,fin W' hnx⟩
set_option maxRecDepth 100000
theorem parserResynchronizes_inPlace : (Rows.parserResynchronizesRow.inPlace == Tryz.prog.inPlace 3) = true := by kernel_rfl
theorem parserResynchronizes_unfollowed : (Rows.parserResynchronizesRow.unfollowed == Tryz.prog.unfollowed 3) = true := by kernel_rfl
theorem parserResynchronizes_recurses : (Rows.parserResynchronizesRow.recurses == Tryz.prog.recurses 3) = true := by kernel_rfl
theorem parserResynchronizes_named : (Rows.parserResynchronizesRow.named == Tryz.prog.varsNamed 3) = true := by kernel_rfl
theorem parserResynchronizes_closed : joinedFacts Tryz.prog 3 Tryz.f3 Rows.parserResynchronizesSpec Rows.parserResynchronizesRow = true :=
 (and_of (and_of (and_of (and_of (and_of (and_of (and_of (and_of (and_of (and_of (and_of (and_of (and_of (and_of (and_of (and_of (and_of (and_of (and_of (and_of (and_of (and_of (and_of (and_of (and_of (and_of (and_of (and_of (and_of (and_of (and_of (by as_aux_lemma => kernel_rfl) (laidOut_)) (rowed_)) (by as_aux_lemma => kernel_rfl)) (by as_aux_lemma => kernel_rfl)) (by as_aux_lemma => kernel_rfl)) (by as_aux_lemma => kernel_rfl)) (by as_aux_lemma => kernel_rfl)) (by as_aux_lemma => kernel_rfl)) (parserResynchronizes_inPlace)) (parserResynchronizes_unfollowed)) (parserResynchronizes_recurses)) (parserResynchronizes_named)) (by as_aux_lemma => kernel_rfl)) (by as_aux_lemma => kernel_rfl)) (by as_aux_lemma => kernel_rfl)) (by as_aux_lemma => kernel_rfl)) (by as_aux_lemma => kernel_rfl)) (by as_aux_lemma => kernel_rfl)) (by as_aux_lemma => kernel_rfl)) (by as_aux_lemma => kernel_rfl)) (by as_aux_lemma => kernel_rfl)) (keys_)) (by as_aux_lemma => kernel_rfl)) (heard_)) (enters_)) (lifts_)) (make_)) (by as_aux_lemma => kernel_rfl)) (by as_aux_lemma => kernel_rfl)) (by as_aux_lemma => kernel_rfl)) (by as_aux_lemma => kernel_rfl))
theorem parserResynchronizes_holds : Rows.ParserResynchronizesSaid :=
 OpenClaim.holds_of_wide 3 Tryz.f3 rfl rfl rfl rfl rfl rfl rfl ⟨rfl,rfl,rfl,rfl,rfl⟩ rfl rfl rfl rfl rfl (by as_aux_lemma => kernel_rfl) Tryz.func3 parserResynchronizes_closed
  (of_decide_eq_true (by as_aux_lemma => kernel_rfl)) (by unfold Func.isWrapper; rw [if_neg (of_decide_eq_false (by as_aux_lemma => kernel_rfl))]; exact ⟨rfl,rfl⟩)
  (fun os started H enc _ => parserResynchronizes_lifted os started H enc)
theorem parserResynchronizes_card : Rows.ParserResynchronizesCardSaid :=
 Claim7.holds_tied_plain_at .later [] [.data,.data,.data,.sentinel,.sentinel,.listed,.data] true (true, "8a8562147f3ee3390cc0a2d79021bfe423c3c5f45c5a4d9ee137e35afc334c1d") true
  parserResynchronizes_holds (fun _ h => by cases h) (by as_aux_lemma => kernel_rfl) (fun _ h => by cases h) parserResynchronizes_row_tie rfl ⟨rfl,rfl⟩ (by as_aux_lemma => kernel_rfl) rfl
  (fun f fn hf hfn => by
   obtain rfl : f = 3 := Option.some.inj ((show Tryz.prog.funcNamed "glossator/glossatorkeep1.ParserResynchronizes" = some 3 by as_aux_lemma => kernel_rfl).symm.trans hf) |>.symm
   obtain rfl : fn = Tryz.f3 := (Option.some.inj (Tryz.func3.symm.trans hfn)).symm
   exact ⟨looks_,fun j t ht => by
    rw [Tryz.params3] at ht
    have hm : t ∈ [9] := by simpa using Array.mem_of_getElem? ht
    have hall : ([9].all fun u => !Tryz.prog.wantsStandIn u) = true := by as_aux_lemma => kernel_rfl
    exact (show Tryz.prog.wantsStandIn t = false by simpa using List.all_eq_true.1 hall t hm)⟩)
  (by as_aux_lemma => kernel_rfl)
#print axioms parserResynchronizes_card
end Go.Proofs.YtiogccmfmjhipaaGreatDoor
