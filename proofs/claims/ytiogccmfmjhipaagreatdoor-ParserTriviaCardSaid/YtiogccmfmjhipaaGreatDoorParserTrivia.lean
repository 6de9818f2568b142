/- For every string and every two numbers, the law ParserTrivia answers true and leaves its arguments as they were. -/
import Derived.Test.YtiogccmfmjhipaaGreatDoorXj
import Derived.Test.YtiogccmfmjhipaaGreatDoorXk
import Derived.Test.YtiogccmfmjhipaaGreatDoorXl
import Derived.Test.YtiogccmfmjhipaaGreatDoorCards
import Derived.Test.YtiogccmfmjhipaaGreatDoorTie
set_option linter.unusedVariables false
set_option linter.unusedSimpArgs false
namespace Go.Proofs.YtiogccmfmjhipaaGreatDoor
open Go.ChangeShapes Go.WideShapes Go.ChangeAt Go.RowKit Go.Gx
open Go.ChangeMaps (open_string shut_string)
set_option maxRecDepth 100000 in
theorem parserTrivia_lifted (os : Os) (started : os.Started) (H : Type) (enc : TypeId × Value → H) :
  ReturnsInHanded {} Tryz.checked os 4 .any (fun w args => (Rows.parserTriviaSpec.pre enc Tryz.prog Tryz.f4 [] false w args ∧ laidMetH Tryz.prog spLaid w) ∧ sizedMet enc Tryz.prog Tryz.f4 (OpenSpec.ofChange Rows.parserTriviaSpec) false w args)
   (Rows.parserTriviaSpec.post enc Tryz.prog Tryz.f4 false true false false) := by
 refine returnsInHanded_of_change_and (C := Tryz.checked) (X := fun w _ => laidMetH Tryz.prog spLaid w) (fun _ _ _ hh h => h.of_heap hh) own_ started (by kernel_rfl) Tryz.func4
  (ChangeSpec.witness_shaped (enc := enc) (C := Tryz.checked) (os := os) (X := fun w _ => laidMetH Tryz.prog spLaid w) false (spWorld os) #[.string ⟨#[]⟩,.int .i64 0,.int .i64 0] 8 rfl (World.shaped_of_RefB (by kernel_rfl) (by kernel_rfl)) (by kernel_rfl) (by kernel_rfl) (by kernel_rfl) (sp_met os _)) ?_
 intro W base args ds gs before hval0 hW _ hsz hL _
 rw [MakeChecks.laidMetH_plain _ _ _ (by kernel_rfl)] at hL
 have hAsc := asc_of hL
 have hEr := er_of hL
 have hval : ∀ (j : Nat) t v,Tryz.f4.params[j]? = some t → args[j]? = some v → Value.okWide Tryz.prog W .any base t v := hval0
 have hW' := hW
 obtain ⟨p,q,hA0,hV,rfl,_,_⟩ := hW
 have hA : DataW.TrodAll enc Tryz.prog W 0 (fun _ => true) true Tryz.f4.params.toList args.toList ds p := hA0
 rw [Tryz.params4] at hA hval hsz
 obtain ⟨v0,v1,v2,d0,d1,d2,p0,p1,p2,rfl,rfl,rfl,h0,h1,h2⟩ := trodAll_three hA
 obtain ⟨rfl,rfl⟩ := trodVars_none hV
 obtain ⟨s0,rfl,rfl,rfl,w0⟩ := open_string Tryz.underlying9 (hval 0 9 v0 rfl rfl) h0
 obtain ⟨x1,rfl,rfl,rfl,w1⟩ := open_int Tryz.underlying3 (hval 1 3 v1 rfl rfl) h1
 obtain ⟨x2,rfl,rfl,rfl,w2⟩ := open_int Tryz.underlying3 (hval 2 3 v2 rfl rfl) h2
 clear hA0 hval0
 simp only [List.append_nil,List.nil_append] at hW'
 have fin : ∀ W',Below W.heap.size W W' → Rows.parserTriviaSpec.post enc Tryz.checked.prog Tryz.f4 false true false false W #[.string s0,.int .i64 x1,.int .i64 x2] (.bool true) W' := by
  intro W' hnx
  refine ⟨_,_,_,[] ++ [],[],[],hW',?_,?_,rfl,hnx.frame _,fun h => by cases h⟩
  ·exact trodAll_mk1 (shut_bool Tryz.underlying4 true)
  ·exact trodAll_mk3 (shut_string Tryz.underlying9 w0) (shut_int Tryz.underlying3 w1) (shut_int Tryz.underlying3 w2)
 refine Calls.mono (Par.triviaLaw hAsc hEr ) fun e W' ⟨v,he,hv,hnx⟩ => ?_
 subst he; subst hv
 exact ⟨_,rfl,fin W' hnx⟩
set_option maxRecDepth 100000
theorem parserTrivia_inPlace : (Rows.parserTriviaRow.inPlace == Tryz.prog.inPlace 4) = true := by kernel_rfl
theorem parserTrivia_unfollowed : (Rows.parserTriviaRow.unfollowed == Tryz.prog.unfollowed 4) = true := by kernel_rfl
theorem parserTrivia_recurses : (Rows.parserTriviaRow.recurses == Tryz.prog.recurses 4) = true := by kernel_rfl
theorem parserTrivia_named : (Rows.parserTriviaRow.named == Tryz.prog.varsNamed 4) = true := by kernel_rfl
theorem parserTrivia_closed : joinedFacts Tryz.prog 4 Tryz.f4 Rows.parserTriviaSpec Rows.parserTriviaRow = true :=
 (and_of (and_of (and_of (and_of (and_of (and_of (and_of (and_of (and_of (and_of (and_of (and_of (and_of (and_of (and_of (and_of (and_of (and_of (and_of (and_of (and_of (and_of (and_of (and_of (and_of (and_of (and_of (and_of (and_of (and_of (and_of (by as_aux_lemma => kernel_rfl) (laidOut_)) (rowed_)) (by as_aux_lemma => kernel_rfl)) (by as_aux_lemma => kernel_rfl)) (by as_aux_lemma => kernel_rfl)) (by as_aux_lemma => kernel_rfl)) (by as_aux_lemma => kernel_rfl)) (by as_aux_lemma => kernel_rfl)) (parserTrivia_inPlace)) (parserTrivia_unfollowed)) (parserTrivia_recurses)) (parserTrivia_named)) (by as_aux_lemma => kernel_rfl)) (by as_aux_lemma => kernel_rfl)) (by as_aux_lemma => kernel_rfl)) (by as_aux_lemma => kernel_rfl)) (by as_aux_lemma => kernel_rfl)) (by as_aux_lemma => kernel_rfl)) (by as_aux_lemma => kernel_rfl)) (by as_aux_lemma => kernel_rfl)) (by as_aux_lemma => kernel_rfl)) (keys_)) (by as_aux_lemma => kernel_rfl)) (heard_)) (enters_)) (lifts_)) (make_)) (by as_aux_lemma => kernel_rfl)) (by as_aux_lemma => kernel_rfl)) (by as_aux_lemma => kernel_rfl)) (by as_aux_lemma => kernel_rfl))
theorem parserTrivia_holds : Rows.ParserTriviaSaid :=
 OpenClaim.holds_of_wide 4 Tryz.f4 rfl rfl rfl rfl rfl rfl rfl ⟨rfl,rfl,rfl,rfl,rfl⟩ rfl rfl rfl rfl rfl (by as_aux_lemma => kernel_rfl) Tryz.func4 parserTrivia_closed
  (of_decide_eq_true (by as_aux_lemma => kernel_rfl)) (by unfold Func.isWrapper; rw [if_neg (of_decide_eq_false (by as_aux_lemma => kernel_rfl))]; exact ⟨rfl,rfl⟩)
  (fun os started H enc _ => parserTrivia_lifted os started H enc)
theorem parserTrivia_card : Rows.ParserTriviaCardSaid :=
 Claim7.holds_tied_plain_at .later [] [.data,.data,.data,.sentinel,.sentinel,.listed,.data] true (true, "8a8562147f3ee3390cc0a2d79021bfe423c3c5f45c5a4d9ee137e35afc334c1d") true
  parserTrivia_holds (fun _ h => by cases h) (by as_aux_lemma => kernel_rfl) (fun _ h => by cases h) parserTrivia_row_tie rfl ⟨rfl,rfl⟩ (by as_aux_lemma => kernel_rfl) rfl
  (fun f fn hf hfn => by
   obtain rfl : f = 4 := Option.some.inj ((show Tryz.prog.funcNamed "glossator/glossatorkeep1.ParserTrivia" = some 4 by as_aux_lemma => kernel_rfl).symm.trans hf) |>.symm
   obtain rfl : fn = Tryz.f4 := (Option.some.inj (Tryz.func4.symm.trans hfn)).symm
   exact ⟨looks_,fun j t ht => by
    rw [Tryz.params4] at ht
    have hm : t ∈ [9,3] := by simpa using Array.mem_of_getElem? ht
    have hall : ([9,3].all fun u => !Tryz.prog.wantsStandIn u) = true := by as_aux_lemma => kernel_rfl
    exact (show Tryz.prog.wantsStandIn t = false by simpa using List.all_eq_true.1 hall t hm)⟩)
  (by as_aux_lemma => kernel_rfl)
#print axioms parserTrivia_card
end Go.Proofs.YtiogccmfmjhipaaGreatDoor
