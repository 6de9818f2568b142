/- For every string, the law AstRanges answers true and leaves its arguments as they were. -/
import Derived.Test.YtlndmiegodcfjaaGreatDoorXk
import Derived.Test.YtlndmiegodcfjaaGreatDoorXl
import Derived.Test.YtlndmiegodcfjaaGreatDoorXm
import Derived.Test.YtlndmiegodcfjaaGreatDoorCards
import Derived.Test.YtlndmiegodcfjaaGreatDoorTie
set_option linter.unusedVariables false
set_option linter.unusedSimpArgs false
namespace Go.Proofs.YtlndmiegodcfjaaGreatDoor
open Go.ChangeShapes Go.WideShapes Go.ChangeAt Go.RowKit Go.Gx
open Go.ChangeMaps (open_string shut_string)
set_option maxRecDepth 100000 in
theorem astRanges_lifted (os : Os) (started : os.Started) (H : Type) (enc : TypeId × Value → H) :
  ReturnsInHanded {} Tryz.checked os 3 .any (fun w args => (Rows.astRangesSpec.pre enc Tryz.prog Tryz.f3 [] false w args ∧ laidMetH Tryz.prog oF w) ∧ sizedMet enc Tryz.prog Tryz.f3 (OpenSpec.ofChange Rows.astRangesSpec) false w args)
   (Rows.astRangesSpec.post enc Tryz.prog Tryz.f3 false true false false) := by
 refine returnsInHanded_of_change_and (C := Tryz.checked) (X := fun w _ => laidMetH Tryz.prog oF w) (fun _ _ _ hh h => h.of_heap hh) aAe started (by kernel_rfl) Tryz.func3
  (ChangeSpec.witness_shaped (enc := enc) (C := Tryz.checked) (os := os) (X := fun w _ => laidMetH Tryz.prog oF w) false (zW os) #[.string ⟨#[]⟩] 8 rfl (World.shaped_of_RefB (by kernel_rfl) (by kernel_rfl)) (by kernel_rfl) (by kernel_rfl) (by kernel_rfl) (Ix os _)) ?_
 intro W base args ds gs before hval0 hW _ hsz hL _;rw [MakeChecks.laidMetH_plain _ _ _ (by kernel_rfl)] at hL;have hAsc := Iz hL;have hEr := Jt hL;have hval : ∀ (j : Nat) t v,Tryz.f3.params[j]? = some t → args[j]? = some v → Value.okWide Tryz.prog W .any base t v := hval0;have hW' := hW;obtain ⟨p,q,hA0,hV,rfl,_,_⟩ := hW;have hA : DataW.TrodAll enc Tryz.prog W 0 (fun _ => true) true Tryz.f3.params.toList args.toList ds p := hA0;rw [Tryz.params3] at hA hval hsz;obtain ⟨v0,d0,rfl,rfl,h0⟩ := trodAll_one hA;obtain ⟨rfl,rfl⟩ := trodVars_none hV;obtain ⟨s0,rfl,rfl,rfl,w0⟩ := open_string Tryz.underlying9 (hval 0 9 v0 rfl rfl) h0;clear hA0 hval0;simp only [List.append_nil,List.nil_append] at hW';have Bm : ∀ W',Below W.heap.size W W' → Rows.astRangesSpec.post enc Tryz.checked.prog Tryz.f3 false true false false W #[.string s0] (.bool true) W' := by
  intro W' hnx;refine ⟨_,_,_,[] ++ [],[],[],hW',?_,?_,rfl,hnx.frame _,fun h => by cases h⟩
  ·exact trodAll_mk1 (shut_bool Tryz.underlying4 true)
  ·exact trodAll_mk1 (shut_string Tryz.underlying9 w0)
 refine Calls.mono (Prn.rangesLaw hAsc hEr ) fun e W' ⟨v,he,hv,hnx⟩ => ?_;subst he; subst hv;exact ⟨_,rfl,Bm W' hnx⟩
set_option maxRecDepth 100000
theorem astRanges_inPlace : (Rows.astRangesRow.inPlace == Tryz.prog.inPlace 3) = true := by kernel_rfl
theorem astRanges_unfollowed : (Rows.astRangesRow.unfollowed == Tryz.prog.unfollowed 3) = true := by kernel_rfl
theorem astRanges_recurses : (Rows.astRangesRow.recurses == Tryz.prog.recurses 3) = true := by kernel_rfl
theorem astRanges_named : (Rows.astRangesRow.named == Tryz.prog.varsNamed 3) = true := by kernel_rfl
theorem astRanges_closed : joinedFacts Tryz.prog 3 Tryz.f3 Rows.astRangesSpec Rows.astRangesRow = true :=
 (cV (cV (cV (cV (cV (cV (cV (cV (cV (cV (cV (cV (cV (cV (cV (cV (cV (cV (cV (cV (cV (cV (cV (cV (cV (cV (cV (cV (cV (cV (cV (by as_aux_lemma => kernel_rfl) (Eo)) (I0)) (by as_aux_lemma => kernel_rfl)) (by as_aux_lemma => kernel_rfl)) (by as_aux_lemma => kernel_rfl)) (by as_aux_lemma => kernel_rfl)) (by as_aux_lemma => kernel_rfl)) (by as_aux_lemma => kernel_rfl)) (astRanges_inPlace)) (astRanges_unfollowed)) (astRanges_recurses)) (astRanges_named)) (by as_aux_lemma => kernel_rfl)) (by as_aux_lemma => kernel_rfl)) (by as_aux_lemma => kernel_rfl)) (by as_aux_lemma => kernel_rfl)) (by as_aux_lemma => kernel_rfl)) (by as_aux_lemma => kernel_rfl)) (by as_aux_lemma => kernel_rfl)) (by as_aux_lemma => kernel_rfl)) (by as_aux_lemma => kernel_rfl)) (Ju)) (by as_aux_lemma => kernel_rfl)) (I1)) (G4)) (I2)) (Jv)) (by as_aux_lemma => kernel_rfl)) (by as_aux_lemma => kernel_rfl)) (by as_aux_lemma => kernel_rfl)) (by as_aux_lemma => kernel_rfl))
theorem astRanges_holds : Rows.AstRangesSaid :=
 OpenClaim.holds_of_wide 3 Tryz.f3 rfl rfl rfl rfl rfl rfl rfl ⟨rfl,rfl,rfl,rfl,rfl⟩ rfl rfl rfl rfl rfl (by as_aux_lemma => kernel_rfl) Tryz.func3 astRanges_closed
  (of_decide_eq_true (by as_aux_lemma => kernel_rfl)) (by unfold Func.isWrapper; rw [if_neg (of_decide_eq_false (by as_aux_lemma => kernel_rfl))]; exact ⟨rfl,rfl⟩)
  (fun os started H enc _ => astRanges_lifted os started H enc)
theorem astRanges_card : Rows.AstRangesCardSaid :=
 Claim7.holds_tied_plain_at .later [] [.data,.data,.data,.sentinel,.sentinel,.listed,.data] true (true, "d5af50dbb370b59fc5b450a2e4cad1d6133335fa14562cb848915dd60cdc62a9") true
  astRanges_holds (fun _ h => by cases h) (by as_aux_lemma => kernel_rfl) (fun _ h => by cases h) astRanges_row_tie rfl ⟨rfl,rfl⟩ (by as_aux_lemma => kernel_rfl) rfl
  (fun f fn hf hfn => by
   obtain rfl : f = 3 := Option.some.inj ((show Tryz.prog.funcNamed "glossator/glossatorkeep1.AstRanges" = some 3 by as_aux_lemma => kernel_rfl).symm.trans hf) |>.symm
   obtain rfl : fn = Tryz.f3 := (Option.some.inj (Tryz.func3.symm.trans hfn)).symm;exact ⟨I3,fun j t ht => by
    rw [Tryz.params3] at ht;have hm : t ∈ [9] := by simpa using Array.mem_of_getElem? ht
    have hall : ([9].all fun u => !Tryz.prog.wantsStandIn u) = true := by as_aux_lemma => kernel_rfl
    exact (show Tryz.prog.wantsStandIn t = false by simpa using List.all_eq_true.1 hall t hm)⟩)
  (by as_aux_lemma => kernel_rfl)
#print axioms astRanges_card
end Go.Proofs.YtlndmiegodcfjaaGreatDoor
