/- For every string and every number, the law AstPath answers true and leaves its arguments as they were. -/
import Derived.Test.YtlndmiegodcfjaaGreatDoorXj
import Derived.Test.YtlndmiegodcfjaaGreatDoorXl
import Derived.Test.YtlndmiegodcfjaaGreatDoorXm
import Derived.Test.YtlndmiegodcfjaaGreatDoorCards
import Derived.Test.YtlndmiegodcfjaaGreatDoorTie
set_option linter.unusedVariables false
set_option linter.unusedSimpArgs false
namespace Go.Proofs.YtlndmiegodcfjaaGreatDoor
open Go.ChangeShapes Go.WideShapes Go.ChangeAt Go.RowKit Go.Gx
open Go.ChangeMaps (open_string shut_string)
set_option maxRecDepth 100000 in
theorem astPath_lifted (os : Os) (started : os.Started) (H : Type) (enc : TypeId × Value → H) :
  ReturnsInHanded {} Tryz.checked os 7 .any (fun w args => (Rows.astPathSpec.pre enc Tryz.prog Tryz.f7 [] false w args ∧ laidMetH Tryz.prog kM w) ∧ sizedMet enc Tryz.prog Tryz.f7 (OpenSpec.ofChange Rows.astPathSpec) false w args)
   (Rows.astPathSpec.post enc Tryz.prog Tryz.f7 false true false false) := by
 refine returnsInHanded_of_change_and (C := Tryz.checked) (X := fun w _ => laidMetH Tryz.prog kM w) (fun _ _ _ hh h => h.of_heap hh) Ji started (by kernel_rfl) Tryz.func7
  (ChangeSpec.witness_shaped (enc := enc) (C := Tryz.checked) (os := os) (X := fun w _ => laidMetH Tryz.prog kM w) false (uB os) #[.string ⟨#[]⟩,.int .i64 0] 8 rfl (World.shaped_of_RefB (by kernel_rfl) (by kernel_rfl)) (by kernel_rfl) (by kernel_rfl) (by kernel_rfl) (Em os _)) ?_
 intro W base args ds gs before hval0 hW _ hsz hL _;rw [MakeChecks.laidMetH_plain _ _ _ (by kernel_rfl)] at hL;have hAsc := En hL;have hEr := Hp hL;have hval : ∀ (j : Nat) t v,Tryz.f7.params[j]? = some t → args[j]? = some v → Value.okWide Tryz.prog W .any base t v := hval0;have hW' := hW;obtain ⟨p,q,hA0,hV,rfl,_,_⟩ := hW;have hA : DataW.TrodAll enc Tryz.prog W 0 (fun _ => true) true Tryz.f7.params.toList args.toList ds p := hA0;rw [Tryz.params7] at hA hval hsz;obtain ⟨v0,v1,d0,d1,p0,p1,rfl,rfl,rfl,h0,h1⟩ := trodAll_two hA;obtain ⟨rfl,rfl⟩ := trodVars_none hV;obtain ⟨s0,rfl,rfl,rfl,w0⟩ := open_string Tryz.underlying9 (hval 0 9 v0 rfl rfl) h0;obtain ⟨x1,rfl,rfl,rfl,w1⟩ := open_int Tryz.underlying3 (hval 1 3 v1 rfl rfl) h1;clear hA0 hval0;simp only [List.append_nil,List.nil_append] at hW';have A4 : ∀ W',Below W.heap.size W W' → Rows.astPathSpec.post enc Tryz.checked.prog Tryz.f7 false true false false W #[.string s0,.int .i64 x1] (.bool true) W' := by
  intro W' hnx;refine ⟨_,_,_,[] ++ [],[],[],hW',?_,?_,rfl,hnx.frame _,fun h => by cases h⟩
  ·exact trodAll_mk1 (shut_bool Tryz.underlying4 true)
  ·exact trodAll_mk2 (shut_string Tryz.underlying9 w0) (shut_int Tryz.underlying3 w1)
 refine Calls.mono (Prn.pathLaw hAsc hEr ) fun e W' ⟨v,he,hv,hnx⟩ => ?_;subst he; subst hv;exact ⟨_,rfl,A4 W' hnx⟩
set_option maxRecDepth 100000
theorem astPath_inPlace : (Rows.astPathRow.inPlace == Tryz.prog.inPlace 7) = true := by kernel_rfl
theorem astPath_unfollowed : (Rows.astPathRow.unfollowed == Tryz.prog.unfollowed 7) = true := by kernel_rfl
theorem astPath_recurses : (Rows.astPathRow.recurses == Tryz.prog.recurses 7) = true := by kernel_rfl
theorem astPath_named : (Rows.astPathRow.named == Tryz.prog.varsNamed 7) = true := by kernel_rfl
theorem astPath_closed : joinedFacts Tryz.prog 7 Tryz.f7 Rows.astPathSpec Rows.astPathRow = true :=
 (bR (bR (bR (bR (bR (bR (bR (bR (bR (bR (bR (bR (bR (bR (bR (bR (bR (bR (bR (bR (bR (bR (bR (bR (bR (bR (bR (bR (bR (bR (bR (by as_aux_lemma => kernel_rfl) (nR)) (Eo)) (by as_aux_lemma => kernel_rfl)) (by as_aux_lemma => kernel_rfl)) (by as_aux_lemma => kernel_rfl)) (by as_aux_lemma => kernel_rfl)) (by as_aux_lemma => kernel_rfl)) (by as_aux_lemma => kernel_rfl)) (astPath_inPlace)) (astPath_unfollowed)) (astPath_recurses)) (astPath_named)) (by as_aux_lemma => kernel_rfl)) (by as_aux_lemma => kernel_rfl)) (by as_aux_lemma => kernel_rfl)) (by as_aux_lemma => kernel_rfl)) (by as_aux_lemma => kernel_rfl)) (by as_aux_lemma => kernel_rfl)) (by as_aux_lemma => kernel_rfl)) (by as_aux_lemma => kernel_rfl)) (by as_aux_lemma => kernel_rfl)) (Hq)) (by as_aux_lemma => kernel_rfl)) (Ep)) (zS)) (Es)) (Hr)) (by as_aux_lemma => kernel_rfl)) (by as_aux_lemma => kernel_rfl)) (by as_aux_lemma => kernel_rfl)) (by as_aux_lemma => kernel_rfl))
theorem astPath_holds : Rows.AstPathSaid :=
 OpenClaim.holds_of_wide 7 Tryz.f7 rfl rfl rfl rfl rfl rfl rfl ⟨rfl,rfl,rfl,rfl,rfl⟩ rfl rfl rfl rfl rfl (by as_aux_lemma => kernel_rfl) Tryz.func7 astPath_closed
  (of_decide_eq_true (by as_aux_lemma => kernel_rfl)) (by unfold Func.isWrapper; rw [if_neg (of_decide_eq_false (by as_aux_lemma => kernel_rfl))]; exact ⟨rfl,rfl⟩)
  (fun os started H enc _ => astPath_lifted os started H enc)
theorem astPath_card : Rows.AstPathCardSaid :=
 Claim7.holds_tied_plain_at .later [] [.data,.data,.data,.sentinel,.sentinel,.listed,.data] true (true, "d5af50dbb370b59fc5b450a2e4cad1d6133335fa14562cb848915dd60cdc62a9") true
  astPath_holds (fun _ h => by cases h) (by as_aux_lemma => kernel_rfl) (fun _ h => by cases h) astPath_row_tie rfl ⟨rfl,rfl⟩ (by as_aux_lemma => kernel_rfl) rfl
  (fun f fn hf hfn => by
   obtain rfl : f = 7 := Option.some.inj ((show Tryz.prog.funcNamed "glossator/glossatorkeep1.AstPath" = some 7 by as_aux_lemma => kernel_rfl).symm.trans hf) |>.symm
   obtain rfl : fn = Tryz.f7 := (Option.some.inj (Tryz.func7.symm.trans hfn)).symm;exact ⟨Et,fun j t ht => by
    rw [Tryz.params7] at ht;have hm : t ∈ [9,3] := by simpa using Array.mem_of_getElem? ht
    have hall : ([9,3].all fun u => !Tryz.prog.wantsStandIn u) = true := by as_aux_lemma => kernel_rfl
    exact (show Tryz.prog.wantsStandIn t = false by simpa using List.all_eq_true.1 hall t hm)⟩)
  (by as_aux_lemma => kernel_rfl)
#print axioms astPath_card
end Go.Proofs.YtlndmiegodcfjaaGreatDoor
