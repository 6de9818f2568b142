/- For every slice of modules and every number, the law SymbolsTree answers true and leaves its arguments as they were. -/
import Derived.Test.YtiogccmfmjhipaaGreatDoorXk
import Derived.Test.YtiogccmfmjhipaaGreatDoorXl
import Derived.Test.YtiogccmfmjhipaaGreatDoorXm
import Derived.Test.YtiogccmfmjhipaaGreatDoorCards
import Derived.Test.YtiogccmfmjhipaaGreatDoorTie
set_option linter.unusedVariables false
set_option linter.unusedSimpArgs false
namespace Go.Proofs.YtiogccmfmjhipaaGreatDoor
open Go.ChangeShapes Go.WideShapes Go.ChangeAt Go.RowKit Go.Gx
set_option maxRecDepth 100000 in
theorem symbolsTree_lifted (os : Os) (started : os.Started) (H : Type) (enc : TypeId × Value → H) :
  ReturnsInHanded {} Tryz.checked os 8 .any (fun w args => (Rows.symbolsTreeSpec.pre enc Tryz.prog Tryz.f8 [] false w args ∧ laidMetH Tryz.prog iV w) ∧ sizedMet enc Tryz.prog Tryz.f8 (OpenSpec.ofChange Rows.symbolsTreeSpec) false w args)
   (Rows.symbolsTreeSpec.post enc Tryz.prog Tryz.f8 false true false false) := by
 refine returnsInHanded_of_change_and (C := Tryz.checked) (X := fun w _ => laidMetH Tryz.prog iV w) (fun _ _ _ hh h => h.of_heap hh) Mb started (by kernel_rfl) Tryz.func8
  (ChangeSpec.witness_shaped (enc := enc) (C := Tryz.checked) (os := os) (X := fun w _ => laidMetH Tryz.prog iV w) false (qE os) #[.slice none 0 0,.int .i64 0] 8 rfl (World.shaped_of_RefB (by kernel_rfl) (by kernel_rfl)) (by kernel_rfl) (by kernel_rfl) (by kernel_rfl) (Am os _)) ?_
 intro W base args ds gs before hval0 hW _ hsz hL _;rw [MakeChecks.laidMetH_plain _ _ _ (by kernel_rfl)] at hL;have hAsc := Ao hL;have hEr := Hn hL;have hval : ∀ (j : Nat) t v,Tryz.f8.params[j]? = some t → args[j]? = some v → Value.okWide Tryz.prog W .any base t v := hval0;have hW' := hW;obtain ⟨p,q,hA0,hV,rfl,_,_⟩ := hW;have hA : DataW.TrodAll enc Tryz.prog W 0 (fun _ => true) true Tryz.f8.params.toList args.toList ds p := hA0;rw [Tryz.params8] at hA hval hsz;obtain ⟨v0,v1,d0,d1,p0,p1,rfl,rfl,rfl,h0,h1⟩ := trodAll_two hA;obtain ⟨rfl,rfl⟩ := trodVars_none hV;obtain ⟨a0,len0,cap0,rfl⟩ := okWide_slice Tryz.underlying49 (hval 0 49 v0 rfl rfl);obtain ⟨x1,rfl,rfl,rfl,w1⟩ := open_int Tryz.underlying3 (hval 1 3 v1 rfl rfl) h1;clear hA0 hval0;simp only [List.append_nil,List.nil_append] at hW';have hlt0 : ∀ x ∈ p0,x.block < W.heap.size := fun x hx => hW'.lt x (by simp [hx]);have xM : ∀ W',Below W.heap.size W W' → Rows.symbolsTreeSpec.post enc Tryz.checked.prog Tryz.f8 false true false false W #[.slice a0 len0 cap0,.int .i64 x1] (.bool true) W' := by
  intro W' hnx;refine ⟨_,_,_,[] ++ [],p0,[],hW',?_,?_,rfl,hnx.frame _,fun h => by cases h⟩
  ·exact trodAll_mk1 (shut_bool Tryz.underlying4 true)
  ·have hh := trodAll_mk2 (Below.trod kQ (by kernel_rfl) (of_decide_eq_true (by kernel_rfl)) h0 hnx hlt0) (shut_int Tryz.underlying3 w1)
   rw [List.append_nil] at hh;exact hh
 obtain ⟨es0,rfl,hsl0,_⟩ := vL h0;refine Calls.mono (Sym.J5 hAsc hEr hsl0) fun e W' ⟨v,he,hv,hnx⟩ => ?_;subst he; subst hv;exact ⟨_,rfl,xM W' hnx⟩
set_option maxRecDepth 100000
theorem symbolsTree_inPlace : (Rows.symbolsTreeRow.inPlace == Tryz.prog.inPlace 8) = true := by kernel_rfl
theorem symbolsTree_unfollowed : (Rows.symbolsTreeRow.unfollowed == Tryz.prog.unfollowed 8) = true := by kernel_rfl
theorem symbolsTree_recurses : (Rows.symbolsTreeRow.recurses == Tryz.prog.recurses 8) = true := by kernel_rfl
theorem symbolsTree_named : (Rows.symbolsTreeRow.named == Tryz.prog.varsNamed 8) = true := by kernel_rfl
theorem symbolsTree_closed : joinedFacts Tryz.prog 8 Tryz.f8 Rows.symbolsTreeSpec Rows.symbolsTreeRow = true :=
 (aZ (aZ (aZ (aZ (aZ (aZ (aZ (aZ (aZ (aZ (aZ (aZ (aZ (aZ (aZ (aZ (aZ (aZ (aZ (aZ (aZ (aZ (aZ (aZ (aZ (aZ (aZ (aZ (aZ (aZ (aZ (by as_aux_lemma => kernel_rfl) (kQ)) (Aq)) (by as_aux_lemma => kernel_rfl)) (by as_aux_lemma => kernel_rfl)) (by as_aux_lemma => kernel_rfl)) (by as_aux_lemma => kernel_rfl)) (by as_aux_lemma => kernel_rfl)) (by as_aux_lemma => kernel_rfl)) (symbolsTree_inPlace)) (symbolsTree_unfollowed)) (symbolsTree_recurses)) (symbolsTree_named)) (by as_aux_lemma => kernel_rfl)) (by as_aux_lemma => kernel_rfl)) (by as_aux_lemma => kernel_rfl)) (by as_aux_lemma => kernel_rfl)) (by as_aux_lemma => kernel_rfl)) (by as_aux_lemma => kernel_rfl)) (by as_aux_lemma => kernel_rfl)) (by as_aux_lemma => kernel_rfl)) (by as_aux_lemma => kernel_rfl)) (Ho)) (by as_aux_lemma => kernel_rfl)) (Ar)) (vP)) (Au)) (Hp)) (by as_aux_lemma => kernel_rfl)) (by as_aux_lemma => kernel_rfl)) (by as_aux_lemma => kernel_rfl)) (by as_aux_lemma => kernel_rfl))
theorem symbolsTree_holds : Rows.SymbolsTreeSaid :=
 OpenClaim.holds_of_wide 8 Tryz.f8 rfl rfl rfl rfl rfl rfl rfl ⟨rfl,rfl,rfl,rfl,rfl⟩ rfl rfl rfl rfl rfl (by as_aux_lemma => kernel_rfl) Tryz.func8 symbolsTree_closed
  (of_decide_eq_true (by as_aux_lemma => kernel_rfl)) (by unfold Func.isWrapper; rw [if_neg (of_decide_eq_false (by as_aux_lemma => kernel_rfl))]; exact ⟨rfl,rfl⟩)
  (fun os started H enc _ => symbolsTree_lifted os started H enc)
theorem symbolsTree_card : Rows.SymbolsTreeCardSaid :=
 Claim7.holds_tied_plain_at .later [] [.data,.data,.data,.sentinel,.sentinel,.listed,.data] true (true, "8a8562147f3ee3390cc0a2d79021bfe423c3c5f45c5a4d9ee137e35afc334c1d") true
  symbolsTree_holds (fun _ h => by cases h) (by as_aux_lemma => kernel_rfl) (fun _ h => by cases h) symbolsTree_row_tie rfl ⟨rfl,rfl⟩ (by as_aux_lemma => kernel_rfl) rfl
  (fun f fn hf hfn => by
   obtain rfl : f = 8 := Option.some.inj ((show Tryz.prog.funcNamed "glossator/glossatorkeep1.SymbolsTree" = some 8 by as_aux_lemma => kernel_rfl).symm.trans hf) |>.symm
   obtain rfl : fn = Tryz.f8 := (Option.some.inj (Tryz.func8.symm.trans hfn)).symm;exact ⟨Av,fun j t ht => by
    rw [Tryz.params8] at ht;have hm : t ∈ [49,3] := by simpa using Array.mem_of_getElem? ht
    have hall : ([49,3].all fun u => !Tryz.prog.wantsStandIn u) = true := by as_aux_lemma => kernel_rfl
    exact (show Tryz.prog.wantsStandIn t = false by simpa using List.all_eq_true.1 hall t hm)⟩)
  (by as_aux_lemma => kernel_rfl)
#print axioms symbolsTree_card
end Go.Proofs.YtiogccmfmjhipaaGreatDoor
