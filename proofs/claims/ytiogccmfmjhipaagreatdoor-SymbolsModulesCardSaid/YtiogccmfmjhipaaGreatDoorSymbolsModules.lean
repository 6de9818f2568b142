/- For every slice of modules, every string and every number, the law SymbolsModules answers true and leaves its arguments as they were. -/
import Derived.Test.YtiogccmfmjhipaaGreatDoorXk
import Derived.Test.YtiogccmfmjhipaaGreatDoorXl
import Derived.Test.YtiogccmfmjhipaaGreatDoorXm
import Derived.Test.YtiogccmfmjhipaaGreatDoorCards
import Derived.Test.YtiogccmfmjhipaaGreatDoorTie
set_option linter.unusedVariables false
set_option linter.unusedSimpArgs false
namespace Go.Proofs.YtiogccmfmjhipaaGreatDoor
open Go.ChangeShapes Go.WideShapes Go.ChangeAt Go.RowKit Go.Gx
open Go.ChangeMaps (open_string shut_string)
set_option maxRecDepth 100000 in
theorem symbolsModules_lifted (os : Os) (started : os.Started) (H : Type) (enc : TypeId × Value → H) :
  ReturnsInHanded {} Tryz.checked os 6 .any (fun w args => (Rows.symbolsModulesSpec.pre enc Tryz.prog Tryz.f6 [] false w args ∧ laidMetH Tryz.prog iV w) ∧ sizedMet enc Tryz.prog Tryz.f6 (OpenSpec.ofChange Rows.symbolsModulesSpec) false w args)
   (Rows.symbolsModulesSpec.post enc Tryz.prog Tryz.f6 false true false false) := by
 refine returnsInHanded_of_change_and (C := Tryz.checked) (X := fun w _ => laidMetH Tryz.prog iV w) (fun _ _ _ hh h => h.of_heap hh) Mb started (by kernel_rfl) Tryz.func6
  (ChangeSpec.witness_shaped (enc := enc) (C := Tryz.checked) (os := os) (X := fun w _ => laidMetH Tryz.prog iV w) false (qE os) #[.slice none 0 0,.string ⟨#[]⟩,.int .i64 0] 8 rfl (World.shaped_of_RefB (by kernel_rfl) (by kernel_rfl)) (by kernel_rfl) (by kernel_rfl) (by kernel_rfl) (Am os _)) ?_
 intro W base args ds gs before hval0 hW _ hsz hL _;rw [MakeChecks.laidMetH_plain _ _ _ (by kernel_rfl)] at hL;have hAsc := Ao hL;have hEr := Hn hL;have hval : ∀ (j : Nat) t v,Tryz.f6.params[j]? = some t → args[j]? = some v → Value.okWide Tryz.prog W .any base t v := hval0;have hW' := hW;obtain ⟨p,q,hA0,hV,rfl,_,_⟩ := hW;have hA : DataW.TrodAll enc Tryz.prog W 0 (fun _ => true) true Tryz.f6.params.toList args.toList ds p := hA0;rw [Tryz.params6] at hA hval hsz;obtain ⟨v0,v1,v2,d0,d1,d2,p0,p1,p2,rfl,rfl,rfl,h0,h1,h2⟩ := trodAll_three hA;obtain ⟨rfl,rfl⟩ := trodVars_none hV;obtain ⟨a0,len0,cap0,rfl⟩ := okWide_slice Tryz.underlying49 (hval 0 49 v0 rfl rfl);obtain ⟨s1,rfl,rfl,rfl,w1⟩ := open_string Tryz.underlying9 (hval 1 9 v1 rfl rfl) h1;obtain ⟨x2,rfl,rfl,rfl,w2⟩ := open_int Tryz.underlying3 (hval 2 3 v2 rfl rfl) h2;clear hA0 hval0;simp only [List.append_nil,List.nil_append] at hW';have hlt0 : ∀ x ∈ p0,x.block < W.heap.size := fun x hx => hW'.lt x (by simp [hx]);have xM : ∀ W',Below W.heap.size W W' → Rows.symbolsModulesSpec.post enc Tryz.checked.prog Tryz.f6 false true false false W #[.slice a0 len0 cap0,.string s1,.int .i64 x2] (.bool true) W' := by
  intro W' hnx;refine ⟨_,_,_,[] ++ [],p0,[],hW',?_,?_,rfl,hnx.frame _,fun h => by cases h⟩
  ·exact trodAll_mk1 (shut_bool Tryz.underlying4 true)
  ·have hh := trodAll_mk3 (Below.trod kQ (by kernel_rfl) (of_decide_eq_true (by kernel_rfl)) h0 hnx hlt0) (shut_string Tryz.underlying9 w1) (shut_int Tryz.underlying3 w2)
   rw [List.nil_append,List.append_nil] at hh;exact hh
 obtain ⟨es0,rfl,hsl0,_⟩ := vL h0;refine Calls.mono (Sym.Aj hAsc hEr hsl0) fun e W' ⟨v,he,hv,hnx⟩ => ?_;subst he; subst hv;exact ⟨_,rfl,xM W' hnx⟩
set_option maxRecDepth 100000
theorem symbolsModules_inPlace : (Rows.symbolsModulesRow.inPlace == Tryz.prog.inPlace 6) = true := by kernel_rfl
theorem symbolsModules_unfollowed : (Rows.symbolsModulesRow.unfollowed == Tryz.prog.unfollowed 6) = true := by kernel_rfl
theorem symbolsModules_recurses : (Rows.symbolsModulesRow.recurses == Tryz.prog.recurses 6) = true := by kernel_rfl
theorem symbolsModules_named : (Rows.symbolsModulesRow.named == Tryz.prog.varsNamed 6) = true := by kernel_rfl
theorem symbolsModules_closed : joinedFacts Tryz.prog 6 Tryz.f6 Rows.symbolsModulesSpec Rows.symbolsModulesRow = true :=
 (aZ (aZ (aZ (aZ (aZ (aZ (aZ (aZ (aZ (aZ (aZ (aZ (aZ (aZ (aZ (aZ (aZ (aZ (aZ (aZ (aZ (aZ (aZ (aZ (aZ (aZ (aZ (aZ (aZ (aZ (aZ (by as_aux_lemma => kernel_rfl) (kQ)) (Aq)) (by as_aux_lemma => kernel_rfl)) (by as_aux_lemma => kernel_rfl)) (by as_aux_lemma => kernel_rfl)) (by as_aux_lemma => kernel_rfl)) (by as_aux_lemma => kernel_rfl)) (by as_aux_lemma => kernel_rfl)) (symbolsModules_inPlace)) (symbolsModules_unfollowed)) (symbolsModules_recurses)) (symbolsModules_named)) (by as_aux_lemma => kernel_rfl)) (by as_aux_lemma => kernel_rfl)) (by as_aux_lemma => kernel_rfl)) (by as_aux_lemma => kernel_rfl)) (by as_aux_lemma => kernel_rfl)) (by as_aux_lemma => kernel_rfl)) (by as_aux_lemma => kernel_rfl)) (by as_aux_lemma => kernel_rfl)) (by as_aux_lemma => kernel_rfl)) (Ho)) (by as_aux_lemma => kernel_rfl)) (Ar)) (vP)) (Au)) (Hp)) (by as_aux_lemma => kernel_rfl)) (by as_aux_lemma => kernel_rfl)) (by as_aux_lemma => kernel_rfl)) (by as_aux_lemma => kernel_rfl))
theorem symbolsModules_holds : Rows.SymbolsModulesSaid :=
 OpenClaim.holds_of_wide 6 Tryz.f6 rfl rfl rfl rfl rfl rfl rfl ⟨rfl,rfl,rfl,rfl,rfl⟩ rfl rfl rfl rfl rfl (by as_aux_lemma => kernel_rfl) Tryz.func6 symbolsModules_closed
  (of_decide_eq_true (by as_aux_lemma => kernel_rfl)) (by unfold Func.isWrapper; rw [if_neg (of_decide_eq_false (by as_aux_lemma => kernel_rfl))]; exact ⟨rfl,rfl⟩)
  (fun os started H enc _ => symbolsModules_lifted os started H enc)
theorem symbolsModules_card : Rows.SymbolsModulesCardSaid :=
 Claim7.holds_tied_plain_at .later [] [.data,.data,.data,.sentinel,.sentinel,.listed,.data] true (true, "8a8562147f3ee3390cc0a2d79021bfe423c3c5f45c5a4d9ee137e35afc334c1d") true
  symbolsModules_holds (fun _ h => by cases h) (by as_aux_lemma => kernel_rfl) (fun _ h => by cases h) symbolsModules_row_tie rfl ⟨rfl,rfl⟩ (by as_aux_lemma => kernel_rfl) rfl
  (fun f fn hf hfn => by
   obtain rfl : f = 6 := Option.some.inj ((show Tryz.prog.funcNamed "glossator/glossatorkeep1.SymbolsModules" = some 6 by as_aux_lemma => kernel_rfl).symm.trans hf) |>.symm
   obtain rfl : fn = Tryz.f6 := (Option.some.inj (Tryz.func6.symm.trans hfn)).symm;exact ⟨Av,fun j t ht => by
    rw [Tryz.params6] at ht;have hm : t ∈ [49,9,3] := by simpa using Array.mem_of_getElem? ht
    have hall : ([49,9,3].all fun u => !Tryz.prog.wantsStandIn u) = true := by as_aux_lemma => kernel_rfl
    exact (show Tryz.prog.wantsStandIn t = false by simpa using List.all_eq_true.1 hall t hm)⟩)
  (by as_aux_lemma => kernel_rfl)
#print axioms symbolsModules_card
end Go.Proofs.YtiogccmfmjhipaaGreatDoor
