/- For every two nodes, the law AstStrip answers true and leaves its arguments as they were. -/
import Derived.Test.YtlndmiegodcfjaaGreatDoorXk
import Derived.Test.YtlndmiegodcfjaaGreatDoorXl
import Derived.Test.YtlndmiegodcfjaaGreatDoorXm
import Derived.Test.YtlndmiegodcfjaaGreatDoorCards
import Derived.Test.YtlndmiegodcfjaaGreatDoorTie
set_option linter.unusedVariables false
set_option linter.unusedSimpArgs false
namespace Go.Proofs.YtlndmiegodcfjaaGreatDoor
open Go.ChangeShapes Go.WideShapes Go.ChangeAt Go.RowKit Go.Gx
set_option maxRecDepth 100000 in
theorem astStrip_lifted (os : Os) (started : os.Started) (H : Type) (enc : TypeId × Value → H) :
  ReturnsInHanded {} Tryz.checked os 6 .any (fun w args => (Rows.astStripSpec.pre enc Tryz.prog Tryz.f6 [] false w args ∧ laidMetH Tryz.prog kM w) ∧ sizedMet enc Tryz.prog Tryz.f6 (OpenSpec.ofChange Rows.astStripSpec) false w args)
   (Rows.astStripSpec.post enc Tryz.prog Tryz.f6 false true false false) := by
 refine returnsInHanded_of_change_and (C := Tryz.checked) (X := fun w _ => laidMetH Tryz.prog kM w) (fun _ _ _ hh h => h.of_heap hh) Ji started (by kernel_rfl) Tryz.func6
  (ChangeSpec.witness_shaped (enc := enc) (C := Tryz.checked) (os := os) (X := fun w _ => laidMetH Tryz.prog kM w) false (uB os) #[.agg #[.int .i64 0,.int .i64 0,.string ⟨#[]⟩,.int .i64 0,.int .i64 0,.int .i64 0,.slice none 0 0],.agg #[.int .i64 0,.int .i64 0,.string ⟨#[]⟩,.int .i64 0,.int .i64 0,.int .i64 0,.slice none 0 0]] 8 rfl (World.shaped_of_RefB (by kernel_rfl) (by kernel_rfl)) (by kernel_rfl) (by kernel_rfl) (by kernel_rfl) (Em os _)) ?_
 intro W base args ds gs before hval0 hW _ hsz hL _;rw [MakeChecks.laidMetH_plain _ _ _ (by kernel_rfl)] at hL;have hAsc := En hL;have hEr := Hp hL;have hval : ∀ (j : Nat) t v,Tryz.f6.params[j]? = some t → args[j]? = some v → Value.okWide Tryz.prog W .any base t v := hval0;have hW' := hW;obtain ⟨p,q,hA0,hV,rfl,_,_⟩ := hW;have hA : DataW.TrodAll enc Tryz.prog W 0 (fun _ => true) true Tryz.f6.params.toList args.toList ds p := hA0;rw [Tryz.params6] at hA hval hsz;obtain ⟨v0,v1,d0,d1,p0,p1,rfl,rfl,rfl,h0,h1⟩ := trodAll_two hA;obtain ⟨rfl,rfl⟩ := trodVars_none hV;obtain ⟨cs0,rfl⟩ := Prn.okWide_agg Tryz.underlying26 (hval 0 26 v0 rfl rfl);obtain ⟨cs1,rfl⟩ := Prn.okWide_agg Tryz.underlying26 (hval 1 26 v1 rfl rfl);clear hA0 hval0;simp only [List.append_nil,List.nil_append] at hW';have hlt0 : ∀ x ∈ p0,x.block < W.heap.size := fun x hx => hW'.lt x (by simp [hx]);have hlt1 : ∀ x ∈ p1,x.block < W.heap.size := fun x hx => hW'.lt x (by simp [hx]);have A4 : ∀ W',Below W.heap.size W W' → Rows.astStripSpec.post enc Tryz.checked.prog Tryz.f6 false true false false W #[.agg cs0,.agg cs1] (.bool true) W' := by
  intro W' hnx;refine ⟨_,_,_,[] ++ [],p0 ++ p1,[],hW',?_,?_,rfl,hnx.frame _,fun h => by cases h⟩
  ·exact trodAll_mk1 (shut_bool Tryz.underlying4 true)
  ·have hh := trodAll_mk2 (Below.trod nR (by kernel_rfl) (of_decide_eq_true (by kernel_rfl)) h0 hnx hlt0) (Below.trod nR (by kernel_rfl) (of_decide_eq_true (by kernel_rfl)) h1 hnx hlt1)
   exact hh
 obtain ⟨g0,rfl,hg0,hb0⟩ := Prn.node_ready h0 hsz (j := 0) rfl rfl;obtain ⟨g1,rfl,hg1,hb1⟩ := Prn.node_ready h1 hsz (j := 1) rfl rfl;refine Calls.mono (Prn.stripLaw hAsc hEr hg0 hb0 hg1 hb1) fun e W' ⟨v,he,hv,hnx⟩ => ?_;subst he; subst hv;exact ⟨_,rfl,A4 W' hnx⟩
set_option maxRecDepth 100000
theorem astStrip_inPlace : (Rows.astStripRow.inPlace == Tryz.prog.inPlace 6) = true := by kernel_rfl
theorem astStrip_unfollowed : (Rows.astStripRow.unfollowed == Tryz.prog.unfollowed 6) = true := by kernel_rfl
theorem astStrip_recurses : (Rows.astStripRow.recurses == Tryz.prog.recurses 6) = true := by kernel_rfl
theorem astStrip_named : (Rows.astStripRow.named == Tryz.prog.varsNamed 6) = true := by kernel_rfl
theorem astStrip_closed : joinedFacts Tryz.prog 6 Tryz.f6 Rows.astStripSpec Rows.astStripRow = true :=
 (bR (bR (bR (bR (bR (bR (bR (bR (bR (bR (bR (bR (bR (bR (bR (bR (bR (bR (bR (bR (bR (bR (bR (bR (bR (bR (bR (bR (bR (bR (bR (by as_aux_lemma => kernel_rfl) (nR)) (Eo)) (by as_aux_lemma => kernel_rfl)) (by as_aux_lemma => kernel_rfl)) (by as_aux_lemma => kernel_rfl)) (by as_aux_lemma => kernel_rfl)) (by as_aux_lemma => kernel_rfl)) (by as_aux_lemma => kernel_rfl)) (astStrip_inPlace)) (astStrip_unfollowed)) (astStrip_recurses)) (astStrip_named)) (by as_aux_lemma => kernel_rfl)) (by as_aux_lemma => kernel_rfl)) (by as_aux_lemma => kernel_rfl)) (by as_aux_lemma => kernel_rfl)) (by as_aux_lemma => kernel_rfl)) (by as_aux_lemma => kernel_rfl)) (by as_aux_lemma => kernel_rfl)) (by as_aux_lemma => kernel_rfl)) (by as_aux_lemma => kernel_rfl)) (Hq)) (by as_aux_lemma => kernel_rfl)) (Ep)) (zS)) (Es)) (Hr)) (by as_aux_lemma => kernel_rfl)) (by as_aux_lemma => kernel_rfl)) (by as_aux_lemma => kernel_rfl)) (by as_aux_lemma => kernel_rfl))
theorem astStrip_holds : Rows.AstStripSaid :=
 OpenClaim.holds_of_wide 6 Tryz.f6 rfl rfl rfl rfl rfl rfl rfl ⟨rfl,rfl,rfl,rfl,rfl⟩ rfl rfl rfl rfl rfl (by as_aux_lemma => kernel_rfl) Tryz.func6 astStrip_closed
  (of_decide_eq_true (by as_aux_lemma => kernel_rfl)) (by unfold Func.isWrapper; rw [if_neg (of_decide_eq_false (by as_aux_lemma => kernel_rfl))]; exact ⟨rfl,rfl⟩)
  (fun os started H enc _ => astStrip_lifted os started H enc)
theorem astStrip_card : Rows.AstStripCardSaid :=
 Claim7.holds_tied_plain_at .later [] [.data,.data,.data,.sentinel,.sentinel,.listed,.data] true (true, "d5af50dbb370b59fc5b450a2e4cad1d6133335fa14562cb848915dd60cdc62a9") true
  astStrip_holds (fun _ h => by cases h) (by as_aux_lemma => kernel_rfl) (fun _ h => by cases h) astStrip_row_tie rfl ⟨rfl,rfl⟩ (by as_aux_lemma => kernel_rfl) rfl
  (fun f fn hf hfn => by
   obtain rfl : f = 6 := Option.some.inj ((show Tryz.prog.funcNamed "glossator/glossatorkeep1.AstStrip" = some 6 by as_aux_lemma => kernel_rfl).symm.trans hf) |>.symm
   obtain rfl : fn = Tryz.f6 := (Option.some.inj (Tryz.func6.symm.trans hfn)).symm;exact ⟨Et,fun j t ht => by
    rw [Tryz.params6] at ht;have hm : t ∈ [26] := by simpa using Array.mem_of_getElem? ht
    have hall : ([26].all fun u => !Tryz.prog.wantsStandIn u) = true := by as_aux_lemma => kernel_rfl
    exact (show Tryz.prog.wantsStandIn t = false by simpa using List.all_eq_true.1 hall t hm)⟩)
  (by as_aux_lemma => kernel_rfl)
#print axioms astStrip_card
end Go.Proofs.YtlndmiegodcfjaaGreatDoor
