/- For every two strings and every text edit, the law ReparseErrors answers true and leaves its arguments as they were. -/
import Derived.Test.YtcelfjbajdffkaaGreatDoorXu
import Derived.Test.YtcelfjbajdffkaaGreatDoorXw
import Derived.Test.YtcelfjbajdffkaaGreatDoorCards
import Derived.Test.YtcelfjbajdffkaaGreatDoorTie
set_option linter.unusedVariables false
set_option linter.unusedSimpArgs false
namespace Go.Proofs.YtcelfjbajdffkaaGreatDoor
open Go.ChangeShapes Go.WideShapes Go.ChangeAt Go.RowKit Go.Gx
open Go.ChangeMaps (open_string shut_string)
set_option maxRecDepth 100000 in
theorem reparseErrors_lifted (os : Os) (started : os.Started) (H : Type) (enc : TypeId × Value → H) :
  ReturnsInHanded {} Tryz.checked os 8 .any (fun w args => (Rows.reparseErrorsSpec.pre enc Tryz.prog Tryz.f8 [] false w args ∧ laidMetH Tryz.prog spLaid w) ∧ sizedMet enc Tryz.prog Tryz.f8 (OpenSpec.ofChange Rows.reparseErrorsSpec) false w args)
   (Rows.reparseErrorsSpec.post enc Tryz.prog Tryz.f8 false true false false) := by
 refine returnsInHanded_of_change_and (C := Tryz.checked) (X := fun w _ => laidMetH Tryz.prog spLaid w) (fun _ _ _ hh h => h.of_heap hh) own_ started (by kernel_rfl) Tryz.func8
  (ChangeSpec.witness_shaped (enc := enc) (C := Tryz.checked) (os := os) (X := fun w _ => laidMetH Tryz.prog spLaid w) false (spWorld os) #[.string ⟨#[]⟩,.string ⟨#[]⟩,.agg #[.int .i64 0,.int .i64 0,.string ⟨#[]⟩]] 8 rfl (World.shaped_of_RefB (by kernel_rfl) (by kernel_rfl)) (by kernel_rfl) (by kernel_rfl) (by kernel_rfl) (sp_met os _)) ?_
 intro W base args ds gs before hval0 hW _ hsz hL _
 rw [MakeChecks.laidMetH_plain _ _ _ (by kernel_rfl)] at hL
 have hAsc := asc_of hL
 have hval : ∀ (j : Nat) t v,Tryz.f8.params[j]? = some t → args[j]? = some v → Value.okWide Tryz.prog W .any base t v := hval0
 have hW' := hW
 obtain ⟨p,q,hA0,hV,rfl,_,_⟩ := hW
 have hA : DataW.TrodAll enc Tryz.prog W 0 (fun _ => true) true Tryz.f8.params.toList args.toList ds p := hA0
 rw [Tryz.params8] at hA hval hsz
 obtain ⟨v0,v1,v2,d0,d1,d2,p0,p1,p2,rfl,rfl,rfl,h0,h1,h2⟩ := trodAll_three hA
 obtain ⟨rfl,rfl⟩ := trodVars_none hV
 obtain ⟨s0,rfl,rfl,rfl,w0⟩ := open_string Tryz.underlying9 (hval 0 9 v0 rfl rfl) h0
 obtain ⟨s1,rfl,rfl,rfl,w1⟩ := open_string Tryz.underlying9 (hval 1 9 v1 rfl rfl) h1
 obtain ⟨cs2,rfl⟩ := okWide_agg Tryz.underlying41 (hval 2 41 v2 rfl rfl)
 clear hA0 hval0
 simp only [List.append_nil,List.nil_append] at hW'
 have hlt2 : ∀ x ∈ p2,x.block < W.heap.size := fun x hx => hW'.lt x (by simp [hx])
 have fin : ∀ W',Below W.heap.size W W' → Rows.reparseErrorsSpec.post enc Tryz.checked.prog Tryz.f8 false true false false W #[.string s0,.string s1,.agg cs2] (.bool true) W' := by
  intro W' hnx
  refine ⟨_,_,_,[] ++ [],p2,[],hW',?_,?_,rfl,hnx.frame _,fun h => by cases h⟩
  ·exact trodAll_mk1 (shut_bool Tryz.underlying4 true)
  ·have hh := trodAll_mk3 (shut_string Tryz.underlying9 w0) (shut_string Tryz.underlying9 w1) (Below.trod laidOut_ (by kernel_rfl) (of_decide_eq_true (by kernel_rfl)) h2 hnx hlt2)
   exact hh
 obtain ⟨te2,rfl⟩ := te_ready h2
 refine Calls.mono (Par.errorsLaw hAsc ) fun e W' ⟨v,he,hv,hnx⟩ => ?_
 subst he; subst hv
 exact ⟨_,rfl,fin W' hnx⟩
theorem reparseErrors_holds : Rows.ReparseErrorsSaid :=
 OpenClaim.holds_of_wide 8 Tryz.f8 rfl rfl rfl rfl rfl rfl rfl ⟨rfl,rfl,rfl,rfl,rfl⟩ rfl rfl rfl rfl rfl (by kernel_rfl) Tryz.func8 (by kernel_rfl)
  (of_decide_eq_true (by kernel_rfl)) (by unfold Func.isWrapper; rw [if_neg (of_decide_eq_false (by kernel_rfl))]; exact ⟨rfl,rfl⟩)
  (fun os started H enc _ => reparseErrors_lifted os started H enc)
theorem reparseErrors_card : Rows.ReparseErrorsCardSaid :=
 Claim7.holds_tied_plain_at .later [] [.listed,.data] true (true, "73b8fb9ebe5d04e0f2f8259756229e261507133d9bca7d640e6d4c1c6a06a925") false
  reparseErrors_holds (fun _ h => by cases h) (by kernel_rfl) (fun _ h => by cases h) reparseErrors_row_tie rfl ⟨rfl,rfl⟩ (by kernel_rfl) rfl
  (fun f fn hf hfn => by
   obtain rfl : f = 8 := Option.some.inj ((show Tryz.prog.funcNamed "glossator/glossatorkeep1.ReparseErrors" = some 8 by kernel_rfl).symm.trans hf) |>.symm
   obtain rfl : fn = Tryz.f8 := (Option.some.inj (Tryz.func8.symm.trans hfn)).symm
   exact ⟨by kernel_rfl,fun j t ht => by
    rw [Tryz.params8] at ht
    have hm : t ∈ [9,41] := by simpa using Array.mem_of_getElem? ht
    have hall : ([9,41].all fun u => !Tryz.prog.wantsStandIn u) = true := by kernel_rfl
    exact (show Tryz.prog.wantsStandIn t = false by simpa using List.all_eq_true.1 hall t hm)⟩)
  (by kernel_rfl)
#print axioms reparseErrors_card
end Go.Proofs.YtcelfjbajdffkaaGreatDoor
