/- For every list of server events, the law ServerEvictions answers true and leaves its arguments as they were. -/
import Derived.Test.YtliofpegbcegiaaGreatDoorJb
import Derived.Test.YtliofpegbcegiaaGreatDoorXm
import Derived.Test.YtliofpegbcegiaaGreatDoorCards
import Derived.Test.YtliofpegbcegiaaGreatDoorTie
set_option linter.unusedVariables false
set_option linter.unusedSimpArgs false
namespace Go.Proofs.YtliofpegbcegiaaGreatDoor
open Go.ChangeShapes Go.WideShapes Go.ChangeAt Go.RowKit Go.Gx
set_option maxRecDepth 100000 in
theorem serverEvictions_lifted (os : Os) (started : os.Started) (H : Type) (enc : TypeId × Value → H) :
  ReturnsInHanded {} Tryz.checked os 3 .any (fun w args => (Rows.serverEvictionsSpec.pre enc Tryz.prog Tryz.f3 [] false w args ∧ laidMetH Tryz.prog spLaid w) ∧ sizedMet enc Tryz.prog Tryz.f3 (OpenSpec.ofChange Rows.serverEvictionsSpec) false w args)
   (Rows.serverEvictionsSpec.post enc Tryz.prog Tryz.f3 false true false false) := by
 refine returnsInHanded_of_change_and (C := Tryz.checked) (X := fun w _ => laidMetH Tryz.prog spLaid w) (fun _ _ _ hh h => h.of_heap hh) own_ started (by kernel_rfl) Tryz.func3
  (ChangeSpec.witness_shaped (enc := enc) (C := Tryz.checked) (os := os) (X := fun w _ => laidMetH Tryz.prog spLaid w) false (spWorld os) #[.slice none 0 0] 8 rfl (World.shaped_of_RefB (by kernel_rfl) (by kernel_rfl)) (by kernel_rfl) (by kernel_rfl) (by kernel_rfl) (sp_met os _)) ?_
 intro W base args ds gs before hval0 hW _ hsz hL _
 rw [MakeChecks.laidMetH_plain _ _ _ (by kernel_rfl)] at hL
 have hAsc := asc_of hL
 have hval : ∀ (j : Nat) t v,Tryz.f3.params[j]? = some t → args[j]? = some v → Value.okWide Tryz.prog W .any base t v := hval0
 have hW' := hW
 obtain ⟨p,q,hA0,hV,rfl,_,_⟩ := hW
 have hA : DataW.TrodAll enc Tryz.prog W 0 (fun _ => true) true Tryz.f3.params.toList args.toList ds p := hA0
 rw [Tryz.params3] at hA hval hsz
 obtain ⟨v0,d0,rfl,rfl,h0⟩ := trodAll_one hA
 obtain ⟨rfl,rfl⟩ := trodVars_none hV
 obtain ⟨a0,len0,cap0,rfl⟩ := okWide_slice Tryz.underlying22 (hval 0 22 v0 rfl rfl)
 clear hA0 hval0
 simp only [List.append_nil,List.nil_append] at hW'
 have hlt0 : ∀ x ∈ p,x.block < W.heap.size := fun x hx => hW'.lt x (by simp [hx])
 have fin : ∀ W',Below W.heap.size W W' → Rows.serverEvictionsSpec.post enc Tryz.checked.prog Tryz.f3 false true false false W #[.slice a0 len0 cap0] (.bool true) W' := by
  intro W' hnx
  refine ⟨_,_,_,[] ++ [],p,[],hW',?_,?_,rfl,hnx.frame _,fun h => by cases h⟩
  ·exact trodAll_mk1 (shut_bool Tryz.underlying4 true)
  ·exact trodAll_mk1 (Below.trod laidOut_ (by kernel_rfl) (of_decide_eq_true (by kernel_rfl)) h0 hnx hlt0)
 obtain ⟨es0,hsl0,hE0,hl0⟩ := events_ready h0 hsz (j := 0) rfl rfl
 refine Calls.mono (evictLaw hAsc hsl0 hE0 hl0) fun e W' ⟨v,he,hv,hnx⟩ => ?_
 subst he; subst hv
 exact ⟨_,rfl,fin W' hnx⟩
theorem serverEvictions_holds : Rows.ServerEvictionsSaid :=
 OpenClaim.holds_of_wide 3 Tryz.f3 rfl rfl rfl rfl rfl rfl rfl ⟨rfl,rfl,rfl,rfl,rfl⟩ rfl rfl rfl rfl rfl (by kernel_rfl) Tryz.func3 (by kernel_rfl)
  (of_decide_eq_true (by kernel_rfl)) (by unfold Func.isWrapper; rw [if_neg (of_decide_eq_false (by kernel_rfl))]; exact ⟨rfl,rfl⟩)
  (fun os started H enc _ => serverEvictions_lifted os started H enc)
theorem serverEvictions_card : Rows.ServerEvictionsCardSaid :=
 Claim7.holds_tied_plain_at .later [] [.listed,.data] true (true, "f84c6145a58a495a592737da850a4d17510b5233adb1dc91821b1a3b812fe3b1") true
  serverEvictions_holds (fun _ h => by cases h) (by kernel_rfl) (fun _ h => by cases h) serverEvictions_row_tie rfl ⟨rfl,rfl⟩ (by kernel_rfl) rfl
  (fun f fn hf hfn => by
   obtain rfl : f = 3 := Option.some.inj ((show Tryz.prog.funcNamed "glossator/glossatorkeep1.ServerEvictions" = some 3 by kernel_rfl).symm.trans hf) |>.symm
   obtain rfl : fn = Tryz.f3 := (Option.some.inj (Tryz.func3.symm.trans hfn)).symm
   exact ⟨by kernel_rfl,fun j t ht => by
    rw [Tryz.params3] at ht
    have hm : t ∈ [22] := by simpa using Array.mem_of_getElem? ht
    have hall : ([22].all fun u => !Tryz.prog.wantsStandIn u) = true := by kernel_rfl
    exact (show Tryz.prog.wantsStandIn t = false by simpa using List.all_eq_true.1 hall t hm)⟩)
  (by kernel_rfl)
#print axioms serverEvictions_card
end Go.Proofs.YtliofpegbcegiaaGreatDoor
