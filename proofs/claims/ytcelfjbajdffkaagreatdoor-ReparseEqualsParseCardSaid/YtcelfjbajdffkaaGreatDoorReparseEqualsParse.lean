/- For every string and every list of text edits, the law ReparseEqualsParse answers true and leaves its arguments as they were. -/
import Derived.Test.YtcelfjbajdffkaaGreatDoorXu
import Derived.Test.YtcelfjbajdffkaaGreatDoorXw
import Derived.Test.YtcelfjbajdffkaaGreatDoorCards
import Derived.Test.YtcelfjbajdffkaaGreatDoorTie
set_option linter.unusedVariables false
set_option linter.unusedSimpArgs false
namespace Go.Proofs.YtcelfjbajdffkaaGreatDoor
open Go.ChangeShapes Go.WideShapes Go.ChangeAt Go.RowKit Go.Gx
open Go.ChangeMaps (open_string shut_string)
set_option maxRecDepth 100000 in
theorem reparseEqualsParse_lifted (os : Os) (started : os.Started) (H : Type) (enc : TypeId × Value → H) :
  ReturnsInHanded {} Tryz.checked os 6 .any (fun w args => (Rows.reparseEqualsParseSpec.pre enc Tryz.prog Tryz.f6 [] false w args ∧ laidMetH Tryz.prog spLaid w) ∧ sizedMet enc Tryz.prog Tryz.f6 (OpenSpec.ofChange Rows.reparseEqualsParseSpec) false w args)
   (Rows.reparseEqualsParseSpec.post enc Tryz.prog Tryz.f6 false true false false) := by
 refine returnsInHanded_of_change_and (C := Tryz.checked) (X := fun w _ => laidMetH Tryz.prog spLaid w) (fun _ _ _ hh h => h.of_heap hh) own_ started (by kernel_rfl) Tryz.func6
  (ChangeSpec.witness_shaped (enc := enc) (C := Tryz.checked) (os := os) (X := fun w _ => laidMetH Tryz.prog spLaid w) false (spWorld os) #[.string ⟨#[]⟩,.slice none 0 0] 8 rfl (World.shaped_of_RefB (by kernel_rfl) (by kernel_rfl)) (by kernel_rfl) (by kernel_rfl) (by kernel_rfl) (sp_met os _)) ?_
 intro W base args ds gs before hval0 hW _ hsz hL _
 rw [MakeChecks.laidMetH_plain _ _ _ (by kernel_rfl)] at hL
 have hAsc := asc_of hL
 have hval : ∀ (j : Nat) t v,Tryz.f6.params[j]? = some t → args[j]? = some v → Value.okWide Tryz.prog W .any base t v := hval0
 have hW' := hW
 obtain ⟨p,q,hA0,hV,rfl,_,_⟩ := hW
 have hA : DataW.TrodAll enc Tryz.prog W 0 (fun _ => true) true Tryz.f6.params.toList args.toList ds p := hA0
 rw [Tryz.params6] at hA hval hsz
 obtain ⟨v0,v1,d0,d1,p0,p1,rfl,rfl,rfl,h0,h1⟩ := trodAll_two hA
 obtain ⟨rfl,rfl⟩ := trodVars_none hV
 obtain ⟨s0,rfl,rfl,rfl,w0⟩ := open_string Tryz.underlying9 (hval 0 9 v0 rfl rfl) h0
 obtain ⟨a1,len1,cap1,rfl⟩ := okWide_slice Tryz.underlying45 (hval 1 45 v1 rfl rfl)
 clear hA0 hval0
 simp only [List.append_nil,List.nil_append] at hW'
 have hlt1 : ∀ x ∈ p1,x.block < W.heap.size := fun x hx => hW'.lt x (by simp [hx])
 have fin : ∀ W',Below W.heap.size W W' → Rows.reparseEqualsParseSpec.post enc Tryz.checked.prog Tryz.f6 false true false false W #[.string s0,.slice a1 len1 cap1] (.bool true) W' := by
  intro W' hnx
  refine ⟨_,_,_,[] ++ [],p1,[],hW',?_,?_,rfl,hnx.frame _,fun h => by cases h⟩
  ·exact trodAll_mk1 (shut_bool Tryz.underlying4 true)
  ·have hh := trodAll_mk2 (shut_string Tryz.underlying9 w0) (Below.trod laidOut_ (by kernel_rfl) (of_decide_eq_true (by kernel_rfl)) h1 hnx hlt1)
   exact hh
 obtain ⟨es1,rfl,hsl1,hd1⟩ := edits_in h1
 have hz1 : es1.length < 4611686018427387904 ∧ ∀ e ∈ es1,(e.s.size : Int) ≤ 140737488355328 := by
  rcases hd1 with hd | ⟨rest,rfl⟩
  ·obtain rfl := List.length_eq_zero_iff.1 hd
   exact ⟨by decide,fun e he => by cases he⟩
  ·exact edits_sized hsz (j := 1) rfl rfl
 refine Calls.mono ((fun a b _ => Par.equalsLaw hAsc a b) hsl1 hz1.1 hz1.2) fun e W' ⟨v,he,hv,hnx⟩ => ?_
 subst he; subst hv
 exact ⟨_,rfl,fin W' hnx⟩
theorem reparseEqualsParse_holds : Rows.ReparseEqualsParseSaid :=
 OpenClaim.holds_of_wide 6 Tryz.f6 rfl rfl rfl rfl rfl rfl rfl ⟨rfl,rfl,rfl,rfl,rfl⟩ rfl rfl rfl rfl rfl (by kernel_rfl) Tryz.func6 (by kernel_rfl)
  (of_decide_eq_true (by kernel_rfl)) (by unfold Func.isWrapper; rw [if_neg (of_decide_eq_false (by kernel_rfl))]; exact ⟨rfl,rfl⟩)
  (fun os started H enc _ => reparseEqualsParse_lifted os started H enc)
theorem reparseEqualsParse_card : Rows.ReparseEqualsParseCardSaid :=
 Claim7.holds_tied_plain_at .later [] [.listed,.data] true (true, "73b8fb9ebe5d04e0f2f8259756229e261507133d9bca7d640e6d4c1c6a06a925") false
  reparseEqualsParse_holds (fun _ h => by cases h) (by kernel_rfl) (fun _ h => by cases h) reparseEqualsParse_row_tie rfl ⟨rfl,rfl⟩ (by kernel_rfl) rfl
  (fun f fn hf hfn => by
   obtain rfl : f = 6 := Option.some.inj ((show Tryz.prog.funcNamed "glossator/glossatorkeep1.ReparseEqualsParse" = some 6 by kernel_rfl).symm.trans hf) |>.symm
   obtain rfl : fn = Tryz.f6 := (Option.some.inj (Tryz.func6.symm.trans hfn)).symm
   exact ⟨by kernel_rfl,fun j t ht => by
    rw [Tryz.params6] at ht
    have hm : t ∈ [9,45] := by simpa using Array.mem_of_getElem? ht
    have hall : ([9,45].all fun u => !Tryz.prog.wantsStandIn u) = true := by kernel_rfl
    exact (show Tryz.prog.wantsStandIn t = false by simpa using List.all_eq_true.1 hall t hm)⟩)
  (by kernel_rfl)
#print axioms reparseEqualsParse_card
end Go.Proofs.YtcelfjbajdffkaaGreatDoor
