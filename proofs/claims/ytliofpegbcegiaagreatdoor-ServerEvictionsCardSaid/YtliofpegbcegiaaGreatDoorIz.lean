/- The walk of glossatorkeep1.serverExample. Printed by r5/srvz.py. -/
import Derived.Test.YtliofpegbcegiaaGreatDoorXl
set_option linter.unusedVariables false
set_option linter.unusedSimpArgs false
namespace Go.Proofs.YtliofpegbcegiaaGreatDoor
set_option maxRecDepth 20000
open Go.Gx Go.RowKit Go.Lib
open Lexi (Asc tok tokM)
def exT : BA := ⟨#[99,111,110,115,116,32,99,58,32,105,110,116,32,61,32,49,59]⟩
def exR : Rq := ⟨0,7,3,0,nameM⟩
def ex1 : Ev TE × Value := (⟨1,0,0,nameM,exT,[],⟨0,0,0,0,noB⟩⟩,.slice none 0 0)
def ex2 : Ev TE × Value := (⟨4,0,0,noB,noB,[],exR⟩,.slice none 0 0)
def ex3 : Ev TE × Value := (⟨6,1,0,noB,noB,[],⟨0,0,0,0,noB⟩⟩,.slice none 0 0)
theorem sl_nil (w : World) : SlC w (.slice none 0 0) 3 ([] : List TE).length (tes []) := ⟨rfl,_,_,rfl,Nat.le_refl _,.inl rfl⟩
theorem evOk_nil {w : World} {k n v : Int} {a b : BA} {r : Rq} (h : n ≤ 9223372036854775807) : EvOk w (⟨k,n,v,a,b,[],r⟩,.slice none 0 0) := ⟨sl_nil w,by show (0 : Nat) < _; decide,fun x hx => (by cases hx),h⟩
theorem valC_ex : valC [(nameM,exT)] = 0 := by
 have hid : ident nameM = true := by
  have ht : tok nameM = (1,103) := tokM
  have h1 : nameM.size = 1 := rfl
  unfold ident
  rw [ht,h1]
  decide
 unfold valC
 have hsz : exT.size = 17 := rfl
 rw [if_neg (by
  rintro (h | h)
  ·simp at h
  ·simp only [List.any_cons,List.any_nil,Bool.or_false,decide_eq_true_eq] at h; omega),if_neg (by simp [hid]),if_neg (by unfold dups; simp [idxM,idxF])]
theorem ex_play : (playS Cx new0 [ex1.1,ex2.1,ex3.1]).2 = [⟨0,7,0,1,[3,17],noB⟩] ∧ (playS Cx new0 [ex1.1,ex2.1,ex3.1]).1.mods = [(nameM,exT)] ∧ (playS Cx new0 [ex1.1,ex2.1,ex3.1]).1.vers = [1] ∧ (playS Cx new0 [ex1.1,ex2.1,ex3.1]).1.pend = [] := by
 have h1 : (handleS Cx new0 ex1.1) = ((writeS Cx new0 nameM exT).1,[],(writeS Cx new0 nameM exT).2) := rfl
 have h2 : writeS Cx new0 nameM exT = ({ new0 with mods := [(nameM,exT)],vers := [1],rev := 1,db := { new0.db with ins := new0.db.ins.all [(nameM,exT)] } },0) := by
  unfold writeS
  rw [if_neg (by simp [new0,idxM,idxF])]
  rw [show insert1 new0.mods (insAt Cx new0.mods nameM) (nameM,exT) = [(nameM,exT)] from rfl,show insert1 new0.vers (insAt Cx new0.mods nameM) (1 : Int) = [1] from rfl]
  unfold replaceS
  rw [if_neg (by show ¬ valC [(nameM,exT)] ≠ 0; rw [valC_ex]; simp)]
  rfl
 have hG1 : Good 1 (handleS Cx new0 ex1.1).1 := good_new.handle _
 have e1 : (handleS Cx new0 ex1.1).1 = { new0 with mods := [(nameM,exT)],vers := [1],rev := 1,db := { new0.db with ins := new0.db.ins.all [(nameM,exT)] } } := by rw [h1,h2]
 obtain ⟨s1,hs1⟩ : ∃ s1,(handleS Cx new0 ex1.1).1 = s1 := ⟨_,rfl⟩
 rw [hs1] at hG1 e1
 have p1 : (handleS Cx new0 ex1.1).2.1 = [] := rfl
 have m1 : s1.mods = [(nameM,exT)] := by rw [e1]
 have v1 : s1.vers = [1] := by rw [e1]
 have q1 : s1.pend = [] := by rw [e1]; rfl
 have r1 : s1.rev = 1 := by rw [e1]
 have h3 : handleS Cx s1 ex2.1 = ({ s1 with pend := [exR] },[],0) := by
  rw [show handleS Cx s1 ex2.1 = ((requestS s1 exR).1,[],(requestS s1 exR).2) from rfl]
  have : requestS s1 exR = ({ s1 with pend := s1.pend ++ [exR] },0) := by
   unfold requestS
   rw [if_neg (by rw [q1]; simp [findR]),if_neg (by rw [q1]; simp),if_neg (by simp [exR])]
  rw [this,q1]; rfl
 have hG2 : Good 2 (handleS Cx s1 ex2.1).1 := hG1.handle _
 rw [h3] at hG2
 obtain ⟨s2,hs2⟩ : ∃ s2,({ s1 with pend := [exR] } : St) = s2 := ⟨_,rfl⟩
 rw [hs2] at hG2 h3
 have m2 : s2.mods = [(nameM,exT)] := by rw [← hs2]; exact m1
 have v2 : s2.vers = [1] := by rw [← hs2]; exact v1
 have q2 : s2.pend = [exR] := by rw [← hs2]
 have r2 : s2.rev = 1 := by rw [← hs2]; exact r1
 have h4 : handleS Cx s2 ex3.1 = runS s2 1 := rfl
 obtain ⟨j,a0,a1,a2,a3,a4,a5,_,_,_,a9⟩ := run_spec hG2.inv (n := 1) (by omega)
 have hj : j = 1 := by
  have := a9 (by omega) (by rw [q2]; simp)
  rw [q2] at a0
  simp at a0
  omega
 subst hj
 have hans : answer s2.mods s2.rev exR = ⟨0,7,0,1,[3,17],noB⟩ := by
  rw [m2,r2]
  have hi : idxM [(nameM,exT)] exR.name = 0 := by simp [idxM,idxF,exR]
  unfold answer
  rw [hi,if_neg (by decide),if_pos (by decide)]
  rfl
 have hplay : playS Cx new0 [ex1.1,ex2.1,ex3.1] = ((runS s2 1).1,(runS s2 1).2.1) := by
  simp only [playS]
  rw [hs1,p1,h3]
  simp only
  rw [h4]
  simp
 rw [hplay]
 refine ⟨?_,by rw [a3]; exact m2,by rw [a4]; exact v2,?_⟩
 ·simp only
  rw [a1,q2]
  simp only [List.take_succ_cons,List.take_zero,List.map_cons,List.map_nil,hans]
 ·simp only
  rw [a2,q2]
  rfl
theorem serverExample_ok {w : World} (hA : Asc w) : Cl Tryz.prog 8 #[] w (fun u w' => u = .bool true ∧ Ext w w') := by
 have hx := Ext.refl w
 obtain ⟨F,hFd⟩ : ∃ F : Fs,F = fun z => z < w.heap.size := ⟨_,rfl⟩
 have hF : Und F w.heap.size := fun z hz => by rw [hFd] at hz; exact hz
 have hF0 : ∀ z,z < w.heap.size → F z := fun z hz => by rw [hFd]; exact hz
 obtain ⟨x1,x2,x3,x4⟩ := ex_play
 refine Cl.enter Tryz.func8 rfl Tryz.ntmps8 rfl rfl ?_
 refine Wp.seq (Wp.region ?_)
 refine Rg.tm trivial rfl (t_assign rfl) rfl ?_
 refine Rg.done ?_
 refine Wp.seq (Wp.region ?_)
 refine Rg.wd trivial (w_call Tryz.call12 rfl (new_ok hF)) rfl ?_
 rintro _ w1 ⟨⟨s,rfl,hsv⟩,hx1⟩
 replace hx := hx.ext hx1
 refine Rg.tm trivial rfl (t_assign rfl) rfl ?_
 refine Rg.done ?_
 refine Wp.seq (Wp.region ?_)
 refine Rg.tm trivial rfl (t_move rfl) rfl ?_
 refine Rg.tm trivial rfl (t_build (bd29_0_3_4 _ _ _) rfl) rfl ?_
 refine Rg.tm trivial rfl (t_build (bd27_1_2_4 _ _ _) rfl) rfl ?_
 refine Rg.tm trivial rfl (t_build (bd29_0_6 _ _ _ _ _ _) rfl) rfl ?_
 refine Rg.tm trivial rfl (t_build (bd29_0_1 _ _) rfl) rfl ?_
 refine Rg.wd trivial (w_buildSlice (bs22_3 _ _ _ _ _ _ _ _ _ _ _ _ _ _ _ _ _ _ _ _ _ _ _ _ _ _ _ _ _ _ _ _ _ _ _ _ _ _ _) rfl) rfl ?_
 rintro _ w1 ⟨bb,rfl,qb,hx1,hvbb⟩
 replace hx := hx.ext hx1
 replace hsv := hsv.ext hx1
 have hrow : Row _ 29 11 (.slice (some ⟨bb,0,none⟩) 3 3) ([ex1,ex2,ex3] : List (Ev TE × Value)).length (encs evp [ex1,ex2,ex3]) := Row.ofOwn (own_of_varS hvbb (Nat.zero_le _) rfl (by unfold maxLen; decide))
 refine Rg.wd trivial (w_call Tryz.call11 rfl (play_ok (k := 0) (l := [ex1,ex2,ex3]) (w0 := w) hsv (hx.ks hF).le' hx hF0 hA good_new (by simp) (by simp) hrow (fun p hp => by
   simp only [List.mem_cons,List.not_mem_nil,or_false] at hp
   rcases hp with rfl | rfl | rfl
   ·exact evOk_nil (by decide)
   ·exact evOk_nil (by decide)
   ·exact evOk_nil (by decide)) (.inr (by simp)) (by show (playS Cx new0 [ex1.1,ex2.1,ex3.1]).2.length ≤ 1000; rw [x1]; simp))) rfl ?_
 rintro v2 w3 ⟨hr,⟨s2,hs2,hbs⟩,ks⟩
 change RsW _ _ _ (playS Cx new0 [ex1.1,ex2.1,ex3.1]).2 at hr
 change SvW F w3 s2 (playS Cx new0 [ex1.1,ex2.1,ex3.1]).1 at hs2
 have hG3 : Good 3 (playS Cx new0 [ex1.1,ex2.1,ex3.1]).1 := good_new.play (l := [ex1.1,ex2.1,ex3.1])
 rw [x1] at hr
 obtain ⟨st3,hst3⟩ : ∃ x,(playS Cx new0 [ex1.1,ex2.1,ex3.1]).1 = x := ⟨_,rfl⟩
 rw [hst3] at hs2 hG3 x2 x3 x4
 have hf3 := hG3.fine (by omega)
 replace hx := Ks.ext0 ks hx hF0
 rw [← hbs]
 have hi3 : idxM st3.mods nameM = 0 := by rw [x2]; simp [idxM,idxF]
 obtain ⟨ps,eps,hown,hnum⟩ := hr
 have hy3 := Ext.refl w3
 refine Rg.tm trivial rfl (t_assign rfl) rfl ?_
 refine Rg.done ?_
 refine Wp.seq (Wp.region ?_)
 refine Rg.tm trivial rfl (t_move rfl) rfl ?_
 refine Rg.wd trivial (w_call Tryz.call22 rfl (version_ok (name := nameM) hs2 hf3 (by rw [hi3]; omega))) rfl ?_
 rintro _ w4 ⟨rfl,hx4⟩
 rw [hi3,x3]
 replace hy3 := hy3.ext hx4
 refine Rg.tm trivial rfl (t_move rfl) rfl ?_
 refine Rg.tm trivial rfl (t_extract rfl rfl) rfl ?_
 refine Rg.tm trivial rfl (t_extract rfl rfl) rfl ?_
 refine Rg.tm trivial rfl (t_assign rfl) rfl ?_
 refine Rg.tm trivial rfl (t_assign rfl) rfl ?_
 refine Rg.done ?_
 refine Wp.seq (Wp.region ?_)
 refine Rg.tm trivial rfl (t_move rfl) rfl ?_
 refine Rg.wd trivial (w_buildSlice (bs41_2 _ _) rfl) rfl ?_
 rintro _ w2 ⟨b19,rfl,q19,hx2,hv19⟩
 replace hy3 := hy3.ext hx2
 refine Rg.tm trivial rfl (t_build (bd43_1_3_4 _ _ _ _ _) rfl) rfl ?_
 refine Rg.wd trivial (w_buildSlice (bs31_1 _ _ _ _ _ _ _ _) rfl) rfl ?_
 rintro _ w3 ⟨b21,rfl,q21,hx3,hv21⟩
 replace hy3 := hy3.ext hx3
 have hq1 : SlC w3 (.slice (some ⟨b21,0,none⟩) 1 1) 6 1 (encs rsc [((⟨0,7,0,1,[3,17],noB⟩ : Rs),.slice (some ⟨b19,0,none⟩) 2 2)]) := slc_var hv21 rfl
 have hq2 : NumsW w3 [((⟨0,7,0,1,[3,17],noB⟩ : Rs),.slice (some ⟨b19,0,none⟩) 2 2)] := fun p hp => by
  obtain rfl := List.mem_singleton.1 hp
  exact RowI.own (own_of_varS (hv19.ext hx3) (Nat.zero_le _) rfl (by unfold maxLen; decide))
 have hpl : ps.length = 1 := by have := congrArg List.length eps; simpa using this
 refine Rg.wd trivial (w_call Tryz.call10 rfl (same_ok (ps := ps) (own_slice (own_ext hown hy3)) hq1 (hnum.ext hy3) hq2 (by omega))) rfl ?_
 rintro _ w9 ⟨⟨bb2,rfl,hbb⟩,hx9⟩
 obtain rfl : bb2 = true := hbb.2 (by rw [eps]; rfl)
 replace hy3 := hy3.ext hx9
 refine Rg.tm trivial rfl (t_move rfl) rfl ?_
 first | refine Rg.tm ⟨_,rfl,rfl⟩ rfl (t_move rfl) rfl ?_ | refine Rg.so rfl rfl ?_
 refine Rg.tm ⟨_,rfl,rfl⟩ rfl (t_eqlT rfl rfl rfl) rfl ?_
 first | refine Rg.tm trivial rfl (t_pickT rfl rfl) rfl ?_ | refine Rg.tm trivial rfl (t_pickF rfl rfl) rfl ?_
 refine Rg.tm trivial rfl (t_move rfl) rfl ?_
 first | refine Rg.tm ⟨_,rfl,rfl⟩ rfl (t_move rfl) rfl ?_ | refine Rg.so rfl rfl ?_
 refine Rg.tm ⟨_,rfl,rfl⟩ rfl (t_eqlT rfl rfl rfl) rfl ?_
 first | refine Rg.tm trivial rfl (t_pickT rfl rfl) rfl ?_ | refine Rg.tm trivial rfl (t_pickF rfl rfl) rfl ?_
 refine Rg.tm trivial rfl (t_move rfl) rfl ?_
 first | refine Rg.tm ⟨_,rfl,rfl⟩ rfl (t_move rfl) rfl ?_ | refine Rg.so rfl rfl ?_
 refine Rg.wd ⟨_,rfl,rfl⟩ (w_call Tryz.call15 rfl (pending_ok (hs2.ext hy3) (by rw [x4]; simp))) rfl ?_
 rintro v33 w10 ⟨hp33,hx10⟩
 rw [x4] at hp33
 have hs33 := own_slice hp33
 replace hy3 := hy3.ext hx10
 first | refine Rg.tm ⟨_,rfl,rfl⟩ rfl (t_lenC hs33 Tryz.underlying38 rfl) rfl ?_ | refine Rg.so rfl rfl ?_
 refine Rg.tm ⟨_,rfl,rfl⟩ rfl (t_eqlT rfl rfl rfl) rfl ?_
 first | refine Rg.tm trivial rfl (t_pickT rfl rfl) rfl ?_ | refine Rg.tm trivial rfl (t_pickF rfl rfl) rfl ?_
 refine Rg.tm trivial rfl (t_assign rfl) rfl ?_
 refine Rg.done ?_
 refine Wp.ret ?_
 exact ⟨[_],⟨rfl,trivial⟩,rfl,hx.ext hy3⟩
end Go.Proofs.YtliofpegbcegiaaGreatDoor
