/- The walk of glossatorref1.SameResponses. Printed by r5/srvy.py. -/
import Derived.Test.YtliofpegbcegiaaGreatDoorXk
set_option linter.unusedVariables false
set_option linter.unusedSimpArgs false
namespace Go.Proofs.YtliofpegbcegiaaGreatDoor
set_option maxRecDepth 20000
open Go.Gx Go.RowKit Go.Lib
theorem same_ok {w : World} {v1 v2 : Value} {ps qs : List (Rs × Value)} (h1s0 : SlC w v1 6 ps.length (encs rsc ps)) (h2s0 : SlC w v2 6 qs.length (encs rsc qs)) (hn1 : NumsW w ps) (hn2 : NumsW w qs) (hn : ps.length ≤ 1000) :
  Cl Tryz.prog 10 #[v1,v2] w (fun u w' => (∃ b : Bool,u = .bool b ∧ (b = true ↔ ps.map (·.1) = qs.map (·.1))) ∧ Ext w w') := by
 have hx := Ext.refl w
 by_cases hnm : ps.length = qs.length
 ·skip
  refine Cl.enter Tryz.func10 rfl Tryz.ntmps10 rfl rfl ?_
  refine Wp.seq (Wp.region ?_)
  refine Rg.tm trivial rfl (t_assign rfl) rfl ?_
  refine Rg.done ?_
  refine Wp.seq ?_
  refine Wp.seq (Wp.region ?_)
  refine Rg.tm trivial rfl (t_move rfl) rfl ?_
  refine Rg.tm trivial rfl (t_lenC h1s0 Tryz.underlying31 rfl) rfl ?_
  refine Rg.tm trivial rfl (t_move rfl) rfl ?_
  refine Rg.tm trivial rfl (t_lenC h2s0 Tryz.underlying31 rfl) rfl ?_
  first | refine Rg.tm trivial rfl (t_neqT rfl rfl (by omega)) rfl ?_ | refine Rg.tm trivial rfl (t_neqF rfl rfl (by omega)) rfl ?_ | refine Rg.tm trivial rfl (t_neq rfl rfl) rfl ?_
  refine Rg.done ?_
  refine Wp.condF rfl ?_
  refine Wp.skip ?_
  refine Wp.seq ?_
  refine Wp.seq (Wp.region ?_)
  refine Rg.tm trivial rfl (t_move rfl) rfl ?_
  refine Rg.tm trivial rfl (t_lenC h1s0 Tryz.underlying31 rfl) rfl ?_
  refine Rg.tm trivial rfl (t_move rfl) rfl ?_
  refine Rg.done ?_
  refine Wp.block ?_
  refine Wp.loop (ι := Nat) (fun k => [(0,v1),(1,v2),(12,.int .i64 ps.length),(13,.int .i64 k)])
   (fun k w' => k ≤ ps.length ∧ (∀ j (h : j < k),(ps.map (·.1))[j]? = (qs.map (·.1))[j]?) ∧ Ext w w') (fun k => ps.length - k) 0 (by repeat (first | exact .nil | refine .cons rfl ?_)) ⟨Nat.zero_le _,fun j h => by omega,hx⟩ ?_
  clear hx
  rintro k w3 ⟨hk,hpre,hx⟩
  by_cases hlt : k < ps.length
  ·have hlt2 : k < qs.length := by omega
   have hma := hn1 _ (List.getElem_mem hlt)
   have hmb := hn2 _ (List.getElem_mem hlt2)
   have hia : (ps.map (·.1))[k]? = some (ps[k]).1 := by rw [List.getElem?_map,List.getElem?_eq_getElem hlt]; rfl
   have hib : (qs.map (·.1))[k]? = some (qs[k]).1 := by rw [List.getElem?_map,List.getElem?_eq_getElem hlt2]; rfl
   obtain ⟨a,ha⟩ : ∃ a,ps[k] = a := ⟨_,rfl⟩
   obtain ⟨b,hb⟩ : ∃ b,qs[k] = b := ⟨_,rfl⟩
   rw [ha] at hma hia
   rw [hb] at hmb hib
   obtain ⟨⟨a1,a2,a3,a4,a5,a6⟩,va⟩ := a
   obtain ⟨⟨b1,b2,b3,b4,b5,b6⟩,vb⟩ := b
   simp only at hma hmb hia hib
   refine Wp.seq (Wp.region ?_)
   first | refine Rg.tm trivial rfl (t_lssT rfl rfl (by omega)) rfl ?_ | refine Rg.tm trivial rfl (t_lssF rfl rfl (by omega)) rfl ?_ | refine Rg.tm trivial rfl (t_lss rfl rfl) rfl ?_
   refine Rg.done ?_
   refine Wp.seq ?_
   refine Wp.condT rfl ?_
   refine Wp.skip ?_
   refine Wp.seq ?_
   refine Wp.block ?_
   refine Wp.seq (Wp.region ?_)
   refine Rg.tm trivial rfl (t_move rfl) rfl ?_
   refine Rg.tm trivial rfl (t_assign rfl) rfl ?_
   refine Rg.done ?_
   by_cases q0 : a1 = b1
   rotate_left
   ·skip
    refine Wp.seq (Wp.draw [0,1,2,3,4,5,6,7,8,9,10,11,12,13,14,15,16,17,18,19,20,21,22,23,24,25,26,27,28,29,30,31,32,33,34,35,36,37,38,39,40,41,42,43,44,45,46,47,48,49,50,51,52,53,54,55,56,57,58,59,60,61,62,63,64,65,66,67,68,69,70,71,72,73,74,75,76] [] mixed (by kernel_rfl) (by kernel_rfl) ?_)
    intro w1 hx1 _
    replace hx := hx.ext hx1
    refine Rg.tm trivial rfl (t_move rfl) rfl ?_
    refine Rg.tm trivial rfl (t_move rfl) rfl ?_
    refine Rg.ix h1s0 trivial rfl rfl Tryz.underlying31 ty43 (by omega) rfl ?_
    intro bt18 ot18 ht18
    replace ht18 := ht18.ext hx
    rw [Int.toNat_natCast,encs_at rsc_len ps k hlt,ha] at ht18
    simp only [rsc] at ht18
    refine Rg.tm trivial rfl (t_fieldAddr fa43_0 rfl) rfl ?_
    refine Rg.tm trivial rfl (t_load ty3 rfl (Cells.get (i := 0) ht18 rfl)) rfl ?_
    refine Rg.tm trivial rfl (t_move rfl) rfl ?_
    refine Rg.tm trivial rfl (t_move rfl) rfl ?_
    refine Rg.ix h2s0 trivial rfl rfl Tryz.underlying31 ty43 (by omega) rfl ?_
    intro bt23 ot23 ht23
    replace ht23 := ht23.ext hx
    rw [Int.toNat_natCast,encs_at rsc_len qs k hlt2,hb] at ht23
    simp only [rsc] at ht23
    refine Rg.tm trivial rfl (t_fieldAddr fa43_0 rfl) rfl ?_
    refine Rg.tm trivial rfl (t_load ty3 rfl (Cells.get (i := 0) ht23 rfl)) rfl ?_
    refine Rg.tm trivial rfl (t_neqT rfl rfl (by first | exact q0 | omega)) rfl ?_
    refine Rg.tm trivial rfl (t_move rfl) rfl ?_
    refine Rg.so rfl rfl ?_
    refine Rg.so rfl rfl ?_
    refine Rg.so rfl rfl ?_
    refine Rg.so rfl rfl ?_
    refine Rg.so rfl rfl ?_
    refine Rg.so rfl rfl ?_
    refine Rg.so rfl rfl ?_
    refine Rg.so rfl rfl ?_
    refine Rg.so rfl rfl ?_
    refine Rg.so rfl rfl ?_
    refine Rg.so rfl rfl ?_
    first | refine Rg.tm trivial rfl (t_pickT rfl rfl) rfl ?_ | refine Rg.tm trivial rfl (t_pickF rfl rfl) rfl ?_
    refine Rg.tm trivial rfl (t_move rfl) rfl ?_
    refine Rg.so rfl rfl ?_
    refine Rg.so rfl rfl ?_
    refine Rg.so rfl rfl ?_
    refine Rg.so rfl rfl ?_
    refine Rg.so rfl rfl ?_
    refine Rg.so rfl rfl ?_
    refine Rg.so rfl rfl ?_
    refine Rg.so rfl rfl ?_
    refine Rg.so rfl rfl ?_
    refine Rg.so rfl rfl ?_
    refine Rg.so rfl rfl ?_
    first | refine Rg.tm trivial rfl (t_pickT rfl rfl) rfl ?_ | refine Rg.tm trivial rfl (t_pickF rfl rfl) rfl ?_
    refine Rg.tm trivial rfl (t_move rfl) rfl ?_
    refine Rg.so rfl rfl ?_
    refine Rg.so rfl rfl ?_
    refine Rg.so rfl rfl ?_
    refine Rg.so rfl rfl ?_
    refine Rg.so rfl rfl ?_
    refine Rg.so rfl rfl ?_
    refine Rg.so rfl rfl ?_
    refine Rg.so rfl rfl ?_
    refine Rg.so rfl rfl ?_
    refine Rg.so rfl rfl ?_
    refine Rg.so rfl rfl ?_
    first | refine Rg.tm trivial rfl (t_pickT rfl rfl) rfl ?_ | refine Rg.tm trivial rfl (t_pickF rfl rfl) rfl ?_
    refine Rg.tm trivial rfl (t_move rfl) rfl ?_
    refine Rg.so rfl rfl ?_
    refine Rg.so rfl rfl ?_
    refine Rg.so rfl rfl ?_
    refine Rg.so rfl rfl ?_
    refine Rg.so rfl rfl ?_
    refine Rg.so rfl rfl ?_
    refine Rg.so rfl rfl ?_
    refine Rg.so rfl rfl ?_
    refine Rg.so rfl rfl ?_
    refine Rg.so rfl rfl ?_
    refine Rg.so rfl rfl ?_
    first | refine Rg.tm trivial rfl (t_pickT rfl rfl) rfl ?_ | refine Rg.tm trivial rfl (t_pickF rfl rfl) rfl ?_
    refine Rg.tm trivial rfl (t_move rfl) rfl ?_
    refine Rg.so rfl rfl ?_
    refine Rg.so rfl rfl ?_
    refine Rg.so rfl rfl ?_
    refine Rg.so rfl rfl ?_
    refine Rg.so rfl rfl ?_
    refine Rg.so rfl rfl ?_
    refine Rg.so rfl rfl ?_
    refine Rg.so rfl rfl ?_
    refine Rg.so rfl rfl ?_
    refine Rg.so rfl rfl ?_
    refine Rg.so rfl rfl ?_
    refine Rg.so rfl rfl ?_
    first | refine Rg.tm trivial rfl (t_pickT rfl rfl) rfl ?_ | refine Rg.tm trivial rfl (t_pickF rfl rfl) rfl ?_
    refine Rg.done ?_
    refine Wp.condT rfl ?_
    refine Wp.seq (Wp.region ?_)
    refine Rg.tm trivial rfl (t_assign rfl) rfl ?_
    refine Rg.done ?_
    refine Wp.ret ?_
    refine ⟨[_],⟨rfl,trivial⟩,⟨false,rfl,fun h => (by cases h),fun e => ?_⟩,hx⟩
    rw [e,hib] at hia
    injection hia with hia
    injection hia with e1 e2 e3 e4 e5 e6
    exact absurd e1.symm q0
   by_cases q1 : a2 = b2
   rotate_left
   ·skip
    refine Wp.seq (Wp.draw [0,1,2,3,4,5,6,7,8,9,10,11,12,13,14,15,16,17,18,19,20,21,22,23,24,25,26,27,28,29,30,31,32,33,34,35,36,37,38,39,40,41,42,43,44,45,46,47,48,49,50,51,52,53,54,55,56,57,58,59,60,61,62,63,64,65,66,67,68,69,70,71,72,73,74,75,76] [] mixed (by kernel_rfl) (by kernel_rfl) ?_)
    intro w1 hx1 _
    replace hx := hx.ext hx1
    refine Rg.tm trivial rfl (t_move rfl) rfl ?_
    refine Rg.tm trivial rfl (t_move rfl) rfl ?_
    refine Rg.ix h1s0 trivial rfl rfl Tryz.underlying31 ty43 (by omega) rfl ?_
    intro bt18 ot18 ht18
    replace ht18 := ht18.ext hx
    rw [Int.toNat_natCast,encs_at rsc_len ps k hlt,ha] at ht18
    simp only [rsc] at ht18
    refine Rg.tm trivial rfl (t_fieldAddr fa43_0 rfl) rfl ?_
    refine Rg.tm trivial rfl (t_load ty3 rfl (Cells.get (i := 0) ht18 rfl)) rfl ?_
    refine Rg.tm trivial rfl (t_move rfl) rfl ?_
    refine Rg.tm trivial rfl (t_move rfl) rfl ?_
    refine Rg.ix h2s0 trivial rfl rfl Tryz.underlying31 ty43 (by omega) rfl ?_
    intro bt23 ot23 ht23
    replace ht23 := ht23.ext hx
    rw [Int.toNat_natCast,encs_at rsc_len qs k hlt2,hb] at ht23
    simp only [rsc] at ht23
    refine Rg.tm trivial rfl (t_fieldAddr fa43_0 rfl) rfl ?_
    refine Rg.tm trivial rfl (t_load ty3 rfl (Cells.get (i := 0) ht23 rfl)) rfl ?_
    refine Rg.tm trivial rfl (t_neqF rfl rfl (by first | exact q0 | omega)) rfl ?_
    refine Rg.tm trivial rfl (t_move rfl) rfl ?_
    first | refine Rg.tm ⟨_,rfl,rfl⟩ rfl (t_move rfl) rfl ?_ | refine Rg.so rfl rfl ?_
    first | refine Rg.tm ⟨_,rfl,rfl⟩ rfl (t_move rfl) rfl ?_ | refine Rg.so rfl rfl ?_
    refine Rg.ix h1s0 ⟨_,rfl,rfl⟩ rfl rfl Tryz.underlying31 ty43 (by omega) rfl ?_
    intro bt30 ot30 ht30
    replace ht30 := ht30.ext hx
    rw [Int.toNat_natCast,encs_at rsc_len ps k hlt,ha] at ht30
    simp only [rsc] at ht30
    first | refine Rg.tm ⟨_,rfl,rfl⟩ rfl (t_fieldAddr fa43_1 rfl) rfl ?_ | refine Rg.so rfl rfl ?_
    refine Rg.tm ⟨_,rfl,rfl⟩ rfl (t_load ty3 rfl (Cells.get (i := 1) ht30 rfl)) rfl ?_
    first | refine Rg.tm ⟨_,rfl,rfl⟩ rfl (t_move rfl) rfl ?_ | refine Rg.so rfl rfl ?_
    first | refine Rg.tm ⟨_,rfl,rfl⟩ rfl (t_move rfl) rfl ?_ | refine Rg.so rfl rfl ?_
    refine Rg.ix h2s0 ⟨_,rfl,rfl⟩ rfl rfl Tryz.underlying31 ty43 (by omega) rfl ?_
    intro bt35 ot35 ht35
    replace ht35 := ht35.ext hx
    rw [Int.toNat_natCast,encs_at rsc_len qs k hlt2,hb] at ht35
    simp only [rsc] at ht35
    first | refine Rg.tm ⟨_,rfl,rfl⟩ rfl (t_fieldAddr fa43_1 rfl) rfl ?_ | refine Rg.so rfl rfl ?_
    refine Rg.tm ⟨_,rfl,rfl⟩ rfl (t_load ty3 rfl (Cells.get (i := 1) ht35 rfl)) rfl ?_
    refine Rg.tm ⟨_,rfl,rfl⟩ rfl (t_neqT rfl rfl (by first | exact q1 | omega)) rfl ?_
    first | refine Rg.tm trivial rfl (t_pickT rfl rfl) rfl ?_ | refine Rg.tm trivial rfl (t_pickF rfl rfl) rfl ?_
    refine Rg.tm trivial rfl (t_move rfl) rfl ?_
    refine Rg.so rfl rfl ?_
    refine Rg.so rfl rfl ?_
    refine Rg.so rfl rfl ?_
    refine Rg.so rfl rfl ?_
    refine Rg.so rfl rfl ?_
    refine Rg.so rfl rfl ?_
    refine Rg.so rfl rfl ?_
    refine Rg.so rfl rfl ?_
    refine Rg.so rfl rfl ?_
    refine Rg.so rfl rfl ?_
    refine Rg.so rfl rfl ?_
    first | refine Rg.tm trivial rfl (t_pickT rfl rfl) rfl ?_ | refine Rg.tm trivial rfl (t_pickF rfl rfl) rfl ?_
    refine Rg.tm trivial rfl (t_move rfl) rfl ?_
    refine Rg.so rfl rfl ?_
    refine Rg.so rfl rfl ?_
    refine Rg.so rfl rfl ?_
    refine Rg.so rfl rfl ?_
    refine Rg.so rfl rfl ?_
    refine Rg.so rfl rfl ?_
    refine Rg.so rfl rfl ?_
    refine Rg.so rfl rfl ?_
    refine Rg.so rfl rfl ?_
    refine Rg.so rfl rfl ?_
    refine Rg.so rfl rfl ?_
    first | refine Rg.tm trivial rfl (t_pickT rfl rfl) rfl ?_ | refine Rg.tm trivial rfl (t_pickF rfl rfl) rfl ?_
    refine Rg.tm trivial rfl (t_move rfl) rfl ?_
    refine Rg.so rfl rfl ?_
    refine Rg.so rfl rfl ?_
    refine Rg.so rfl rfl ?_
    refine Rg.so rfl rfl ?_
    refine Rg.so rfl rfl ?_
    refine Rg.so rfl rfl ?_
    refine Rg.so rfl rfl ?_
    refine Rg.so rfl rfl ?_
    refine Rg.so rfl rfl ?_
    refine Rg.so rfl rfl ?_
    refine Rg.so rfl rfl ?_
    first | refine Rg.tm trivial rfl (t_pickT rfl rfl) rfl ?_ | refine Rg.tm trivial rfl (t_pickF rfl rfl) rfl ?_
    refine Rg.tm trivial rfl (t_move rfl) rfl ?_
    refine Rg.so rfl rfl ?_
    refine Rg.so rfl rfl ?_
    refine Rg.so rfl rfl ?_
    refine Rg.so rfl rfl ?_
    refine Rg.so rfl rfl ?_
    refine Rg.so rfl rfl ?_
    refine Rg.so rfl rfl ?_
    refine Rg.so rfl rfl ?_
    refine Rg.so rfl rfl ?_
    refine Rg.so rfl rfl ?_
    refine Rg.so rfl rfl ?_
    refine Rg.so rfl rfl ?_
    first | refine Rg.tm trivial rfl (t_pickT rfl rfl) rfl ?_ | refine Rg.tm trivial rfl (t_pickF rfl rfl) rfl ?_
    refine Rg.done ?_
    refine Wp.condT rfl ?_
    refine Wp.seq (Wp.region ?_)
    refine Rg.tm trivial rfl (t_assign rfl) rfl ?_
    refine Rg.done ?_
    refine Wp.ret ?_
    refine ⟨[_],⟨rfl,trivial⟩,⟨false,rfl,fun h => (by cases h),fun e => ?_⟩,hx⟩
    rw [e,hib] at hia
    injection hia with hia
    injection hia with e1 e2 e3 e4 e5 e6
    exact absurd e2.symm q1
   by_cases q2 : a3 = b3
   rotate_left
   ·skip
    refine Wp.seq (Wp.draw [0,1,2,3,4,5,6,7,8,9,10,11,12,13,14,15,16,17,18,19,20,21,22,23,24,25,26,27,28,29,30,31,32,33,34,35,36,37,38,39,40,41,42,43,44,45,46,47,48,49,50,51,52,53,54,55,56,57,58,59,60,61,62,63,64,65,66,67,68,69,70,71,72,73,74,75,76] [] mixed (by kernel_rfl) (by kernel_rfl) ?_)
    intro w1 hx1 _
    replace hx := hx.ext hx1
    refine Rg.tm trivial rfl (t_move rfl) rfl ?_
    refine Rg.tm trivial rfl (t_move rfl) rfl ?_
    refine Rg.ix h1s0 trivial rfl rfl Tryz.underlying31 ty43 (by omega) rfl ?_
    intro bt18 ot18 ht18
    replace ht18 := ht18.ext hx
    rw [Int.toNat_natCast,encs_at rsc_len ps k hlt,ha] at ht18
    simp only [rsc] at ht18
    refine Rg.tm trivial rfl (t_fieldAddr fa43_0 rfl) rfl ?_
    refine Rg.tm trivial rfl (t_load ty3 rfl (Cells.get (i := 0) ht18 rfl)) rfl ?_
    refine Rg.tm trivial rfl (t_move rfl) rfl ?_
    refine Rg.tm trivial rfl (t_move rfl) rfl ?_
    refine Rg.ix h2s0 trivial rfl rfl Tryz.underlying31 ty43 (by omega) rfl ?_
    intro bt23 ot23 ht23
    replace ht23 := ht23.ext hx
    rw [Int.toNat_natCast,encs_at rsc_len qs k hlt2,hb] at ht23
    simp only [rsc] at ht23
    refine Rg.tm trivial rfl (t_fieldAddr fa43_0 rfl) rfl ?_
    refine Rg.tm trivial rfl (t_load ty3 rfl (Cells.get (i := 0) ht23 rfl)) rfl ?_
    refine Rg.tm trivial rfl (t_neqF rfl rfl (by first | exact q0 | omega)) rfl ?_
    refine Rg.tm trivial rfl (t_move rfl) rfl ?_
    first | refine Rg.tm ⟨_,rfl,rfl⟩ rfl (t_move rfl) rfl ?_ | refine Rg.so rfl rfl ?_
    first | refine Rg.tm ⟨_,rfl,rfl⟩ rfl (t_move rfl) rfl ?_ | refine Rg.so rfl rfl ?_
    refine Rg.ix h1s0 ⟨_,rfl,rfl⟩ rfl rfl Tryz.underlying31 ty43 (by omega) rfl ?_
    intro bt30 ot30 ht30
    replace ht30 := ht30.ext hx
    rw [Int.toNat_natCast,encs_at rsc_len ps k hlt,ha] at ht30
    simp only [rsc] at ht30
    first | refine Rg.tm ⟨_,rfl,rfl⟩ rfl (t_fieldAddr fa43_1 rfl) rfl ?_ | refine Rg.so rfl rfl ?_
    refine Rg.tm ⟨_,rfl,rfl⟩ rfl (t_load ty3 rfl (Cells.get (i := 1) ht30 rfl)) rfl ?_
    first | refine Rg.tm ⟨_,rfl,rfl⟩ rfl (t_move rfl) rfl ?_ | refine Rg.so rfl rfl ?_
    first | refine Rg.tm ⟨_,rfl,rfl⟩ rfl (t_move rfl) rfl ?_ | refine Rg.so rfl rfl ?_
    refine Rg.ix h2s0 ⟨_,rfl,rfl⟩ rfl rfl Tryz.underlying31 ty43 (by omega) rfl ?_
    intro bt35 ot35 ht35
    replace ht35 := ht35.ext hx
    rw [Int.toNat_natCast,encs_at rsc_len qs k hlt2,hb] at ht35
    simp only [rsc] at ht35
    first | refine Rg.tm ⟨_,rfl,rfl⟩ rfl (t_fieldAddr fa43_1 rfl) rfl ?_ | refine Rg.so rfl rfl ?_
    refine Rg.tm ⟨_,rfl,rfl⟩ rfl (t_load ty3 rfl (Cells.get (i := 1) ht35 rfl)) rfl ?_
    refine Rg.tm ⟨_,rfl,rfl⟩ rfl (t_neqF rfl rfl (by first | exact q1 | omega)) rfl ?_
    first | refine Rg.tm trivial rfl (t_pickT rfl rfl) rfl ?_ | refine Rg.tm trivial rfl (t_pickF rfl rfl) rfl ?_
    refine Rg.tm trivial rfl (t_move rfl) rfl ?_
    first | refine Rg.tm ⟨_,rfl,rfl⟩ rfl (t_move rfl) rfl ?_ | refine Rg.so rfl rfl ?_
    first | refine Rg.tm ⟨_,rfl,rfl⟩ rfl (t_move rfl) rfl ?_ | refine Rg.so rfl rfl ?_
    refine Rg.ix h1s0 ⟨_,rfl,rfl⟩ rfl rfl Tryz.underlying31 ty43 (by omega) rfl ?_
    intro bt43 ot43 ht43
    replace ht43 := ht43.ext hx
    rw [Int.toNat_natCast,encs_at rsc_len ps k hlt,ha] at ht43
    simp only [rsc] at ht43
    first | refine Rg.tm ⟨_,rfl,rfl⟩ rfl (t_fieldAddr fa43_2 rfl) rfl ?_ | refine Rg.so rfl rfl ?_
    refine Rg.tm ⟨_,rfl,rfl⟩ rfl (t_load ty40 rfl (Cells.get (i := 2) ht43 rfl)) rfl ?_
    first | refine Rg.tm ⟨_,rfl,rfl⟩ rfl (t_move rfl) rfl ?_ | refine Rg.so rfl rfl ?_
    first | refine Rg.tm ⟨_,rfl,rfl⟩ rfl (t_move rfl) rfl ?_ | refine Rg.so rfl rfl ?_
    refine Rg.ix h2s0 ⟨_,rfl,rfl⟩ rfl rfl Tryz.underlying31 ty43 (by omega) rfl ?_
    intro bt48 ot48 ht48
    replace ht48 := ht48.ext hx
    rw [Int.toNat_natCast,encs_at rsc_len qs k hlt2,hb] at ht48
    simp only [rsc] at ht48
    first | refine Rg.tm ⟨_,rfl,rfl⟩ rfl (t_fieldAddr fa43_2 rfl) rfl ?_ | refine Rg.so rfl rfl ?_
    refine Rg.tm ⟨_,rfl,rfl⟩ rfl (t_load ty40 rfl (Cells.get (i := 2) ht48 rfl)) rfl ?_
    refine Rg.tm ⟨_,rfl,rfl⟩ rfl (t_neqT rfl rfl (by first | exact q2 | omega)) rfl ?_
    first | refine Rg.tm trivial rfl (t_pickT rfl rfl) rfl ?_ | refine Rg.tm trivial rfl (t_pickF rfl rfl) rfl ?_
    refine Rg.tm trivial rfl (t_move rfl) rfl ?_
    refine Rg.so rfl rfl ?_
    refine Rg.so rfl rfl ?_
    refine Rg.so rfl rfl ?_
    refine Rg.so rfl rfl ?_
    refine Rg.so rfl rfl ?_
    refine Rg.so rfl rfl ?_
    refine Rg.so rfl rfl ?_
    refine Rg.so rfl rfl ?_
    refine Rg.so rfl rfl ?_
    refine Rg.so rfl rfl ?_
    refine Rg.so rfl rfl ?_
    first | refine Rg.tm trivial rfl (t_pickT rfl rfl) rfl ?_ | refine Rg.tm trivial rfl (t_pickF rfl rfl) rfl ?_
    refine Rg.tm trivial rfl (t_move rfl) rfl ?_
    refine Rg.so rfl rfl ?_
    refine Rg.so rfl rfl ?_
    refine Rg.so rfl rfl ?_
    refine Rg.so rfl rfl ?_
    refine Rg.so rfl rfl ?_
    refine Rg.so rfl rfl ?_
    refine Rg.so rfl rfl ?_
    refine Rg.so rfl rfl ?_
    refine Rg.so rfl rfl ?_
    refine Rg.so rfl rfl ?_
    refine Rg.so rfl rfl ?_
    first | refine Rg.tm trivial rfl (t_pickT rfl rfl) rfl ?_ | refine Rg.tm trivial rfl (t_pickF rfl rfl) rfl ?_
    refine Rg.tm trivial rfl (t_move rfl) rfl ?_
    refine Rg.so rfl rfl ?_
    refine Rg.so rfl rfl ?_
    refine Rg.so rfl rfl ?_
    refine Rg.so rfl rfl ?_
    refine Rg.so rfl rfl ?_
    refine Rg.so rfl rfl ?_
    refine Rg.so rfl rfl ?_
    refine Rg.so rfl rfl ?_
    refine Rg.so rfl rfl ?_
    refine Rg.so rfl rfl ?_
    refine Rg.so rfl rfl ?_
    refine Rg.so rfl rfl ?_
    first | refine Rg.tm trivial rfl (t_pickT rfl rfl) rfl ?_ | refine Rg.tm trivial rfl (t_pickF rfl rfl) rfl ?_
    refine Rg.done ?_
    refine Wp.condT rfl ?_
    refine Wp.seq (Wp.region ?_)
    refine Rg.tm trivial rfl (t_assign rfl) rfl ?_
    refine Rg.done ?_
    refine Wp.ret ?_
    refine ⟨[_],⟨rfl,trivial⟩,⟨false,rfl,fun h => (by cases h),fun e => ?_⟩,hx⟩
    rw [e,hib] at hia
    injection hia with hia
    injection hia with e1 e2 e3 e4 e5 e6
    exact absurd e3.symm q2
   by_cases q3 : a4 = b4
   rotate_left
   ·skip
    refine Wp.seq (Wp.draw [0,1,2,3,4,5,6,7,8,9,10,11,12,13,14,15,16,17,18,19,20,21,22,23,24,25,26,27,28,29,30,31,32,33,34,35,36,37,38,39,40,41,42,43,44,45,46,47,48,49,50,51,52,53,54,55,56,57,58,59,60,61,62,63,64,65,66,67,68,69,70,71,72,73,74,75,76] [] mixed (by kernel_rfl) (by kernel_rfl) ?_)
    intro w1 hx1 _
    replace hx := hx.ext hx1
    refine Rg.tm trivial rfl (t_move rfl) rfl ?_
    refine Rg.tm trivial rfl (t_move rfl) rfl ?_
    refine Rg.ix h1s0 trivial rfl rfl Tryz.underlying31 ty43 (by omega) rfl ?_
    intro bt18 ot18 ht18
    replace ht18 := ht18.ext hx
    rw [Int.toNat_natCast,encs_at rsc_len ps k hlt,ha] at ht18
    simp only [rsc] at ht18
    refine Rg.tm trivial rfl (t_fieldAddr fa43_0 rfl) rfl ?_
    refine Rg.tm trivial rfl (t_load ty3 rfl (Cells.get (i := 0) ht18 rfl)) rfl ?_
    refine Rg.tm trivial rfl (t_move rfl) rfl ?_
    refine Rg.tm trivial rfl (t_move rfl) rfl ?_
    refine Rg.ix h2s0 trivial rfl rfl Tryz.underlying31 ty43 (by omega) rfl ?_
    intro bt23 ot23 ht23
    replace ht23 := ht23.ext hx
    rw [Int.toNat_natCast,encs_at rsc_len qs k hlt2,hb] at ht23
    simp only [rsc] at ht23
    refine Rg.tm trivial rfl (t_fieldAddr fa43_0 rfl) rfl ?_
    refine Rg.tm trivial rfl (t_load ty3 rfl (Cells.get (i := 0) ht23 rfl)) rfl ?_
    refine Rg.tm trivial rfl (t_neqF rfl rfl (by first | exact q0 | omega)) rfl ?_
    refine Rg.tm trivial rfl (t_move rfl) rfl ?_
    first | refine Rg.tm ⟨_,rfl,rfl⟩ rfl (t_move rfl) rfl ?_ | refine Rg.so rfl rfl ?_
    first | refine Rg.tm ⟨_,rfl,rfl⟩ rfl (t_move rfl) rfl ?_ | refine Rg.so rfl rfl ?_
    refine Rg.ix h1s0 ⟨_,rfl,rfl⟩ rfl rfl Tryz.underlying31 ty43 (by omega) rfl ?_
    intro bt30 ot30 ht30
    replace ht30 := ht30.ext hx
    rw [Int.toNat_natCast,encs_at rsc_len ps k hlt,ha] at ht30
    simp only [rsc] at ht30
    first | refine Rg.tm ⟨_,rfl,rfl⟩ rfl (t_fieldAddr fa43_1 rfl) rfl ?_ | refine Rg.so rfl rfl ?_
    refine Rg.tm ⟨_,rfl,rfl⟩ rfl (t_load ty3 rfl (Cells.get (i := 1) ht30 rfl)) rfl ?_
    first | refine Rg.tm ⟨_,rfl,rfl⟩ rfl (t_move rfl) rfl ?_ | refine Rg.so rfl rfl ?_
    first | refine Rg.tm ⟨_,rfl,rfl⟩ rfl (t_move rfl) rfl ?_ | refine Rg.so rfl rfl ?_
    refine Rg.ix h2s0 ⟨_,rfl,rfl⟩ rfl rfl Tryz.underlying31 ty43 (by omega) rfl ?_
    intro bt35 ot35 ht35
    replace ht35 := ht35.ext hx
    rw [Int.toNat_natCast,encs_at rsc_len qs k hlt2,hb] at ht35
    simp only [rsc] at ht35
    first | refine Rg.tm ⟨_,rfl,rfl⟩ rfl (t_fieldAddr fa43_1 rfl) rfl ?_ | refine Rg.so rfl rfl ?_
    refine Rg.tm ⟨_,rfl,rfl⟩ rfl (t_load ty3 rfl (Cells.get (i := 1) ht35 rfl)) rfl ?_
    refine Rg.tm ⟨_,rfl,rfl⟩ rfl (t_neqF rfl rfl (by first | exact q1 | omega)) rfl ?_
    first | refine Rg.tm trivial rfl (t_pickT rfl rfl) rfl ?_ | refine Rg.tm trivial rfl (t_pickF rfl rfl) rfl ?_
    refine Rg.tm trivial rfl (t_move rfl) rfl ?_
    first | refine Rg.tm ⟨_,rfl,rfl⟩ rfl (t_move rfl) rfl ?_ | refine Rg.so rfl rfl ?_
    first | refine Rg.tm ⟨_,rfl,rfl⟩ rfl (t_move rfl) rfl ?_ | refine Rg.so rfl rfl ?_
    refine Rg.ix h1s0 ⟨_,rfl,rfl⟩ rfl rfl Tryz.underlying31 ty43 (by omega) rfl ?_
    intro bt43 ot43 ht43
    replace ht43 := ht43.ext hx
    rw [Int.toNat_natCast,encs_at rsc_len ps k hlt,ha] at ht43
    simp only [rsc] at ht43
    first | refine Rg.tm ⟨_,rfl,rfl⟩ rfl (t_fieldAddr fa43_2 rfl) rfl ?_ | refine Rg.so rfl rfl ?_
    refine Rg.tm ⟨_,rfl,rfl⟩ rfl (t_load ty40 rfl (Cells.get (i := 2) ht43 rfl)) rfl ?_
    first | refine Rg.tm ⟨_,rfl,rfl⟩ rfl (t_move rfl) rfl ?_ | refine Rg.so rfl rfl ?_
    first | refine Rg.tm ⟨_,rfl,rfl⟩ rfl (t_move rfl) rfl ?_ | refine Rg.so rfl rfl ?_
    refine Rg.ix h2s0 ⟨_,rfl,rfl⟩ rfl rfl Tryz.underlying31 ty43 (by omega) rfl ?_
    intro bt48 ot48 ht48
    replace ht48 := ht48.ext hx
    rw [Int.toNat_natCast,encs_at rsc_len qs k hlt2,hb] at ht48
    simp only [rsc] at ht48
    first | refine Rg.tm ⟨_,rfl,rfl⟩ rfl (t_fieldAddr fa43_2 rfl) rfl ?_ | refine Rg.so rfl rfl ?_
    refine Rg.tm ⟨_,rfl,rfl⟩ rfl (t_load ty40 rfl (Cells.get (i := 2) ht48 rfl)) rfl ?_
    refine Rg.tm ⟨_,rfl,rfl⟩ rfl (t_neqF rfl rfl (by first | exact q2 | omega)) rfl ?_
    first | refine Rg.tm trivial rfl (t_pickT rfl rfl) rfl ?_ | refine Rg.tm trivial rfl (t_pickF rfl rfl) rfl ?_
    refine Rg.tm trivial rfl (t_move rfl) rfl ?_
    first | refine Rg.tm ⟨_,rfl,rfl⟩ rfl (t_move rfl) rfl ?_ | refine Rg.so rfl rfl ?_
    first | refine Rg.tm ⟨_,rfl,rfl⟩ rfl (t_move rfl) rfl ?_ | refine Rg.so rfl rfl ?_
    refine Rg.ix h1s0 ⟨_,rfl,rfl⟩ rfl rfl Tryz.underlying31 ty43 (by omega) rfl ?_
    intro bt56 ot56 ht56
    replace ht56 := ht56.ext hx
    rw [Int.toNat_natCast,encs_at rsc_len ps k hlt,ha] at ht56
    simp only [rsc] at ht56
    first | refine Rg.tm ⟨_,rfl,rfl⟩ rfl (t_fieldAddr fa43_3 rfl) rfl ?_ | refine Rg.so rfl rfl ?_
    refine Rg.tm ⟨_,rfl,rfl⟩ rfl (t_load ty3 rfl (Cells.get (i := 3) ht56 rfl)) rfl ?_
    first | refine Rg.tm ⟨_,rfl,rfl⟩ rfl (t_move rfl) rfl ?_ | refine Rg.so rfl rfl ?_
    first | refine Rg.tm ⟨_,rfl,rfl⟩ rfl (t_move rfl) rfl ?_ | refine Rg.so rfl rfl ?_
    refine Rg.ix h2s0 ⟨_,rfl,rfl⟩ rfl rfl Tryz.underlying31 ty43 (by omega) rfl ?_
    intro bt61 ot61 ht61
    replace ht61 := ht61.ext hx
    rw [Int.toNat_natCast,encs_at rsc_len qs k hlt2,hb] at ht61
    simp only [rsc] at ht61
    first | refine Rg.tm ⟨_,rfl,rfl⟩ rfl (t_fieldAddr fa43_3 rfl) rfl ?_ | refine Rg.so rfl rfl ?_
    refine Rg.tm ⟨_,rfl,rfl⟩ rfl (t_load ty3 rfl (Cells.get (i := 3) ht61 rfl)) rfl ?_
    refine Rg.tm ⟨_,rfl,rfl⟩ rfl (t_neqT rfl rfl (by first | exact q3 | omega)) rfl ?_
    first | refine Rg.tm trivial rfl (t_pickT rfl rfl) rfl ?_ | refine Rg.tm trivial rfl (t_pickF rfl rfl) rfl ?_
    refine Rg.tm trivial rfl (t_move rfl) rfl ?_
    refine Rg.so rfl rfl ?_
    refine Rg.so rfl rfl ?_
    refine Rg.so rfl rfl ?_
    refine Rg.so rfl rfl ?_
    refine Rg.so rfl rfl ?_
    refine Rg.so rfl rfl ?_
    refine Rg.so rfl rfl ?_
    refine Rg.so rfl rfl ?_
    refine Rg.so rfl rfl ?_
    refine Rg.so rfl rfl ?_
    refine Rg.so rfl rfl ?_
    first | refine Rg.tm trivial rfl (t_pickT rfl rfl) rfl ?_ | refine Rg.tm trivial rfl (t_pickF rfl rfl) rfl ?_
    refine Rg.tm trivial rfl (t_move rfl) rfl ?_
    refine Rg.so rfl rfl ?_
    refine Rg.so rfl rfl ?_
    refine Rg.so rfl rfl ?_
    refine Rg.so rfl rfl ?_
    refine Rg.so rfl rfl ?_
    refine Rg.so rfl rfl ?_
    refine Rg.so rfl rfl ?_
    refine Rg.so rfl rfl ?_
    refine Rg.so rfl rfl ?_
    refine Rg.so rfl rfl ?_
    refine Rg.so rfl rfl ?_
    refine Rg.so rfl rfl ?_
    first | refine Rg.tm trivial rfl (t_pickT rfl rfl) rfl ?_ | refine Rg.tm trivial rfl (t_pickF rfl rfl) rfl ?_
    refine Rg.done ?_
    refine Wp.condT rfl ?_
    refine Wp.seq (Wp.region ?_)
    refine Rg.tm trivial rfl (t_assign rfl) rfl ?_
    refine Rg.done ?_
    refine Wp.ret ?_
    refine ⟨[_],⟨rfl,trivial⟩,⟨false,rfl,fun h => (by cases h),fun e => ?_⟩,hx⟩
    rw [e,hib] at hia
    injection hia with hia
    injection hia with e1 e2 e3 e4 e5 e6
    exact absurd e4.symm q3
   by_cases q4 : a6 = b6
   rotate_left
   ·skip
    refine Wp.seq (Wp.draw [0,1,2,3,4,5,6,7,8,9,10,11,12,13,14,15,16,17,18,19,20,21,22,23,24,25,26,27,28,29,30,31,32,33,34,35,36,37,38,39,40,41,42,43,44,45,46,47,48,49,50,51,52,53,54,55,56,57,58,59,60,61,62,63,64,65,66,67,68,69,70,71,72,73,74,75,76] [] mixed (by kernel_rfl) (by kernel_rfl) ?_)
    intro w1 hx1 _
    replace hx := hx.ext hx1
    refine Rg.tm trivial rfl (t_move rfl) rfl ?_
    refine Rg.tm trivial rfl (t_move rfl) rfl ?_
    refine Rg.ix h1s0 trivial rfl rfl Tryz.underlying31 ty43 (by omega) rfl ?_
    intro bt18 ot18 ht18
    replace ht18 := ht18.ext hx
    rw [Int.toNat_natCast,encs_at rsc_len ps k hlt,ha] at ht18
    simp only [rsc] at ht18
    refine Rg.tm trivial rfl (t_fieldAddr fa43_0 rfl) rfl ?_
    refine Rg.tm trivial rfl (t_load ty3 rfl (Cells.get (i := 0) ht18 rfl)) rfl ?_
    refine Rg.tm trivial rfl (t_move rfl) rfl ?_
    refine Rg.tm trivial rfl (t_move rfl) rfl ?_
    refine Rg.ix h2s0 trivial rfl rfl Tryz.underlying31 ty43 (by omega) rfl ?_
    intro bt23 ot23 ht23
    replace ht23 := ht23.ext hx
    rw [Int.toNat_natCast,encs_at rsc_len qs k hlt2,hb] at ht23
    simp only [rsc] at ht23
    refine Rg.tm trivial rfl (t_fieldAddr fa43_0 rfl) rfl ?_
    refine Rg.tm trivial rfl (t_load ty3 rfl (Cells.get (i := 0) ht23 rfl)) rfl ?_
    refine Rg.tm trivial rfl (t_neqF rfl rfl (by first | exact q0 | omega)) rfl ?_
    refine Rg.tm trivial rfl (t_move rfl) rfl ?_
    first | refine Rg.tm ⟨_,rfl,rfl⟩ rfl (t_move rfl) rfl ?_ | refine Rg.so rfl rfl ?_
    first | refine Rg.tm ⟨_,rfl,rfl⟩ rfl (t_move rfl) rfl ?_ | refine Rg.so rfl rfl ?_
    refine Rg.ix h1s0 ⟨_,rfl,rfl⟩ rfl rfl Tryz.underlying31 ty43 (by omega) rfl ?_
    intro bt30 ot30 ht30
    replace ht30 := ht30.ext hx
    rw [Int.toNat_natCast,encs_at rsc_len ps k hlt,ha] at ht30
    simp only [rsc] at ht30
    first | refine Rg.tm ⟨_,rfl,rfl⟩ rfl (t_fieldAddr fa43_1 rfl) rfl ?_ | refine Rg.so rfl rfl ?_
    refine Rg.tm ⟨_,rfl,rfl⟩ rfl (t_load ty3 rfl (Cells.get (i := 1) ht30 rfl)) rfl ?_
    first | refine Rg.tm ⟨_,rfl,rfl⟩ rfl (t_move rfl) rfl ?_ | refine Rg.so rfl rfl ?_
    first | refine Rg.tm ⟨_,rfl,rfl⟩ rfl (t_move rfl) rfl ?_ | refine Rg.so rfl rfl ?_
    refine Rg.ix h2s0 ⟨_,rfl,rfl⟩ rfl rfl Tryz.underlying31 ty43 (by omega) rfl ?_
    intro bt35 ot35 ht35
    replace ht35 := ht35.ext hx
    rw [Int.toNat_natCast,encs_at rsc_len qs k hlt2,hb] at ht35
    simp only [rsc] at ht35
    first | refine Rg.tm ⟨_,rfl,rfl⟩ rfl (t_fieldAddr fa43_1 rfl) rfl ?_ | refine Rg.so rfl rfl ?_
    refine Rg.tm ⟨_,rfl,rfl⟩ rfl (t_load ty3 rfl (Cells.get (i := 1) ht35 rfl)) rfl ?_
    refine Rg.tm ⟨_,rfl,rfl⟩ rfl (t_neqF rfl rfl (by first | exact q1 | omega)) rfl ?_
    first | refine Rg.tm trivial rfl (t_pickT rfl rfl) rfl ?_ | refine Rg.tm trivial rfl (t_pickF rfl rfl) rfl ?_
    refine Rg.tm trivial rfl (t_move rfl) rfl ?_
    first | refine Rg.tm ⟨_,rfl,rfl⟩ rfl (t_move rfl) rfl ?_ | refine Rg.so rfl rfl ?_
    first | refine Rg.tm ⟨_,rfl,rfl⟩ rfl (t_move rfl) rfl ?_ | refine Rg.so rfl rfl ?_
    refine Rg.ix h1s0 ⟨_,rfl,rfl⟩ rfl rfl Tryz.underlying31 ty43 (by omega) rfl ?_
    intro bt43 ot43 ht43
    replace ht43 := ht43.ext hx
    rw [Int.toNat_natCast,encs_at rsc_len ps k hlt,ha] at ht43
    simp only [rsc] at ht43
    first | refine Rg.tm ⟨_,rfl,rfl⟩ rfl (t_fieldAddr fa43_2 rfl) rfl ?_ | refine Rg.so rfl rfl ?_
    refine Rg.tm ⟨_,rfl,rfl⟩ rfl (t_load ty40 rfl (Cells.get (i := 2) ht43 rfl)) rfl ?_
    first | refine Rg.tm ⟨_,rfl,rfl⟩ rfl (t_move rfl) rfl ?_ | refine Rg.so rfl rfl ?_
    first | refine Rg.tm ⟨_,rfl,rfl⟩ rfl (t_move rfl) rfl ?_ | refine Rg.so rfl rfl ?_
    refine Rg.ix h2s0 ⟨_,rfl,rfl⟩ rfl rfl Tryz.underlying31 ty43 (by omega) rfl ?_
    intro bt48 ot48 ht48
    replace ht48 := ht48.ext hx
    rw [Int.toNat_natCast,encs_at rsc_len qs k hlt2,hb] at ht48
    simp only [rsc] at ht48
    first | refine Rg.tm ⟨_,rfl,rfl⟩ rfl (t_fieldAddr fa43_2 rfl) rfl ?_ | refine Rg.so rfl rfl ?_
    refine Rg.tm ⟨_,rfl,rfl⟩ rfl (t_load ty40 rfl (Cells.get (i := 2) ht48 rfl)) rfl ?_
    refine Rg.tm ⟨_,rfl,rfl⟩ rfl (t_neqF rfl rfl (by first | exact q2 | omega)) rfl ?_
    first | refine Rg.tm trivial rfl (t_pickT rfl rfl) rfl ?_ | refine Rg.tm trivial rfl (t_pickF rfl rfl) rfl ?_
    refine Rg.tm trivial rfl (t_move rfl) rfl ?_
    first | refine Rg.tm ⟨_,rfl,rfl⟩ rfl (t_move rfl) rfl ?_ | refine Rg.so rfl rfl ?_
    first | refine Rg.tm ⟨_,rfl,rfl⟩ rfl (t_move rfl) rfl ?_ | refine Rg.so rfl rfl ?_
    refine Rg.ix h1s0 ⟨_,rfl,rfl⟩ rfl rfl Tryz.underlying31 ty43 (by omega) rfl ?_
    intro bt56 ot56 ht56
    replace ht56 := ht56.ext hx
    rw [Int.toNat_natCast,encs_at rsc_len ps k hlt,ha] at ht56
    simp only [rsc] at ht56
    first | refine Rg.tm ⟨_,rfl,rfl⟩ rfl (t_fieldAddr fa43_3 rfl) rfl ?_ | refine Rg.so rfl rfl ?_
    refine Rg.tm ⟨_,rfl,rfl⟩ rfl (t_load ty3 rfl (Cells.get (i := 3) ht56 rfl)) rfl ?_
    first | refine Rg.tm ⟨_,rfl,rfl⟩ rfl (t_move rfl) rfl ?_ | refine Rg.so rfl rfl ?_
    first | refine Rg.tm ⟨_,rfl,rfl⟩ rfl (t_move rfl) rfl ?_ | refine Rg.so rfl rfl ?_
    refine Rg.ix h2s0 ⟨_,rfl,rfl⟩ rfl rfl Tryz.underlying31 ty43 (by omega) rfl ?_
    intro bt61 ot61 ht61
    replace ht61 := ht61.ext hx
    rw [Int.toNat_natCast,encs_at rsc_len qs k hlt2,hb] at ht61
    simp only [rsc] at ht61
    first | refine Rg.tm ⟨_,rfl,rfl⟩ rfl (t_fieldAddr fa43_3 rfl) rfl ?_ | refine Rg.so rfl rfl ?_
    refine Rg.tm ⟨_,rfl,rfl⟩ rfl (t_load ty3 rfl (Cells.get (i := 3) ht61 rfl)) rfl ?_
    refine Rg.tm ⟨_,rfl,rfl⟩ rfl (t_neqF rfl rfl (by first | exact q3 | omega)) rfl ?_
    first | refine Rg.tm trivial rfl (t_pickT rfl rfl) rfl ?_ | refine Rg.tm trivial rfl (t_pickF rfl rfl) rfl ?_
    refine Rg.tm trivial rfl (t_move rfl) rfl ?_
    first | refine Rg.tm ⟨_,rfl,rfl⟩ rfl (t_move rfl) rfl ?_ | refine Rg.so rfl rfl ?_
    first | refine Rg.tm ⟨_,rfl,rfl⟩ rfl (t_move rfl) rfl ?_ | refine Rg.so rfl rfl ?_
    refine Rg.ix h1s0 ⟨_,rfl,rfl⟩ rfl rfl Tryz.underlying31 ty43 (by omega) rfl ?_
    intro bt69 ot69 ht69
    replace ht69 := ht69.ext hx
    rw [Int.toNat_natCast,encs_at rsc_len ps k hlt,ha] at ht69
    simp only [rsc] at ht69
    first | refine Rg.tm ⟨_,rfl,rfl⟩ rfl (t_fieldAddr fa43_5 rfl) rfl ?_ | refine Rg.so rfl rfl ?_
    refine Rg.tm ⟨_,rfl,rfl⟩ rfl (t_load ty9 rfl (Cells.get (i := 5) ht69 rfl)) rfl ?_
    first | refine Rg.tm ⟨_,rfl,rfl⟩ rfl (t_move rfl) rfl ?_ | refine Rg.so rfl rfl ?_
    first | refine Rg.tm ⟨_,rfl,rfl⟩ rfl (t_move rfl) rfl ?_ | refine Rg.so rfl rfl ?_
    refine Rg.ix h2s0 ⟨_,rfl,rfl⟩ rfl rfl Tryz.underlying31 ty43 (by omega) rfl ?_
    intro bt74 ot74 ht74
    replace ht74 := ht74.ext hx
    rw [Int.toNat_natCast,encs_at rsc_len qs k hlt2,hb] at ht74
    simp only [rsc] at ht74
    first | refine Rg.tm ⟨_,rfl,rfl⟩ rfl (t_fieldAddr fa43_5 rfl) rfl ?_ | refine Rg.so rfl rfl ?_
    refine Rg.tm ⟨_,rfl,rfl⟩ rfl (t_load ty9 rfl (Cells.get (i := 5) ht74 rfl)) rfl ?_
    refine Rg.tm ⟨_,rfl,rfl⟩ rfl (t_sneq rfl rfl) rfl ?_
    rw [show (!decide (a6 = b6)) = true from by simp [q4]]
    first | refine Rg.tm trivial rfl (t_pickT rfl rfl) rfl ?_ | refine Rg.tm trivial rfl (t_pickF rfl rfl) rfl ?_
    refine Rg.tm trivial rfl (t_move rfl) rfl ?_
    refine Rg.so rfl rfl ?_
    refine Rg.so rfl rfl ?_
    refine Rg.so rfl rfl ?_
    refine Rg.so rfl rfl ?_
    refine Rg.so rfl rfl ?_
    refine Rg.so rfl rfl ?_
    refine Rg.so rfl rfl ?_
    refine Rg.so rfl rfl ?_
    refine Rg.so rfl rfl ?_
    refine Rg.so rfl rfl ?_
    refine Rg.so rfl rfl ?_
    refine Rg.so rfl rfl ?_
    first | refine Rg.tm trivial rfl (t_pickT rfl rfl) rfl ?_ | refine Rg.tm trivial rfl (t_pickF rfl rfl) rfl ?_
    refine Rg.done ?_
    refine Wp.condT rfl ?_
    refine Wp.seq (Wp.region ?_)
    refine Rg.tm trivial rfl (t_assign rfl) rfl ?_
    refine Rg.done ?_
    refine Wp.ret ?_
    refine ⟨[_],⟨rfl,trivial⟩,⟨false,rfl,fun h => (by cases h),fun e => ?_⟩,hx⟩
    rw [e,hib] at hia
    injection hia with hia
    injection hia with e1 e2 e3 e4 e5 e6
    exact absurd e6.symm q4
   refine Wp.seq (Wp.draw [0,1,2,3,4,5,6,7,8,9,10,11,12,13,14,15,16,17,18,19,20,21,22,23,24,25,26,27,28,29,30,31,32,33,34,35,36,37,38,39,40,41,42,43,44,45,46,47,48,49,50,51,52,53,54,55,56,57,58,59,60,61,62,63,64,65,66,67,68,69,70,71,72,73,74,75,76] [] mixed (by kernel_rfl) (by kernel_rfl) ?_)
   intro w1 hx1 _
   replace hx := hx.ext hx1
   refine Rg.tm trivial rfl (t_move rfl) rfl ?_
   refine Rg.tm trivial rfl (t_move rfl) rfl ?_
   refine Rg.ix h1s0 trivial rfl rfl Tryz.underlying31 ty43 (by omega) rfl ?_
   intro bt18 ot18 ht18
   replace ht18 := ht18.ext hx
   rw [Int.toNat_natCast,encs_at rsc_len ps k hlt,ha] at ht18
   simp only [rsc] at ht18
   refine Rg.tm trivial rfl (t_fieldAddr fa43_0 rfl) rfl ?_
   refine Rg.tm trivial rfl (t_load ty3 rfl (Cells.get (i := 0) ht18 rfl)) rfl ?_
   refine Rg.tm trivial rfl (t_move rfl) rfl ?_
   refine Rg.tm trivial rfl (t_move rfl) rfl ?_
   refine Rg.ix h2s0 trivial rfl rfl Tryz.underlying31 ty43 (by omega) rfl ?_
   intro bt23 ot23 ht23
   replace ht23 := ht23.ext hx
   rw [Int.toNat_natCast,encs_at rsc_len qs k hlt2,hb] at ht23
   simp only [rsc] at ht23
   refine Rg.tm trivial rfl (t_fieldAddr fa43_0 rfl) rfl ?_
   refine Rg.tm trivial rfl (t_load ty3 rfl (Cells.get (i := 0) ht23 rfl)) rfl ?_
   refine Rg.tm trivial rfl (t_neqF rfl rfl (by first | exact q0 | omega)) rfl ?_
   refine Rg.tm trivial rfl (t_move rfl) rfl ?_
   first | refine Rg.tm ⟨_,rfl,rfl⟩ rfl (t_move rfl) rfl ?_ | refine Rg.so rfl rfl ?_
   first | refine Rg.tm ⟨_,rfl,rfl⟩ rfl (t_move rfl) rfl ?_ | refine Rg.so rfl rfl ?_
   refine Rg.ix h1s0 ⟨_,rfl,rfl⟩ rfl rfl Tryz.underlying31 ty43 (by omega) rfl ?_
   intro bt30 ot30 ht30
   replace ht30 := ht30.ext hx
   rw [Int.toNat_natCast,encs_at rsc_len ps k hlt,ha] at ht30
   simp only [rsc] at ht30
   first | refine Rg.tm ⟨_,rfl,rfl⟩ rfl (t_fieldAddr fa43_1 rfl) rfl ?_ | refine Rg.so rfl rfl ?_
   refine Rg.tm ⟨_,rfl,rfl⟩ rfl (t_load ty3 rfl (Cells.get (i := 1) ht30 rfl)) rfl ?_
   first | refine Rg.tm ⟨_,rfl,rfl⟩ rfl (t_move rfl) rfl ?_ | refine Rg.so rfl rfl ?_
   first | refine Rg.tm ⟨_,rfl,rfl⟩ rfl (t_move rfl) rfl ?_ | refine Rg.so rfl rfl ?_
   refine Rg.ix h2s0 ⟨_,rfl,rfl⟩ rfl rfl Tryz.underlying31 ty43 (by omega) rfl ?_
   intro bt35 ot35 ht35
   replace ht35 := ht35.ext hx
   rw [Int.toNat_natCast,encs_at rsc_len qs k hlt2,hb] at ht35
   simp only [rsc] at ht35
   first | refine Rg.tm ⟨_,rfl,rfl⟩ rfl (t_fieldAddr fa43_1 rfl) rfl ?_ | refine Rg.so rfl rfl ?_
   refine Rg.tm ⟨_,rfl,rfl⟩ rfl (t_load ty3 rfl (Cells.get (i := 1) ht35 rfl)) rfl ?_
   refine Rg.tm ⟨_,rfl,rfl⟩ rfl (t_neqF rfl rfl (by first | exact q1 | omega)) rfl ?_
   first | refine Rg.tm trivial rfl (t_pickT rfl rfl) rfl ?_ | refine Rg.tm trivial rfl (t_pickF rfl rfl) rfl ?_
   refine Rg.tm trivial rfl (t_move rfl) rfl ?_
   first | refine Rg.tm ⟨_,rfl,rfl⟩ rfl (t_move rfl) rfl ?_ | refine Rg.so rfl rfl ?_
   first | refine Rg.tm ⟨_,rfl,rfl⟩ rfl (t_move rfl) rfl ?_ | refine Rg.so rfl rfl ?_
   refine Rg.ix h1s0 ⟨_,rfl,rfl⟩ rfl rfl Tryz.underlying31 ty43 (by omega) rfl ?_
   intro bt43 ot43 ht43
   replace ht43 := ht43.ext hx
   rw [Int.toNat_natCast,encs_at rsc_len ps k hlt,ha] at ht43
   simp only [rsc] at ht43
   first | refine Rg.tm ⟨_,rfl,rfl⟩ rfl (t_fieldAddr fa43_2 rfl) rfl ?_ | refine Rg.so rfl rfl ?_
   refine Rg.tm ⟨_,rfl,rfl⟩ rfl (t_load ty40 rfl (Cells.get (i := 2) ht43 rfl)) rfl ?_
   first | refine Rg.tm ⟨_,rfl,rfl⟩ rfl (t_move rfl) rfl ?_ | refine Rg.so rfl rfl ?_
   first | refine Rg.tm ⟨_,rfl,rfl⟩ rfl (t_move rfl) rfl ?_ | refine Rg.so rfl rfl ?_
   refine Rg.ix h2s0 ⟨_,rfl,rfl⟩ rfl rfl Tryz.underlying31 ty43 (by omega) rfl ?_
   intro bt48 ot48 ht48
   replace ht48 := ht48.ext hx
   rw [Int.toNat_natCast,encs_at rsc_len qs k hlt2,hb] at ht48
   simp only [rsc] at ht48
   first | refine Rg.tm ⟨_,rfl,rfl⟩ rfl (t_fieldAddr fa43_2 rfl) rfl ?_ | refine Rg.so rfl rfl ?_
   refine Rg.tm ⟨_,rfl,rfl⟩ rfl (t_load ty40 rfl (Cells.get (i := 2) ht48 rfl)) rfl ?_
   refine Rg.tm ⟨_,rfl,rfl⟩ rfl (t_neqF rfl rfl (by first | exact q2 | omega)) rfl ?_
   first | refine Rg.tm trivial rfl (t_pickT rfl rfl) rfl ?_ | refine Rg.tm trivial rfl (t_pickF rfl rfl) rfl ?_
   refine Rg.tm trivial rfl (t_move rfl) rfl ?_
   first | refine Rg.tm ⟨_,rfl,rfl⟩ rfl (t_move rfl) rfl ?_ | refine Rg.so rfl rfl ?_
   first | refine Rg.tm ⟨_,rfl,rfl⟩ rfl (t_move rfl) rfl ?_ | refine Rg.so rfl rfl ?_
   refine Rg.ix h1s0 ⟨_,rfl,rfl⟩ rfl rfl Tryz.underlying31 ty43 (by omega) rfl ?_
   intro bt56 ot56 ht56
   replace ht56 := ht56.ext hx
   rw [Int.toNat_natCast,encs_at rsc_len ps k hlt,ha] at ht56
   simp only [rsc] at ht56
   first | refine Rg.tm ⟨_,rfl,rfl⟩ rfl (t_fieldAddr fa43_3 rfl) rfl ?_ | refine Rg.so rfl rfl ?_
   refine Rg.tm ⟨_,rfl,rfl⟩ rfl (t_load ty3 rfl (Cells.get (i := 3) ht56 rfl)) rfl ?_
   first | refine Rg.tm ⟨_,rfl,rfl⟩ rfl (t_move rfl) rfl ?_ | refine Rg.so rfl rfl ?_
   first | refine Rg.tm ⟨_,rfl,rfl⟩ rfl (t_move rfl) rfl ?_ | refine Rg.so rfl rfl ?_
   refine Rg.ix h2s0 ⟨_,rfl,rfl⟩ rfl rfl Tryz.underlying31 ty43 (by omega) rfl ?_
   intro bt61 ot61 ht61
   replace ht61 := ht61.ext hx
   rw [Int.toNat_natCast,encs_at rsc_len qs k hlt2,hb] at ht61
   simp only [rsc] at ht61
   first | refine Rg.tm ⟨_,rfl,rfl⟩ rfl (t_fieldAddr fa43_3 rfl) rfl ?_ | refine Rg.so rfl rfl ?_
   refine Rg.tm ⟨_,rfl,rfl⟩ rfl (t_load ty3 rfl (Cells.get (i := 3) ht61 rfl)) rfl ?_
   refine Rg.tm ⟨_,rfl,rfl⟩ rfl (t_neqF rfl rfl (by first | exact q3 | omega)) rfl ?_
   first | refine Rg.tm trivial rfl (t_pickT rfl rfl) rfl ?_ | refine Rg.tm trivial rfl (t_pickF rfl rfl) rfl ?_
   refine Rg.tm trivial rfl (t_move rfl) rfl ?_
   first | refine Rg.tm ⟨_,rfl,rfl⟩ rfl (t_move rfl) rfl ?_ | refine Rg.so rfl rfl ?_
   first | refine Rg.tm ⟨_,rfl,rfl⟩ rfl (t_move rfl) rfl ?_ | refine Rg.so rfl rfl ?_
   refine Rg.ix h1s0 ⟨_,rfl,rfl⟩ rfl rfl Tryz.underlying31 ty43 (by omega) rfl ?_
   intro bt69 ot69 ht69
   replace ht69 := ht69.ext hx
   rw [Int.toNat_natCast,encs_at rsc_len ps k hlt,ha] at ht69
   simp only [rsc] at ht69
   first | refine Rg.tm ⟨_,rfl,rfl⟩ rfl (t_fieldAddr fa43_5 rfl) rfl ?_ | refine Rg.so rfl rfl ?_
   refine Rg.tm ⟨_,rfl,rfl⟩ rfl (t_load ty9 rfl (Cells.get (i := 5) ht69 rfl)) rfl ?_
   first | refine Rg.tm ⟨_,rfl,rfl⟩ rfl (t_move rfl) rfl ?_ | refine Rg.so rfl rfl ?_
   first | refine Rg.tm ⟨_,rfl,rfl⟩ rfl (t_move rfl) rfl ?_ | refine Rg.so rfl rfl ?_
   refine Rg.ix h2s0 ⟨_,rfl,rfl⟩ rfl rfl Tryz.underlying31 ty43 (by omega) rfl ?_
   intro bt74 ot74 ht74
   replace ht74 := ht74.ext hx
   rw [Int.toNat_natCast,encs_at rsc_len qs k hlt2,hb] at ht74
   simp only [rsc] at ht74
   first | refine Rg.tm ⟨_,rfl,rfl⟩ rfl (t_fieldAddr fa43_5 rfl) rfl ?_ | refine Rg.so rfl rfl ?_
   refine Rg.tm ⟨_,rfl,rfl⟩ rfl (t_load ty9 rfl (Cells.get (i := 5) ht74 rfl)) rfl ?_
   refine Rg.tm ⟨_,rfl,rfl⟩ rfl (t_sneq rfl rfl) rfl ?_
   rw [show (!decide (a6 = b6)) = false from by simp [q4]]
   first | refine Rg.tm trivial rfl (t_pickT rfl rfl) rfl ?_ | refine Rg.tm trivial rfl (t_pickF rfl rfl) rfl ?_
   refine Rg.tm trivial rfl (t_move rfl) rfl ?_
   first | refine Rg.tm ⟨_,rfl,rfl⟩ rfl (t_move rfl) rfl ?_ | refine Rg.so rfl rfl ?_
   first | refine Rg.tm ⟨_,rfl,rfl⟩ rfl (t_move rfl) rfl ?_ | refine Rg.so rfl rfl ?_
   refine Rg.ix h1s0 ⟨_,rfl,rfl⟩ rfl rfl Tryz.underlying31 ty43 (by omega) rfl ?_
   intro bt82 ot82 ht82
   replace ht82 := ht82.ext hx
   rw [Int.toNat_natCast,encs_at rsc_len ps k hlt,ha] at ht82
   simp only [rsc] at ht82
   first | refine Rg.tm ⟨_,rfl,rfl⟩ rfl (t_fieldAddr fa43_4 rfl) rfl ?_ | refine Rg.so rfl rfl ?_
   refine Rg.tm ⟨_,rfl,rfl⟩ rfl (t_load ty41 rfl (Cells.get (i := 4) ht82 rfl)) rfl ?_
   first | refine Rg.tm ⟨_,rfl,rfl⟩ rfl (t_move rfl) rfl ?_ | refine Rg.so rfl rfl ?_
   first | refine Rg.tm ⟨_,rfl,rfl⟩ rfl (t_move rfl) rfl ?_ | refine Rg.so rfl rfl ?_
   refine Rg.ix h2s0 ⟨_,rfl,rfl⟩ rfl rfl Tryz.underlying31 ty43 (by omega) rfl ?_
   intro bt87 ot87 ht87
   replace ht87 := ht87.ext hx
   rw [Int.toNat_natCast,encs_at rsc_len qs k hlt2,hb] at ht87
   simp only [rsc] at ht87
   first | refine Rg.tm ⟨_,rfl,rfl⟩ rfl (t_fieldAddr fa43_4 rfl) rfl ?_ | refine Rg.so rfl rfl ?_
   refine Rg.tm ⟨_,rfl,rfl⟩ rfl (t_load ty41 rfl (Cells.get (i := 4) ht87 rfl)) rfl ?_
   refine Rg.wdB ⟨_,rfl,rfl⟩ rfl (w_call Tryz.call23 rfl (equalI_ok (xs := a5) (ys := b5) (by rw [encs_ei]; exact (hma.ext hx).slc) (by rw [encs_ei]; exact (hmb.ext hx).slc) (Row.max hma))) rfl (fun _ _ h => h.2) ?_
   rintro _ w9 ⟨⟨bb,rfl,hbb⟩,hx9⟩
   replace hx := hx.ext hx9
   refine Rg.tm ⟨_,rfl,rfl⟩ rfl (t_notB rfl) rfl ?_
   first | refine Rg.tm trivial rfl (t_pickT rfl rfl) rfl ?_ | refine Rg.tm trivial rfl (t_pickF rfl rfl) rfl ?_
   refine Rg.done ?_
   cases bb with
   | false =>
    refine Wp.condT rfl ?_
    refine Wp.seq (Wp.region ?_)
    refine Rg.tm trivial rfl (t_assign rfl) rfl ?_
    refine Rg.done ?_
    refine Wp.ret ?_
    refine ⟨[_],⟨rfl,trivial⟩,⟨false,rfl,fun h => (by cases h),fun e => ?_⟩,hx⟩
    rw [e,hib] at hia
    injection hia with hia
    injection hia with e1 e2 e3 e4 e5 e6
    exact absurd (hbb.2 e5.symm) (by decide)
   | true =>
    refine Wp.condF rfl ?_
    refine Wp.skip ?_
    refine Wp.region ?_
    first | refine Rg.tm trivial rfl (t_addI rfl rfl (by omega)) rfl ?_ | refine Rg.tm trivial rfl (t_add rfl rfl) rfl ?_
    refine Rg.tm trivial rfl (t_move rfl) rfl ?_
    refine Rg.done ?_
    refine ⟨k + 1,by repeat (first | exact .nil | refine .cons rfl ?_),⟨hlt,fun j hj => ?_,hx⟩,by omega⟩
    rcases Nat.lt_succ_iff_lt_or_eq.1 hj with h | h
    ·exact hpre j h
    ·subst h
     rw [hia,hib,q0,q1,q2,q3,q4,hbb.1 rfl]
  ·skip
   refine Wp.seq (Wp.region ?_)
   first | refine Rg.tm trivial rfl (t_lssT rfl rfl (by omega)) rfl ?_ | refine Rg.tm trivial rfl (t_lssF rfl rfl (by omega)) rfl ?_ | refine Rg.tm trivial rfl (t_lss rfl rfl) rfl ?_
   refine Rg.done ?_
   refine Wp.seq ?_
   refine Wp.condF rfl ?_
   refine Wp.exit ?_
   refine Wp.seq (Wp.region ?_)
   refine Rg.tm trivial rfl (t_assign rfl) rfl ?_
   refine Rg.done ?_
   refine Wp.ret ?_
   refine ⟨[_],⟨rfl,trivial⟩,⟨true,rfl,fun _ => ?_,fun _ => rfl⟩,hx⟩
   refine List.ext_getElem? fun j => ?_
   by_cases hj : j < ps.length
   ·exact hpre j (by omega)
   ·rw [List.getElem?_eq_none (by rw [List.length_map]; omega),List.getElem?_eq_none (by rw [List.length_map]; omega)]
 ·skip
  refine Cl.enter Tryz.func10 rfl Tryz.ntmps10 rfl rfl ?_
  refine Wp.seq (Wp.region ?_)
  refine Rg.tm trivial rfl (t_assign rfl) rfl ?_
  refine Rg.done ?_
  refine Wp.seq ?_
  refine Wp.seq (Wp.region ?_)
  refine Rg.tm trivial rfl (t_move rfl) rfl ?_
  refine Rg.tm trivial rfl (t_lenC h1s0 Tryz.underlying31 rfl) rfl ?_
  refine Rg.tm trivial rfl (t_move rfl) rfl ?_
  refine Rg.tm trivial rfl (t_lenC h2s0 Tryz.underlying31 rfl) rfl ?_
  first | refine Rg.tm trivial rfl (t_neqT rfl rfl (by omega)) rfl ?_ | refine Rg.tm trivial rfl (t_neqF rfl rfl (by omega)) rfl ?_ | refine Rg.tm trivial rfl (t_neq rfl rfl) rfl ?_
  refine Rg.done ?_
  refine Wp.condT rfl ?_
  refine Wp.seq (Wp.region ?_)
  refine Rg.tm trivial rfl (t_assign rfl) rfl ?_
  refine Rg.done ?_
  refine Wp.ret ?_
  exact ⟨[_],⟨rfl,trivial⟩,⟨false,rfl,fun h => (by cases h),fun e => absurd (by have := congrArg List.length e; simpa using this) hnm⟩,hx⟩
end Go.Proofs.YtliofpegbcegiaaGreatDoor
