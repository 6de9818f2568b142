/- The reparse package: reuseRest. Printed by r6/Vg.py. -/
import Derived.Test.YtcelfjbajdffkaaGreatDoorXs
set_option linter.unusedVariables false
set_option linter.unusedSimpArgs false
namespace Go.Proofs.YtcelfjbajdffkaaGreatDoor.Par
set_option maxRecDepth 20000
open Go.Gx Go.RowKit Go.Lib
open Lexi (Asc)
open Lexi (tok toks tcs tcs_at tcs_drop tcs_length TE)
def zeroG : Gt := .mk 0 ⟨#[]⟩ (.slice none 0 0) []
theorem zeroG_ok {y : Nat → Prop} {w : World} {b : Nat} {nv : Value} : GF y w b nv zeroG := .mk ⟨rfl,none,0,rfl,Nat.le_refl _,.inl rfl⟩ rfl (fun b hb => by cases hb) fun g hg => absurd hg List.not_mem_nil
section
variable {y : Nat → Prop} {wA w : World} {b : Nat} {ov tv nv : Value} {off sh st re : Int} {gs : List Gt} {s : ByteArray} {l : List Gt}
def RestR (y : Nat → Prop) (wA : World) (b : Nat) (ov tv : Value) (off sh st re : Int) (gs : List Gt) (s : ByteArray) (l : List Gt) (nl : Nat) (nv : Value) (u : Value) (w' : World) : Prop :=
 (u = .bool false ∧ Up y wA w' b ov tv nv off sh st re gs) ∨
 ∃ (i : Nat) (nv' : Value) (re' : Int),u = .bool true ∧ i < l.length ∧ ((txtL ((erL l).take i)).length : Int) = off - sh ∧ (nl : Int) ≤ st ∧ re ≤ re' ∧ re' ≤ re + (l.length - i : Nat) ∧ Up y wA w' b ov tv nv' off sh st re' (gs ++ l.drop i)
set_option maxHeartbeats 2000000 in
theorem rest_ok (hU : Up y wA w b ov tv nv off sh st re gs) (ho : SlC wA ov 6 l.length (encs Cm.cells (cms s 0 l))) (hg : GsY y wA l) (hl : l.length ≤ 400000) (hf : gs.length ≤ 400000) {nl : Nat} {tcv : List Value} (hs : SlC wA tv 2 nl tcv) (hr : -1000000 ≤ off - sh ∧ off - sh ≤ 1000000) (hre : 0 ≤ re ∧ re ≤ 1000000) :
  Cl Tryz.prog 41 #[.pointer (some ⟨b,0,none⟩)] w (RestR y wA b ov tv off sh st re gs s l nl nv) := by
 have hU4 := hU
 have hcl := cms_length s l 0
 have hclo : SlC wA ov 6 (cms s 0 l).length (encs Cm.cells (cms s 0 l)) := by rw [hcl]; exact ho
 have hgm : ∀ c ∈ cms s 0 l,GoL wA c.g := fun c hc => GoY.go (hg _ (by rw [← cms_g s l 0]; exact List.mem_map_of_mem hc))
 refine Cl.enter Tryz.func41 rfl Tryz.ntmps41 rfl rfl (.sr (Rg.wd trivial (w_boxed (cs := [.pointer (some ⟨b,0,none⟩)]) rfl rfl) rfl ?_))
 rintro _ w1 ⟨b1,rfl,q1,hx1,hv1⟩
 replace hU4 := hU4.ext hx1
 refine .as rfl rfl (.done (.sr (.tq (t_load ty74 rfl (Cells.get (i := 0) hv1.cells rfl)) rfl (.tq (t_nilCheck rfl) rfl (.tq (t_fieldAddr fa79_0 rfl) rfl (.tq (t_load ty75 rfl (Cells.get (i := 0) hU4.var.cells rfl)) rfl (.tq (t_makeFuncB (us := []) (vs := [.pointer (some ⟨b1,0,none⟩)]) rfl rfl) rfl ?_)))))))
 refine Rg.wd trivial (w_call Tryz.call77 rfl (idxC_ok (p := fun c => decide ((c.start : Int) = off - sh)) (hclo.ext hU4.ex) (fun c hc => cm_one (hgm c hc)) (fun w9 hx9 m hm => clo78_ok (hU4.var.ext hx9) (hv1.ext hx9) (cm_one (hgm m hm)) hr) (by omega))) rfl ?_
 rintro _ w2 ⟨rfl,hx2⟩
 replace hU4 := hU4.ext hx2
 replace hv1 := hv1.ext hx2
 refine .as rfl rfl (.done (.seq ?_))
 cases hfi : (cms s 0 l).findIdx? (fun c => decide ((c.start : Int) = off - sh)) with
 | none =>
  refine Wp.seq (Wp.draw [0,1,2,3,4,5,6,7,8,9,10,11,12,13] [] mixed (by kernel_rfl) (by kernel_rfl) ?_)
  intro w3 hx3 _
  replace hU4 := hU4.ext hx3
  replace hv1 := hv1.ext hx3
  refine .mv rfl rfl ?_
  refine .tq (t_lssT rfl rfl (by decide)) rfl ?_
  refine .mv rfl rfl (.so rfl rfl (.so rfl rfl (.so rfl rfl (.so rfl rfl (.so rfl rfl (.so rfl rfl (.so rfl rfl (.so rfl rfl (.so rfl rfl (.so rfl rfl ?_))))))))))
  first | refine .tq (t_pickT rfl rfl) rfl ?_ | refine .tq (t_pickF rfl rfl) rfl ?_
  refine .done (.condT rfl (.sr (.as rfl rfl (.done (Wp.ret ?_)))))
  exact ⟨[_],⟨rfl,trivial⟩,.inl ⟨rfl,hU4⟩⟩
 | some i =>
  obtain ⟨hil,hiq,_⟩ := List.findIdx?_eq_some_iff_getElem.1 hfi
  rw [cms_at s l i hil] at hiq
  simp only [decide_eq_true_eq] at hiq
  have hil2 : i < l.length := by omega
  rw [show idx (some i) = ((i : Nat) : Int) from rfl]
  by_cases hst : (nl : Int) ≤ st
  ·skip
   refine Wp.seq (Wp.draw [0,1,2,3,4,5,6,7,8,9,10,11,12,13] [] mixed (by kernel_rfl) (by kernel_rfl) ?_)
   intro w3 hx3 _
   replace hU4 := hU4.ext hx3
   replace hv1 := hv1.ext hx3
   refine .mv rfl rfl ?_
   refine .tq (t_lssF rfl rfl (by omega)) rfl ?_
   refine .mv rfl rfl (.gd (t_load ty74 rfl (Cells.get (i := 0) hv1.cells rfl)) rfl ?_)
   first | refine .gd (t_nilCheck rfl) rfl ?_ | refine .so rfl rfl ?_
   first | refine .gd (t_fieldAddr fa79_1 rfl) rfl ?_ | refine .so rfl rfl ?_
   refine .gd (t_load ty49 rfl (Cells.get (i := 1) hU4.var.cells rfl)) rfl (.gd (t_lenC hs Tryz.underlying49 rfl) rfl (.gd (t_load ty74 rfl (Cells.get (i := 0) hv1.cells rfl)) rfl ?_))
   first | refine .gd (t_nilCheck rfl) rfl ?_ | refine .so rfl rfl ?_
   first | refine .gd (t_fieldAddr fa79_4 rfl) rfl ?_ | refine .so rfl rfl ?_
   refine .gd (t_load ty3 rfl (Cells.get (i := 4) hU4.var.cells rfl)) rfl ?_
   refine .gd (t_gtrF rfl rfl (by omega)) rfl ?_
   first | refine .tq (t_pickT rfl rfl) rfl ?_ | refine .tq (t_pickF rfl rfl) rfl ?_
   refine .done (.condF rfl (Wp.skip (.seq (.sr (.tq (t_load ty74 rfl (Cells.get (i := 0) hv1.cells rfl)) rfl (.tq (t_nilCheck rfl) rfl (.tq (t_fieldAddr fa79_0 rfl) rfl (.tq (t_load ty75 rfl (Cells.get (i := 0) hU4.var.cells rfl)) rfl (.mv rfl rfl ?_)))))))))
   have hcl0 := hclo
   refine Rg.sl hcl0 trivial rfl Tryz.underlying75 ty116 rfl rfl (by omega) rfl ?_
   intro vt31 ht310
   have h31 : SlC wA vt31 6 ((cms s 0 l).drop i).length (encs Cm.cells ((cms s 0 l).drop i)) := by
    have h := ht310
    simp only [Int.toNat_natCast] at h
    rw [encs_drop Cm.len,show (encs Cm.cells ((cms s 0 l).drop i)).take (((cms s 0 l).length - i) * 6) = encs Cm.cells ((cms s 0 l).drop i) from List.take_of_length_le (by rw [encs_len Cm.len,List.length_drop]; exact Nat.le_refl _)] at h
    rw [List.length_drop]
    exact h
   have hdl : ((cms s 0 l).drop i).length = l.length - i := by rw [List.length_drop,hcl]
   refine .tq (t_lenC h31 Tryz.underlying75 rfl) rfl (.mv rfl rfl (.done (Wp.block ?_)))
   have hUx : Up y wA w3 b ov tv nv off sh st re (gs ++ (l.drop i).take 0) := by simpa using hU4
   refine Wp.loop (ι := Nat) (fun j => [(1,.pointer (some ⟨b1,0,none⟩)),(31,vt31),(32,.int .i64 ((cms s 0 l).drop i).length),(33,.int .i64 j)])
    (fun j w' => j ≤ l.length - i ∧ Var w' b1 [.pointer (some ⟨b,0,none⟩)] 74 ∧ ∃ nv re',Up y wA w' b ov tv nv off sh st re' (gs ++ (l.drop i).take j) ∧ re ≤ re' ∧ re' ≤ re + (j : Nat)) (fun j => l.length - i - j) 0 (by repeat (first | exact .nil | refine .cons rfl ?_)) ⟨Nat.zero_le _,hv1,_,_,hUx,Int.le_refl _,by omega⟩ ?_
   clear hU hU4 hUx hv1
   rintro j w3 ⟨hj,hv1,nv,re',hU4,hre1,hre2⟩
   have h310 := h31
   by_cases hlt : j < l.length - i
   ·have hlc : j < ((cms s 0 l).drop i).length := by omega
    have hlD : j < (l.drop i).length := by rw [List.length_drop]; exact hlt
    obtain ⟨c,hce⟩ : ∃ c,((cms s 0 l).drop i)[j] = c := ⟨_,rfl⟩
    have hcg : c.g = (l.drop i)[j] := by
     rw [← hce,List.getElem_drop,List.getElem_drop,cms_at]
    have hgc : GoY y wA c.g := hg _ (by rw [hcg]; exact List.mem_of_mem_drop (List.getElem_mem hlD))
    obtain ⟨⟨ck,ctx,ccv,ckids⟩,cs,cf,cl⟩ := c
    simp only at hcg hgc
    have hg5 := hU4.base hgc
    have hgl : (gs ++ (l.drop i).take j).length = gs.length + j := by rw [List.length_append,List.length_take,List.length_drop]; omega
    obtain ⟨gsj,hgsj⟩ : ∃ z,gs ++ (l.drop i).take j = z := ⟨_,rfl⟩
    have hgsj1 : gs ++ (l.drop i).take (j + 1) = gsj ++ [(Gt.mk ck ctx ccv ckids)] := by rw [List.take_succ_eq_append_getElem hlD,← List.append_assoc,hgsj,hcg]
    rw [hgsj] at hU4 hgl
    obtain ⟨pc,cc,rfl⟩ := hU4.shape
    obtain ⟨cp,cn,ccc,rfl⟩ : ∃ p n c,ccv = .slice p n c := by
     cases hgc with
     | mk h1 _ _ _ =>
      obtain ⟨_,p,c,e,_⟩ := h1
      exact ⟨_,_,_,e⟩
    refine .sr ?_
    first | refine .tq (t_lssT rfl rfl (by omega)) rfl ?_ | refine .tq (t_lssF rfl rfl (by omega)) rfl ?_ | refine .tq (t_lss rfl rfl) rfl ?_
    refine .done (.seq (.condT rfl (Wp.skip (.seq (Wp.block (.sr ?_))))))
    refine Rg.ix h310 trivial rfl rfl Tryz.underlying75 ty116 (by omega) rfl ?_
    intro bt35 ot35 ht35
    replace ht35 := ht35.ext hU4.ex
    rw [Int.toNat_natCast,encs_at Cm.len _ j hlc,hce] at ht35
    refine .tq (t_loadA rfl ht35 (by exact ty116)) rfl ?_
    refine Rg.wd trivial (w_new Tryz.zeroValue116 rfl) rfl ?_
    rintro _ wab5 ⟨b5,rfl,qb5,hxab5,hvab5⟩
    refine Rg.wn trivial (w_put (cs := [.int .i64 ck,.string ctx,.slice cp cn ccc,.int .i64 cs,.int .i64 cf,.int .i64 cl]) hvab5 rfl rfl rfl (ty116) (rfl) (rfl)) ?_
    rintro _ w4 ⟨hub5,hvb5⟩
    have hx4 := hxab5.upd hub5 (Nat.le_of_eq qb5.symm)
    clear hvab5 hub5 hxab5
    replace hU4 := hU4.ext hx4
    replace hg5 := hg5.ext hx4
    replace hv1 := hv1.ext hx4
    replace ht35 := ht35.ext hx4
    clear qb5
    refine .done (.seq ?_)
    refine Wp.seq (Wp.cut (fun L w' => ∃ i_ : Bool,Sub ((fun d => [(1,.pointer (some ⟨b1,0,none⟩)),(5,.pointer (some ⟨b5,0,none⟩)),(31,vt31),(32,.int .i64 ((cms s 0 l).drop i).length),(33,.int .i64 j),(38,.bool d)]) i_) L ∧ (fun _ w' => Up y wA w' b ov tv (.slice pc gsj.length cc) off sh st re' gsj ∧ Var w' b1 [.pointer (some ⟨b,0,none⟩)] 74 ∧ Var w' b5 [.int .i64 ck,.string ctx,.slice cp cn ccc,.int .i64 cs,.int .i64 cf,.int .i64 cl] 116 ∧ GF y w' b (.slice pc gsj.length cc) (Gt.mk ck ctx (.slice cp cn ccc) ckids)) i_ w') ?_ ?_)
    ·skip
     refine Wp.drawB (fun _ => True) 4 mixed ?_
     intro w5 hx5 hh5
     replace hU4 := hU4.ext hx5
     replace hg5 := hg5.ext hx5
     replace hv1 := hv1.ext hx5
     replace ht35 := ht35.ext hx5
     replace hvb5 := hvb5.ext hx5
     refine ⟨trivial,?_⟩
     refine Qb.alt1 (i := 0) (by kernel_rfl) ?_
     refine ⟨_,_,rfl,rfl,trivial,w_new Tryz.zeroValue4 rfl,rfl,fun _ _ h => trivial,?_⟩
     rintro _ w6 ⟨b37,rfl,q37,hxr,hv37⟩
     refine Qb.alt2 (i := 1) (j := 2) (by kernel_rfl) ?_ ?_
     ·skip
      refine ⟨_,_,rfl,rfl,trivial,w_put hv37 rfl rfl rfl ty4 rfl rfl,rfl,fun _ _ h => trivial,?_⟩
      rintro _ w7 ⟨huS,hvS⟩
      replace hxr := hxr.upd huS (Nat.le_of_eq q37.symm)
      clear hv37 huS
      have hv37 := hvS
      clear hvS
      refine Qb.alt1 (i := 2) (by kernel_rfl) ?_
      refine ⟨_,_,rfl,rfl,trivial,w_put hv37 rfl rfl rfl ty4 rfl rfl,rfl,fun _ _ h => trivial,?_⟩
      rintro _ w8 ⟨huS,hvS⟩
      replace hxr := hxr.upd huS (Nat.le_of_eq q37.symm)
      clear hv37 huS
      have hv37 := hvS
      clear hvS
      refine Qb.alt1 (i := 3) (by kernel_rfl) ?_
      refine ⟨_,_,rfl,rfl,trivial,(t_load ty4 rfl (Cells.get (i := 0) hv37.cells rfl)).wl,rfl,fun _ _ h => trivial,?_⟩
      rintro _ w9 ⟨rfl,rfl⟩
      refine Qb.done (by kernel_rfl) ?_
      exact ⟨false,by repeat (first | exact .nil | refine .cons rfl ?_),hU4.ext hxr,hv1.ext hxr,hvb5.ext hxr,hg5.ext hxr⟩
     ·skip
      refine ⟨_,_,rfl,rfl,trivial,w_put hv37 rfl rfl rfl ty4 rfl rfl,rfl,fun _ _ h => trivial,?_⟩
      rintro _ w7 ⟨huS,hvS⟩
      replace hxr := hxr.upd huS (Nat.le_of_eq q37.symm)
      clear hv37 huS
      have hv37 := hvS
      clear hvS
      refine Qb.alt1 (i := 1) (by kernel_rfl) ?_
      refine ⟨_,_,rfl,rfl,trivial,w_put hv37 rfl rfl rfl ty4 rfl rfl,rfl,fun _ _ h => trivial,?_⟩
      rintro _ w8 ⟨huS,hvS⟩
      replace hxr := hxr.upd huS (Nat.le_of_eq q37.symm)
      clear hv37 huS
      have hv37 := hvS
      clear hvS
      refine Qb.alt1 (i := 3) (by kernel_rfl) ?_
      refine ⟨_,_,rfl,rfl,trivial,(t_load ty4 rfl (Cells.get (i := 0) hv37.cells rfl)).wl,rfl,fun _ _ h => trivial,?_⟩
      rintro _ w9 ⟨rfl,rfl⟩
      refine Qb.done (by kernel_rfl) ?_
      exact ⟨true,by repeat (first | exact .nil | refine .cons rfl ?_),hU4.ext hxr,hv1.ext hxr,hvb5.ext hxr,hg5.ext hxr⟩
    ·rintro L' wF ⟨dd,hs7,hU4,hv1,hvb5,hg5⟩
     refine Wp.sub hs7 ?_
     cases dd with
     | true =>
      have hgZ : GF y wF b (.slice pc gsj.length cc) zeroG := zeroG_ok
      have hgT := hg5
      clear hg5
      have hg5 := hgZ
      obtain ⟨i25,hi25,hz25,hsi25,hby25⟩ := inf25
      refine .condT rfl ?_
      refine Wp.seq (Wp.cut (fun L w' => ∃ i_ : Value,Sub ((fun nv' => [(1,.pointer (some ⟨b1,0,none⟩)),(5,.pointer (some ⟨b5,0,none⟩)),(31,vt31),(32,.int .i64 ((cms s 0 l).drop i).length),(33,.int .i64 j),(44,.agg (Gt.mk ck ctx (.slice cp cn ccc) ckids).cells.toArray),(45,.int .i64 gsj.length),(47,nv')]) i_) L ∧ (fun nv' w' => GF y w' b nv' (Gt.mk ck ctx (.slice cp cn ccc) ckids) ∧ Up y wA w' b ov tv nv' off sh st re' (gsj ++ [zeroG]) ∧ Var w' b5 [.int .i64 ck,.string ctx,.slice cp cn ccc,.int .i64 cs,.int .i64 cf,.int .i64 cl] 116 ∧ Var w' b1 [.pointer (some ⟨b,0,none⟩)] 74) i_ w') ?_ ?_)
      ·skip
       refine Wp.drawB (fun w' => Var w' b [ov,tv,.int .i64 off,.int .i64 sh,.int .i64 st,.int .i64 re',.slice pc gsj.length cc] 79 ∧ Var w' b5 [.int .i64 ck,.string ctx,.slice cp cn ccc,.int .i64 cs,.int .i64 cf,.int .i64 cl] 116 ∧ Var w' b1 [.pointer (some ⟨b,0,none⟩)] 74) 8 mixed ?_
       intro w11 hx11 hh11
       replace hU4 := hU4.ext hx11
       replace hv1 := hv1.ext hx11
       replace hvb5 := hvb5.ext hx11
       replace hg5 := hg5.ext hx11
       refine ⟨⟨hU4.var,hvb5,hv1⟩,?_⟩
       refine Qb.tame (by kernel_rfl) 0 rfl (by kernel_rfl) trivial (ts fun wz hkz => by exact t_load ty74 rfl (Cells.get (i := 0) hkz.2.2.cells rfl)) rfl ?_
       refine Qb.tameW (by kernel_rfl) 1 rfl (by kernel_rfl) trivial (tw_of fun wz => t_nilCheck rfl) rfl ?_
       refine Qb.tameW (by kernel_rfl) 2 rfl (by kernel_rfl) trivial (tw_of fun wz => t_fieldAddr fa79_6 rfl) rfl ?_
       refine Qb.tame (by kernel_rfl) 3 rfl (by kernel_rfl) trivial (ts fun wz hkz => by exact t_load ty23 rfl (Cells.get (i := 6) hkz.1.cells rfl)) rfl ?_
       refine Qb.tameW (by kernel_rfl) 4 rfl (by kernel_rfl) trivial (tw_of fun wz => t_fieldAddr fa116_0 rfl) rfl ?_
       refine Qb.tame (by kernel_rfl) 5 rfl (by kernel_rfl) trivial (ts fun wz hkz => by exact t_loadA rfl (cells_left (x := (Gt.mk ck ctx (.slice cp cn ccc) ckids).cells) hkz.2.1.cells) (by exact ty25)) rfl ?_
       refine Qb.tame (by kernel_rfl) 6 rfl (by kernel_rfl) trivial (ts fun wz hkz => by exact t_lenS Tryz.underlying23 rfl) rfl ?_
       refine Qb.alt1 (i := 7) (by kernel_rfl) ?_
       refine ⟨_,_,rfl,rfl,trivial,w_buildSlice (bs23_1 _ _ _ _ _) rfl,rfl,fun _ _ hr => by obtain ⟨_,_,_,hr,_⟩ := hr; exact ⟨hU4.var.ext hr,hvb5.ext hr,hv1.ext hr⟩,?_⟩
       rintro _ w12 ⟨bb,rfl,qbb,hx12,hvbb⟩
       replace hU4 := hU4.ext hx12
       replace hv1 := hv1.ext hx12
       replace hvb5 := hvb5.ext hx12
       replace hg5 := hg5.ext hx12
       refine Qb.bar (fun _ => True) 8 12 rfl (by kernel_rfl) rfl trivial (w_appendO Tryz.underlying23 hi25 hz25 hsi25 hby25 rfl rfl rfl (own_mono hU4.row (Nat.zero_le _)) (slc_var hvbb rfl) (by decide) (by decide) (by unfold maxLen; have := hU4.few; omega) (by have := hU4.few; omega)) rfl (fun _ _ _ => trivial) ?_
       rintro v2 wP hap
       obtain ⟨gk,capk,spk,rfl,hck,hmk,hlk,hvk,hgeA,hne,hvP,hB,hfr⟩ := hU4.app hap
       have hoE : 0 + ((gsj).length : Int).toNat * 3 = (gsj).length * 3 := by omega
       have nGk : ¬ Fz w12 b (.slice pc gsj.length cc) gk := fun h => hfr.elim (fun e => h.2.2 e) fun e => by have := h.1; omega
       have nGP : ¬ Fz w12 b (.slice pc gsj.length cc) b := fun h => h.2.1 rfl
       rw [show encs Gt.cells (gsj) ++ [Value.int .i64 0,Value.string ⟨#[]⟩,Value.slice none 0 0] ++ spk = encs Gt.cells (gsj ++ [zeroG]) ++ spk from by (rw [encs_app,encs_one] <;> rfl)] at hvk
       refine Qb.tameW (by kernel_rfl) 9 rfl (by kernel_rfl) trivial (tw_of fun wz => t_nilCheck rfl) rfl ?_
       refine Qb.tameW (by kernel_rfl) 10 rfl (by kernel_rfl) trivial (tw_of fun wz => t_fieldAddr fa79_6 rfl) rfl ?_
       refine Qb.alt1 (i := 11) (by kernel_rfl) ?_
       refine ⟨_,_,rfl,rfl,trivial,w_putF hvP ty23 rfl rfl rfl rfl rfl,rfl,fun _ _ h => trivial,?_⟩
       rintro _ wS ⟨huS,hvS⟩
       simp only [List.set] at hvS
       clear hvP
       have hvP := hvS
       clear hvS
       replace hvk := hvk.upd huS (Ne.symm hne)
       replace hB := hB.trans (Bw.upd huS nGP)
       refine Qb.done (by kernel_rfl) ?_
       have hUN := hU4.push hg5 hB hvP hck hmk hlk hvk hgeA hne hfr (by rw [hgl]; omega)
       exact ⟨_,by repeat (first | exact .nil | refine .cons rfl ?_),hUN.base hgc,hUN,var_bw hvb5 hB (hU4.fzv hvb5 (by decide) (by decide)),var_bw hv1 hB (hU4.fzv hv1 (by decide) (by decide))⟩
      ·rintro L' wG ⟨nv',hs8,hgN,hU5,hvb5,hv1⟩
       refine Wp.sub hs8 ?_
       obtain ⟨gk,capk,spk,rfl,hck,hmk,hlk,hvk,hgeA⟩ := hU5.last
       have hoE : 0 + ((gsj).length : Int).toNat * 3 = gsj.length * 3 := by omega
       have hKl : (encs Gt.cells (gsj ++ [zeroG]) ++ spk).length = gsj.length * 3 + 3 + spk.length := by rw [List.length_append,encs_len Gt.len,List.length_append,List.length_singleton]; omega
       refine Wp.region ?_
       refine .tq (t_indexAddrL Tryz.underlying23 ty25 rfl rfl (by omega)) rfl ?_
       refine Rg.wn trivial (w_putAt (cs := (Gt.mk ck ctx (.slice cp cn ccc) ckids).cells) hvk rfl rfl rfl (by rw [Gt.len]; exact ty25) (by rw [hoE,hKl,Gt.len]; omega) hgN.one) ?_
       rintro _ wE ⟨huE,hvE⟩
       rw [hoE] at hvE
       replace hvE : Var wE gk (encs Gt.cells (gsj ++ [Gt.mk ck ctx (.slice cp cn ccc) ckids]) ++ spk) 25 := (row_set (gs := gsj) (g := Gt.mk ck ctx (.slice cp cn ccc) ckids) (z := zeroG.cells) (sp := spk) rfl) ▸ (by rw [encs_app,encs_one] at hvE; exact hvE)
       have hU6 := hU5.setLast hgN hck hmk hlk hgeA huE hvE
       have hv1b := hv1.upd huE (Var.ne hv1 hvk (by decide))
       have hvb5b := hvb5.upd huE (Var.ne hvb5 hvk (by decide))
       clear hU5 hv1 hvb5 hU4
       have hU4 := hU6
       have hv1 := hv1b
       have hvb5 := hvb5b
       refine .done (.sr (.tq (t_fieldAddr fa116_0 rfl) rfl ?_))
       refine .tq (t_loadA rfl (cells_left (x := (Gt.mk ck ctx (.slice cp cn ccc) ckids).cells) hvb5.cells) (by exact ty25)) rfl ?_
       refine Rg.wd trivial (w_call Tryz.call76 rfl (isToken_ok (g := Gt.mk ck ctx (.slice cp cn ccc) ckids))) rfl ?_
       rintro _ w21 ⟨rfl,hx21⟩
       replace hU4 := hU4.ext hx21
       replace hv1 := hv1.ext hx21
       replace hvb5 := hvb5.ext hx21
       refine .tq (t_notB rfl) rfl (.done ?_)
       by_cases htk : 100 ≤ ck
       ·rw [decide_eq_true (show 100 ≤ (Gt.mk ck ctx (.slice cp cn ccc) ckids).er.kd from htk)]
        refine .condF rfl (Wp.skip (Wp.region ?_))
        first | refine .tq (t_addI rfl rfl (by omega)) rfl ?_ | refine .tq (t_add rfl rfl) rfl ?_
        refine .mv rfl rfl (.done ?_)
        rw [← hgsj1] at hU4
        exact ⟨j + 1,by repeat (first | exact .nil | refine .cons rfl ?_),⟨hlt,hv1,_,_,hU4,by omega,by omega⟩,by omega⟩
       ·rw [decide_eq_false (show ¬ 100 ≤ (Gt.mk ck ctx (.slice cp cn ccc) ckids).er.kd from htk)]
        refine .condT rfl (Wp.region (.tq (t_load ty74 rfl (Cells.get (i := 0) hv1.cells rfl)) rfl (.tq (t_nilCheck rfl) rfl (.tq (t_fieldAddr fa79_5 rfl) rfl (.tq (t_load ty3 rfl (Cells.get (i := 5) hU4.var.cells rfl)) rfl ?_)))))
        refine .tq (t_addI rfl rfl (by omega)) rfl ?_
        refine .tq (t_nilCheck rfl) rfl (.tq (t_fieldAddr fa79_5 rfl) rfl (Rg.wn trivial (w_putF hU4.var ty3 rfl rfl rfl rfl rfl) ?_))
        rintro _ w30 ⟨hu30,hv30⟩
        simp only [List.set] at hv30
        replace hv1 := hv1.upd hu30 (Var.ne hv1 hU4.var (by decide))
        replace hU4 := hU4.put hu30 hv30
        refine .done (Wp.region ?_)
        first | refine .tq (t_addI rfl rfl (by omega)) rfl ?_ | refine .tq (t_add rfl rfl) rfl ?_
        refine .mv rfl rfl (.done ?_)
        rw [← hgsj1] at hU4
        exact ⟨j + 1,by repeat (first | exact .nil | refine .cons rfl ?_),⟨hlt,hv1,_,_,hU4,by omega,by omega⟩,by omega⟩
     | false =>
      obtain ⟨i25,hi25,hz25,hsi25,hby25⟩ := inf25
      refine .condF rfl ?_
      refine Wp.cut (fun L w' => ∃ i_ : Unit,Sub ((fun _ => [(1,.pointer (some ⟨b1,0,none⟩)),(5,.pointer (some ⟨b5,0,none⟩)),(31,vt31),(32,.int .i64 ((cms s 0 l).drop i).length),(33,.int .i64 j)]) i_) L ∧ (fun _ w' => (∃ nv',Up y wA w' b ov tv nv' off sh st re' (gsj ++ [Gt.mk ck ctx (.slice cp cn ccc) ckids])) ∧ Var w' b5 [.int .i64 ck,.string ctx,.slice cp cn ccc,.int .i64 cs,.int .i64 cf,.int .i64 cl] 116 ∧ Var w' b1 [.pointer (some ⟨b,0,none⟩)] 74) i_ w') ?_ ?_
      ·skip
       refine Wp.drawB (fun w' => Var w' b [ov,tv,.int .i64 off,.int .i64 sh,.int .i64 st,.int .i64 re',.slice pc gsj.length cc] 79 ∧ Var w' b5 [.int .i64 ck,.string ctx,.slice cp cn ccc,.int .i64 cs,.int .i64 cf,.int .i64 cl] 116 ∧ Var w' b1 [.pointer (some ⟨b,0,none⟩)] 74) 11 mixed ?_
       intro w11 hx11 hh11
       replace hU4 := hU4.ext hx11
       replace hv1 := hv1.ext hx11
       replace hvb5 := hvb5.ext hx11
       replace hg5 := hg5.ext hx11
       refine ⟨⟨hU4.var,hvb5,hv1⟩,?_⟩
       refine Qb.tame (by kernel_rfl) 0 rfl (by kernel_rfl) trivial (ts fun wz hkz => by exact t_load ty74 rfl (Cells.get (i := 0) hkz.2.2.cells rfl)) rfl ?_
       refine Qb.tame (by kernel_rfl) 1 rfl (by kernel_rfl) trivial (ts fun wz hkz => by exact t_load ty74 rfl (Cells.get (i := 0) hkz.2.2.cells rfl)) rfl ?_
       refine Qb.tameW (by kernel_rfl) 2 rfl (by kernel_rfl) trivial (tw_of fun wz => t_nilCheck rfl) rfl ?_
       refine Qb.tameW (by kernel_rfl) 3 rfl (by kernel_rfl) trivial (tw_of fun wz => t_fieldAddr fa79_6 rfl) rfl ?_
       refine Qb.tame (by kernel_rfl) 4 rfl (by kernel_rfl) trivial (ts fun wz hkz => by exact t_load ty23 rfl (Cells.get (i := 6) hkz.1.cells rfl)) rfl ?_
       refine Qb.tameW (by kernel_rfl) 5 rfl (by kernel_rfl) trivial (tw_of fun wz => t_fieldAddr fa116_0 rfl) rfl ?_
       refine Qb.tame (by kernel_rfl) 6 rfl (by kernel_rfl) trivial (ts fun wz hkz => by exact t_loadA rfl (cells_left (x := (Gt.mk ck ctx (.slice cp cn ccc) ckids).cells) hkz.2.1.cells) (by exact ty25)) rfl ?_
       refine Qb.alt1 (i := 7) (by kernel_rfl) ?_
       refine ⟨_,_,rfl,rfl,trivial,w_buildSlice (bs23_1 _ _ _ _ _) rfl,rfl,fun _ _ hr => by obtain ⟨_,_,_,hr,_⟩ := hr; exact ⟨hU4.var.ext hr,hvb5.ext hr,hv1.ext hr⟩,?_⟩
       rintro _ w12 ⟨bb,rfl,qbb,hx12,hvbb⟩
       replace hU4 := hU4.ext hx12
       replace hv1 := hv1.ext hx12
       replace hvb5 := hvb5.ext hx12
       replace hg5 := hg5.ext hx12
       refine Qb.alt1 (i := 8) (by kernel_rfl) ?_
       refine ⟨_,_,rfl,rfl,trivial,w_appendO Tryz.underlying23 hi25 hz25 hsi25 hby25 rfl rfl rfl (own_mono hU4.row (Nat.zero_le _)) (slc_var hvbb rfl) (hg5.one) (by decide) (by unfold maxLen; have := hU4.few; omega) (by have := hU4.few; omega),rfl,fun _ _ hap => by obtain ⟨_,_,_,_,_,_,_,_,_,_,hvP,hB,_⟩ := hU4.app hap; exact ⟨hvP,var_bw hvb5 hB (hU4.fzv hvb5 (by decide) (by decide)),var_bw hv1 hB (hU4.fzv hv1 (by decide) (by decide))⟩,?_⟩
       rintro v2 wP hap
       obtain ⟨gk,capk,spk,rfl,hck,hmk,hlk,hvk,hgeA,hne,hvP,hB,hfr⟩ := hU4.app hap
       have hoE : 0 + ((gsj).length : Int).toNat * 3 = (gsj).length * 3 := by omega
       have nGk : ¬ Fz w12 b (.slice pc gsj.length cc) gk := fun h => hfr.elim (fun e => h.2.2 e) fun e => by have := h.1; omega
       have nGP : ¬ Fz w12 b (.slice pc gsj.length cc) b := fun h => h.2.1 rfl
       rw [show encs Gt.cells (gsj) ++ [Value.int .i64 ck,Value.string ctx,Value.slice cp cn ccc] ++ spk = encs Gt.cells (gsj ++ [Gt.mk ck ctx (.slice cp cn ccc) ckids]) ++ spk from by (rw [encs_app,encs_one] <;> rfl)] at hvk
       refine Qb.tameW (by kernel_rfl) 9 rfl (by kernel_rfl) trivial (tw_of fun wz => t_nilCheck rfl) rfl ?_
       refine Qb.tameW (by kernel_rfl) 10 rfl (by kernel_rfl) trivial (tw_of fun wz => t_fieldAddr fa79_6 rfl) rfl ?_
       refine Qb.bar (fun _ => True) 11 12 rfl (by kernel_rfl) rfl trivial (w_putF hvP ty23 rfl rfl rfl rfl rfl) rfl (fun _ _ _ => trivial) ?_
       rintro _ wS ⟨huS,hvS⟩
       simp only [List.set] at hvS
       clear hvP
       have hvP := hvS
       clear hvS
       replace hvk := hvk.upd huS (Ne.symm hne)
       replace hB := hB.trans (Bw.upd huS nGP)
       refine Qb.done (by kernel_rfl) ?_
       exact ⟨(),by repeat (first | exact .nil | refine .cons rfl ?_),⟨_,hU4.push hg5 hB hvP hck hmk hlk hvk hgeA hne hfr (by rw [hgl]; omega)⟩,var_bw hvb5 hB (hU4.fzv hvb5 (by decide) (by decide)),var_bw hv1 hB (hU4.fzv hv1 (by decide) (by decide))⟩
      ·rintro L' wG ⟨_,hs10,⟨nv',hU5⟩,hvb5,hv1⟩
       refine Wp.sub hs10 ?_
       clear hU4
       have hU4 := hU5
       clear hU5
       refine .sr (.tq (t_fieldAddr fa116_0 rfl) rfl ?_)
       refine .tq (t_loadA rfl (cells_left (x := (Gt.mk ck ctx (.slice cp cn ccc) ckids).cells) hvb5.cells) (by exact ty25)) rfl ?_
       refine Rg.wd trivial (w_call Tryz.call76 rfl (isToken_ok (g := Gt.mk ck ctx (.slice cp cn ccc) ckids))) rfl ?_
       rintro _ w21 ⟨rfl,hx21⟩
       replace hU4 := hU4.ext hx21
       replace hv1 := hv1.ext hx21
       replace hvb5 := hvb5.ext hx21
       refine .tq (t_notB rfl) rfl (.done ?_)
       by_cases htk : 100 ≤ ck
       ·rw [decide_eq_true (show 100 ≤ (Gt.mk ck ctx (.slice cp cn ccc) ckids).er.kd from htk)]
        refine .condF rfl (Wp.skip (Wp.region ?_))
        first | refine .tq (t_addI rfl rfl (by omega)) rfl ?_ | refine .tq (t_add rfl rfl) rfl ?_
        refine .mv rfl rfl (.done ?_)
        rw [← hgsj1] at hU4
        exact ⟨j + 1,by repeat (first | exact .nil | refine .cons rfl ?_),⟨hlt,hv1,_,_,hU4,by omega,by omega⟩,by omega⟩
       ·rw [decide_eq_false (show ¬ 100 ≤ (Gt.mk ck ctx (.slice cp cn ccc) ckids).er.kd from htk)]
        refine .condT rfl (Wp.region (.tq (t_load ty74 rfl (Cells.get (i := 0) hv1.cells rfl)) rfl (.tq (t_nilCheck rfl) rfl (.tq (t_fieldAddr fa79_5 rfl) rfl (.tq (t_load ty3 rfl (Cells.get (i := 5) hU4.var.cells rfl)) rfl ?_)))))
        refine .tq (t_addI rfl rfl (by omega)) rfl ?_
        refine .tq (t_nilCheck rfl) rfl (.tq (t_fieldAddr fa79_5 rfl) rfl (Rg.wn trivial (w_putF hU4.var ty3 rfl rfl rfl rfl rfl) ?_))
        rintro _ w30 ⟨hu30,hv30⟩
        simp only [List.set] at hv30
        replace hv1 := hv1.upd hu30 (Var.ne hv1 hU4.var (by decide))
        replace hU4 := hU4.put hu30 hv30
        refine .done (Wp.region ?_)
        first | refine .tq (t_addI rfl rfl (by omega)) rfl ?_ | refine .tq (t_add rfl rfl) rfl ?_
        refine .mv rfl rfl (.done ?_)
        rw [← hgsj1] at hU4
        exact ⟨j + 1,by repeat (first | exact .nil | refine .cons rfl ?_),⟨hlt,hv1,_,_,hU4,by omega,by omega⟩,by omega⟩
   ·obtain rfl : j = l.length - i := by omega
    rw [List.take_of_length_le (by rw [List.length_drop]; exact Nat.le_refl _)] at hU4
    refine .sr ?_
    refine .tq (t_lssF rfl rfl (by omega)) rfl ?_
    refine .done (.seq (.condF rfl (Wp.exit (.sr (.as rfl rfl (.done (Wp.ret ?_)))))))
    exact ⟨[_],⟨rfl,trivial⟩,.inr ⟨i,nv,re',rfl,hil2,hiq,hst,hre1,hre2,hU4⟩⟩
  ·skip
   refine Wp.seq (Wp.draw [0,1,2,3,4,5,6,7,8,9,10,11,12,13] [] mixed (by kernel_rfl) (by kernel_rfl) ?_)
   intro w3 hx3 _
   replace hU4 := hU4.ext hx3
   replace hv1 := hv1.ext hx3
   refine .mv rfl rfl ?_
   refine .tq (t_lssF rfl rfl (by omega)) rfl ?_
   refine .mv rfl rfl (.gd (t_load ty74 rfl (Cells.get (i := 0) hv1.cells rfl)) rfl ?_)
   first | refine .gd (t_nilCheck rfl) rfl ?_ | refine .so rfl rfl ?_
   first | refine .gd (t_fieldAddr fa79_1 rfl) rfl ?_ | refine .so rfl rfl ?_
   refine .gd (t_load ty49 rfl (Cells.get (i := 1) hU4.var.cells rfl)) rfl (.gd (t_lenC hs Tryz.underlying49 rfl) rfl (.gd (t_load ty74 rfl (Cells.get (i := 0) hv1.cells rfl)) rfl ?_))
   first | refine .gd (t_nilCheck rfl) rfl ?_ | refine .so rfl rfl ?_
   first | refine .gd (t_fieldAddr fa79_4 rfl) rfl ?_ | refine .so rfl rfl ?_
   refine .gd (t_load ty3 rfl (Cells.get (i := 4) hU4.var.cells rfl)) rfl ?_
   refine .gd (t_gtrT rfl rfl (by omega)) rfl ?_
   first | refine .tq (t_pickT rfl rfl) rfl ?_ | refine .tq (t_pickF rfl rfl) rfl ?_
   refine .done (.condT rfl (.sr (.as rfl rfl (.done (Wp.ret ?_)))))
   exact ⟨[_],⟨rfl,trivial⟩,.inl ⟨rfl,hU4⟩⟩
end
end Go.Proofs.YtcelfjbajdffkaaGreatDoor.Par
namespace Go.Proofs.YtcelfjbajdffkaaGreatDoor.Par
set_option maxRecDepth 20000
open Go.Gx Go.RowKit Go.Lib
open Lexi (Asc)
open Lexi (tok toks tcs tcs_at tcs_drop tcs_length TE tokenize_ok  codeE_one update_ok spl spl_size)
theorem FileK.len {l : List Tok} {ks : List Tr} (hv : V l) (h : FileK l ks) : ks.length ≤ l.length := by
 induction h with
 | done h => simp
 | item h k ih =>
  obtain ⟨u,e,_,hu,_⟩ := h.take hv
  have := ih (V_app (e ▸ hv)).2
  have hu2 := List.length_pos_iff.2 hu
  rw [e,List.length_append,List.length_cons]
  omega
theorem fileK_any {l : List Tok} (hv : V l) : ∃ ks,FileK l ks := by
 obtain ⟨n,r,h1,_⟩ := file_ends l hv
 obtain ⟨s1,h2,h3⟩ := run_seq' h1
 obtain ⟨ks,e1,e2,e3,e4⟩ := loop_fileK n _ s1 hv h2
 exact ⟨_,e4 _ (.done e2)⟩
theorem Item.shorter {l v : List Tok} {t : Tr} (hv : V l) (h : Item l t v) : v.length < l.length := by
 obtain ⟨u,e,_,hu,_⟩ := h.take hv
 have hu2 := List.length_pos_iff.2 hu
 rw [e,List.length_append]
 omega
theorem item_any2 {l : List Tok} (hv : V l) (h : (sig1 l).1 ≠ 100) : ∃ t v,Item l t v := by
 obtain ⟨ks,hk⟩ := fileK_any hv
 cases hk with
 | done h2 => exact absurd h2 h
 | item h2 _ => exact ⟨_,_,h2⟩
def UpdR (Y0 : Nat → Prop) (s : ByteArray) (a b : Nat) (t : ByteArray) (ks : List Tr) (u : Value) (w' : World) : Prop :=
 ∃ (g' : Gt) (re : Nat),u = .tuple #[.agg g'.cells.toArray,.int .i64 re,.int .i64 0] ∧ Parsed (spl s a b t) g'.er ∧ GoY Y0 w' g' ∧ kept a (chs s 0 ks) ≤ re ∧ ∃ l',g'.er = .mk 1 nob l' ∧ re ≤ l'.length
theorem Up.tree {y : Nat → Prop} {wA w : World} {b : Nat} {ov tv nv : Value} {off sh st re : Int} {gs : List Gt} (h : Up y wA w b ov tv nv off sh st re gs) : GoL w (.mk 1 nob nv gs) :=
 .mk (own_slc h.row) (own_one h.row) (fun z hz => own_lt h.row hz) fun g hg => (h.ok g hg).mono fun z hz => hz.1.1
set_option maxHeartbeats 2000000 in
theorem updateT_ok {w : World} {s t : ByteArray} {a b : Nat} {g : Gt} (hA : Asc w) (hs : s.size ≤ 1000) (hab : a ≤ b) (hb : b ≤ s.size) (ht : t.size ≤ 1000) {Y0 : Nat → Prop} (hgw : GoY Y0 w g) (hY0 : ∀ z,Y0 z → z < w.heap.size) (hsm : Small s g.er) {ks : List Tr} (hks : g.er = .mk 1 nob ks) :
  Cl Tryz.prog 19 #[.string s,.agg g.cells.toArray,.agg #[.int .i64 a,.int .i64 b,.string t]] w (fun u w' => UpdR Y0 s a b t ks u w' ∧ Ext w w') := by
 have hx := Ext.refl w
 have hg := hgw.go
 have hog := hg.oneL
 have hspl := spl_size (s := s) (t := t) hab hb
 refine Cl.enter Tryz.func19 rfl Tryz.ntmps19 rfl rfl (.sr (Rg.wd trivial (w_boxed (cs := g.cells) rfl rfl) rfl ?_))
 rintro _ w1 ⟨b4,rfl,q4,hx1,hv4⟩
 replace hx := hx.ext hx1
 replace hg := hg.ext hx1
 refine Rg.wd trivial (w_boxed (cs := [.int .i64 a,.int .i64 b,.string t]) rfl rfl) rfl ?_
 rintro _ w2 ⟨b5,rfl,q5,hx2,hv5⟩
 replace hx := hx.ext hx2
 replace hg := hg.ext hx2
 replace hv4 := hv4.ext hx2
 refine Rg.wd trivial (w_new Tryz.zeroValue25 rfl) rfl ?_
 rintro _ w3 ⟨b6,rfl,q6,hx3,hv6⟩
 replace hx := hx.ext hx3
 replace hg := hg.ext hx3
 replace hv4 := hv4.ext hx3
 replace hv5 := hv5.ext hx3
 have q6b : w.heap.size ≤ b6 := by have := hx1.le; have := hx2.le; omega
 refine .as rfl rfl (.as rfl rfl (.done (.sr (.mv rfl rfl ?_))))
 refine Rg.wd trivial (w_call Tryz.call24 rfl (tokenize_ok (by omega) (hA.ext hx))) rfl ?_
 rintro _ w4 ⟨⟨v9,rfl,hv9⟩,hx4⟩
 replace hx := hx.ext hx4
 replace hg := hg.ext hx4
 replace hv4 := hv4.ext hx4
 replace hv5 := hv5.ext hx4
 replace hv6 := hv6.ext hx4
 obtain ⟨p9,n9,c9,rfl⟩ : ∃ p n c,v9 = .slice p n c := by
  obtain ⟨_,p,c,e,_⟩ := hv9
  exact ⟨_,_,_,e⟩
 refine .mv rfl rfl (.tq (t_extract rfl rfl) rfl (.tq (t_extract rfl rfl) rfl (.as rfl rfl (.as rfl rfl (.done (.seq (.sr (.mv rfl rfl ?_))))))))
 first | refine .tq (t_neqT rfl rfl (by omega)) rfl ?_ | refine .tq (t_neqF rfl rfl (by omega)) rfl ?_ | refine .tq (t_neq rfl rfl) rfl ?_
 refine .done (.condF rfl (Wp.skip (.seq (.sr (.mv rfl rfl ?_)))))
 refine .tq (t_loadA rfl hv5.cells (by exact ty41)) rfl ?_
 refine Rg.wd trivial (w_buildSlice (bs45_1 _ _ _) rfl) rfl ?_
 rintro _ w5 ⟨b28,rfl,q28,hx5,hv28⟩
 replace hx := hx.ext hx5
 replace hg := hg.ext hx5
 replace hv4 := hv4.ext hx5
 replace hv5 := hv5.ext hx5
 replace hv6 := hv6.ext hx5
 replace hv9 := hv9.ext hx5
 refine Rg.wd trivial (w_call Tryz.call34 rfl (Lexi.validate_ok (s := s) (es := [⟨a,b,t⟩]) (slc_var hv28 rfl) (by omega) (by simp) (by intro e he; simp at he; subst he; simp only; omega))) rfl ?_
 rintro _ w6 ⟨rfl,hx6⟩
 replace hx := hx.ext hx6
 replace hg := hg.ext hx6
 replace hv4 := hv4.ext hx6
 replace hv5 := hv5.ext hx6
 replace hv6 := hv6.ext hx6
 replace hv9 := hv9.ext hx6
 replace hv28 := hv28.ext hx6
 rw [codeE_one (by omega) hab hb (by omega)]
 refine .as rfl rfl (.done (.sr (.mv rfl rfl ?_)))
 first | refine .tq (t_neqT rfl rfl (by omega)) rfl ?_ | refine .tq (t_neqF rfl rfl (by omega)) rfl ?_ | refine .tq (t_neq rfl rfl) rfl ?_
 refine .done (.condF rfl (Wp.skip (.seq (.sr (.mv rfl rfl ?_)))))
 refine Rg.wd trivial (w_call Tryz.call10 rfl (parse_ok (by omega) (hA.ext hx))) rfl ?_
 rintro _ w7 ⟨g0,rfl,hpp,hgp,hx7⟩
 replace hx := hx.ext hx7
 replace hg := hg.ext hx7
 replace hv4 := hv4.ext hx7
 replace hv5 := hv5.ext hx7
 replace hv6 := hv6.ext hx7
 replace hv9 := hv9.ext hx7
 replace hv28 := hv28.ext hx7
 have hg0 : GoL w7 g0 := hgp.mono fun z hz => hz.2
 have hog0 := hg0.oneL
 have hsm0 := hpp.small
 clear hgp
 refine .mv rfl rfl (.tq (t_extract rfl rfl) rfl (.tq (t_extract rfl rfl) rfl (Rg.wd trivial (w_new Tryz.zeroValue25 rfl) rfl ?_)))
 rintro _ wab12 ⟨b12,rfl,qb12,hxab12,hvab12⟩
 refine Rg.wn trivial (w_put (cs := g0.cells) hvab12 rfl rfl rfl (by rw [Gt.len]; exact ty25) (by rw [Gt.len]; rfl) (hog0)) ?_
 rintro _ w8 ⟨hub12,hvb12⟩
 have hx8 := hxab12.upd hub12 (Nat.le_of_eq qb12.symm)
 clear hvab12 hub12 hxab12
 replace hx := hx.ext hx8
 replace hg := hg.ext hx8
 replace hv4 := hv4.ext hx8
 replace hv5 := hv5.ext hx8
 replace hv6 := hv6.ext hx8
 replace hv9 := hv9.ext hx8
 replace hv28 := hv28.ext hx8
 replace hg0 := hg0.ext hx8
 clear qb12
 refine .as rfl rfl (.done (.sr ?_))
 refine .tq (t_loadA rfl hvb12.cells (by rw [Gt.len]; exact ty25)) rfl ?_
 refine .tq (t_loadA rfl hv4.cells (by rw [Gt.len]; exact ty25)) rfl ?_
 refine Rg.wd trivial (w_call Tryz.call35 rfl (treeEq_ok _ g0 g (Nat.le_refl _) (by have := hsm0.cnt; omega) _ hg0 hg)) rfl ?_
 rintro _ w9 ⟨⟨c,rfl,hc⟩,hx9⟩
 replace hx := hx.ext hx9
 replace hg := hg.ext hx9
 replace hv4 := hv4.ext hx9
 replace hv5 := hv5.ext hx9
 replace hv6 := hv6.ext hx9
 replace hv9 := hv9.ext hx9
 replace hv28 := hv28.ext hx9
 replace hg0 := hg0.ext hx9
 replace hvb12 := hvb12.ext hx9
 obtain rfl : c = true := hc.2 (hpp.unique hsm.parsed)
 refine .tq (t_notB rfl) rfl (.done (.condF rfl (Wp.skip (.sr (.mv rfl rfl (.mv rfl rfl ?_))))))
 refine .tq (t_loadA rfl hv5.cells (by exact ty41)) rfl ?_
 refine Rg.wd trivial (w_call Tryz.call36 rfl (update_ok (hA.ext hx) (by omega) hab hb (by omega) hv9)) rfl ?_
 rintro _ w10 ⟨⟨v14,c14,rfl,hv14,_,_⟩,hx10⟩
 replace hx := hx.ext hx10
 replace hg := hg.ext hx10
 replace hv4 := hv4.ext hx10
 replace hv5 := hv5.ext hx10
 replace hv6 := hv6.ext hx10
 replace hv9 := hv9.ext hx10
 replace hv28 := hv28.ext hx10
 replace hg0 := hg0.ext hx10
 replace hvb12 := hvb12.ext hx10
 obtain ⟨p14,n14,c14b,rfl⟩ : ∃ p n c,v14 = .slice p n c := by
  obtain ⟨_,p,c,e,_⟩ := hv14
  exact ⟨_,_,_,e⟩
 refine .mv rfl rfl (.tq (t_extract rfl rfl) rfl (.tq (t_extract rfl rfl) rfl (.tq (t_extract rfl rfl) rfl (.as rfl rfl (.as rfl rfl (.as rfl rfl (.done (.seq (.sr (.mv rfl rfl ?_))))))))))
 first | refine .tq (t_neqT rfl rfl (by omega)) rfl ?_ | refine .tq (t_neqF rfl rfl (by omega)) rfl ?_ | refine .tq (t_neq rfl rfl) rfl ?_
 refine .done (.condF rfl (Wp.skip ?_))
 obtain ⟨cv,l,rfl,hsl,hgs,hkl,hll⟩ := hg.children hsm
 have hks2 : erL l = ks := by injection hks
 have hcn := hsm.cnt
 have hln := hsm.len
 have hwf := hsm.wf
 obtain ⟨N,hN⟩ : ∃ z,spl s a b t = z := ⟨_,rfl⟩
 rw [hN] at hspl hv14
 have hwl : wfL (erL l) := by
  rcases hwf with ⟨hw,_⟩ | hw
  ·exact absurd hw (by decide)
  ·exact hw.2.2.2
 have htl : (txtL (erL l)).length = s.size := by
  have := hln
  simp only [Gt.er,Tr.txt,nob,List.length_append] at this
  simpa using this
 have hcl : cntL (erL l) ≤ 24 * s.size := by
  simp only [Gt.er,Tr.cnt] at hcn
  omega
 refine Wp.seq (Wp.draw [0,1,3,4,5,6,7,8,9,10,11,12,13,14,2,15,16,17,18] [] mixed (by kernel_rfl) (by kernel_rfl) ?_)
 intro w11 hx11 _
 replace hx := hx.ext hx11
 replace hg := hg.ext hx11
 replace hv4 := hv4.ext hx11
 replace hv5 := hv5.ext hx11
 replace hv6 := hv6.ext hx11
 replace hv9 := hv9.ext hx11
 replace hv28 := hv28.ext hx11
 replace hg0 := hg0.ext hx11
 replace hvb12 := hvb12.ext hx11
 replace hv14 := hv14.ext hx11
 refine .mv rfl rfl ?_
 refine .tq (t_loadA rfl hv4.cells (by exact ty25)) rfl ?_
 refine .tq (t_fieldAddr fa41_2 rfl) rfl (.tq (t_load ty9 rfl (Cells.get (i := 2) hv5.cells rfl)) rfl (.tq (t_len Tryz.underlying9 rfl) rfl (.tq (t_fieldAddr fa41_1 rfl) rfl (.tq (t_load ty3 rfl (Cells.get (i := 1) hv5.cells rfl)) rfl (.tq (t_fieldAddr fa41_0 rfl) rfl (.tq (t_load ty3 rfl (Cells.get (i := 0) hv5.cells rfl)) rfl ?_))))))
 refine .tq (t_subI rfl rfl (by omega)) rfl ?_
 refine .tq (t_subI rfl rfl (by omega)) rfl ?_
 rw [show ((t.size : Nat) : Int) - ((b : Int) - (a : Int)) = (N.size : Int) - s.size from by omega]
 refine .mv rfl rfl (.mv rfl rfl ?_)
 refine .tq (t_loadA rfl hv5.cells (by exact ty41)) rfl ?_
 refine Rg.wdB trivial rfl (w_call Tryz.call37 rfl (children_ok (by omega) (hA.ext hx) hg hwl (by omega) (by omega))) rfl (fun _ _ h => h.2) ?_
 rintro v58 w12 ⟨hch,hx12⟩
 replace hx := hx.ext hx12
 replace hg := hg.ext hx12
 replace hv4 := hv4.ext hx12
 replace hv5 := hv5.ext hx12
 replace hv6 := hv6.ext hx12
 replace hv9 := hv9.ext hx12
 replace hv28 := hv28.ext hx12
 replace hg0 := hg0.ext hx12
 replace hvb12 := hvb12.ext hx12
 replace hv14 := hv14.ext hx12
 obtain ⟨p58,n58,c58,rfl⟩ : ∃ p n c,v58 = .slice p n c := by
  obtain ⟨_,p,c,e,_⟩ := hch
  exact ⟨_,_,_,e⟩
 refine Rg.wdB trivial rfl (w_call Tryz.call38 rfl (stable_ok (e := ⟨a,b,t⟩) hv9 hv14 (by rw [B_toks]; omega) (by have := Lexi.toks_length s; omega) (by have := Lexi.toks_length N; omega))) rfl (fun _ _ h => h.2) ?_
 rintro _ w13 ⟨⟨st,rfl,hst,x,x',z,hTx,hNx,hz⟩,hx13⟩
 replace hx := hx.ext hx13
 replace hg := hg.ext hx13
 replace hv4 := hv4.ext hx13
 replace hv5 := hv5.ext hx13
 replace hv6 := hv6.ext hx13
 replace hv9 := hv9.ext hx13
 replace hv28 := hv28.ext hx13
 replace hg0 := hg0.ext hx13
 replace hvb12 := hvb12.ext hx13
 replace hv14 := hv14.ext hx13
 replace hch := hch.ext hx13
 refine .tq (t_build (bd79_0_3_4 _ _ _ _ _) rfl) rfl (Rg.wdB trivial rfl (w_boxed rfl rfl) rfl (fun _ _ h => h.below) ?_)
 rintro _ wU ⟨bu,rfl,qu,hxu,hvu⟩
 have hU4 : Up (fun z => z = b6 ∨ Y0 z) w13 wU bu (.slice p58 n58 c58) (.slice none 0 0) (.slice none 0 0) 0 ((N.size : Int) - s.size) st 0 [] := ⟨hxu,Nat.le_of_eq qu.symm,fun z hz => hz.elim (fun e => e ▸ hv6.lt) fun e => Nat.lt_of_lt_of_le (hY0 z e) hx.le,hvu,own_nil _ _ _ _,fun g hg => absurd hg List.not_mem_nil,fun z hz => (by cases hz),by decide⟩
 have hAA : Asc w13 := hA.ext hx
 clear hv28 hvb12 hg0
 refine .as rfl rfl (.done (.sr (.mv rfl rfl (.tq (t_fieldAddr fa41_0 rfl) rfl (.tq (t_load ty3 rfl (Cells.get (i := 0) (hv5.ext hU4.ex).cells rfl)) rfl ?_)))))
 have hgsA : GsY (fun z => z = b6 ∨ Y0 z) w13 l := fun c hc => GoY.ext (w := w) (GOk.mono (show GoY Y0 w c from by cases hgw with | mk _ _ _ hk => exact hk c hc) fun z hz => ⟨hz.1,fun e => e.elim (fun e => by have := hz.1; omega) hz.2⟩) hx
 refine Rg.wd trivial (w_call Tryz.call39 rfl (prefix_ok (a := (a : Int)) hU4 hch hgsA (by omega))) rfl ?_
 rintro _ w30 ⟨nv30,hU30⟩
 clear hU4
 have hU4 := hU30
 clear hU30
 rw [hks2] at hU4
 refine .done ?_
 obtain ⟨m,hm⟩ : ∃ m,kept (a : Int) (chs s 0 ks) = m := ⟨_,rfl⟩
 rw [hm] at hU4
 have hfk : FileK (toks s) ks := by
  obtain ⟨ks2,e1,e2⟩ := hsm.parsed.fileK
  rw [hks] at e1
  injection e1 with _ _ e1
  rw [e1]
  exact e2
 obtain ⟨u1,v1,v1n,hs1,hN1,hf1,ht1,hrest⟩ := keep_items (t := t) hab hb m [] (toks s) (toks N) ks rfl (by rw [hN]; rfl) hfk (by rw [← hm]; exact Nat.le_refl _)
 have hVN := toks_V N
 have hBN := B_toks N
 have hoff : (txtL (ks.take m)).length = B u1 := by rw [← ht1,B_tt]
 rw [hoff] at hU4
 have htN := Lexi.toks_length N
 have hV1 : V v1n := (V_app (hN1 ▸ hVN)).2
 have hvN : SlC w13 (.slice p14 n14 c14b) 2 (u1 ++ v1n).length (tcs (u1 ++ v1n)) := by rw [← hN1]; exact hv14
 refine .sr (.mv rfl rfl (.mv rfl rfl (.mv rfl rfl (.tq (t_nilCheck rfl) rfl (.tq (t_fieldAddr fa79_2 rfl) rfl (.tq (t_load ty3 rfl (Cells.get (i := 2) hU4.var.cells rfl)) rfl ?_))))))
 refine Rg.wd trivial (w_call Tryz.call40 rfl (skip_ok hvN (by rw [← hN1]; exact hVN) (by rw [← hN1]; omega) hU4.ex)) rfl ?_
 rintro vT w31 ⟨hvT,hx31⟩
 replace hU4 := hU4.ext hx31
 obtain ⟨pT,nT,cT,rfl⟩ : ∃ p n c,vT = .slice p n c := by
  obtain ⟨_,p,c,e,_⟩ := hvT
  exact ⟨_,_,_,e⟩
 refine .tq (t_nilCheck rfl) rfl (.tq (t_fieldAddr fa79_1 rfl) rfl (Rg.wn trivial (w_putF hU4.var ty49 rfl rfl rfl rfl rfl) ?_))
 rintro _ w32 ⟨hu32,hv32⟩
 simp only [List.set] at hv32
 replace hU4 := hU4.put hu32 hv32
 refine .done (.seq (Wp.block ?_))
 have hcap := hU4.few
 refine Wp.loop (ι := List Tok) (fun _ => [(6,.pointer (some ⟨b6,0,none⟩)),(16,.pointer (some ⟨bu,0,none⟩))])
  (fun nl w' => ∃ tv nv off u re gs,Up (fun z => z = b6 ∨ Y0 z) w13 w' bu (.slice p58 n58 c58) tv nv off ((N.size : Int) - s.size) st (re : Nat) gs ∧ SlC w13 tv 2 nl.length (tcs nl) ∧ toks N = u ++ nl ∧ (∀ l',FileK nl l' → FileK (toks N) (erL gs ++ l')) ∧ m ≤ re ∧ re ≤ gs.length ∧ (0 < nl.length → off = (B u : Nat))) (fun nl => nl.length) v1n (by repeat (first | exact .nil | refine .cons rfl ?_))
  ⟨_,_,_,u1,m,_,hU4,hvT,hN1,fun l' hl' => by rw [show erL (l.take m) = ks.take m from by rw [erL_map,List.map_take,← erL_map,hks2]]; exact hrest l' hl',Nat.le_refl _,by rw [List.length_take,← erL_len,hks2]; have := kept_le (a : Int) (chs s 0 ks); rw [chs_length,hm] at this; omega,fun _ => rfl⟩ ?_
 clear hU4 hvT
 rintro nl w33 ⟨tv,nv,off,u,re,gs,hU4,hvT,hNu,hres,hre1,hre2,hoff2⟩
 have hVn : V nl := (V_app (hNu ▸ hVN)).2
 have hBu : B u + B nl = N.size := by rw [← hBN,hNu,B_app]
 obtain ⟨lany,hany⟩ := fileK_any hVn
 have hgn := (hres lany hany).len hVN
 rw [List.length_append,erL_len] at hgn
 have hnl : nl.length ≤ N.size := by have := congrArg List.length hNu; rw [List.length_append] at this; omega
 have hln2 : l.length ≤ 24 * s.size := by have := len_cntL (erL l); rw [erL_len] at this; omega
 by_cases hn0 : 0 < nl.length
 ·obtain rfl := hoff2 hn0
  have hdone : True := trivial
  -- the rest is reused,or an item is parsed
  refine .seq (.sr (.mv rfl rfl (.tq (t_nilCheck rfl) rfl (.tq (t_fieldAddr fa79_1 rfl) rfl (.tq (t_load ty49 rfl (Cells.get (i := 1) hU4.var.cells rfl)) rfl ?_)))))
  have hvT0 := hvT
  refine .tq (t_lenC hvT Tryz.underlying49 rfl) rfl ?_
  refine .tq (t_gtrT rfl rfl (by omega)) rfl ?_
  refine .mv rfl rfl ?_
  first | refine .gd (t_move rfl) rfl ?_ | refine .so rfl rfl ?_
  refine Rg.wd ⟨_,rfl,rfl⟩ (w_call Tryz.call41 rfl (rest_ok (s := s) (l := l) hU4 hch hgsA (by omega) (by omega) hvT (by omega) (by omega))) rfl ?_
  rintro u95 w41 hrr
  rcases hrr with ⟨rfl,hU5⟩ | ⟨i,nv5,re5,rfl,hil,hoi,hsti,hr5,hr6,hU5⟩
  ·skip
   first | refine .gd (t_notB rfl) rfl ?_ | refine .so rfl rfl ?_
   first | refine .tq (t_pickT rfl rfl) rfl ?_ | refine .tq (t_pickF rfl rfl) rfl ?_
   refine .done ?_
   clear hU4
   have hU4 := hU5
   clear hU5
   by_cases heof : (sig1 nl).1 = 100
   ·skip
    refine .condT rfl (Wp.skip (Wp.block (Wp.region (.mv rfl rfl ?_))))
    refine Rg.wd trivial (w_call Tryz.call42 rfl (parseEof_ok hU4 hvT hAA (by omega) hVn heof (by omega))) rfl ?_
    rintro _ w45 ⟨nv6,hU6⟩
    refine .done ?_
    refine ⟨[],by repeat (first | exact .nil | refine .cons rfl ?_),⟨.slice none 0 0,nv6,_,u ++ nl,re,gs ++ nl.map tokG,hU6,⟨rfl,none,0,rfl,Nat.le_refl _,.inl rfl⟩,by rw [hNu,List.append_nil],fun l' hl' => ?_,hre1,by rw [List.length_append]; omega,fun h => absurd h (by simp)⟩,hn0⟩
    cases hl' with
    | item h _ => exact absurd rfl h.1
    | done _ =>
     rw [erL_app,tokG_er]
     simpa using hres _ (.done heof)
   ·skip
    obtain ⟨ti,vi,hi⟩ := item_any2 hVn heof
    have hsh := hi.shorter hVn
    obtain ⟨ui,eui,_,_,_⟩ := hi.take hVn
    refine .condT rfl (Wp.skip (Wp.block (Wp.region (.mv rfl rfl ?_))))
    refine Rg.wd trivial (w_call Tryz.call42 rfl (parseItem_ok hU4 hvT hAA (by omega) (by omega) hVn hi (by omega) (by omega))) rfl ?_
    rintro _ w45 ⟨nv6,tv6,g6,hU6,hge6,hvT6⟩
    refine .done ?_
    have hBi : B ui + B vi = B nl := by rw [eui,B_app]
    refine ⟨vi,by repeat (first | exact .nil | refine .cons rfl ?_),⟨tv6,nv6,_,u ++ ui,re,gs ++ [g6],?_,hvT6,by rw [hNu,eui,List.append_assoc],fun l' hl' => ?_,hre1,by rw [List.length_append]; omega,fun _ => rfl⟩,hsh⟩
    ·rw [show ((B (u ++ ui) : Nat) : Int) = (B u : Nat) + ((B nl : Int) - B vi) from by rw [B_app]; omega]
     exact hU6
    ·rw [erL_app,List.append_assoc,show erL [g6] = [ti] from by (rw [← hge6] <;> rfl)]
     exact hres _ (.item hi hl')
  ·skip
   first | refine .gd (t_notB rfl) rfl ?_ | refine .so rfl rfl ?_
   first | refine .tq (t_pickT rfl rfl) rfl ?_ | refine .tq (t_pickF rfl rfl) rfl ?_
   refine .done ?_
   have hkr := keep_rest (i := i) (ks := ks) (toks_V s) hTx (N := toks N) (by rw [← hN] at hNx ⊢; exact hNx) hNu (by omega) hfk (by rw [← hks2,erL_len]; omega) (by (rw [← hks2,hoi,hBN,B_toks] <;> omega))
   have hfin : FileK (toks N) (erL (gs ++ l.drop i)) := by
    rw [erL_app,show erL (l.drop i) = ks.drop i from by rw [erL_map,List.map_drop,← erL_map,hks2]]
    exact hres _ hkr
   obtain ⟨re6,rfl⟩ : ∃ z : Nat,re5 = z := ⟨re5.toNat,by omega⟩
   refine .condF rfl (Wp.exit ?_)
   obtain ⟨pn,cn,rfl⟩ := hU5.shape
   have hone6 := (hv6.ext hU5.ex)
   refine Wp.seq (Wp.drawS (fun w' => Var w' bu [.slice p58 n58 c58,tv,.int .i64 (B u : Nat),.int .i64 ((N.size : Int) - s.size),.int .i64 st,.int .i64 (re6 : Nat),.slice pn (gs ++ l.drop i).length cn] 79) [0,1,2,3,4,5,6,7,8,9,10,11] [] mixed (by kernel_rfl) (by kernel_rfl) (by rfl) ?_)
   intro w41 hx41 hh41
   have hU7 := hU5.ext hx41
   have hv67 := hv6.ext hU7.ex
   have n6 : bu ≠ b6 := Var.ne hU7.var hv67 (by decide)
   refine ⟨hU7.var,?_⟩
   refine Rs.tm trivial rfl (ts fun wz hkz => by exact t_move rfl) rfl ?_
   refine Rs.tm trivial rfl (ts fun wz hkz => by exact t_nilCheck rfl) rfl ?_
   refine Rs.tm trivial rfl (ts fun wz hkz => by exact t_fieldAddr fa79_6 rfl) rfl ?_
   refine Rs.tm trivial rfl (ts fun wz hkz => by exact t_load ty23 rfl (Cells.get (i := 6) hkz.cells rfl)) rfl ?_
   refine Rs.tm trivial rfl (ts fun wz hkz => by exact t_build (bd25_0_2 _ _ _ _) rfl) rfl ?_
   refine Rs.tm trivial rfl (ts fun wz hkz => by exact t_move rfl) rfl ?_
   refine Rs.tm trivial rfl (ts fun wz hkz => by exact t_nilCheck rfl) rfl ?_
   refine Rs.tm trivial rfl (ts fun wz hkz => by exact t_fieldAddr fa79_5 rfl) rfl ?_
   refine Rs.tm trivial rfl (ts fun wz hkz => by exact t_load ty3 rfl (Cells.get (i := 5) hkz.cells rfl)) rfl ?_
   refine Rs.wn trivial rfl (w_put hv67 rfl rfl rfl ty25 rfl rfl) (fun _ => fun _ _ h => hU7.var.upd h.1 n6) ?_
   rintro _ w50 ⟨hu50,hv50⟩
   refine Rs.tm trivial rfl (ts fun wz hkz => by exact t_assign rfl) rfl ?_
   refine Rs.tm trivial rfl (ts fun wz hkz => by exact t_assign rfl) rfl ?_
   refine Rs.done (Wp.ret ?_)
   refine ⟨[_,_,_],⟨⟨_,rfl,lv_agg hv50 ty25⟩,rfl,rfl,trivial⟩,⟨.mk 1 nob (.slice pn (gs ++ l.drop i).length cn) (gs ++ l.drop i),re6,rfl,by rw [hN]; exact Parsed.of hfin,?_,by rw [hm]; omega,_,rfl,by rw [erL_len,List.length_append,List.length_drop]; omega⟩,?_⟩
   ·have hU8 := hU7
    refine .mk (own_slc (own_bw hU8.row (Bw.upd (F := fun z => z ≠ b6) hu50 fun hh => hh rfl) fun z hz e => by have h1 := own_ge hU8.row hz; have h2 := hU8.hy b6 (.inl rfl); omega)) rfl (fun z hz => ⟨by have := own_lt hU8.row hz; show z < w50.heap.size; rw [hu50.size]; exact this,fun e => by have h1 := own_ge hU8.row hz; have h2 := hU8.hy z (.inr e); omega⟩) fun g' hg' => ?_
    exact ((hU8.ok g' hg').bw (Bw.upd hu50 fun hh => hh.2 (.inl rfl)) fun z hz => hz).mono fun z hz => ⟨by show z < w50.heap.size; rw [hu50.size]; exact hz.1.1,fun e => hz.2 (.inr e)⟩
   ·exact (hx.ext hU7.ex).upd hu50 q6b
 ·have hnn : nl = [] := List.eq_nil_of_length_eq_zero (by omega)
  subst hnn
  have hfin : FileK (toks N) (erL gs) := by
   have := hres [] (by have := FileK.done (l := []) rfl; exact this)
   simpa using this
  have hU5 := hU4
  refine .seq (.sr (.mv rfl rfl (.tq (t_nilCheck rfl) rfl (.tq (t_fieldAddr fa79_1 rfl) rfl (.tq (t_load ty49 rfl (Cells.get (i := 1) hU4.var.cells rfl)) rfl ?_)))))
  have hvT0 := hvT
  refine .tq (t_lenC hvT Tryz.underlying49 rfl) rfl ?_
  refine .tq (t_gtrF rfl rfl (by simp)) rfl ?_
  refine .mv rfl rfl (.so rfl rfl (.so rfl rfl (.so rfl rfl ?_)))
  first | refine .tq (t_pickT rfl rfl) rfl ?_ | refine .tq (t_pickF rfl rfl) rfl ?_
  refine .done (.condF rfl (Wp.exit ?_))
  obtain ⟨pn,cn,rfl⟩ := hU5.shape
  have hone6 := (hv6.ext hU5.ex)
  refine Wp.seq (Wp.drawS (fun w' => Var w' bu [.slice p58 n58 c58,tv,.int .i64 off,.int .i64 ((N.size : Int) - s.size),.int .i64 st,.int .i64 (re : Nat),.slice pn gs.length cn] 79) [0,1,2,3,4,5,6,7,8,9,10,11] [] mixed (by kernel_rfl) (by kernel_rfl) (by rfl) ?_)
  intro w41 hx41 hh41
  have hU7 := hU5.ext hx41
  have hv67 := hv6.ext hU7.ex
  have n6 : bu ≠ b6 := Var.ne hU7.var hv67 (by decide)
  refine ⟨hU7.var,?_⟩
  refine Rs.tm trivial rfl (ts fun wz hkz => by exact t_move rfl) rfl ?_
  refine Rs.tm trivial rfl (ts fun wz hkz => by exact t_nilCheck rfl) rfl ?_
  refine Rs.tm trivial rfl (ts fun wz hkz => by exact t_fieldAddr fa79_6 rfl) rfl ?_
  refine Rs.tm trivial rfl (ts fun wz hkz => by exact t_load ty23 rfl (Cells.get (i := 6) hkz.cells rfl)) rfl ?_
  refine Rs.tm trivial rfl (ts fun wz hkz => by exact t_build (bd25_0_2 _ _ _ _) rfl) rfl ?_
  refine Rs.tm trivial rfl (ts fun wz hkz => by exact t_move rfl) rfl ?_
  refine Rs.tm trivial rfl (ts fun wz hkz => by exact t_nilCheck rfl) rfl ?_
  refine Rs.tm trivial rfl (ts fun wz hkz => by exact t_fieldAddr fa79_5 rfl) rfl ?_
  refine Rs.tm trivial rfl (ts fun wz hkz => by exact t_load ty3 rfl (Cells.get (i := 5) hkz.cells rfl)) rfl ?_
  refine Rs.wn trivial rfl (w_put hv67 rfl rfl rfl ty25 rfl rfl) (fun _ => fun _ _ h => hU7.var.upd h.1 n6) ?_
  rintro _ w50 ⟨hu50,hv50⟩
  refine Rs.tm trivial rfl (ts fun wz hkz => by exact t_assign rfl) rfl ?_
  refine Rs.tm trivial rfl (ts fun wz hkz => by exact t_assign rfl) rfl ?_
  refine Rs.done (Wp.ret ?_)
  refine ⟨[_,_,_],⟨⟨_,rfl,lv_agg hv50 ty25⟩,rfl,rfl,trivial⟩,⟨.mk 1 nob (.slice pn gs.length cn) gs,re,rfl,by rw [hN]; exact Parsed.of hfin,?_,by rw [hm]; omega,_,rfl,by rw [erL_len]; omega⟩,?_⟩
  ·have hU8 := hU7
   refine .mk (own_slc (own_bw hU8.row (Bw.upd (F := fun z => z ≠ b6) hu50 fun hh => hh rfl) fun z hz e => by have h1 := own_ge hU8.row hz; have h2 := hU8.hy b6 (.inl rfl); omega)) rfl (fun z hz => ⟨by have := own_lt hU8.row hz; show z < w50.heap.size; rw [hu50.size]; exact this,fun e => by have h1 := own_ge hU8.row hz; have h2 := hU8.hy z (.inr e); omega⟩) fun g' hg' => ?_
   exact ((hU8.ok g' hg').bw (Bw.upd hu50 fun hh => hh.2 (.inl rfl)) fun z hz => hz).mono fun z hz => ⟨by show z < w50.heap.size; rw [hu50.size]; exact hz.1.1,fun e => hz.2 (.inr e)⟩
  ·exact (hx.ext hU7.ex).upd hu50 q6b
end Go.Proofs.YtcelfjbajdffkaaGreatDoor.Par
