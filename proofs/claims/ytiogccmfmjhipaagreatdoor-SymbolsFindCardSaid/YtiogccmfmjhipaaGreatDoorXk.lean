/- symbols: List, Collect. Printed by r7/Dh.py. -/
import Derived.Test.YtiogccmfmjhipaaGreatDoorXj
import Derived.Test.YtiogccmfmjhipaaGreatDoorXi
import Derived.Test.YtiogccmfmjhipaaGreatDoorXl
import Derived.Deep.Strs
set_option linter.unusedVariables false
set_option linter.unusedSimpArgs false
namespace Go.Proofs.YtiogccmfmjhipaaGreatDoor.Sym
set_option maxRecDepth 20000
open Go.Gx Go.RowKit Go.Lib
open Lexi (Asc tok)
open Par Ast
def dA : An := .mk ⟨0,0,.empty,0,0,0⟩ []
def bSy (nm : ByteArray) : Sy := ⟨15,-1,-1,-1,nm,false⟩
def nms4 : List ByteArray := ["int".toUTF8, "bool".toUTF8, "string".toUTF8, "Self".toUTF8]
def baseS : List Sy := nms4.map bSy
def modS (i : Nat) (nm : ByteArray) : Sy := ⟨1,i,-1,-1,nm,true⟩
def lstS (nm : Nat → ByteArray) (an : Nat → An) : Nat → List Sy
 | 0 => baseS
 | k + 1 => vis k (an k) (lstS nm an k).length false (lstS nm an k ++ [modS k (nm k)])
theorem lstS_len (nm : Nat → ByteArray) (an : Nat → An) : ∀ k,(∀ i,i < k → anc (an i) ≤ 50000) → (lstS nm an k).length ≤ 4 + k * 50001
 | 0,_ => by rw [lstS]; exact Nat.le_refl 4
 | k + 1,h => by
  have h1 := lstS_len nm an k fun i hi => h i (by omega)
  have h2 := vis_len k (an k) (lstS nm an k).length false (lstS nm an k ++ [modS k (nm k)])
  have h3 := h k (by omega)
  rw [lstS]
  simp only [List.length_append,List.length_singleton] at h2
  omega
theorem Cells.at {w : World} {b o k i : Nat} {α : Type} {f : α → List Value} {l : List α} (h : Cells w b o (encs f l)) (hf : ∀ a,(f a).length = k) (hi : i < l.length) : Cells w b (o + i * k) (f l[i]) := fun j v hv => by
 have e := encs_at hf l i hi
 have hj : j < k := by rw [← hf l[i]]; exact (List.getElem?_eq_some_iff.1 hv).1
 rw [Nat.add_assoc]
 refine h (i * k + j) v ?_
 rw [← e,List.getElem?_take_of_lt hj,List.getElem?_drop] at hv
 exact hv
theorem CvV.setm {F : Fs} {w w' : World} {b : Nat} {m i : Int} {acc : List Sy} {dv : Value} (h : CvV F w b m acc dv) (hu : Upd b w w') (hv : Var w' b [.int .i64 i,dv] 163) : CvV F w' b i acc dv := by
 refine ⟨fun z hz => by rw [hu.size]; exact h.und z hz,hv,?_,h.nb,h.nd⟩
 refine own_bw (F := fun z => z ≠ b) h.row (Bw.upd hu fun e => e rfl) fun z hz e => ?_
 subst e
 exact own_notin h.row h.var (by decide) (by rw [hz]; simp)
theorem CvV.addk {F : Fs} {w : World} {b k : Nat} {m : Int} {acc : List Sy} {dv : Value} (h : CvV F w b m acc dv) (h1 : k < w.heap.size) (h2 : k ≠ b) (h3 : ∀ z,dv.ownBlock = some z → z ≠ k) : CvV (fun z => F z ∨ z = k) w b m acc dv :=
 ⟨fun z hz => hz.elim (h.und z) fun e => e ▸ h1,h.var,h.row,fun hf => hf.elim h.nb fun e => h2 e.symm,fun z hz hf => hf.elim (h.nd z hz) (h3 z hz)⟩
theorem list_ok {w : World} {v lv : Value} {ms : List Md} {mns : List Mn} {K : Fs} (hs0 : SlC w v 2 ms.length (encs mdc ms)) (hl0 : SlC w lv 7 mns.length (encs Mn.cells mns)) (hK : Und K w.heap.size) (hN : ∀ g ∈ mns,NOk K w g) (hle : mns.length = ms.length) (h8 : ms.length ≤ 8) (hc : ∀ g ∈ mns,anc g.er ≤ 50000) :
  Cl Tryz.prog 58 #[v,lv] w (fun u w' => SlC w' u 6 (lstS (fun i => (ms.getD i (.empty,.empty)).1) (fun i => (mnL mns).getD i dA) mns.length).length (encs syc (lstS (fun i => (ms.getD i (.empty,.empty)).1) (fun i => (mnL mns).getD i dA) mns.length)) ∧ (∀ z,u.ownBlock = some z → w.heap.size ≤ z) ∧ Ext w w') := by
 have hx := Ext.refl w
 obtain ⟨F,hF⟩ : ∃ F : Fs,(fun z => z < w.heap.size) = F := ⟨_,rfl⟩
 have hFz : ∀ z,z < w.heap.size → F z := fun z hz => by rw [← hF]; exact hz
 have hzF : ∀ z,F z → z < w.heap.size := fun z hz => by rw [← hF] at hz; exact hz
 obtain ⟨nm,hnm⟩ : ∃ q : Nat → ByteArray,(fun i => (ms.getD i (.empty,.empty)).1) = q := ⟨_,rfl⟩
 obtain ⟨an,han⟩ : ∃ q : Nat → An,(fun i => (mnL mns).getD i dA) = q := ⟨_,rfl⟩
 have hnmi : ∀ i (h : i < ms.length),nm i = ms[i].1 := fun i h => by rw [← hnm]; simp [List.getD,h]
 have hani : ∀ i (h : i < mns.length),an i = mns[i].er := fun i h => by rw [← han]; simp [List.getD,mnL_at mns i h,mnL_len,h]
 have hanc : ∀ i,i < mns.length → anc (an i) ≤ 50000 := fun i h => by rw [hani i h]; exact hc _ (List.getElem_mem h)
 rw [hnm,han]
 obtain ⟨i59,hi59,hz59,hsi59,hby59⟩ := inf59
 refine Cl.enter Tryz.func58 rfl Tryz.ntmps58 rfl rfl (.sr (.a2 rfl (.done (.sr (.t2 (t_build bd163 rfl) (Rg.wd trivial (w_boxed (cs := [.int .i64 0,.slice none 0 0]) rfl rfl) rfl ?_))))))
 rintro _ w1 ⟨b,rfl,qb,hx1,hvb⟩
 replace hx := hx.ext hx1
 refine .a2 rfl (.done (.seq (.sr (Rg.wd trivial (w_buildSlice (bs38_4 _ _ _ _) rfl) rfl ?_))))
 rintro _ w2 ⟨b12,rfl,q12,hx2,hv12⟩
 replace hx := hx.ext hx2
 replace hvb := hvb.ext hx2
 refine .t2 (t_lenC (slc_var (size := 1) hv12 rfl) Tryz.underlying38 rfl) (.m2 rfl (.done (Wp.block ?_)))
 have hbw := hx.le
 have hb0 : b < w2.heap.size := hvb.lt
 have hb12 : b12 ≠ b := Var.ne hv12 hvb (by decide)
 have D0 : CvV F w2 b 0 [] (.slice none 0 0) := ⟨fun z hz => by have := hzF z hz; omega,hvb,own_nil _ _ _ _,fun hf => by have := hzF b hf; omega,fun z hz => by cases hz⟩
 have hC0 : Cv (fun z => F z ∨ z = b12) w2 b 0 [] := ⟨_,D0.addk hv12.lt hb12 fun z hz => by cases hz⟩
 have hs12 : SlC w2 (.slice (some ⟨b12,0,none⟩) 4 4) 1 4 (encs (fun s => [.string s]) nms4) := slc_var hv12 rfl
 clear hvb hv12
 refine Wp.loop (ι := Nat) (fun j => [(0,v),(1,lv),(5,.pointer (some ⟨b,0,none⟩)),(12,.slice (some ⟨b12,0,none⟩) 4 4),(13,.int .i64 (4 : Nat)),(14,.int .i64 j)])
  (fun j w' => j ≤ 4 ∧ Cv (fun z => F z ∨ z = b12) w' b 0 (baseS.take j) ∧ SlC w' (.slice (some ⟨b12,0,none⟩) 4 4) 1 4 (encs (fun s => [.string s]) nms4) ∧ Ext w w') (fun j => 4 - j) 0 (by repeat (first | exact .nil | refine .cons rfl ?_)) ⟨Nat.zero_le _,hC0,hs12,hx⟩ ?_
 clear hC0 hs12 hx
 rintro j w3 ⟨hj,hC,hs12,hx⟩
 by_cases hlt : j < 4
 ·have hlt4 : j < nms4.length := hlt
  obtain ⟨dv,D⟩ := hC
  obtain ⟨s,hsj⟩ : ∃ s,nms4[j] = s := ⟨_,rfl⟩
  have hbl : (baseS.take j).length = j := by rw [List.length_take]; exact Nat.min_eq_left hj
  have hsy : syc (bSy s) = [.int .i64 15,.int .i64 (-1),.int .i64 (-1),.int .i64 (-1),.string s,.bool false] := rfl
  refine .sr ?_
  first | refine .tq (t_lssT rfl rfl (by omega)) rfl ?_ | refine .tq (t_lssF rfl rfl (by omega)) rfl ?_ | refine .tq (t_lss rfl rfl) rfl ?_
  refine .done (.seq (.condT rfl (Wp.skip (.seq (Wp.block (.sr ?_))))))
  refine Rg.ix hs12 trivial rfl rfl Tryz.underlying38 ty9 (by omega) rfl ?_
  intro bt16 ot16 ht16
  rw [Int.toNat_natCast,show ((encs (fun s => [Value.string s]) nms4).drop (j * 1)).take 1 = [.string nms4[j]] from encs_at (f := fun s => [Value.string s]) (k := 1) (fun _ => rfl) nms4 j hlt4,hsj] at ht16
  refine .t2 (t_load ty9 rfl (Cells.get (i := 0) ht16 rfl)) (.a2 rfl (.done (Wp.region (.m2 rfl (.m2 rfl (.t2 (t_nilCheck rfl) (.t2 (t_fieldAddr fa163_1 rfl) (.t2 (t_load ty53 rfl (D.var.g 1 rfl)) (.m2 rfl (.t2 (t_build (bd59_0_1_2_3_4 _ _ _ _ _) rfl) (Rg.wd trivial (w_buildSlice (bs53_1 _ _ _ _ _ _) rfl) rfl ?_)))))))))))
  rintro _ w11 ⟨bb,rfl,qbb,hx11,hvbb⟩
  replace D := D.ext hx11
  replace hx := hx.ext hx11
  replace hs12 := hs12.ext hx11
  replace ht16 := ht16.ext hx11
  refine Rg.wd trivial (w_appendO Tryz.underlying53 hi59 hz59 hsi59 hby59 rfl rfl rfl D.row (slc_var hvbb rfl) (by simp [Value.oneCell']) (by decide) (by unfold maxLen; omega) (by omega)) rfl ?_
  rintro v2 wP hap
  obtain ⟨gk,capk,spk,rfl,g1,g2,g3,hvk,hvP,hBP,hfr⟩ := D.app (d := bSy s) (v' := v2) (w' := wP) (by rw [hsy]; exact hap)
  have hne : gk ≠ b := Var.ne hvk hvP (by decide)
  refine .t2 (t_nilCheck rfl) (.t2 (t_fieldAddr fa163_1 rfl) (Rg.wn trivial (w_putF hvP ty53 rfl rfl rfl rfl rfl) ?_))
  rintro _ wS ⟨huS,hvS⟩
  simp only [List.set] at hvS
  have hBS := hBP.trans (Bw.upd huS D.nb)
  have hC6 := CvV.push (acc := baseS.take j ++ [bSy s]) (spk := spk) D.und D.nb hBS (by simpa using hvS) (by simpa using g1) g2 (by simpa using g3) (hvk.upd huS hne) hfr
  clear hvS hvk
  refine .done (Wp.region ?_)
  first | refine .tq (t_addI rfl rfl (by omega)) rfl ?_ | refine .tq (t_add rfl rfl) rfl ?_
  refine .m2 rfl (.done ?_)
  refine ⟨j + 1,by repeat (first | exact .nil | refine .cons rfl ?_),⟨hlt,?_,slC_bw hs12 hBS fun z hz => by cases hz; exact .inr rfl,Bw.ext hx hBS fun z hz => .inl (hFz z hz)⟩,by omega⟩
  have hjb : j < baseS.length := hlt
  rw [List.take_succ_eq_append_getElem hjb,show baseS[j] = bSy s from by rw [← hsj]; simp [baseS]]
  exact hC6
 ·obtain rfl : j = 4 := by omega
  have hl3 := hl0.ext hx
  have hC1 : Cv F w3 b 0 baseS := hC.sub fun z hz => .inl hz
  clear hC
  refine .sr ?_
  first | refine .tq (t_lssT rfl rfl (by omega)) rfl ?_ | refine .tq (t_lssF rfl rfl (by omega)) rfl ?_ | refine .tq (t_lss rfl rfl) rfl ?_
  refine .done (.seq (.condF rfl (Wp.exit (.seq (.sr (.m2 rfl (.t2 (t_lenC hl3 Tryz.underlying25 rfl) (.m2 rfl (.done (Wp.block ?_))))))))))
  refine Wp.loop (ι := Nat × Int) (fun j => [(0,v),(1,lv),(5,.pointer (some ⟨b,0,none⟩)),(30,lv),(31,.int .i64 mns.length),(32,.int .i64 j.1)])
   (fun j w' => j.1 ≤ mns.length ∧ Cv F w' b j.2 (lstS nm an j.1) ∧ Ext w w') (fun j => mns.length - j.1) (0,0) (by repeat (first | exact .nil | refine .cons rfl ?_)) ⟨Nat.zero_le _,hC1,hx⟩ ?_
  clear hC1 hs12 hl3 hx
  rintro ⟨i,m0⟩ w4 ⟨hi,hC,hx⟩
  simp only at hi hC hx ⊢
  have hll := lstS_len nm an i fun z hz => hanc z (by omega)
  by_cases hlt : i < mns.length
  ·have hl4 := hl0.ext hx
   have hog := (hN _ (List.getElem_mem hlt)).oneL
   have hlt2 : i < ms.length := by omega
   have hgi := (hN _ (List.getElem_mem hlt))
   obtain ⟨dv,D⟩ := hC
   obtain ⟨g,hg⟩ : ∃ g,mns[i] = g := ⟨_,rfl⟩
   obtain ⟨acc,hacc⟩ : ∃ a,lstS nm an i = a := ⟨_,rfl⟩
   have hei := hani i hlt
   have hni := hnmi i hlt2
   have hai := hanc i hlt
   have hnxt : lstS nm an (i + 1) = vis i (an i) acc.length false (acc ++ [modS i (nm i)]) := by rw [lstS,hacc]
   rw [hg] at hei hog hgi
   obtain ⟨nme,hnme⟩ : ∃ q,nm i = q := ⟨_,rfl⟩
   rw [hacc] at D hll
   rw [hei,hnme] at hnxt
   rw [hei] at hai
   have hsy : syc (modS i nme) = [.int .i64 1,.int .i64 i,.int .i64 (-1),.int .i64 (-1),.string nme,.bool true] := rfl
   obtain ⟨bm,om,cm,rfl,hcm⟩ : ∃ bm om cm,v = .slice (some ⟨bm,om,none⟩) ms.length cm ∧ Cells w bm om (encs mdc ms) := by
    obtain ⟨_,p,cap,rfl,hcap,h0 | ⟨b1,o1,rfl,h1⟩⟩ := hs0
    ·omega
    ·exact ⟨b1,o1,cap,rfl,h1⟩
   have hbm : bm < w.heap.size := by
    have := Cells.at hcm mdc_len hlt2
    exact Cells.lt this
   have hcmi : Cells w bm (om + i * 2) (mdc ms[i]) := Cells.at hcm mdc_len hlt2
   have hq := Ext.refl w4
   have hdlt : ∀ z,dv.ownBlock = some z → z < w4.heap.size := fun z hz => own_lt D.row hz
   have hl40 := hl4
   have hx0 := hx
   refine .sr ?_
   first | refine .tq (t_lssT rfl rfl (by omega)) rfl ?_ | refine .tq (t_lssF rfl rfl (by omega)) rfl ?_ | refine .tq (t_lss rfl rfl) rfl ?_
   refine .done (.seq (.condT rfl (Wp.skip (.seq (Wp.block (.sr (.m2 rfl ?_)))))))
   refine Rg.ix hl4 trivial rfl rfl Tryz.underlying25 ty27 (by omega) rfl ?_
   intro bt35 ot35 ht35
   rw [Int.toNat_natCast,encs_at Mn.len mns i hlt,hg] at ht35
   refine .t2 (t_loadA rfl ht35 (by rw [Mn.len]; exact ty27)) ?_
   refine Rg.wd trivial (w_new Tryz.zeroValue27 rfl) rfl ?_
   rintro _ wab9 ⟨b9,rfl,qb9,hxab9,hvab9⟩
   refine .a2 rfl ?_
   have hb9l : w4.heap.size ≤ b9 := Nat.le_of_eq qb9.symm
   refine Rg.wn trivial (w_put (cs := g.cells) hvab9 rfl rfl rfl (by rw [Mn.len]; exact ty27) (by rw [Mn.len]; rfl) (hog)) ?_
   rintro _ w41 ⟨hub9,hvb9⟩
   have hx41 := hxab9.upd hub9 (Nat.le_of_eq qb9.symm)
   clear hvab9 hub9 hxab9
   replace D := D.ext hx41
   replace hx := hx.ext hx41
   replace hq := hq.ext hx41
   replace hl4 := hl4.ext hx41
   replace ht35 := ht35.ext hx41
   clear qb9
   refine .done (.sr (.m2 rfl (.m2 rfl (.t2 (t_nilCheck rfl) (.t2 (t_fieldAddr fa163_0 rfl) (Rg.wn trivial (w_putF D.var ty3 rfl rfl rfl rfl rfl) ?_))))))
   rintro _ w42 ⟨huM,hvM⟩
   simp only [List.set] at hvM
   have hb9 : b9 ≠ b := fun e => Var.ne hvb9 D.var (by decide) e
   replace hvb9 := hvb9.upd huM hb9
   have hBM : Bw F w4 w42 := (Bw.of hq fun z hz => by have := hzF z hz; have := hx0.le; omega).trans (Bw.upd huM D.nb)
   replace D := (D.setm huM hvM).addk hvb9.lt hb9 fun z hz e => by have := hdlt z hz; omega
   have hxM : Ext w w42 := Bw.ext hx0 hBM hFz
   clear hvM hx ht35 hl4
   refine .done ?_
   refine Wp.seq (Wp.drawV (fun w' => Var w' b [.int .i64 i,dv] 163 ∧ Cells w' bm (om + i * 2) (mdc ms[i])) [0,1,2,3,4,5,6,7,8,9,10,11,12,13,14,15,16] [0] mixed (by kernel_rfl) (by kernel_rfl) ?_)
   intro w43 hx43 hh43
   replace D := D.ext hx43
   replace hvb9 := hvb9.ext hx43
   replace hxM := hxM.ext hx43
   refine ⟨⟨D.var,fun j v hv => below_cell hxM (hcmi j v hv)⟩,?_⟩
   refine Rv.tm trivial rfl (ts fun wz hkz => by exact t_move rfl) rfl ?_
   refine Rv.tm trivial rfl (ts fun wz hkz => by exact t_move rfl) rfl ?_
   refine Rv.tm trivial rfl (ts fun wz hkz => by exact t_nilCheck rfl) rfl ?_
   refine Rv.tm trivial rfl (ts fun wz hkz => by exact t_fieldAddr fa163_1 rfl) rfl ?_
   refine Rv.tm trivial rfl (ts fun wz hkz => by have y1 := hkz.1.cells; exact t_load ty53 rfl (Cells.get (i := 1) y1 rfl)) rfl ?_
   refine Rv.tm trivial rfl (ts fun wz hkz => by exact t_move rfl) rfl ?_
   refine Rv.tm trivial rfl (ts fun wz hkz => by exact t_move rfl) rfl ?_
   refine Rv.tm trivial rfl (ts fun wz hkz => by exact t_move rfl) rfl ?_
   refine Rv.tm trivial rfl (ts fun wz hkz => by exact t_indexAddrL Tryz.underlying49 ty52 rfl rfl (by omega)) rfl ?_
   rw [Int.toNat_natCast]
   refine Rv.tm trivial rfl (ts fun wz hkz => by exact t_fieldAddr fa52_0 rfl) rfl ?_
   refine Rv.tm trivial rfl (ts fun wz hkz => by have y2 := hkz.2; exact t_load ty9 rfl (Cells.get (i := 0) y2 rfl)) rfl ?_
   rw [← hni,hnme]
   refine Rv.tm trivial rfl (ts fun wz hkz => by exact t_build (bd59_0_1_2_3_4_5 _ _ _ _ _ _) rfl) rfl ?_
   refine Rv.wd trivial rfl (w_buildSlice (bs53_1 _ _ _ _ _ _) rfl) rfl (fun _ _ hr => by obtain ⟨_,_,_,hr,_⟩ := hr; exact ⟨D.var.ext hr,fun j v hv => below_cell (hxM.ext hr) (hcmi j v hv)⟩) ?_
   rintro _ w44 ⟨bb,rfl,qbb,hx44,hvbb⟩
   replace D := D.ext hx44
   replace hvb9 := hvb9.ext hx44
   replace hxM := hxM.ext hx44
   refine Rv.wd trivial rfl (w_appendO Tryz.underlying53 hi59 hz59 hsi59 hby59 rfl rfl rfl D.row (slc_var hvbb rfl) (by simp [Value.oneCell']) (by decide) (by unfold maxLen; omega) (by omega)) rfl (fun v2 wP hap => by obtain ⟨_,_,_,_,_,_,_,_,h6,h7,_⟩ := D.app (d := modS i nme) (v' := v2) (w' := wP) (by rw [hsy]; exact hap); exact ⟨h6,fun j v hv => below_cell (Bw.ext hxM h7 fun z hz => .inl (hFz z hz)) (hcmi j v hv)⟩) ?_
   rintro v2 wP hap
   obtain ⟨gk,capk,spk,rfl,g1,g2,g3,hvk,hvP,hBP,hfr⟩ := D.app (d := modS i nme) (v' := v2) (w' := wP) (by rw [hsy]; exact hap)
   have hne : gk ≠ b := Var.ne hvk hvP (by decide)
   refine Rv.tm trivial rfl (ts fun wz hkz => by exact t_nilCheck rfl) rfl ?_
   refine Rv.tm trivial rfl (ts fun wz hkz => by exact t_fieldAddr fa163_1 rfl) rfl ?_
   refine Rv.wnB (fun _ => True) trivial rfl (w_putF hvP ty53 rfl rfl rfl rfl rfl) (by rfl) (fun _ _ _ => trivial) ?_
   rintro _ wS ⟨huS,hvS⟩
   simp only [List.set] at hvS
   have hBS := hBP.trans (Bw.upd huS D.nb)
   have hC6 := CvV.push (acc := acc ++ [modS i nme]) (spk := spk) D.und D.nb hBS (by simpa using hvS) (by simpa using g1) g2 (by simpa using g3) (hvk.upd huS hne) hfr
   clear hvS hvk
   have hx5 : Ext w wS := Bw.ext hxM hBS fun z hz => .inl (hFz z hz)
   have hv9 := var_bw hvb9 hBS (.inr rfl)
   refine Rv.done ?_
   obtain ⟨dw,D2⟩ := hC6
   refine Wp.drawV (fun w' => Var w' b [.int .i64 i,dw] 163 ∧ Var w' b9 g.cells 27) [0,1,2,3,4,5,6,7,8] [0] mixed (by kernel_rfl) (by kernel_rfl) ?_
   intro w61 hx61 hh61
   replace D2 := D2.ext hx61
   replace hv9 := hv9.ext hx61
   replace hx5 := hx5.ext hx61
   refine ⟨⟨D2.var,hv9⟩,?_⟩
   refine Rv.tm trivial rfl (ts fun wz hkz => by exact t_move rfl) rfl ?_
   refine Rv.tm trivial rfl (ts fun wz hkz => by have y2 := hkz.2.cells; exact t_loadA rfl y2 (by rw [Mn.len]; exact ty27)) rfl ?_
   refine Rv.tm trivial rfl (ts fun wz hkz => by exact t_move rfl) rfl ?_
   refine Rv.tm trivial rfl (ts fun wz hkz => by exact t_nilCheck rfl) rfl ?_
   refine Rv.tm trivial rfl (ts fun wz hkz => by exact t_fieldAddr fa163_1 rfl) rfl ?_
   refine Rv.tm trivial rfl (ts fun wz hkz => by have y1 := hkz.1.cells; exact t_load ty53 rfl (Cells.get (i := 1) y1 rfl)) rfl ?_
   have hs2 := own_slc D2.row
   refine Rv.tm trivial rfl (ts fun wz hkz => by exact t_lenC hs2 Tryz.underlying53 rfl) rfl ?_
   refine Rv.tm trivial rfl (ts fun wz hkz => by exact t_subI rfl rfl (by simp; omega)) rfl ?_
   rw [show (((acc ++ [modS i nme]).length : Nat) : Int) - 1 = acc.length from by simp]
   refine Rv.wdB (fun _ => True) trivial rfl (w_call Tryz.call107 rfl (visit_ok _ g (Nat.le_refl _) F _ b i acc.length false _ (Cv.sub ⟨dw,D2⟩ fun z hz => .inl hz) (hgi.bw (Bw.of hx5 hzF) fun z hz => hFz z (hK z hz)) (by simp; omega))) rfl (by rfl) (fun _ _ _ => trivial) ?_
   rintro _ wr ⟨hCr,hBr⟩
   refine Rv.done (Wp.region ?_)
   first | refine .tq (t_addI rfl rfl (by omega)) rfl ?_ | refine .tq (t_add rfl rfl) rfl ?_
   refine .m2 rfl (.done ?_)
   exact ⟨(i + 1,i),by repeat (first | exact .nil | refine .cons rfl ?_),⟨hlt,by simp only; rw [hnxt]; exact hCr,Bw.ext hx5 hBr hFz⟩,by simp only; omega⟩
  ·obtain rfl : i = mns.length := by omega
   obtain ⟨dv,D⟩ := hC
   refine .sr ?_
   first | refine .tq (t_lssT rfl rfl (by omega)) rfl ?_ | refine .tq (t_lssF rfl rfl (by omega)) rfl ?_ | refine .tq (t_lss rfl rfl) rfl ?_
   refine .done (.seq (.condF rfl (Wp.exit (.sr (.m2 rfl (.t2 (t_nilCheck rfl) (.t2 (t_fieldAddr fa163_1 rfl) (.t2 (t_load ty53 rfl (D.var.g 1 rfl)) (.a2 rfl (.done (Wp.ret ?_)))))))))))
   exact ⟨[_],⟨rfl,trivial⟩,own_slc D.row,fun z hz => Nat.le_of_not_lt fun c => D.nd z hz (hFz z c),hx⟩
noncomputable def treeOf (s : ByteArray) : Tr := .mk 1 nob (Classical.choose (parsed s))
theorem treeOf_parsed (s : ByteArray) : Parsed s (treeOf s) := (Classical.choose_spec (parsed s)).1
theorem treeOf_eq {s : ByteArray} {t : Tr} (h : Parsed s t) : t = treeOf s := h.unique (treeOf_parsed s)
noncomputable def astS (s : ByteArray) : An := astOf s (treeOf s)
noncomputable def syms (ms : List Md) : List Sy := lstS (fun i => (ms.getD i (.empty,.empty)).1) (fun i => astS (ms.getD i (.empty,.empty)).2) ms.length
theorem lstS_congr {nm nm' : Nat → ByteArray} {an an' : Nat → An} : ∀ k,(∀ i,i < k → nm i = nm' i ∧ an i = an' i) → lstS nm an k = lstS nm' an' k
 | 0,_ => rfl
 | k + 1,h => by rw [lstS,lstS,lstS_congr k fun i hi => h i (by omega),(h k (by omega)).1,(h k (by omega)).2]
theorem Trs.syms {ms : List Md} {mns : List Mn} (h : Trs ms mns) (hl : mns.length = ms.length) : lstS (fun i => (ms.getD i (.empty,.empty)).1) (fun i => (mnL mns).getD i dA) mns.length = syms ms := by
 unfold Sym.syms
 rw [hl]
 refine lstS_congr _ fun i hi => ⟨rfl,?_⟩
 obtain ⟨t,h1,h2⟩ := h.2 i (by omega) hi
 have e : (mnL mns).getD i dA = mns[i].er := by simp [List.getD,mnL_at mns i (by omega),mnL_len,hl,hi]
 show (mnL mns).getD i dA = astS (ms.getD i (.empty,.empty)).2
 rw [e,h2,treeOf_eq h1]
 simp [astS,List.getD,hi]
theorem Trs.anc {ms : List Md} {mns : List Mn} (h : Trs ms mns) (hl : mns.length = ms.length) (hs : ∀ m ∈ ms,m.2.size ≤ 2000) : ∀ g ∈ mns,anc g.er ≤ 50000 := by
 intro g hg
 obtain ⟨i,hi,rfl⟩ := List.getElem_of_mem hg
 obtain ⟨t,h1,h2⟩ := h.2 i hi (by omega)
 have h3 := h1.small.cnt
 have h4 := astOf_anc ms[i].2 t
 have h5 := hs _ (List.getElem_mem (show i < ms.length by omega))
 rw [h2]
 omega
theorem PaR.slv {w w' : World} {ms : List Md} {u lv dv : Value} {K : Fs} {mns : List Mn} {ds : List Dm} (h : PaR w ms u w' K mns lv dv ds) : SlC w' lv 7 mns.length (encs Mn.cells mns) := own_slc h.pa.r6
theorem collect_ok {w : World} {v : Value} {ms : List Md} (hA : Asc w) (hE : Er w) (hs0 : SlC w v 2 ms.length (encs mdc ms)) (hlen : ms.length < 4611686018427387904) :
  Cl Tryz.prog 29 #[v] w (fun u w' => ((valE ms ≠ 0 ∧ u = .tuple #[.slice none 0 0,.int .i64 (valE ms)]) ∨ (valE ms = 0 ∧ ∃ sv,u = .tuple #[sv,.int .i64 0] ∧ SlC w' sv 6 (syms ms).length (encs syc (syms ms)))) ∧ Ext w w') := by
 have hx := Ext.refl w
 obtain ⟨e,he⟩ : ∃ e,valE ms = e := ⟨_,rfl⟩
 rw [he]
 refine Cl.enter Tryz.func29 rfl Tryz.ntmps29 rfl rfl (.sr (.a2 rfl (.a2 rfl (.done (.sr (.m2 rfl (Rg.wd trivial (w_call Tryz.call57 rfl (parseAll_ok hA hE hs0 hlen)) rfl ?_)))))))
 rintro _ w1 (⟨h0,rfl,hx1⟩ | ⟨h0,K,mns,lv,dv,ds,R⟩)
 ·rw [he] at h0 ⊢
  replace hx := hx.ext hx1
  refine .m2 rfl (.t2 (t_extract rfl rfl) (.t2 (t_extract rfl rfl) (.t2 (t_extract rfl rfl) (.a2 rfl (.a2 rfl (.a2 rfl (.done (.seq (.sr (.m2 rfl (.t2 (t_neqT rfl rfl h0) (.done ?_))))))))))))
  refine .condT rfl (.sr (.m2 rfl (.a2 rfl (.a2 rfl (.done (Wp.ret ?_))))))
  exact ⟨[_,_],⟨rfl,rfl,trivial⟩,.inl ⟨h0,rfl⟩,hx⟩
 ·have hT := R.tr
  have hl := R.len
  have hx1 := R.pa.x
  have hlv := R.slv
  have hK := R.pa.und
  have hN := R.pa.nk
  obtain rfl := R.ue
  obtain ⟨h8,hsz⟩ := valE_small h0
  rw [he] at h0
  subst h0
  clear R
  refine .m2 rfl (.t2 (t_extract rfl rfl) (.t2 (t_extract rfl rfl) (.t2 (t_extract rfl rfl) (.a2 rfl (.a2 rfl (.a2 rfl (.done (.seq (.sr (.m2 rfl (.t2 (t_neqF rfl rfl rfl) (.done ?_))))))))))))
  refine .condF rfl (Wp.skip (.sr (.m2 rfl (.m2 rfl (Rg.wd trivial (w_call Tryz.call58 rfl (list_ok (hs0.ext hx1) hlv hK hN hl h8 (hT.anc hl hsz))) rfl ?_)))))
  rintro sv w2 ⟨hsv,hso,hx2⟩
  rw [hT.syms hl] at hsv
  refine .a2 rfl (.a2 rfl (.done (Wp.ret ?_)))
  exact ⟨[_,_],⟨rfl,rfl,trivial⟩,.inr ⟨rfl,sv,rfl,hsv⟩,hx1.ext hx2⟩
theorem clo60_ok {w : World} {y : Sy} {m s : Int} {b1 b2 : Nat} (hv : Var w b1 [.int .i64 m] 3) (hvs : Var w b2 [.int .i64 s] 3) : Cl Tryz.prog 60 #[.agg (syc y).toArray,.pointer (some ⟨b1,0,none⟩),.pointer (some ⟨b2,0,none⟩)] w (fun u w' => u = .bool (decide (y.m = m) && decide (y.s = s)) ∧ Ext w w') := by
 have hx := Ext.refl w
 by_cases h1 : y.m = m
 ·rw [decide_eq_true h1]
  refine Cl.enter Tryz.func60 rfl Tryz.ntmps60 rfl rfl (.sr (Rg.wd trivial (w_boxed (cs := syc y) rfl rfl) rfl ?_))
  rintro _ w1 ⟨b3,rfl,q3,hx1,hv3⟩
  replace hx := hx.ext hx1
  replace hv := hv.ext hx1
  replace hvs := hvs.ext hx1
  refine .a2 rfl (.done (.sr (.t2 (t_fieldAddr fa59_1 rfl) (.t2 (t_load ty3 rfl (hv3.g 1 rfl)) (.t2 (t_load ty3 rfl (hv.g 0 rfl)) (.t2 (t_eqlT rfl rfl h1) (.m2 rfl (.g2 (t_fieldAddr fa59_2 rfl) (.g2 (t_load ty3 rfl (hv3.g 2 rfl)) (.g2 (t_load ty3 rfl (hvs.g 0 rfl)) (.g2 (t_eql rfl rfl) (.t2 (t_pickT rfl rfl) ?_))))))))))))
  refine .a2 rfl (.done (Wp.ret ?_))
  exact ⟨[_],⟨rfl,trivial⟩,rfl,hx⟩
 ·rw [decide_eq_false h1]
  refine Cl.enter Tryz.func60 rfl Tryz.ntmps60 rfl rfl (.sr (Rg.wd trivial (w_boxed (cs := syc y) rfl rfl) rfl ?_))
  rintro _ w1 ⟨b3,rfl,q3,hx1,hv3⟩
  replace hx := hx.ext hx1
  replace hv := hv.ext hx1
  replace hvs := hvs.ext hx1
  refine .a2 rfl (.done (.sr (.t2 (t_fieldAddr fa59_1 rfl) (.t2 (t_load ty3 rfl (hv3.g 1 rfl)) (.t2 (t_load ty3 rfl (hv.g 0 rfl)) (.t2 (t_eqlF rfl rfl h1) (.m2 rfl (.so rfl rfl (.so rfl rfl (.so rfl rfl (.so rfl rfl (.t2 (t_pickF rfl rfl) ?_))))))))))))
  refine .a2 rfl (.done (Wp.ret ?_))
  exact ⟨[_],⟨rfl,trivial⟩,rfl,hx⟩
def fndS (l : List Sy) (m s : Int) : Option Nat := l.findIdx? fun y => decide (y.m = m) && decide (y.s = s)
theorem findAt_ok {w : World} {v : Value} {l : List Sy} {m s : Int} (hs0 : SlC w v 6 l.length (encs syc l)) (hlen : l.length < 4611686018427387904) :
  Cl Tryz.prog 32 #[v,.int .i64 m,.int .i64 s] w (fun u w' => u = .int .i64 (idxO (fndS l m s)) ∧ Ext w w') := by
 have hx := Ext.refl w
 refine Cl.enter Tryz.func32 rfl Tryz.ntmps32 rfl rfl (.sr (Rg.wd trivial (w_boxed (cs := [.int .i64 m]) rfl rfl) rfl ?_))
 rintro _ w1 ⟨b4,rfl,q4,hx1,hv4⟩
 replace hx := hx.ext hx1
 refine Rg.wd trivial (w_boxed (cs := [.int .i64 s]) rfl rfl) rfl ?_
 rintro _ w2 ⟨b5,rfl,q5,hx2,hv5⟩
 replace hx := hx.ext hx2
 replace hv4 := hv4.ext hx2
 refine .a2 rfl (.done (.sr (.m2 rfl (.t2 (t_makeFuncB (us := []) (vs := [.pointer (some ⟨b4,0,none⟩),.pointer (some ⟨b5,0,none⟩)]) rfl rfl) (Rg.wd trivial (w_call Tryz.call59 rfl (idxS_ok (fst := []) (cap := [.pointer (some ⟨b4,0,none⟩),.pointer (some ⟨b5,0,none⟩)]) (hs0.ext hx) Tryz.call60 (fun w1 x1 m _ => clo60_ok (hv4.ext x1) (hv5.ext x1)) hlen)) rfl ?_)))))
 rintro _ w3 ⟨rfl,hx3⟩
 replace hx := hx.ext hx3
 replace hv4 := hv4.ext hx3
 replace hv5 := hv5.ext hx3
 refine .a2 rfl (.done (Wp.ret ?_))
 exact ⟨[_],⟨rfl,trivial⟩,rfl,hx⟩
theorem fields59 : (Tryz.prog.fieldsOf 59).toList.map (fun f => (f.name != "_",f.type,f.offset)) = [(true,3,0),(true,3,1),(true,3,2),(true,3,3),(true,9,4),(true,4,5)] := by kernel_rfl
theorem under59 : Tryz.prog.underlying 59 = some (.struct (Tryz.prog.fieldsOf 59)) := by kernel_rfl
theorem part4 (xs : Array Value) (v : Value) (o : Nat) (h : xs[o]? = some v) (w : World) : (part 4 xs o).run Tryz.prog w = .ok v w := by
 have h1 := ty4.ag w
 have h2 := ty4.sz w
 simp [part,h1,h2,h]
theorem eq59 (a0 : Int) (a1 : Int) (a2 : Int) (a3 : Int) (a4 : ByteArray) (a5 : Bool) (b0 : Int) (b1 : Int) (b2 : Int) (b3 : Int) (b4 : ByteArray) (b5 : Bool) (w : World) : (Op.equal 59 (.agg #[.int .i64 a0,.int .i64 a1,.int .i64 a2,.int .i64 a3,.string a4,.bool a5]) (.agg #[.int .i64 b0,.int .i64 b1,.int .i64 b2,.int .i64 b3,.string b4,.bool b5])).run Tryz.prog w = .ok (a0 == b0 && (a1 == b1 && (a2 == b2 && (a3 == b3 && (decide (a4 = b4) && (a5 == b5)))))) w := by
 obtain ⟨f0,f1,f2,f3,f4,f5,hf,n0,t0,o0,n1,t1,o1,n2,t2,o2,n3,t3,o3,n4,t4,o4,n5,t5,o5⟩ : ∃ f0 f1 f2 f3 f4 f5 : Field,(Tryz.prog.fieldsOf 59).toList = [f0,f1,f2,f3,f4,f5] ∧ f0.name ≠ "_" ∧ f0.type = 3 ∧ f0.offset = 0 ∧ f1.name ≠ "_" ∧ f1.type = 3 ∧ f1.offset = 1 ∧ f2.name ≠ "_" ∧ f2.type = 3 ∧ f2.offset = 2 ∧ f3.name ≠ "_" ∧ f3.type = 3 ∧ f3.offset = 3 ∧ f4.name ≠ "_" ∧ f4.type = 9 ∧ f4.offset = 4 ∧ f5.name ≠ "_" ∧ f5.type = 4 ∧ f5.offset = 5 := by
  have hf := fields59
  generalize (Tryz.prog.fieldsOf 59).toList = fs at hf ⊢
  rcases fs with _ | ⟨f0,_ | ⟨f1,_ | ⟨f2,_ | ⟨f3,_ | ⟨f4,_ | ⟨f5,_ | ⟨f6,r⟩⟩⟩⟩⟩⟩⟩
  ·cases hf
  ·simp at hf
  ·simp at hf
  ·simp at hf
  ·simp at hf
  ·simp at hf
  ·simp only [List.map_cons,List.map_nil,List.cons.injEq,Prod.mk.injEq,and_true,bne_iff_ne,ne_eq] at hf
   obtain ⟨⟨n0,t0,o0⟩,⟨n1,t1,o1⟩,⟨n2,t2,o2⟩,⟨n3,t3,o3⟩,⟨n4,t4,o4⟩,n5,t5,o5⟩ := hf
   exact ⟨f0,f1,f2,f3,f4,f5,rfl,n0,t0,o0,n1,t1,o1,n2,t2,o2,n3,t3,o3,n4,t4,o4,n5,t5,o5⟩
  ·simp at hf
 unfold Op.equal
 rw [show Op.maxDepth = 9999 + 1 from rfl,run_equalIn_struct w 9999 59 _ _ under59 (by kernel_rfl),hf]
 have e1 : ∀ p q : Int,(Op.equalIn 9999 3 (.int .i64 p) (.int .i64 q)).run Tryz.prog w = .ok (p == q) w := fun p q => run_equalIn_int w 9998 3 .i64 .i64 p q Tryz.underlying3
 have p0 := part3 #[.int .i64 a0,.int .i64 a1,.int .i64 a2,.int .i64 a3,.string a4,.bool a5] (.int .i64 a0) 0 rfl w
 have q0 := part3 #[.int .i64 b0,.int .i64 b1,.int .i64 b2,.int .i64 b3,.string b4,.bool b5] (.int .i64 b0) 0 rfl w
 have g0  := e1 a0 b0
 have p1 := part3 #[.int .i64 a0,.int .i64 a1,.int .i64 a2,.int .i64 a3,.string a4,.bool a5] (.int .i64 a1) 1 rfl w
 have q1 := part3 #[.int .i64 b0,.int .i64 b1,.int .i64 b2,.int .i64 b3,.string b4,.bool b5] (.int .i64 b1) 1 rfl w
 have g1  := e1 a1 b1
 have p2 := part3 #[.int .i64 a0,.int .i64 a1,.int .i64 a2,.int .i64 a3,.string a4,.bool a5] (.int .i64 a2) 2 rfl w
 have q2 := part3 #[.int .i64 b0,.int .i64 b1,.int .i64 b2,.int .i64 b3,.string b4,.bool b5] (.int .i64 b2) 2 rfl w
 have g2  := e1 a2 b2
 have p3 := part3 #[.int .i64 a0,.int .i64 a1,.int .i64 a2,.int .i64 a3,.string a4,.bool a5] (.int .i64 a3) 3 rfl w
 have q3 := part3 #[.int .i64 b0,.int .i64 b1,.int .i64 b2,.int .i64 b3,.string b4,.bool b5] (.int .i64 b3) 3 rfl w
 have g3  := e1 a3 b3
 have p4 := part9 #[.int .i64 a0,.int .i64 a1,.int .i64 a2,.int .i64 a3,.string a4,.bool a5] (.string a4) 4 rfl w
 have q4 := part9 #[.int .i64 b0,.int .i64 b1,.int .i64 b2,.int .i64 b3,.string b4,.bool b5] (.string b4) 4 rfl w
 have g4 : (Op.equalIn 9999 9 (.string a4) (.string b4)).run Tryz.prog w = .ok (decide (a4 = b4)) w := strEq 9998 a4 b4 w
 have p5 := part4 #[.int .i64 a0,.int .i64 a1,.int .i64 a2,.int .i64 a3,.string a4,.bool a5] (.bool a5) 5 rfl w
 have q5 := part4 #[.int .i64 b0,.int .i64 b1,.int .i64 b2,.int .i64 b3,.string b4,.bool b5] (.bool b5) 5 rfl w
 have g5 : (Op.equalIn 9999 4 (.bool a5) (.bool b5)).run Tryz.prog w = .ok (a5 == b5) w := run_equalIn_bool w 9998 4 a5 b5 Tryz.underlying4
 generalize (a0 == b0) = r0 at g0 ⊢
 generalize (a1 == b1) = r1 at g1 ⊢
 generalize (a2 == b2) = r2 at g2 ⊢
 generalize (a3 == b3) = r3 at g3 ⊢
 generalize decide (a4 = b4) = r4 at g4 ⊢
 generalize (a5 == b5) = r5 at g5 ⊢
 simp only [Op.eqFields,t0,o0,n0,t1,o1,n1,t2,o2,n2,t3,o3,n3,t4,o4,n4,t5,o5,n5,ne_eq,not_false_eq_true,if_true,Sem.run_bind,p0,q0,Result.andThen_ok,g0]
 cases r0
 ·simp
 ·simp [p1,q1,g1]
  cases r1
  ·simp
  ·simp [p2,q2,g2]
   cases r2
   ·simp
   ·simp [p3,q3,g3]
    cases r3
    ·simp
    ·simp [p4,q4,g4]
     cases r4
     ·simp
     ·simp [p5,q5,g5]
      cases r5 <;> simp
def exS : ByteArray := ⟨#[102,110,32,102,40,97,58,32,105,110,116,41,32,123,125]⟩
def exM : List Md := [("main".toUTF8,exS)]
def tupS (y : Sy) : List Int × List UInt8 := ([y.k,y.m,y.s,y.p,if y.pub then 1 else 0],y.n.data.toList)
theorem ex_run : ((run body 60 file ⟨Lexi.toks exS,[],false,0⟩).map fun r => (lstS (fun i => (exM.getD i (.empty,.empty)).1) (fun _ => astOf exS (.mk 1 nob r.kids)) 1).map tupS) = some ((baseS ++ [modS 0 "main".toUTF8,⟨2,0,3,4, "f".toUTF8,false⟩,⟨10,0,5,5, "a".toUTF8,false⟩]).map tupS) := by decide +kernel
theorem tupS_inj {a b : Sy} (h : tupS a = tupS b) : a = b := by
 obtain ⟨a0,a1,a2,a3,a4,a5⟩ := a
 obtain ⟨b0,b1,b2,b3,b4,b5⟩ := b
 simp only [tupS,Prod.mk.injEq,List.cons.injEq,and_true] at h
 obtain ⟨⟨rfl,rfl,rfl,rfl,hb⟩,h⟩ := h
 obtain rfl : a5 = b5 := by revert hb; cases a5 <;> cases b5 <;> simp
 obtain rfl : a4 = b4 := ByteArray.ext (Array.toList_inj.1 h)
 rfl
theorem map_tupS : ∀ {l m : List Sy},l.map tupS = m.map tupS → l = m
 | [],[],_ => rfl
 | [],_ :: _,h => by cases h
 | _ :: _,[],h => by cases h
 | a :: l,b :: m,h => by
  simp only [List.map_cons,List.cons.injEq] at h
  rw [tupS_inj h.1,map_tupS h.2]
theorem ex_syms : syms exM = baseS ++ [modS 0 "main".toUTF8,⟨2,0,3,4, "f".toUTF8,false⟩,⟨10,0,5,5, "a".toUTF8,false⟩] := by
 have h1 := ex_run
 rw [Option.map_eq_some_iff] at h1
 obtain ⟨r,h2,h3⟩ := h1
 have h4 := treeOf_eq (s := exS) ⟨_,r,h2,rfl⟩
 rw [h4] at h3
 rw [← map_tupS h3]
 unfold syms
 refine lstS_congr _ fun i hi => ⟨rfl,?_⟩
 obtain rfl : i = 0 := by have : i < 1 := hi; omega
 rfl
theorem ex_val : valE exM = 0 := by decide +kernel
theorem symsEx_ok {w : World} (hA : Asc w) (hE : Er w) : Cl Tryz.prog 26 #[] w (fun u w' => u = .bool true ∧ Ext w w') := by
 have hx := Ext.refl w
 refine Cl.enter Tryz.func26 rfl Tryz.ntmps26 rfl rfl (.sr (.a2 rfl (.done (.sr (Rg.wd trivial (w_call Tryz.call43 rfl (one_ok (s := exS))) rfl ?_)))))
 rintro _ w1 ⟨hsm,hx1⟩
 replace hx := hx.ext hx1
 refine Rg.wd trivial (w_call Tryz.call29 rfl (collect_ok (ms := exM) (hA.ext hx) (er_ext hE hx) hsm (by decide))) rfl ?_
 rintro _ w2 ⟨⟨h0,_⟩ | ⟨_,sv,rfl,hsv⟩,hx2⟩
 ·exact absurd ex_val h0
 rw [ex_syms] at hsv
 have hel : (baseS ++ [modS 0 "main".toUTF8,⟨2,0,3,4, "f".toUTF8,false⟩,⟨10,0,5,5, "a".toUTF8,false⟩]).length = 7 := rfl
 replace hx := hx.ext hx2
 replace hsm := hsm.ext hx2
 refine .m2 rfl (.t2 (t_extract rfl rfl) (.t2 (t_extract rfl rfl) (.a2 rfl (.a2 rfl (.done (.sr (.m2 rfl (.t2 (t_eqlT rfl rfl rfl) (.m2 rfl ?_)))))))))
 first | refine .gd (t_move rfl) rfl ?_ | refine .so rfl rfl ?_
 first | refine .gd (t_lenC hsv Tryz.underlying53 rfl) rfl ?_ | refine .so rfl rfl ?_
 refine .g2 (t_eqlT rfl rfl (by decide)) ?_
 refine .t2 (t_pickT rfl rfl) (.m2 rfl ?_)
 first | refine .gd (t_move rfl) rfl ?_ | refine .so rfl rfl ?_
 refine Rg.ix hsv ⟨_,rfl,rfl⟩ rfl rfl Tryz.underlying53 ty59 (by omega) rfl ?_
 intro bt17 ot17 ht17
 rw [show ((encs syc (baseS ++ [modS 0 "main".toUTF8,⟨2,0,3,4, "f".toUTF8,false⟩,⟨10,0,5,5, "a".toUTF8,false⟩])).drop ((5 : Int).toNat * 6)).take 6 = syc ⟨2,0,3,4, "f".toUTF8,false⟩ from rfl] at ht17
 refine .g2 (t_loadA rfl ht17 (by exact ty59)) ?_
 refine .g2 (t_build (bd59_0_2_3_4 _ _ _ _) rfl) ?_
 refine .g2 (t_eqlAgg (b := true) (by kernel_rfl) (fun w => (eq59 _ _ _ _ _ _ _ _ _ _ _ _ w).trans (by congr 1)) rfl rfl) ?_
 refine .t2 (t_pickT rfl rfl) (.m2 rfl ?_)
 first | refine .gd (t_move rfl) rfl ?_ | refine .so rfl rfl ?_
 refine Rg.ix hsv ⟨_,rfl,rfl⟩ rfl rfl Tryz.underlying53 ty59 (by omega) rfl ?_
 intro bt24 ot24 ht24
 rw [show ((encs syc (baseS ++ [modS 0 "main".toUTF8,⟨2,0,3,4, "f".toUTF8,false⟩,⟨10,0,5,5, "a".toUTF8,false⟩])).drop ((6 : Int).toNat * 6)).take 6 = syc ⟨10,0,5,5, "a".toUTF8,false⟩ from rfl] at ht24
 refine .g2 (t_loadA rfl ht24 (by exact ty59)) ?_
 refine .g2 (t_build (bd59_0_2_3_4 _ _ _ _) rfl) ?_
 refine .g2 (t_eqlAgg (b := true) (by kernel_rfl) (fun w => (eq59 _ _ _ _ _ _ _ _ _ _ _ _ w).trans (by congr 1)) rfl rfl) ?_
 refine .t2 (t_pickT rfl rfl) (.a2 rfl (.done (Wp.ret ?_)))
 exact ⟨[_],⟨rfl,trivial⟩,rfl,hx⟩
def FndOk (l : List Sy) : Prop := ∀ k (h : k < l.length),0 ≤ l[k].s → fndS l l[k].m l[k].s = some k
theorem syms_len (ms : List Md) (h8 : ms.length ≤ 8) (hsz : ∀ m ∈ ms,m.2.size ≤ 2000) : (syms ms).length ≤ 500000 := by
 have := lstS_len (fun i => (ms.getD i (.empty,.empty)).1) (fun i => astS (ms.getD i (.empty,.empty)).2) ms.length fun i hi => by
  have h1 := (treeOf_parsed (ms.getD i (.empty,.empty)).2).small.cnt
  have h2 := astOf_anc (ms.getD i (.empty,.empty)).2 (treeOf (ms.getD i (.empty,.empty)).2)
  have h3 := hsz _ (List.getElem_mem hi)
  have e : ms.getD i (.empty,.empty) = ms[i] := by simp [List.getD,hi]
  rw [e] at h1 h2 ⊢
  show anc (astS ms[i].2) ≤ 50000
  unfold astS
  omega
 unfold syms
 omega
theorem findLaw (hfd : ∀ ms : List Md,valE ms = 0 → FndOk (syms ms)) {w : World} {v : Value} {ms : List Md} {k : Int} (hA0 : Asc w) (hE0 : Er w) (hs0 : SlC w v 2 ms.length (encs mdc ms)) :
  Cl Tryz.prog 7 #[v,.int .i64 k] w (fun u w' => u = .bool true ∧ Ext w w') := by
 have hx := Ext.refl w
 refine Cl.enter Tryz.func7 rfl Tryz.ntmps7 rfl rfl (.sr (.a2 rfl (.done (.seq (.sr (Rg.wd trivial (w_call Tryz.call26 rfl (symsEx_ok (hA0.ext hx) (er_ext hE0 hx))) rfl ?_))))))
 rintro _ w1 ⟨rfl,hx1⟩
 replace hx := hx.ext hx1
 refine .t2 (t_notB rfl) (.done (.condF rfl (Wp.skip (.sr ?_))))
 have hfl := fewM_len ms
 refine .m2 rfl (Rg.wd trivial (w_call Tryz.call27 rfl (few_ok (hs0.ext hx))) rfl ?_)
 rintro _ w2 ⟨hfw,hfo,hx2⟩
 replace hx := hx.ext hx2
 refine Rg.wd trivial (w_call Tryz.call29 rfl (collect_ok (ms := fewM ms) (hA0.ext hx) (er_ext hE0 hx) hfw (by omega))) rfl ?_
 rintro _ w3 ⟨⟨h0,rfl⟩ | ⟨h0,sv,rfl,hsv⟩,hx3⟩
 ·replace hx := hx.ext hx3
  refine .m2 rfl (.t2 (t_extract rfl rfl) (.t2 (t_extract rfl rfl) (.a2 rfl (.a2 rfl (.done (.seq (.sr (.m2 rfl (.t2 (t_neqT rfl rfl h0) (.m2 rfl (.so rfl rfl (.so rfl rfl ?_))))))))))))
  refine .so rfl rfl (.t2 (t_pickT rfl rfl) (.done (.condT rfl (.sr (Rg.wd trivial (w_call Tryz.call26 rfl (symsEx_ok (hA0.ext hx) (er_ext hE0 hx))) rfl ?_)))))
  rintro _ w4 ⟨rfl,hx4⟩
  replace hx := hx.ext hx4
  refine .a2 rfl (.done (Wp.ret ?_))
  exact ⟨[_],⟨rfl,trivial⟩,rfl,hx⟩
 ·replace hx := hx.ext hx3
  have hsl := syms_len (fewM ms) (valE_small h0).1 (valE_small h0).2
  have hfk := hfd _ h0
  obtain ⟨l,hl⟩ : ∃ l,syms (fewM ms) = l := ⟨_,rfl⟩
  rw [hl] at hsv hsl hfk
  refine .m2 rfl (.t2 (t_extract rfl rfl) (.t2 (t_extract rfl rfl) (.a2 rfl (.a2 rfl (.done ?_)))))
  by_cases hz : l.length = 0
  ·skip
   refine .seq (.sr (.m2 rfl (.t2 (t_neqF rfl rfl rfl) (.m2 rfl (.g2 (t_move rfl) (.g2 (t_lenC hsv Tryz.underlying53 rfl) ?_))))))
   refine .g2 (t_eqlT rfl rfl (by omega)) ?_
   refine .t2 (t_pickF rfl rfl) (.done (.condT rfl (.sr (Rg.wd trivial (w_call Tryz.call26 rfl (symsEx_ok (hA0.ext hx) (er_ext hE0 hx))) rfl ?_))))
   rintro _ w4 ⟨rfl,hx4⟩
   replace hx := hx.ext hx4
   replace hsv := hsv.ext hx4
   refine .a2 rfl (.done (Wp.ret ?_))
   exact ⟨[_],⟨rfl,trivial⟩,rfl,hx⟩
  ·skip
   refine .seq (.sr (.m2 rfl (.t2 (t_neqF rfl rfl rfl) (.m2 rfl (.g2 (t_move rfl) (.g2 (t_lenC hsv Tryz.underlying53 rfl) ?_))))))
   refine .g2 (t_eqlF rfl rfl (by omega)) ?_
   refine .t2 (t_pickF rfl rfl) (.done (.condF rfl (Wp.skip (.sr (.m2 rfl (.m2 rfl (.t2 (t_lenC hsv Tryz.underlying53 rfl) ?_)))))))
   refine Rg.wd trivial (w_call Tryz.call21 rfl (mod_ok (by omega) (by omega))) rfl ?_
   rintro _ w4 ⟨⟨j,rfl,hj,_⟩,hx4⟩
   replace hx := hx.ext hx4
   replace hsv := hsv.ext hx4
   refine .a2 rfl (.done ?_)
   by_cases hs : l[j].s < 0
   ·skip
    refine Wp.seq (Wp.draw [0,1,2,3,4,5,6,7,8,9,10,11,12,13,14,15,16,17,18,19,21,20,22,23,24,25] [] mixed (by kernel_rfl) (by kernel_rfl) ?_)
    intro w5 hx5 _
    replace hx := hx.ext hx5
    replace hsv := hsv.ext hx5
    refine Rg.wdB trivial rfl (w_call Tryz.call26 rfl (symsEx_ok (hA0.ext hx) (er_ext hE0 hx))) rfl (fun _ _ h => h.2.below) ?_
    rintro _ w6 ⟨rfl,hx6⟩
    replace hx := hx.ext hx6
    replace hsv := hsv.ext hx6
    refine .m2 rfl (.g2 (t_move rfl) (.g2 (t_move rfl) ?_))
    refine Rg.ix hsv ⟨_,rfl,rfl⟩ rfl rfl Tryz.underlying53 ty59 (by omega) rfl ?_
    intro bt32 ot32 ht32
    rw [Int.toNat_natCast,encs_at syc_len l j hj] at ht32
    refine .g2 (t_fieldAddr fa59_2 rfl) (.g2 (t_load ty3 rfl (Cells.get (i := 2) ht32 rfl)) ?_)
    refine .g2 (t_lssT rfl rfl (by omega)) ?_
    refine .g2 (t_move rfl) (.so rfl rfl (.so rfl rfl (.so rfl rfl (.so rfl rfl (.so rfl rfl (.so rfl rfl (.so rfl rfl (.so rfl rfl (.so rfl rfl (.so rfl rfl (.so rfl rfl (.so rfl rfl ?_))))))))))))
    refine .so rfl rfl (.so rfl rfl (.g2 (t_pickT rfl rfl) (.t2 (t_pickT rfl rfl) (.a2 rfl (.done (Wp.ret ?_))))))
    exact ⟨[_],⟨rfl,trivial⟩,rfl,hx⟩
   ·skip
    refine Wp.seq (Wp.draw [0,1,2,3,4,5,6,7,8,9,10,11,12,13,14,15,16,17,18,19,21,20,22,23,24,25] [] mixed (by kernel_rfl) (by kernel_rfl) ?_)
    intro w5 hx5 _
    replace hx := hx.ext hx5
    replace hsv := hsv.ext hx5
    refine Rg.wdB trivial rfl (w_call Tryz.call26 rfl (symsEx_ok (hA0.ext hx) (er_ext hE0 hx))) rfl (fun _ _ h => h.2.below) ?_
    rintro _ w6 ⟨rfl,hx6⟩
    replace hx := hx.ext hx6
    replace hsv := hsv.ext hx6
    refine .m2 rfl (.g2 (t_move rfl) (.g2 (t_move rfl) ?_))
    refine Rg.ix hsv ⟨_,rfl,rfl⟩ rfl rfl Tryz.underlying53 ty59 (by omega) rfl ?_
    intro bt32 ot32 ht32
    rw [Int.toNat_natCast,encs_at syc_len l j hj] at ht32
    refine .g2 (t_fieldAddr fa59_2 rfl) (.g2 (t_load ty3 rfl (Cells.get (i := 2) ht32 rfl)) ?_)
    refine .g2 (t_lssF rfl rfl (by omega)) ?_
    refine .g2 (t_move rfl) (.g2 (t_move rfl) (.g2 (t_move rfl) (.g2 (t_move rfl) ?_)))
    refine Rg.ix hsv ⟨_,rfl,rfl⟩ rfl rfl Tryz.underlying53 ty59 (by omega) rfl ?_
    intro bt40 ot40 ht40
    rw [Int.toNat_natCast,encs_at syc_len l j hj] at ht40
    refine .g2 (t_fieldAddr fa59_1 rfl) (.g2 (t_load ty3 rfl (Cells.get (i := 1) ht40 rfl)) (.g2 (t_move rfl) (.g2 (t_move rfl) ?_)))
    refine Rg.ix hsv ⟨_,rfl,rfl⟩ rfl rfl Tryz.underlying53 ty59 (by omega) rfl ?_
    intro bt45 ot45 ht45
    rw [Int.toNat_natCast,encs_at syc_len l j hj] at ht45
    refine .g2 (t_fieldAddr fa59_2 rfl) (.g2 (t_load ty3 rfl (Cells.get (i := 2) ht45 rfl)) (.g2 (t_move rfl) ?_))
    refine Rg.wdB ⟨_,rfl,rfl⟩ rfl (w_call Tryz.call32 rfl (findAt_ok hsv (by omega))) rfl (fun _ _ h => h.2.below) ?_
    rintro _ w7 ⟨rfl,hx7⟩
    replace hx := hx.ext hx7
    replace hsv := hsv.ext hx7
    replace ht32 := ht32.ext hx7
    replace ht40 := ht40.ext hx7
    replace ht45 := ht45.ext hx7
    rw [hfk j hj (by omega)]
    refine .g2 (t_eqlT rfl rfl rfl) (.g2 (t_pickF rfl rfl) (.t2 (t_pickT rfl rfl) (.a2 rfl (.done (Wp.ret ?_)))))
    exact ⟨[_],⟨rfl,trivial⟩,rfl,hx⟩
end Go.Proofs.YtiogccmfmjhipaaGreatDoor.Sym
namespace Go.Proofs.YtiogccmfmjhipaaGreatDoor.Sym
open Par Ast
def sh (d : Int) (y : Sy) : Sy := ⟨y.k,y.m,y.s,y.p + d,y.n,y.pub⟩
theorem accOf_shift (m : Int) (h : Hd) (p : Int) (lp : Bool) (d : Int) (pre l : List Sy) : accOf m h (p + d) lp (pre ++ l.map (sh d)) = pre ++ (accOf m h p lp l).map (sh d) := by
 unfold accOf
 split
 ·rfl
 ·rw [List.map_append,List.append_assoc]
  rfl
theorem parOf_shift (h : Hd) (p : Int) (lp : Bool) (d : Int) (pre l : List Sy) (hd : (pre.length : Int) = d) : parOf h (p + d) lp (pre ++ l.map (sh d)) = parOf h p lp l + d := by
 unfold parOf
 split
 ·rw [List.length_append,List.length_map]
  omega
 ·rfl
mutual
theorem vis_shift (m : Int) (d : Int) (pre : List Sy) (hd : (pre.length : Int) = d) : ∀ (a : An) (p : Int) (lp : Bool) (l : List Sy),vis m a (p + d) lp (pre ++ l.map (sh d)) = pre ++ (vis m a p lp l).map (sh d)
 | .mk h ks,p,lp,l => by
  rw [vis,vis,accOf_shift,parOf_shift _ _ _ _ _ _ hd]
  exact visL_shift m d pre hd ks _ _ _
theorem visL_shift (m : Int) (d : Int) (pre : List Sy) (hd : (pre.length : Int) = d) : ∀ (qs : List An) (p : Int) (lp : Bool) (l : List Sy),visL m qs (p + d) lp (pre ++ l.map (sh d)) = pre ++ (visL m qs p lp l).map (sh d)
 | [],p,lp,l => by rw [visL,visL]
 | a :: qs,p,lp,l => by
  rw [visL,visL,vis_shift m d pre hd a p lp l]
  exact visL_shift m d pre hd qs _ _ _
end
def decl (m : Int) (a : An) : List Sy := vis m a (-1) false []
theorem step_chunk (i : Nat) (nm : ByteArray) (a : An) (acc : List Sy) : vis i a acc.length false (acc ++ [modS i nm]) = acc ++ (modS i nm :: (decl i a).map (sh (acc.length + 1))) := by
 have h := vis_shift (i : Int) ((acc.length : Int) + 1) (acc ++ [modS i nm]) (by simp) a (-1) false []
 simp only [List.map_nil,List.append_nil] at h
 rw [show (-1 : Int) + ((acc.length : Int) + 1) = acc.length from by omega] at h
 rw [h,List.append_assoc]
 rfl
def chunk (n : Int) (i : Nat) (nm : ByteArray) (a : An) : List Sy := modS i nm :: (decl i a).map (sh (n + 1))
theorem lstS_succ (nm : Nat → ByteArray) (an : Nat → An) (k : Nat) : lstS nm an (k + 1) = lstS nm an k ++ chunk (lstS nm an k).length k (nm k) (an k) := by
 rw [lstS,step_chunk]
 rfl
mutual
def sts : An → Bool → List Int
 | .mk h ks,lp => (if symKind h lp = 0 then [] else [declSt h]) ++ stsL ks (locOf h lp)
def stsL : List An → Bool → List Int
 | [],_ => []
 | a :: l,lp => sts a lp ++ stsL l lp
end
theorem accOf_s (m : Int) (h : Hd) (p : Int) (lp : Bool) (acc : List Sy) : (accOf m h p lp acc).map (·.s) = acc.map (·.s) ++ (if symKind h lp = 0 then [] else [declSt h]) := by
 unfold accOf
 split
 ·simp
 ·rw [List.map_append]; rfl
mutual
theorem vis_s (m : Int) : ∀ (a : An) (p : Int) (lp : Bool) (acc : List Sy),(vis m a p lp acc).map (·.s) = acc.map (·.s) ++ sts a lp
 | .mk h ks,p,lp,acc => by rw [vis,visL_s m ks,accOf_s,List.append_assoc,sts]
theorem visL_s (m : Int) : ∀ (qs : List An) (p : Int) (lp : Bool) (acc : List Sy),(visL m qs p lp acc).map (·.s) = acc.map (·.s) ++ stsL qs lp
 | [],p,lp,acc => by rw [visL,stsL,List.append_nil]
 | a :: qs,p,lp,acc => by rw [visL,visL_s m qs,vis_s m a,List.append_assoc,stsL]
end
theorem accOf_m {m : Int} {h : Hd} {p : Int} {lp : Bool} {acc : List Sy} (ha : ∀ y ∈ acc,y.m = m) : ∀ y ∈ accOf m h p lp acc,y.m = m := by
 unfold accOf
 split
 ·exact ha
 ·intro y hy
  rcases List.mem_append.1 hy with h | h
  ·exact ha y h
  ·rw [List.mem_singleton.1 h]; rfl
mutual
theorem vis_m (m : Int) : ∀ (a : An) (p : Int) (lp : Bool) (acc : List Sy),(∀ y ∈ acc,y.m = m) → ∀ y ∈ vis m a p lp acc,y.m = m
 | .mk h ks,p,lp,acc,ha => by rw [vis]; exact visL_m m ks _ _ _ (accOf_m ha)
theorem visL_m (m : Int) : ∀ (qs : List An) (p : Int) (lp : Bool) (acc : List Sy),(∀ y ∈ acc,y.m = m) → ∀ y ∈ visL m qs p lp acc,y.m = m
 | [],p,lp,acc,ha => by rw [visL]; exact ha
 | a :: qs,p,lp,acc,ha => by rw [visL]; exact visL_m m qs _ _ _ (vis_m m a _ _ _ ha)
end
theorem decl_m (m : Int) (a : An) : ∀ y ∈ decl m a,y.m = m := vis_m m a _ _ _ fun y hy => absurd hy List.not_mem_nil
theorem decl_s (m : Int) (a : An) : (decl m a).map (·.s) = sts a false := by unfold decl; rw [vis_s]; rfl
theorem chunk_m {n : Int} {i : Nat} {nm : ByteArray} {a : An} : ∀ y ∈ chunk n i nm a,y.m = i := by
 intro y hy
 rcases List.mem_cons.1 hy with rfl | h
 ·rfl
 ·obtain ⟨z,hz,rfl⟩ := List.mem_map.1 h
  exact decl_m i a z hz
theorem lstS_m (nm : Nat → ByteArray) (an : Nat → An) : ∀ k,∀ y ∈ lstS nm an k,y.m < k
 | 0,y,hy => by
  rw [lstS] at hy
  obtain ⟨z,_,rfl⟩ := List.mem_map.1 hy
  show (-1 : Int) < 0
  decide
 | k + 1,y,hy => by
  rw [lstS_succ] at hy
  rcases List.mem_append.1 hy with h | h
  ·have := lstS_m nm an k y h; omega
  ·rw [chunk_m y h]; omega
theorem base_s : ∀ y ∈ baseS,y.s < 0 := by
 intro y hy
 obtain ⟨z,_,rfl⟩ := List.mem_map.1 hy
 show (-1 : Int) < 0
 decide
def PR (x y : Sy) : Prop := 0 ≤ y.s → ¬(x.m = y.m ∧ x.s = y.s)
theorem fnd_of {l : List Sy} (h : l.Pairwise PR) : FndOk l := by
 intro j hj hs
 unfold fndS
 rw [List.findIdx?_eq_some_iff_getElem]
 refine ⟨hj,by simp,fun i hij => ?_⟩
 have := List.pairwise_iff_getElem.1 h i j (by omega) hj hij hs
 simpa using this
theorem chunk_pw {n : Int} {i : Nat} {nm : ByteArray} {a : An} (h : (sts a false).Nodup) : (chunk n i nm a).Pairwise PR := by
 unfold chunk
 rw [List.pairwise_cons]
 refine ⟨fun y hy hs he => ?_,?_⟩
 ·have : (-1 : Int) = y.s := he.2
  omega
 ·rw [List.pairwise_map]
  rw [← decl_s i a,List.nodup_iff_pairwise_ne,List.pairwise_map] at h
  exact h.imp fun hab _ he => hab he.2
theorem lstS_pw (nm : Nat → ByteArray) (an : Nat → An) (hn : ∀ i,(sts (an i) false).Nodup) : ∀ k,(lstS nm an k).Pairwise PR
 | 0 => by
  rw [lstS]
  refine List.pairwise_iff_getElem.2 fun i j hi hj _ hs => ?_
  have := base_s _ (List.getElem_mem hj)
  omega
 | k + 1 => by
  rw [lstS_succ,List.pairwise_append]
  refine ⟨lstS_pw nm an hn k,chunk_pw (hn k),fun x hx y hy hs he => ?_⟩
  have h1 := lstS_m nm an k x hx
  have h2 := chunk_m y hy
  have := he.1
  omega
theorem syms_fnd (hn : ∀ s : ByteArray,(sts (astS s) false).Nodup) (ms : List Md) : FndOk (syms ms) := fnd_of (lstS_pw _ _ (fun _ => hn _) _)
end Go.Proofs.YtiogccmfmjhipaaGreatDoor.Sym
namespace Go.Proofs.YtiogccmfmjhipaaGreatDoor.Par
set_option maxRecDepth 20000
open Cmd
def B7 (l : List Tr) : Prop := ∃ (u : List Tok) (tk : Tok) (v : List Tr),l = u.map .tok ++ .tok tk :: v ∧ (∀ t ∈ u,isTriv t.1 = true) ∧ isTriv tk.1 = false ∧ 100 < tk.1 ∧ 0 < tk.2.size
mutual
def g7 : Tr → Prop
 | .mk k x ks => (k = 60 → ∀ c ∈ ks,c.kdn ≠ 7) ∧ (k = 7 → B7 ks) ∧ (k = 103 → 0 < x.size) ∧ g7L ks
def g7L : List Tr → Prop
 | [] => True
 | t :: l => g7 t ∧ g7L l
end
theorem g7L_app {a b : List Tr} : g7L (a ++ b) ↔ g7L a ∧ g7L b := by
 induction a with
 | nil => simp [g7L]
 | cons t a ih => rw [List.cons_append,g7L,g7L,ih,and_assoc]
theorem g7_one {k : Int} {x : ByteArray} {ks : List Tr} (h1 : k = 60 → ∀ c ∈ ks,c.kdn ≠ 7) (h2 : k = 7 → B7 ks) (h0 : k ≠ 103) (h3 : g7L ks) : g7L [.mk k x ks] := by
 rw [g7L,g7]
 exact ⟨⟨h1,h2,fun e => absurd e h0,h3⟩,trivial⟩
theorem g7_toks {l : List Tok} (h : V l) : g7L (l.map .tok) := by
 induction l with
 | nil => exact trivial
 | cons t l ih =>
  rw [List.map_cons,g7L]
  have h0 := (h t List.mem_cons_self).2
  have h9 := (h t List.mem_cons_self).1
  refine ⟨?_,ih fun u hu => h u (List.mem_cons_of_mem _ hu)⟩
  unfold Tr.tok
  rw [g7]
  exact ⟨fun e => by omega,fun e => by omega,fun _ => h9,trivial⟩
theorem B7.app {l m : List Tr} (h : B7 l) : B7 (l ++ m) := by
 obtain ⟨u,tk,v,e,h⟩ := h
 exact ⟨u,tk,v ++ m,by rw [e]; simp,h⟩
theorem B7.init {a : List Tr} {t : Tr} (h : B7 (a ++ [t])) (ht : t.kdn < 100) : B7 a := by
 obtain ⟨u,tk,v,e,h1,h2,h3,h4⟩ := h
 rcases List.eq_nil_or_concat v with rfl | ⟨v',x,rfl⟩
 ·rw [show u.map Tr.tok ++ [Tr.tok tk] = (u.map Tr.tok) ++ [Tr.tok tk] from rfl] at e
  have := List.append_inj_right' e rfl
  simp only [List.cons.injEq,and_true] at this
  rw [this] at ht
  exact absurd (show tk.1 < 100 from ht) (by omega)
 ·rw [show u.map Tr.tok ++ Tr.tok tk :: v'.concat x = (u.map Tr.tok ++ Tr.tok tk :: v') ++ [x] from by simp] at e
  have := List.append_inj_left' e rfl
  exact ⟨u,tk,v',this,h1,h2,h3,h4⟩
theorem taken_full : ∀ {l : List Tok},V l → sig1 l ≠ eofT → ∃ u tk,taken l = u ++ [tk] ∧ (∀ t ∈ u,isTriv t.1 = true) ∧ isTriv tk.1 = false ∧ 100 < tk.1 ∧ 0 < tk.2.size
 | [],_,h => absurd rfl h
 | t :: l,hv,h => by
  unfold sig1 at h
  unfold taken
  by_cases ht : isTriv t.1 = true
  ·rw [if_pos ht] at h ⊢
   obtain ⟨u,tk,e,h1,h2⟩ := taken_full (fun x hx => hv x (List.mem_cons_of_mem _ hx)) h
   exact ⟨t :: u,tk,by rw [e]; rfl,fun x hx => by rcases List.mem_cons.1 hx with rfl | hx; exact ht; exact h1 x hx,h2⟩
  ·rw [if_neg ht]
   have := hv t List.mem_cons_self
   exact ⟨[],t,rfl,fun x hx => absurd hx List.not_mem_nil,by simpa using ht,this.2,this.1⟩
def okA : Nm → Bool
 | .item => false
 | _ => true
def A7 : Cmd → Prop
 | .node k _ => k ≠ 7
 | .wrap k _ => k ≠ 7
 | .leaf k => k ≠ 7
 | .seq a b => A7 a ∧ A7 b
 | .cond _ a b => A7 a ∧ A7 b
 | .loop _ c => A7 c
 | .prog c a b => A7 c ∧ A7 a ∧ A7 b
 | .call x => okA x = true
 | .sel _ c => ∀ k,A7 (c k)
 | _ => True
def n7 : Cmd → Prop
 | .node k _ => k ≠ 7
 | _ => True
def Gk : Cmd → Prop
 | .node k c => k < 100 ∧ (k = 60 → A7 c) ∧ (k = 7 → ∃ x d,c = .seq (acc x) (.seq .bump (.call d))) ∧ n7 c ∧ Gk c
 | .wrap k c => (k < 100 ∧ k ≠ 60 ∧ k ≠ 7) ∧ n7 c ∧ Gk c
 | .leaf k => k ≠ 60 ∧ k ≠ 7 ∧ k ≠ 103
 | .seq a b => (n7 a ∧ n7 b) ∧ Gk a ∧ Gk b
 | .cond _ a b => (n7 a ∧ n7 b) ∧ Gk a ∧ Gk b
 | .loop _ c => n7 c ∧ Gk c
 | .prog c a b => (n7 c ∧ n7 a ∧ n7 b) ∧ Gk c ∧ Gk a ∧ Gk b
 | .sel f c => ∀ x y,Gk (c (f x y)) ∧ (x = eofT → n7 (c (f x y)))
 | _ => True
def G7R (rec : Cmd → S → Option S) : Prop := ∀ c s r i,Gk c → LkOk c i → LV i s.kids → V s.rem → (n7 c ∨ sig1 s.rem ≠ eofT) → g7L s.kids → rec c s = some r →
 g7L r.kids ∧ (B7 s.kids → B7 r.kids) ∧ (A7 c → (∀ t ∈ s.kids,t.kdn ≠ 7) → ∀ t ∈ r.kids,t.kdn ≠ 7)
theorem V.sufx {s r : S} (h : V s.rem) (hs : ∃ u,s.rem = u ++ r.rem) : V r.rem := by
 obtain ⟨u,e⟩ := hs
 exact fun t ht => h t (by rw [e]; exact List.mem_append_right _ ht)
theorem V.taken {l : List Tok} (h : V l) : V (taken l) := fun t hm => h t (by rw [← taken_left l]; exact List.mem_append_left _ hm)
theorem rc_g7 {rec : Cmd → S → Option S} (hb : ∀ x,Gk (body x) ∧ n7 (body x) ∧ (okA x = true → A7 (body x))) (hs : ∀ c s r,rec c s = some r → ∃ u,s.rem = u ++ r.rem) (hk : LkR rec) (hr : G7R rec) : G7R (runC body rec) := by
 intro c
 induction c with
 | skip | flag b => intro s r i _ _ _ _ _ hf h; obtain rfl := Option.some.inj h; exact ⟨hf,id,fun _ h => h⟩
 | drop =>
  intro s r i _ ho hl _ _ hf h
  obtain rfl : i = 2 := ho
  obtain ⟨a,t,e,ht⟩ := hl
  obtain rfl := Option.some.inj h
  rw [e] at hf
  simp only [e,List.dropLast_concat]
  exact ⟨(g7L_app.1 hf).1,fun h => h.init ht,fun _ h x hx => h x (List.mem_append_left _ hx)⟩
 | bump =>
  intro s r i _ _ _ hv _ hf h
  obtain rfl := Option.some.inj h
  refine ⟨g7L_app.2 ⟨hf,g7_toks hv.taken⟩,fun h => h.app,fun _ h x hx => ?_⟩
  rcases List.mem_append.1 hx with hx | hx
  ·exact h x hx
  ·obtain ⟨t,ht,rfl⟩ := List.mem_map.1 hx
   have := (hv.taken t ht).2
   show t.1 ≠ 7
   omega
 | leaf k =>
  intro s r i hk _ _ _ _ hf h
  obtain rfl := Option.some.inj h
  refine ⟨g7L_app.2 ⟨hf,g7_one (fun e => absurd e hk.1) (fun e => absurd e hk.2.1) hk.2.2 trivial⟩,fun h => h.app,fun ha h x hx => ?_⟩
  rcases List.mem_append.1 hx with hx | hx
  ·exact h x hx
  ·rw [List.mem_singleton.1 hx]; exact hk.2.1
 | before =>
  intro s r i _ ho hl _ _ hf h
  obtain rfl : i = 2 := ho
  obtain ⟨a,t,e,ht⟩ := hl
  simp only [runC,e,List.getLast?_append,List.getLast?_singleton,Option.some_or] at h
  obtain rfl := Option.some.inj h
  rw [e] at hf ⊢
  have hf := g7L_app.1 hf
  simp only [List.dropLast_concat]
  refine ⟨g7L_app.2 ⟨hf.1,?_⟩,fun h => (h.init ht).app,fun _ h x hx => ?_⟩
  ·rw [show [Tr.leaf 0,t] = [Tr.leaf 0] ++ [t] from rfl]
   exact g7L_app.2 ⟨g7_one (fun e => absurd e (by decide)) (fun e => absurd e (by decide)) (by decide) trivial,hf.2⟩
  ·rcases List.mem_append.1 hx with hx | hx
   ·exact h x (List.mem_append_left _ hx)
   ·rcases List.mem_cons.1 hx with rfl | hx
    ·show (0 : Int) ≠ 7; decide
    ·exact h x (List.mem_append_right _ hx)
 | seq a b iha ihb =>
  intro s r i hG ho hl hv _ hf h
  simp only [runC,Option.bind_eq_some_iff] at h
  obtain ⟨x,h1,h2⟩ := h
  obtain ⟨⟨na,nb⟩,ga,gb⟩ := hG
  obtain ⟨p1,p2,p3⟩ := iha _ _ _ ga ho.1 hl hv (.inl na) hf h1
  obtain ⟨q1,q2,q3⟩ := ihb _ _ _ gb ho.2 (rc_lk hk _ _ _ _ ho.1 hl h1) (hv.sufx (rc_suf hs _ _ _ h1)) (.inl nb) p1 h2
  exact ⟨q1,fun h => q2 (p2 h),fun ha h => q3 ha.2 (p3 ha.1 h)⟩
 | node k c ih =>
  intro s r i hG ho hl hv hn hf h
  simp only [runC,Option.map_eq_some_iff] at h
  obtain ⟨x,h1,rfl⟩ := h
  obtain ⟨hk1,hA,h7,hnc,hG⟩ := hG
  obtain ⟨p1,p2,p3⟩ := ih { s with kids := [],adds := s.adds + 1 } x 0 hG ho trivial hv (.inl hnc) (show g7L ([] : List Tr) from trivial) h1
  refine ⟨g7L_app.2 ⟨hf,g7_one (fun e => p3 (hA e) fun t ht => absurd ht List.not_mem_nil) (fun e => ?_) (by omega) p1⟩,fun h => h.app,fun ha h x hx => ?_⟩
  ·obtain ⟨tx,d,rfl⟩ := h7 e
   have hne : sig1 s.rem ≠ eofT := hn.resolve_left fun hh => hh e
   obtain ⟨u,tk,et,g1,g2,g3,g4⟩ := taken_full hv hne
   have hB0 : B7 ([] ++ (taken s.rem).map Tr.tok) := ⟨u,tk,[],by rw [et]; simp,g1,g2,g3,g4⟩
   have h1' := h1
   simp only [runC,Option.bind_eq_some_iff,acc] at h1
   obtain ⟨y,h2,z,h3,h4⟩ := h1
   obtain rfl := Option.some.inj h3
   have hly := rc_lk hk _ _ _ 0 ho.1 (show LV 0 ([] : List Tr) from trivial) (show runC body rec (acc tx) { s with kids := [],adds := s.adds + 1 } = some y from h2)
   have hlz := rc_lk hk .bump _ _ _ ho.2.1 hly (show runC body rec .bump y = some y.bump from rfl)
   have hvy : V y.rem := hv.sufx (s := { s with kids := [],adds := s.adds + 1 }) (rc_suf (body := body) hs (acc tx) _ _ h2)
   have hvz : V y.bump.rem := hvy.sufx (s := y) (rc_suf (body := body) hs .bump _ _ (show runC body rec .bump y = some y.bump from rfl))
   have hBz : B7 y.bump.kids ∧ g7L y.bump.kids := by
    split at h2
    ·obtain rfl := Option.some.inj h2
     exact ⟨B7.app hB0,g7L_app.2 ⟨g7_toks hv.taken,g7_toks hvy.taken⟩⟩
    ·obtain rfl := Option.some.inj h2
     exact ⟨hB0,g7_toks hv.taken⟩
   exact (hr _ _ _ _ (hb d).1 (lk_body d _ ho.2.2.1 ho.2.2.2).1 hlz hvz (.inl (hb d).2.1) hBz.2 h4).2.1 hBz.1
  ·rcases List.mem_append.1 hx with hx | hx
   ·exact h x hx
   ·rw [List.mem_singleton.1 hx]; exact ha
 | wrap k c ih =>
  intro s r i hG ho hl hv hn hf h
  obtain ⟨rfl,ho⟩ := ho
  obtain ⟨l,t,e,h0⟩ := hl
  obtain ⟨⟨hk1,hk2,hk3⟩,hnc,hG⟩ := hG
  simp only [runC,e,List.getLast?_append,List.getLast?_singleton,Option.some_or,List.dropLast_concat,Option.map_eq_some_iff] at h
  obtain ⟨x,h1,rfl⟩ := h
  rw [e] at hf ⊢
  have hf := g7L_app.1 hf
  obtain ⟨p1,p2,p3⟩ := ih { s with kids := [t],adds := s.adds + 1 } x 2 hG ho (show LV 2 [t] from ⟨[],t,rfl,h0⟩) hv (.inl hnc) hf.2 h1
  refine ⟨g7L_app.2 ⟨hf.1,g7_one (fun e => absurd e hk2) (fun e => absurd e hk3) (by omega) p1⟩,fun h => (h.init h0).app,fun ha h x hx => ?_⟩
  rcases List.mem_append.1 hx with hx | hx
  ·exact h x (List.mem_append_left _ hx)
  ·rw [List.mem_singleton.1 hx]; exact hk3
 | cond t a b iha ihb =>
  intro s r i hG ho hl hv _ hf h
  obtain ⟨⟨na,nb⟩,ga,gb⟩ := hG
  simp only [runC] at h
  split at h
  ·obtain ⟨p1,p2,p3⟩ := iha _ _ _ ga ho.1 hl hv (.inl na) hf h
   exact ⟨p1,p2,fun ha => p3 ha.1⟩
  ·obtain ⟨p1,p2,p3⟩ := ihb _ _ _ gb ho.2 hl hv (.inl nb) hf h
   exact ⟨p1,p2,fun ha => p3 ha.2⟩
 | loop t c ih =>
  intro s r i hG ho hl hv _ hf h
  have hl' := LV.down (Nat.min_le_left i (lk c i)) hl
  simp only [runC] at h
  split at h
  ·simp only [Option.bind_eq_some_iff] at h
   obtain ⟨x,h1,h2⟩ := h
   have h3 := rc_lk hk _ _ _ _ ho.1 hl' h1
   obtain ⟨p1,p2,p3⟩ := ih _ _ _ hG.2 ho.1 hl' hv (.inl hG.1) hf h1
   obtain ⟨q1,q2,q3⟩ := hr _ _ _ _ (show Gk (.loop t c) from hG) (loop_lvl ho).1 (h3.down ho.2) (hv.sufx (rc_suf hs _ _ _ h1)) (.inl trivial) p1 h2
   exact ⟨q1,fun h => q2 (p2 h),fun ha h => q3 ha (p3 ha h)⟩
  ·obtain rfl := Option.some.inj h
   exact ⟨hf,id,fun _ h => h⟩
 | prog c a b ihc iha ihb =>
  intro s r i hG ho hl hv _ hf h
  obtain ⟨⟨nc,na,nb⟩,gc,ga,gb⟩ := hG
  simp only [runC,Option.bind_eq_some_iff] at h
  obtain ⟨x,h1,h2⟩ := h
  have h3 := rc_lk hk _ _ _ _ ho.1 hl h1
  obtain ⟨p1,p2,p3⟩ := ihc _ _ _ gc ho.1 hl hv (.inl nc) hf h1
  have h5 := hv.sufx (rc_suf hs _ _ _ h1)
  split at h2
  ·obtain ⟨q1,q2,q3⟩ := iha _ _ _ ga ho.2.1 h3 h5 (.inl na) p1 h2
   exact ⟨q1,fun h => q2 (p2 h),fun ha h => q3 ha.2.1 (p3 ha.1 h)⟩
  ·obtain ⟨q1,q2,q3⟩ := ihb _ _ _ gb ho.2.2 h3 h5 (.inl nb) p1 h2
   exact ⟨q1,fun h => q2 (p2 h),fun ha h => q3 ha.2.2 (p3 ha.1 h)⟩
 | call x =>
  intro s r i hG ho hl hv _ hf h
  obtain ⟨p1,p2,p3⟩ := hr _ _ _ _ (hb x).1 (lk_body x i ho.1 ho.2).1 hl hv (.inl (hb x).2.1) hf h
  exact ⟨p1,p2,fun ha => p3 ((hb x).2.2 ha)⟩
 | sel f c ih =>
  intro s r i hG ho hl hv _ hf h
  have hg := hG (sig1 s.rem) (sig1 (left s.rem))
  obtain ⟨p1,p2,p3⟩ := ih _ _ _ _ hg.1 (ho _) hl hv (by
   by_cases he : sig1 s.rem = eofT
   ·exact .inl (hg.2 he)
   ·exact .inr he) hf h
  exact ⟨p1,p2,fun ha => p3 (ha _)⟩
theorem Gk.list {cl : ByteArray} {el : Cmd} (h : Gk el) (hn : n7 el) : Gk (list cl el) := ⟨⟨trivial,trivial⟩,⟨trivial,⟨hn,by show (46 : Int) ≠ 7; decide,trivial⟩,h,⟨by decide,fun e => absurd e (by decide),fun e => absurd e (by decide),trivial,trivial⟩,⟨trivial,trivial⟩,trivial,⟨trivial,trivial⟩,trivial,by decide,by decide,by decide⟩,⟨trivial,trivial⟩,trivial,by decide,by decide,by decide⟩
theorem Gk.seg {b : Bool} : Gk (seg b) := by
 cases b
 ·exact ⟨by decide,fun e => absurd e (by decide),fun e => absurd e (by decide),trivial,⟨trivial,trivial⟩,⟨⟨trivial,trivial⟩,trivial,by decide,by decide,by decide⟩,trivial⟩
 ·exact ⟨by decide,fun e => absurd e (by decide),fun e => absurd e (by decide),trivial,⟨trivial,trivial⟩,⟨⟨trivial,trivial⟩,trivial,by decide,by decide,by decide⟩,⟨trivial,trivial⟩,⟨⟨trivial,trivial⟩,trivial,Gk.list trivial trivial⟩,trivial⟩
theorem A7.list {cl : ByteArray} {el : Cmd} (h : A7 el) : A7 (list cl el) := ⟨⟨h,by show (46 : Int) ≠ 7; decide,trivial,trivial,by show (108 : Int) ≠ 7; decide⟩,trivial,by show (108 : Int) ≠ 7; decide⟩
theorem gk_body : ∀ x,Gk (body x) := by
 intro x
 cases x
 case item =>
  intro x y
  have h := itemKind_le x y
  constructor
  ·show Gk (if _ then _ else _)
   split
   ·trivial
   ·exact ⟨by omega,fun e => by omega,fun _ => ⟨_,_,rfl⟩,trivial,⟨trivial,trivial⟩,⟨⟨trivial,trivial⟩,trivial,trivial⟩,⟨trivial,trivial⟩,trivial,trivial⟩
  ·rintro rfl
   show n7 (if _ then _ else _)
   split
   ·trivial
   ·rename_i hk
    refine fun e => hk ?_
    unfold itemKind
    rw [isAt_eof]
    simp only [Bool.false_eq_true,if_false]
    rw [show (eofT.1 != 104) = true from rfl,Bool.or_true]
    rfl
 case itemBody k =>
  show Gk (if _ then _ else _)
  repeat' (first | exact trivial | apply And.intro | (intro e; exact absurd e (by decide)) | decide | split)
 case binary n =>
  show Gk (if _ then _ else _)
  split
  ·trivial
  ·refine ⟨⟨trivial,?_⟩,trivial,?_⟩
   ·split <;> trivial
   ·split
    ·exact ⟨⟨trivial,trivial⟩,⟨⟨by decide,by decide,by decide⟩,trivial,⟨trivial,trivial⟩,trivial,trivial⟩,trivial⟩
    ·exact ⟨trivial,⟨by decide,by decide,by decide⟩,trivial,⟨trivial,trivial⟩,trivial,trivial⟩
 case path b => exact ⟨by decide,fun e => absurd e (by decide),fun e => absurd e (by decide),trivial,⟨by show (18 : Int) ≠ 7; decide,trivial⟩,Gk.seg,trivial,⟨trivial,by show (18 : Int) ≠ 7; decide⟩,trivial,Gk.seg⟩
 case statement =>
  repeat' (first | exact trivial | exact rfl | apply And.intro | (intro e; exact absurd e (by decide)) | decide | (unfold stmtTail) | split)
 case function b => cases b <;> repeat' (first | exact trivial | exact rfl | apply And.intro | (intro e; exact absurd e (by decide)) | decide)
 case dataType k =>
  by_cases h4 : k = 4
  ·subst h4
   repeat' (first | exact trivial | exact rfl | apply And.intro | (intro e; exact absurd e (by decide)) | decide | refine Gk.list ?_ ?_)
  ·show Gk (seqs [expIdent,.call .typeParams,_,_])
   rw [if_neg h4]
   repeat' (first | exact trivial | exact rfl | apply And.intro | (intro e; exact absurd e (by decide)) | decide | refine Gk.list ?_ ?_)
 all_goals (repeat' (first | exact trivial | exact rfl | apply And.intro | (intro e; exact absurd e (by decide)) | decide | refine Gk.list ?_ ?_ | intro _))
theorem n7_body (x : Nm) : n7 (body x) := by
 cases x
 case itemBody k => show n7 (if _ then _ else _); repeat' (first | exact trivial | split)
 case binary n => show n7 (if _ then _ else _); split <;> exact trivial
 all_goals (first | exact trivial | (intro e; exact absurd e (by decide)))
theorem a7_body (x : Nm) (hx : okA x = true) : A7 (body x) := by
 cases x
 case item => cases hx
 case itemBody k =>
  show A7 (if _ then _ else _)
  repeat' (first | exact trivial | exact rfl | apply And.intro | (intro e; exact absurd e (by decide)) | split)
 case binary n =>
  show A7 (if _ then _ else _)
  split
  ·rfl
  ·refine ⟨rfl,?_⟩
   split
   ·exact ⟨by show (39 : Int) ≠ 7; decide,trivial⟩
   ·show (39 : Int) ≠ 7
    decide
 case function b => cases b <;> repeat' (first | exact trivial | exact rfl | apply And.intro | (intro e; exact absurd e (by decide)))
 case dataType k =>
  by_cases h4 : k = 4
  ·subst h4
   repeat' (first | exact trivial | exact rfl | apply And.intro | (intro e; exact absurd e (by decide)) | refine A7.list ?_)
  ·show A7 (seqs [expIdent,.call .typeParams,_,_])
   rw [if_neg h4]
   repeat' (first | exact trivial | exact rfl | apply And.intro | (intro e; exact absurd e (by decide)) | refine A7.list ?_)
 case statement =>
  repeat' (first | exact trivial | exact rfl | apply And.intro | (intro e; exact absurd e (by decide)) | (unfold stmtTail) | split)
 all_goals (repeat' (first | exact trivial | exact rfl | apply And.intro | (intro e; exact absurd e (by decide)) | refine A7.list ?_))
theorem run_g7 : ∀ n,G7R (run body n)
 | 0 => rc_g7 (fun x => ⟨gk_body x,n7_body x,a7_body x⟩) (by intro _ _ _ h; cases h) (by intro _ _ _ _ _ _ h; cases h) (by intro _ _ _ _ _ _ _ _ _ _ h; cases h)
 | n + 1 => rc_g7 (fun x => ⟨gk_body x,n7_body x,a7_body x⟩) (run_suf n) (run_lk n) (run_g7 n)
theorem Parsed.g7 {s : ByteArray} {t : Tr} (h : Parsed s t) : g7 t := by
 obtain ⟨n,r,h1,rfl⟩ := h
 have h2 := run_g7 n file _ r 0 (show Gk file from ⟨⟨trivial,trivial⟩,⟨trivial,trivial⟩,trivial⟩) ⟨file_lk,trivial⟩ trivial (toks_V s) (.inl trivial) (show g7L ([] : List Tr) from trivial) h1
 rw [Par.g7]
 exact ⟨fun e => absurd e (by decide),fun e => absurd e (by decide),fun e => absurd e (by decide),h2.1⟩
end Go.Proofs.YtiogccmfmjhipaaGreatDoor.Par
namespace Go.Proofs.YtiogccmfmjhipaaGreatDoor.Sym
open Par Ast
theorem symKind_z (h : Hd) (lp : Bool) : symKind h lp = 0 ↔ symKind h false = 0 := by
 unfold symKind
 by_cases h1 : h.kind = 7
 ·simp [h1]
 ·rw [if_neg h1,if_neg h1]
  by_cases h2 : h.ns < 0
  ·simp [h2]
  ·rw [if_neg h2,if_neg h2]
   by_cases h3 : h.kind = 13
   ·cases lp <;> simp [h3,tabK]
   ·simp [h3]
mutual
theorem sts_lp : ∀ (a : An) (lp : Bool),sts a lp = sts a false
 | .mk h ks,lp => by
  rw [sts,sts,stsL_lp ks (locOf h lp),stsL_lp ks (locOf h false)]
  by_cases hz : symKind h false = 0
  ·rw [if_pos hz,if_pos ((symKind_z h lp).2 hz)]
  ·rw [if_neg hz,if_neg fun c => hz ((symKind_z h lp).1 c)]
theorem stsL_lp : ∀ (l : List An) (lp : Bool),stsL l lp = stsL l false
 | [],lp => by rw [stsL,stsL]
 | a :: l,lp => by rw [stsL,stsL,sts_lp a lp,stsL_lp l lp]
end
theorem stsL_app (l m : List An) : stsL (l ++ m) false = stsL l false ++ stsL m false := by
 induction l with
 | nil => rw [stsL]; rfl
 | cons a l ih => rw [List.cons_append,stsL,stsL,ih,List.append_assoc]
def own (h : Hd) : List Int := if symKind h false = 0 then [] else [declSt h]
theorem sts_mk (h : Hd) (ks : List An) : sts (.mk h ks) false = own h ++ stsL ks false := by rw [sts,stsL_lp ks]; rfl
theorem own_cases (h : Hd) : own h = [] ∨ (h.kind = 7 ∧ own h = [h.st]) ∨ (h.kind ≠ 7 ∧ 0 ≤ h.ns ∧ own h = [h.ns]) := by
 unfold own
 by_cases hz : symKind h false = 0
 ·exact .inl (if_pos hz)
 ·rw [if_neg hz]
  unfold declSt
  by_cases h7 : h.kind = 7
  ·exact .inr (.inl ⟨h7,by rw [if_pos h7]⟩)
  ·refine .inr (.inr ⟨h7,?_,by rw [if_neg h7]⟩)
   apply Int.not_lt.1
   intro hn
   exact hz (by unfold symKind; rw [if_neg h7,if_pos hn])
theorem own_same {h h' : Hd} (h7 : h.kind ≠ 7) (hk : h'.kind = h.kind) (hn : h'.ns = h.ns) : own h' = own h := by
 unfold own symKind declSt tabK
 rw [hk,hn,if_neg h7,if_neg h7,if_neg h7]
theorem B7.head {t : Tr} {l : List Tr} (h : B7 (t :: l)) : 100 < kd t ∧ ((isTriv (kd t) = true ∧ B7 l) ∨ (isTriv (kd t) = false ∧ 0 < (tx t).size)) := by
 obtain ⟨u,tk,v,e,h1,h2,h3,h4⟩ := h
 rcases u with _ | ⟨x,u⟩
 ·simp only [List.map_nil,List.nil_append,List.cons.injEq] at e
  rw [e.1]
  exact ⟨h3,.inr ⟨h2,h4⟩⟩
 ·simp only [List.map_cons,List.cons_append,List.cons.injEq] at e
  have hx := h1 x List.mem_cons_self
  rw [e.1]
  refine ⟨?_,.inl ⟨hx,u,tk,v,e.2,fun t ht => h1 t (List.mem_cons_of_mem _ ht),h2,h3,h4⟩⟩
  have := triv_kd hx
  show 100 < x.1
  omega
structure Iv (h : Hd) (ns : List An) (o off : Int) : Prop where
 nd : (stsL ns false).Nodup
 rg : ∀ s ∈ stsL ns false,o ≤ s ∧ s < off
 nm : 0 ≤ h.ns → o ≤ h.ns ∧ h.ns < off ∧ h.ns ∉ stsL ns false
 s7 : h.kind = 7 → 0 ≤ h.en → o ≤ h.st ∧ h.st < off ∧ h.st ∉ stsL ns false
theorem Iv.mono {h : Hd} {ns : List An} {o off off' : Int} (i : Iv h ns o off) (ho : off ≤ off') : Iv h ns o off' :=
 ⟨i.nd,fun s hs => ⟨(i.rg s hs).1,by have := (i.rg s hs).2; omega⟩,fun hn => by have := i.nm hn; exact ⟨this.1,by omega,this.2.2⟩,fun h7 he => by have := i.s7 h7 he; exact ⟨this.1,by omega,this.2.2⟩⟩
theorem Iv.fresh {h : Hd} {ns : List An} {o off : Int} (i : Iv h ns o off) : off ∉ stsL ns false := fun hm => by have := (i.rg _ hm).2; omega
theorem tokS_sh (h : Hd) (s : Int) (ds : List Dg) (k : Int) (x : ByteArray) :
  (tokS h s ds k x).1.kind = h.kind ∧ ((tokS h s ds k x).1.ns = h.ns ∨ (k = 103 ∧ (tokS h s ds k x).1.ns = s)) ∧ (tokS h s ds k x).2.1 = s + x.size ∧
  (((tokS h s ds k x).1.st = h.st ∧ (tokS h s ds k x).1.en = h.en ∧ (isTriv k = true ∨ x = nob)) ∨ ((tokS h s ds k x).1.en = s + x.size ∧ (tokS h s ds k x).1.st = (if h.en < 0 then s else h.st) ∧ isTriv k = false)) := by
 have hfl := flag_same h x
 have hfn : (flag h x).ns = h.ns := by
  unfold flag
  repeat' split
  all_goals rfl
 have hid := identH_same h x s
 have hin : (identH h x s).ns = h.ns ∨ (identH h x s).ns = s := by unfold identH; split; exact .inr rfl; exact .inl rfl
 unfold tokS
 simp only
 by_cases h1 : k = 101 ∨ k = 102
 ·rw [if_pos h1]
  refine ⟨rfl,.inl rfl,rfl,.inl ⟨rfl,rfl,.inl ?_⟩⟩
  rcases h1 with rfl | rfl <;> rfl
 rw [if_neg h1]
 have hnt : isTriv k = false := by
  unfold isTriv
  simp only [Bool.or_eq_false_iff,beq_eq_false_iff_ne]
  exact ⟨fun e => h1 (.inl e),fun e => h1 (.inr e)⟩
 by_cases h2 : k = 108
 ·rw [if_pos h2]
  by_cases hx : x = nob
  ·rw [if_pos hx]
   exact ⟨rfl,.inl rfl,rfl,.inl ⟨rfl,rfl,.inr hx⟩⟩
  ·rw [if_neg hx]
   exact ⟨rfl,.inl rfl,rfl,.inr ⟨rfl,rfl,hnt⟩⟩
 rw [if_neg h2]
 by_cases h3 : k = 103
 ·rw [if_pos h3]
  refine ⟨hid.2.2,?_,rfl,.inr ⟨rfl,?_,hnt⟩⟩
  ·exact hin.imp id fun e => ⟨h3,e⟩
  ·show (if (identH h x s).en < 0 then s else (identH h x s).st) = _
   rw [hid.1,hid.2.1]
 rw [if_neg h3]
 by_cases h4 : k = 105
 ·rw [if_pos h4]
  exact ⟨rfl,.inl rfl,rfl,.inr ⟨rfl,rfl,hnt⟩⟩
 rw [if_neg h4]
 by_cases h5 : k = 106
 ·rw [if_pos h5]
  exact ⟨rfl,.inl rfl,rfl,.inr ⟨rfl,rfl,hnt⟩⟩
 rw [if_neg h5]
 refine ⟨hfl.2.2,.inl hfn,rfl,.inr ⟨rfl,?_,hnt⟩⟩
 show (if (flag h x).en < 0 then s else (flag h x).st) = _
 rw [hfl.1,hfl.2.1]
theorem Iv.tok {h : Hd} {ns : List An} {o off : Int} {k : Int} {x : ByteArray} {ds : List Dg} (i : Iv h ns o off) (ho : o ≤ off) (h0 : 0 ≤ off) (hx : k = 103 → 0 < x.size) (h7 : h.kind = 7 → h.en < 0 → isTriv k = true ∨ 0 < x.size) :
  Iv (tokS h off ds k x).1 ns o (off + x.size) := by
 obtain ⟨hk,hn,_,hs⟩ := tokS_sh h off ds k x
 have im := i.mono (off' := off + x.size) (by omega)
 refine ⟨i.nd,im.rg,fun hp => ?_,fun hk7 he => ?_⟩
 ·rcases hn with e | ⟨e1,e2⟩
  ·rw [e] at hp ⊢; exact im.nm hp
  ·have := hx e1
   rw [e2]
   exact ⟨ho,by omega,i.fresh⟩
 ·rw [hk] at hk7
  rcases hs with ⟨e1,e2,_⟩ | ⟨e1,e2,e3⟩
  ·rw [e1]; rw [e2] at he; exact im.s7 hk7 he
  ·rw [e2]
   by_cases hn0 : h.en < 0
   ·rw [if_pos hn0]
    rcases h7 hk7 hn0 with hh | hh
    ·rw [e3] at hh; cases hh
    ·exact ⟨ho,by omega,i.fresh⟩
   ·rw [if_neg hn0]
    exact im.s7 hk7 (by omega)
theorem Iv.node {h : Hd} {ns : List An} {o off off' : Int} {a : An} (i : Iv h ns o off) (ho : o ≤ off) (h0 : off ≤ off') (hn : (sts a false).Nodup) (hr : ∀ s ∈ sts a false,off ≤ s ∧ s < off') (h7 : h.kind = 7 → 0 ≤ h.en) :
  Iv (ext h a.hd.st a.hd.en) (ns ++ [a]) o off' := by
 have e : stsL (ns ++ [a]) false = stsL ns false ++ sts a false := by rw [stsL_app,stsL,stsL,List.append_nil]
 have ne : ∀ s,s < off → s ∉ stsL ns false → s ∉ stsL (ns ++ [a]) false := fun s h1 h2 hm => by
  rw [e] at hm
  rcases List.mem_append.1 hm with hm | hm
  ·exact h2 hm
  ·have := (hr s hm).1; omega
 refine ⟨?_,fun s hs => ?_,fun hp => ?_,fun hk he => ?_⟩
 ·rw [e,List.nodup_append]
  refine ⟨i.nd,hn,fun x hx y hy hxy => ?_⟩
  have := (i.rg x hx).2
  have := (hr y hy).1
  omega
 ·rw [e] at hs
  rcases List.mem_append.1 hs with hs | hs
  ·have := i.rg s hs; omega
  ·have := hr s hs; omega
 ·obtain ⟨a1,a2,a3⟩ := i.nm hp
  exact ⟨a1,by show h.ns < off'; omega,ne _ a2 a3⟩
 ·have h8 := h7 hk
  obtain ⟨a1,a2,a3⟩ := i.s7 hk h8
  show o ≤ (if h.en < 0 then a.hd.st else h.st) ∧ (if h.en < 0 then a.hd.st else h.st) < off' ∧ (if h.en < 0 then a.hd.st else h.st) ∉ _
  rw [if_neg (by omega)]
  exact ⟨a1,by omega,ne _ a2 a3⟩
theorem Iv.out {h h' : Hd} {ns : List An} {o off : Int} (i : Iv h ns o off) (hk : h'.kind = h.kind) (hn : h'.ns = h.ns) (hs : h'.st = h.st) (h7 : h.kind = 7 → 0 ≤ h.en) : (sts (.mk h' ns) false).Nodup ∧ ∀ s ∈ sts (.mk h' ns) false,o ≤ s ∧ s < off := by
 rw [sts_mk]
 rcases own_cases h' with e | ⟨k7,e⟩ | ⟨_,hp,e⟩
 ·rw [e]; exact ⟨i.nd,i.rg⟩
 ·obtain ⟨a1,a2,a3⟩ := i.s7 (hk ▸ k7) (h7 (hk ▸ k7))
  rw [e,hs]
  refine ⟨List.nodup_cons.2 ⟨a3,i.nd⟩,fun s hm => ?_⟩
  rcases List.mem_cons.1 hm with rfl | hm
  ·exact ⟨a1,a2⟩
  ·exact i.rg s hm
 ·rw [hn] at hp
  obtain ⟨a1,a2,a3⟩ := i.nm hp
  rw [e,hn]
  refine ⟨List.nodup_cons.2 ⟨a3,i.nd⟩,fun s hm => ?_⟩
  rcases List.mem_cons.1 hm with rfl | hm
  ·exact ⟨a1,a2⟩
  ·exact i.rg s hm
mutual
theorem cvt_nd (src : ByteArray) : ∀ (t : Tr) (off : Int) (ds : List Dg),0 ≤ off → t.wf → kd t < 100 → g7 t →
  (sts (cvt src t off ds).1 false).Nodup ∧ (∀ s ∈ sts (cvt src t off ds).1 false,off ≤ s ∧ s < (cvt src t off ds).2.1) ∧ ((cvt src t off ds).1.hd.kind = 7 → kd t = 7)
 | .mk k x ks,off,ds,h0,hw,hk,hg => by
  rw [g7] at hg
  obtain ⟨g60,g7',_,gl⟩ := hg
  have hwl : wfL ks := by
   simp only [Tr.wf] at hw
   rcases hw with ⟨h1,_⟩ | ⟨_,_,_,h⟩
   ·exact absurd (show k < 100 from hk) (by omega)
   ·exact h
  obtain ⟨i,e7,ek,e60⟩ := cvtL_nd src ks (hd0 k off) [] off ds off h0 (Int.le_refl _) hwl gl ⟨by rw [stsL]; exact List.nodup_nil,fun s hs => (by rw [stsL] at hs; cases hs),fun hp => absurd hp (by show ¬ (0 : Int) ≤ -1; decide),fun _ he => absurd he (by show ¬ (0 : Int) ≤ -1; decide)⟩ (fun e _ => g7' e) (fun e => ⟨g60 e,fun a ha => by cases ha⟩)
  rw [cvt]
  unfold finish
  generalize cvtL src ks (hd0 k off) [] off ds = r at *
  obtain ⟨H,ns,of,d2⟩ := r
  simp only at i e7 ek e60 ⊢
  have ek : H.kind = k := ek
  have hkd : kd (.mk k x ks) = k := rfl
  have o := i.out (h' := endH H) rfl rfl rfl e7
  unfold fin
  by_cases h60 : (endH H).kind = 60
  ·rw [if_pos h60]
   have hk60 : k = 60 := ek.symm.trans h60
   cases ns with
   | nil => exact ⟨o.1,o.2,fun e => by have e : H.kind = 7 := e; rw [hkd]; omega⟩
   | cons a0 rest =>
    obtain ⟨c,ks2⟩ := a0
    have h7 : c.kind ≠ 7 := e60 hk60 _ List.mem_cons_self
    have es : sts (.mk ⟨c.kind,c.value,c.text,(endH H).st,(endH H).en,c.ns⟩ ks2) false = sts (.mk c ks2) false := by
     have eo : own ⟨c.kind,c.value,c.text,(endH H).st,(endH H).en,c.ns⟩ = own c := own_same h7 rfl rfl
     rw [sts_mk,sts_mk,eo]
    have en : stsL (.mk c ks2 :: rest) false = sts (.mk c ks2) false ++ stsL rest false := by rw [stsL]
    have h1 := i.nd
    have h2 := i.rg
    rw [en] at h1 h2
    simp only
    rw [es]
    exact ⟨(List.nodup_append.1 h1).1,fun s hs => h2 s (List.mem_append_left _ hs),fun e => absurd e h7⟩
  ·rw [if_neg h60]
   by_cases h46 : (endH H).kind = 46
   ·rw [if_pos h46]
    refine ⟨?_,fun s hs => ?_,fun e => absurd (show (46 : Int) = 7 from e) (by decide)⟩
    ·rw [sts_mk,stsL]
     exact List.nodup_nil
    ·rw [sts_mk,stsL] at hs
     cases hs
   ·rw [if_neg h46]
    exact ⟨o.1,o.2,fun e => ek.symm.trans e⟩
theorem cvtL_nd (src : ByteArray) : ∀ (l : List Tr) (h : Hd) (ns : List An) (off : Int) (ds : List Dg) (o : Int),0 ≤ o → o ≤ off → wfL l → g7L l → Iv h ns o off → (h.kind = 7 → h.en < 0 → B7 l) → (h.kind = 60 → (∀ c ∈ l,c.kdn ≠ 7) ∧ ∀ a ∈ ns,a.hd.kind ≠ 7) →
  Iv (cvtL src l h ns off ds).1 (cvtL src l h ns off ds).2.1 o (cvtL src l h ns off ds).2.2.1 ∧ ((cvtL src l h ns off ds).1.kind = 7 → 0 ≤ (cvtL src l h ns off ds).1.en) ∧ (cvtL src l h ns off ds).1.kind = h.kind ∧ (h.kind = 60 → ∀ a ∈ (cvtL src l h ns off ds).2.1,a.hd.kind ≠ 7)
 | [],h,ns,off,ds,o,h0,ho,hw,hg,i,hb,h60 => by
  rw [cvtL]
  refine ⟨i,fun e => Int.not_lt.1 fun hn => ?_,rfl,fun e => (h60 e).2⟩
  obtain ⟨u,tk,v,e2,_⟩ := hb e hn
  cases u <;> cases e2
 | t :: l,h,ns,off,ds,o,h0,ho,hw,hg,i,hb,h60 => by
  rw [cvtL]
  rw [wfL] at hw
  rw [g7L] at hg
  by_cases hk : 100 ≤ kd t
  ·rw [if_pos hk]
   simp only
   obtain ⟨tk,tn,te,tse⟩ := tokS_sh h off ds (kd t) (tx t)
   have hx : kd t = 103 → 0 < (tx t).size := by
    have := hg.1
    obtain ⟨k,x,ks⟩ := t
    rw [g7] at this
    exact this.2.2.1
   have i2 := i.tok (k := kd t) (x := tx t) (ds := ds) ho (by omega) hx fun e en => (B7.head (hb e en)).2.imp (·.1) (·.2)
   rw [← te] at i2
   have r := cvtL_nd src l (tokS h off ds (kd t) (tx t)).1 ns (tokS h off ds (kd t) (tx t)).2.1 (tokS h off ds (kd t) (tx t)).2.2 o h0 (by rw [te]; omega) hw.2 hg.2 i2 (fun e en => by
    rw [tk] at e
    rcases tse with ⟨_,e2,e3⟩ | ⟨e2,_⟩
    ·rw [e2] at en
     rcases (B7.head (hb e en)).2 with ⟨_,hb2⟩ | ⟨hb1,hb2⟩
     ·exact hb2
     ·rcases e3 with e3 | e3
      ·rw [e3] at hb1; cases hb1
      ·rw [e3] at hb2; exact absurd hb2 (by decide)
    ·omega) (fun e => by rw [tk] at e; exact ⟨fun c hc => (h60 e).1 c (List.mem_cons_of_mem _ hc),(h60 e).2⟩)
   exact ⟨r.1,r.2.1,r.2.2.1.trans tk,fun e => r.2.2.2 (tk.trans e)⟩
  ·rw [if_neg hk]
   simp only
   obtain ⟨c1,c2,c3⟩ := cvt_nd src t off ds (by omega) hw.1 (by omega) hg.1
   obtain ⟨v1,v2,v3,v4,_⟩ := cvt_inv src t off ds (by omega) hw.1 (by omega)
   have h7 : h.kind = 7 → 0 ≤ h.en := fun e => Int.not_lt.1 fun en => by have := (B7.head (hb e en)).1; omega
   have i2 := i.node (off' := (cvt src t off ds).2.1) ho (by omega) c1 c2 h7
   have r := cvtL_nd src l (ext h (cvt src t off ds).1.hd.st (cvt src t off ds).1.hd.en) (ns ++ [(cvt src t off ds).1]) (cvt src t off ds).2.1 (cvt src t off ds).2.2 o h0 (by omega) hw.2 hg.2 i2 (fun e en => absurd (show (cvt src t off ds).1.hd.en < 0 from en) (by omega)) (fun e => ⟨fun c hc => (h60 e).1 c (List.mem_cons_of_mem _ hc),fun a ha => by
    rcases List.mem_append.1 ha with ha | ha
    ·exact (h60 e).2 a ha
    ·rw [List.mem_singleton.1 ha]
     intro e7
     have := (h60 e).1 t List.mem_cons_self
     rw [← kd_kdn] at this
     exact this (c3 e7)⟩)
   exact ⟨r.1,r.2.1,r.2.2.1,r.2.2.2⟩
end
theorem astS_nd (s : ByteArray) : (sts (astS s) false).Nodup := by
 have hp := treeOf_parsed s
 have hsm := hp.small
 have hkd : kd (treeOf s) = 1 := rfl
 obtain ⟨c1,_,c3⟩ := cvt_nd s (treeOf s) 0 [] (Int.le_refl _) hsm.wf (by rw [hkd]; decide) hp.g7
 unfold astS astOf
 generalize (cvt s (treeOf s) 0 []).1 = a at *
 obtain ⟨h,ks⟩ := a
 have h7 : h.kind ≠ 7 := fun e => by have := c3 e; rw [hkd] at this; omega
 simp only
 have eo : own ⟨h.kind,h.value,h.text,0,s.size,h.ns⟩ = own h := own_same h7 rfl rfl
 rw [sts_mk,eo,← sts_mk]
 exact c1
theorem findOk (ms : List Md) : FndOk (syms ms) := syms_fnd astS_nd ms
end Go.Proofs.YtiogccmfmjhipaaGreatDoor.Sym
namespace Go.Proofs.YtiogccmfmjhipaaGreatDoor
set_option maxRecDepth 20000
open Sym (Md mdc mdc_len)
open Par (encs encs_at encs_len)
open Go.ChangeShapes Go.WideShapes Go.ChangeAt Go.RowKit Go.Gx Go.Deep
theorem cells9_ : Tryz.prog.cellsOf 9 = 1 := by kernel_rfl
theorem cells52_ : Tryz.prog.cellsOf 52 = 2 := by kernel_rfl
instance : Inhabited Md := ⟨(⟨#[]⟩,⟨#[]⟩)⟩
theorem mds_get {es : List Md} {k j : Nat} (hk : k < es.length) (hj : j < 2) : (encs mdc es)[k * 2 + j]? = (mdc es[k])[j]? := by
 rw [← encs_at mdc_len es k hk,List.getElem?_take,if_pos hj,List.getElem?_drop]
def MD_data {H : Type} (e : Md) : DataW H := .agg [.lit (.string e.1.data.toList),.lit (.string e.2.data.toList)]
theorem mods_in {W : World} {a0 : Option Addr} {len cap : Nat} {p : List MemPlace} {H : Type} {enc : TypeId × Value → H} {base : Nat} {d : DataW H}
  (h0 : DataW.Trod enc Tryz.prog W base (fun _ => true) true 49 (.slice a0 len cap) d p) : ∃ es : List Md,es.length = len ∧ SlC W (.slice a0 len cap) 2 len (encs mdc es) ∧ (len = 0 ∨ ∃ rest,d = .slice (es.map MD_data) rest) := by
 obtain ⟨fuel,hf⟩ := h0
 rcases open_slice Tryz.underlying49 hf with ⟨hcs,hx⟩ | ⟨a,len',cap',m,n,D,Pl,hcs,hbs,hl,hm,hmm,hx,hcell⟩
 ·simp [Value.cells] at hcs
  obtain ⟨rfl,rfl,rfl⟩ := hcs
  exact ⟨[],rfl,⟨rfl,_,_,rfl,Nat.le_refl _,.inl rfl⟩,.inl rfl⟩
 ·simp [Value.cells] at hcs
  obtain ⟨rfl,rfl,rfl⟩ := hcs
  replace hmm : m = cap := by simpa using hmm
  subst hmm
  rw [cells52_] at hcell
  have hone : ∀ i,i < m → ∃ e : Md,W.cells? base (a.add (i * 2)) 2 = some (mdc e) ∧ D i = MD_data e := by
   intro i hi
   obtain ⟨cs',h1,h2⟩ := hcell i hi
   obtain ⟨y0,y1,n',hD,hl3,k0,k1⟩ := trod_struct2 Tryz.underlying52 h2
   rw [cells52_] at hl3
   match cs',hl3 with
   | [c0,c1],_ =>
    obtain ⟨z0,q0,r0,_⟩ := DataW.trod_string Tryz.underlying9 k0
    obtain ⟨z1,q1,r1,_⟩ := DataW.trod_string Tryz.underlying9 k1
    simp [cells9_] at q0 q1
    subst q0; subst q1
    refine ⟨(z0,z1),h1,?_⟩
    simp only [Prod.mk.injEq] at hD
    rw [hD.1,r0,r1]
    rfl
  obtain ⟨f,hF⟩ := choose_lt hone
  refine ⟨(List.range len).map f,by simp,⟨by rw [encs_len mdc_len]; simp,_,_,rfl,hl,?_⟩,?_⟩
  ·by_cases h0 : m = 0
   ·exact .inl h0
   ·obtain ⟨b,off,spot⟩ := a
    obtain ⟨g1,g2⟩ := hF 0 (by omega)
    have g3 := (World.cells?_some g1).2.2 0 (by omega)
    have hspot : spot = none := by simpa [Addr.add] using World.cell?_spot (g3.trans rfl)
    subst hspot
    refine .inr ⟨b,off,rfl,fun i v hv => ?_⟩
    have hi : i < len * 2 := by
     have := (List.getElem?_eq_some_iff.1 hv).1
     rw [encs_len mdc_len] at this
     simpa using this
    have hk : i / 2 < len := by omega
    have hj : i % 2 < 2 := by omega
    have e1 : i = i / 2 * 2 + i % 2 := by omega
    rw [e1,mds_get (by simpa using hk) hj] at hv
    have g4 := (World.cells?_some (hF (i / 2) (by omega)).1).2.2 (i % 2) hj
    rw [Go.Gx.addr_add,Go.Gx.addr_add] at g4
    rw [e1,← Nat.add_assoc]
    simp only [List.getElem_map,List.getElem_range] at hv
    rw [g4,hv]
  ·refine .inr ⟨(List.range (m - len)).map fun j => D (len + j),?_⟩
   simp only [Prod.mk.injEq] at hx
   rw [hx.1,List.map_map]
   congr 1
   exact List.map_congr_left fun i hi => (hF i (by simp at hi; omega)).2
end Go.Proofs.YtiogccmfmjhipaaGreatDoor
