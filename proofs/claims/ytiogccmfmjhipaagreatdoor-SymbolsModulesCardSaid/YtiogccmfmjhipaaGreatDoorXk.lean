/- symbols: List, Collect. Printed by r7/Dh.py. -/
import Derived.Test.YtiogccmfmjhipaaGreatDoorXj
import Derived.Test.YtiogccmfmjhipaaGreatDoorXi
import Derived.Test.YtiogccmfmjhipaaGreatDoorXl
import Derived.Deep.Strs
set_option linter.unusedVariables false
set_option linter.unusedSimpArgs false
namespace Go.Proofs.YtiogccmfmjhipaaGreatDoor.Sym
set_option maxRecDepth 20000
open Go.Gx Go.RowKit Go.Lib
open Lexi (Asc tok)
open Par Ast
def dA : An := .mk ⟨0,0,.empty,0,0,0⟩ []
def Me (nm : ByteArray) : Sy := ⟨15,-1,-1,-1,nm,false⟩
def xY : List ByteArray := ["int".toUTF8, "bool".toUTF8, "string".toUTF8, "Self".toUTF8]
def iX : List Sy := xY.map Me
def iS (i : Nat) (nm : ByteArray) : Sy := ⟨1,i,-1,-1,nm,true⟩
def cQ (nm : Nat → ByteArray) (an : Nat → An) : Nat → List Sy
 | 0 => iX
 | k + 1 => oC k (an k) (cQ nm an k).length false (cQ nm an k ++ [iS k (nm k)])
theorem nZ (nm : Nat → ByteArray) (an : Nat → An) : ∀ k,(∀ i,i < k → anc (an i) ≤ 50000) → (cQ nm an k).length ≤ 4 + k * 50001
 | 0,_ => by rw [cQ]; exact Nat.le_refl 4
 | k + 1,h => by
  have h1 := nZ nm an k fun i hi => h i (by omega);have h2 := vE k (an k) (cQ nm an k).length false (cQ nm an k ++ [iS k (nm k)]);have h3 := h k (by omega);rw [cQ];simp only [List.length_append,List.length_singleton] at h2;omega
theorem bC.at {w : World} {b o k i : Nat} {α : Type} {f : α → List Value} {l : List α} (h : bC w b o (aN f l)) (hf : ∀ a,(f a).length = k) (hi : i < l.length) : bC w b (o + i * k) (f l[i]) := fun j v hv => by
 have e := bT hf l i hi;have hj : j < k := by rw [← hf l[i]]; exact (List.getElem?_eq_some_iff.1 hv).1
 rw [Nat.add_assoc];refine h (i * k + j) v ?_;rw [← e,List.getElem?_take_of_lt hj,List.getElem?_drop] at hv;exact hv
theorem CvV.setm {F : Fs} {w w' : World} {b : Nat} {m i : Int} {acc : List Sy} {dv : Value} (h : CvV F w b m acc dv) (hu : Upd b w w') (hv : Var w' b [.int .i64 i,dv] 163) : CvV F w' b i acc dv := by
 refine ⟨fun z hz => by rw [hu.size]; exact h.und z hz,hv,?_,h.nb,h.nd⟩;refine eH (F := fun z => z ≠ b) h.row (Bw.upd hu fun e => e rfl) fun z hz e => ?_;subst e;exact fB h.row h.var (by decide) (by rw [hz]; simp)
theorem CvV.addk {F : Fs} {w : World} {b k : Nat} {m : Int} {acc : List Sy} {dv : Value} (h : CvV F w b m acc dv) (h1 : k < w.heap.size) (h2 : k ≠ b) (h3 : ∀ z,dv.ownBlock = some z → z ≠ k) : CvV (fun z => F z ∨ z = k) w b m acc dv :=
 ⟨fun z hz => hz.elim (h.und z) fun e => e ▸ h1,h.var,h.row,fun hf => hf.elim h.nb fun e => h2 e.symm,fun z hz hf => hf.elim (h.nd z hz) (h3 z hz)⟩
theorem Bu {w : World} {v lv : Value} {ms : List Md} {mns : List Mn} {K : Fs} (hs0 : SlC w v 2 ms.length (aN gX ms)) (hl0 : SlC w lv 7 mns.length (aN Mn.cells mns)) (hK : Und K w.heap.size) (hN : ∀ g ∈ mns,NOk K w g) (hle : mns.length = ms.length) (h8 : ms.length ≤ 8) (hc : ∀ g ∈ mns,anc g.er ≤ 50000) :
  Cl Tryz.prog 58 #[v,lv] w (fun u w' => SlC w' u 6 (cQ (fun i => (ms.getD i (.empty,.empty)).1) (fun i => (kB mns).getD i dA) mns.length).length (aN lC (cQ (fun i => (ms.getD i (.empty,.empty)).1) (fun i => (kB mns).getD i dA) mns.length)) ∧ (∀ z,u.ownBlock = some z → w.heap.size ≤ z) ∧ Ext w w') := by
 have hx := Ext.refl w;obtain ⟨F,hF⟩ : ∃ F : Fs,(fun z => z < w.heap.size) = F := ⟨_,rfl⟩;have hFz : ∀ z,z < w.heap.size → F z := fun z hz => by rw [← hF]; exact hz
 have hzF : ∀ z,F z → z < w.heap.size := fun z hz => by rw [← hF] at hz; exact hz
 obtain ⟨nm,hnm⟩ : ∃ q : Nat → ByteArray,(fun i => (ms.getD i (.empty,.empty)).1) = q := ⟨_,rfl⟩;obtain ⟨an,han⟩ : ∃ q : Nat → An,(fun i => (kB mns).getD i dA) = q := ⟨_,rfl⟩;have hnmi : ∀ i (h : i < ms.length),nm i = ms[i].1 := fun i h => by rw [← hnm]; simp [List.getD,h]
 have hani : ∀ i (h : i < mns.length),an i = mns[i].er := fun i h => by rw [← han]; simp [List.getD,vC mns i h,iJ,h]
 have hanc : ∀ i,i < mns.length → anc (an i) ≤ 50000 := fun i h => by rw [hani i h]; exact hc _ (List.getElem_mem h)
 rw [hnm,han];obtain ⟨i59,hi59,hz59,hsi59,hby59⟩ := Fd;refine Cl.enter Tryz.func58 rfl Tryz.ntmps58 rfl rfl (.sr (.a2 rfl (.done (.sr (.t2 (bR Ml rfl) (Rg.wd trivial (bA (cs := [.int .i64 0,.slice none 0 0]) rfl rfl) rfl ?_))))));rintro _ w1 ⟨b,rfl,qb,hx1,hvb⟩;replace hx := hx.ext hx1;refine .a2 rfl (.done (.seq (.sr (Rg.wd trivial (aD (Li _ _ _ _) rfl) rfl ?_))));rintro _ w2 ⟨b12,rfl,q12,hx2,hv12⟩;replace hx := hx.ext hx2;replace hvb := hvb.ext hx2;refine .t2 (bV (dH (size := 1) hv12 rfl) Tryz.underlying38 rfl) (.m2 rfl (.done (Wp.block ?_)));have n := hx.le;have hb0 : b < w2.heap.size := hvb.lt;have hb12 : b12 ≠ b := Var.ne hv12 hvb (by decide);have D0 : CvV F w2 b 0 [] (.slice none 0 0) := ⟨fun z hz => by have := hzF z hz; omega,hvb,iZ _ _ _ _,fun hf => by have := hzF b hf; omega,fun z hz => by cases hz⟩;have hC0 : Cv (fun z => F z ∨ z = b12) w2 b 0 [] := ⟨_,D0.addk hv12.lt hb12 fun z hz => by cases hz⟩;have hs12 : SlC w2 (.slice (some ⟨b12,0,none⟩) 4 4) 1 4 (aN (fun s => [.string s]) xY) := dH hv12 rfl;clear hvb hv12;refine Wp.loop (ι := Nat) (fun j => [(0,v),(1,lv),(5,.pointer (some ⟨b,0,none⟩)),(12,.slice (some ⟨b12,0,none⟩) 4 4),(13,.int .i64 (4 : Nat)),(14,.int .i64 j)])
  (fun j w' => j ≤ 4 ∧ Cv (fun z => F z ∨ z = b12) w' b 0 (iX.take j) ∧ SlC w' (.slice (some ⟨b12,0,none⟩) 4 4) 1 4 (aN (fun s => [.string s]) xY) ∧ Ext w w') (fun j => 4 - j) 0 (by repeat (first | exact .nil | refine .cons rfl ?_)) ⟨Nat.zero_le _,hC0,hs12,hx⟩ ?_
 clear hC0 hs12 hx;rintro j w3 ⟨hj,hC,hs12,hx⟩
 by_cases hlt : j < 4
 ·have hlt4 : j < xY.length := hlt
  obtain ⟨dv,D⟩ := hC;obtain ⟨s,hsj⟩ : ∃ s,xY[j] = s := ⟨_,rfl⟩;have hbl : (iX.take j).length = j := by rw [List.length_take]; exact Nat.min_eq_left hj
  have hsy : lC (Me s) = [.int .i64 15,.int .i64 (-1),.int .i64 (-1),.int .i64 (-1),.string s,.bool false] := rfl;refine .sr ?_
  first | refine .tq (bG rfl rfl (by omega)) rfl ?_ | refine .tq (bJ rfl rfl (by omega)) rfl ?_ | refine .tq (cU rfl rfl) rfl ?_
  refine .done (.seq (.condT rfl (Wp.skip (.seq (Wp.block (.sr ?_))))));refine Rg.ix hs12 trivial rfl rfl Tryz.underlying38 gY (by omega) rfl ?_;intro bt16 ot16 ht16;rw [Int.toNat_natCast,show ((aN (fun s => [Value.string s]) xY).drop (j * 1)).take 1 = [.string xY[j]] from bT (f := fun s => [Value.string s]) (k := 1) (fun _ => rfl) xY j hlt4,hsj] at ht16;refine .t2 (aB gY rfl (bC.get (i := 0) ht16 rfl)) (.a2 rfl (.done (Wp.region (.m2 rfl (.m2 rfl (.t2 (aF rfl) (.t2 (aA jB rfl) (.t2 (aB sG rfl (D.var.g 1 rfl)) (.m2 rfl (.t2 (bR (qT _ _ _ _ _) rfl) (Rg.wd trivial (aD (qV _ _ _ _ _ _) rfl) rfl ?_)))))))))));rintro _ w11 ⟨bb,rfl,qbb,hx11,hvbb⟩;replace D := D.ext hx11;replace hx := hx.ext hx11;replace hs12 := hs12.ext hx11;replace ht16 := ht16.ext hx11;refine Rg.wd trivial (eI Tryz.underlying53 hi59 hz59 hsi59 hby59 rfl rfl rfl D.row (dH hvbb rfl) (by simp [Value.oneCell']) (by decide) (by unfold maxLen; omega) (by omega)) rfl ?_;rintro v2 wP hap;obtain ⟨gk,capk,spk,rfl,g1,g2,g3,hvk,hvP,hBP,hfr⟩ := D.app (d := Me s) (v' := v2) (w' := wP) (by rw [hsy]; exact hap);have hne : gk ≠ b := Var.ne hvk hvP (by decide);refine .t2 (aF rfl) (.t2 (aA jB rfl) (Rg.wn trivial (bZ hvP sG rfl rfl rfl rfl rfl) ?_));rintro _ wS ⟨huS,hvS⟩;simp only [List.set] at hvS;have hBS := hBP.trans (Bw.upd huS D.nb);have hC6 := CvV.push (acc := iX.take j ++ [Me s]) (spk := spk) D.und D.nb hBS (by simpa using hvS) (by simpa using g1) g2 (by simpa using g3) (hvk.upd huS hne) hfr;clear hvS hvk;refine .done (Wp.region ?_)
  first | refine .tq (bE rfl rfl (by omega)) rfl ?_ | refine .tq (fR rfl rfl) rfl ?_
  refine .m2 rfl (.done ?_);refine ⟨j + 1,by repeat (first | exact .nil | refine .cons rfl ?_),⟨hlt,?_,jX hs12 hBS fun z hz => by cases hz; exact .inr rfl,Bw.ext hx hBS fun z hz => .inl (hFz z hz)⟩,by omega⟩;have hjb : j < iX.length := hlt;rw [List.take_succ_eq_append_getElem hjb,show iX[j] = Me s from by rw [← hsj]; simp [iX]];exact hC6
 ·obtain rfl : j = 4 := by omega
  have hl3 := hl0.ext hx;have hC1 : Cv F w3 b 0 iX := hC.sub fun z hz => .inl hz;clear hC;refine .sr ?_
  first | refine .tq (bG rfl rfl (by omega)) rfl ?_ | refine .tq (bJ rfl rfl (by omega)) rfl ?_ | refine .tq (cU rfl rfl) rfl ?_
  refine .done (.seq (.condF rfl (Wp.exit (.seq (.sr (.m2 rfl (.t2 (bV hl3 Tryz.underlying25 rfl) (.m2 rfl (.done (Wp.block ?_))))))))));refine Wp.loop (ι := Nat × Int) (fun j => [(0,v),(1,lv),(5,.pointer (some ⟨b,0,none⟩)),(30,lv),(31,.int .i64 mns.length),(32,.int .i64 j.1)])
   (fun j w' => j.1 ≤ mns.length ∧ Cv F w' b j.2 (cQ nm an j.1) ∧ Ext w w') (fun j => mns.length - j.1) (0,0) (by repeat (first | exact .nil | refine .cons rfl ?_)) ⟨Nat.zero_le _,hC1,hx⟩ ?_
  clear hC1 hs12 hl3 hx;rintro ⟨i,m0⟩ w4 ⟨hi,hC,hx⟩;simp only at hi hC hx ⊢;have hll := nZ nm an i fun z hz => hanc z (by omega)
  by_cases hlt : i < mns.length
  ·have hl4 := hl0.ext hx
   have hog := (hN _ (List.getElem_mem hlt)).oneL;have hlt2 : i < ms.length := by omega
   have hgi := (hN _ (List.getElem_mem hlt));obtain ⟨dv,D⟩ := hC;obtain ⟨g,hg⟩ : ∃ g,mns[i] = g := ⟨_,rfl⟩;obtain ⟨acc,hacc⟩ : ∃ a,cQ nm an i = a := ⟨_,rfl⟩;have hei := hani i hlt;have hni := hnmi i hlt2;have hai := hanc i hlt;have hnxt : cQ nm an (i + 1) = oC i (an i) acc.length false (acc ++ [iS i (nm i)]) := by rw [cQ,hacc]
   rw [hg] at hei hog hgi;obtain ⟨nme,hnme⟩ : ∃ q,nm i = q := ⟨_,rfl⟩;rw [hacc] at D hll;rw [hei,hnme] at hnxt;rw [hei] at hai;have hsy : lC (iS i nme) = [.int .i64 1,.int .i64 i,.int .i64 (-1),.int .i64 (-1),.string nme,.bool true] := rfl;obtain ⟨bm,om,cm,rfl,hcm⟩ : ∃ bm om cm,v = .slice (some ⟨bm,om,none⟩) ms.length cm ∧ bC w bm om (aN gX ms) := by
    obtain ⟨_,p,cap,rfl,hcap,h0 | ⟨b1,o1,rfl,h1⟩⟩ := hs0
    ·omega
    ·exact ⟨b1,o1,cap,rfl,h1⟩
   have hbm : bm < w.heap.size := by
    have := bC.at hcm eA hlt2;exact bC.lt this
   have hcmi : bC w bm (om + i * 2) (gX ms[i]) := bC.at hcm eA hlt2;have hq := Ext.refl w4;have hdlt : ∀ z,dv.ownBlock = some z → z < w4.heap.size := fun z hz => gT D.row hz;have hl40 := hl4;have hx0 := hx;refine .sr ?_
   first | refine .tq (bG rfl rfl (by omega)) rfl ?_ | refine .tq (bJ rfl rfl (by omega)) rfl ?_ | refine .tq (cU rfl rfl) rfl ?_
   refine .done (.seq (.condT rfl (Wp.skip (.seq (Wp.block (.sr (.m2 rfl ?_)))))));refine Rg.ix hl4 trivial rfl rfl Tryz.underlying25 cR (by omega) rfl ?_;intro bt35 ot35 ht35;rw [Int.toNat_natCast,bT Mn.len mns i hlt,hg] at ht35;refine .t2 (bD rfl ht35 (by rw [Mn.len]; exact cR)) ?_;refine Rg.wd trivial (cJ Tryz.zeroValue27 rfl) rfl ?_;rintro _ wab9 ⟨b9,rfl,qb9,l,m⟩;refine .a2 rfl ?_;have hb9l : w4.heap.size ≤ b9 := Nat.le_of_eq qb9.symm;refine Rg.wn trivial (cB (cs := g.cells) m rfl rfl rfl (by rw [Mn.len]; exact cR) (by rw [Mn.len]; rfl) (hog)) ?_;rintro _ w41 ⟨hub9,hvb9⟩;have hx41 := l.upd hub9 (Nat.le_of_eq qb9.symm);clear m hub9 l;replace D := D.ext hx41;replace hx := hx.ext hx41;replace hq := hq.ext hx41;replace hl4 := hl4.ext hx41;replace ht35 := ht35.ext hx41;clear qb9;refine .done (.sr (.m2 rfl (.m2 rfl (.t2 (aF rfl) (.t2 (aA A4 rfl) (Rg.wn trivial (bZ D.var bB rfl rfl rfl rfl rfl) ?_))))));rintro _ w42 ⟨huM,hvM⟩;simp only [List.set] at hvM;have hb9 : b9 ≠ b := fun e => Var.ne hvb9 D.var (by decide) e;replace hvb9 := hvb9.upd huM hb9;have hBM : Bw F w4 w42 := (Bw.of hq fun z hz => by have := hzF z hz; have := hx0.le; omega).trans (Bw.upd huM D.nb);replace D := (D.setm huM hvM).addk hvb9.lt hb9 fun z hz e => by have := hdlt z hz; omega
   have hxM : Ext w w42 := Bw.ext hx0 hBM hFz;clear hvM hx ht35 hl4;refine .done ?_;refine Wp.seq (Wp.drawV (fun w' => Var w' b [.int .i64 i,dv] 163 ∧ bC w' bm (om + i * 2) (gX ms[i])) [0,1,2,3,4,5,6,7,8,9,10,11,12,13,14,15,16] [0] mixed (by kernel_rfl) (by kernel_rfl) ?_);intro w43 hx43 hh43;replace D := D.ext hx43;replace hvb9 := hvb9.ext hx43;replace hxM := hxM.ext hx43;refine ⟨⟨D.var,fun j v hv => dD hxM (hcmi j v hv)⟩,?_⟩;refine Rv.tm trivial rfl (ts fun wz hkz => by exact aL rfl) rfl ?_;refine Rv.tm trivial rfl (ts fun wz hkz => by exact aL rfl) rfl ?_;refine Rv.tm trivial rfl (ts fun wz hkz => by exact aF rfl) rfl ?_;refine Rv.tm trivial rfl (ts fun wz hkz => by exact aA jB rfl) rfl ?_;refine Rv.tm trivial rfl (ts fun wz hkz => by have y1 := hkz.1.cells; exact aB sG rfl (bC.get (i := 1) y1 rfl)) rfl ?_;refine Rv.tm trivial rfl (ts fun wz hkz => by exact aL rfl) rfl ?_;refine Rv.tm trivial rfl (ts fun wz hkz => by exact aL rfl) rfl ?_;refine Rv.tm trivial rfl (ts fun wz hkz => by exact aL rfl) rfl ?_;refine Rv.tm trivial rfl (ts fun wz hkz => by exact bH Tryz.underlying49 jP rfl rfl (by omega)) rfl ?_;rw [Int.toNat_natCast];refine Rv.tm trivial rfl (ts fun wz hkz => by exact aA oH rfl) rfl ?_;refine Rv.tm trivial rfl (ts fun wz hkz => by have y2 := hkz.2; exact aB gY rfl (bC.get (i := 0) y2 rfl)) rfl ?_;rw [← hni,hnme];refine Rv.tm trivial rfl (ts fun wz hkz => by exact bR (kI _ _ _ _ _ _) rfl) rfl ?_;refine Rv.wd trivial rfl (aD (qV _ _ _ _ _ _) rfl) rfl (fun _ _ hr => by obtain ⟨_,_,_,hr,_⟩ := hr; exact ⟨D.var.ext hr,fun j v hv => dD (hxM.ext hr) (hcmi j v hv)⟩) ?_;rintro _ w44 ⟨bb,rfl,qbb,hx44,hvbb⟩;replace D := D.ext hx44;replace hvb9 := hvb9.ext hx44;replace hxM := hxM.ext hx44
   refine Rv.wd trivial rfl (eI Tryz.underlying53 hi59 hz59 hsi59 hby59 rfl rfl rfl D.row (dH hvbb rfl) (by simp [Value.oneCell']) (by decide) (by unfold maxLen; omega) (by omega)) rfl (fun v2 wP hap => by obtain ⟨_,_,_,_,_,_,_,_,h6,h7,_⟩ := D.app (d := iS i nme) (v' := v2) (w' := wP) (by rw [hsy]; exact hap); exact ⟨h6,fun j v hv => dD (Bw.ext hxM h7 fun z hz => .inl (hFz z hz)) (hcmi j v hv)⟩) ?_;rintro v2 wP hap;obtain ⟨gk,capk,spk,rfl,g1,g2,g3,hvk,hvP,hBP,hfr⟩ := D.app (d := iS i nme) (v' := v2) (w' := wP) (by rw [hsy]; exact hap);have hne : gk ≠ b := Var.ne hvk hvP (by decide);refine Rv.tm trivial rfl (ts fun wz hkz => by exact aF rfl) rfl ?_;refine Rv.tm trivial rfl (ts fun wz hkz => by exact aA jB rfl) rfl ?_;refine Rv.wnB (fun _ => True) trivial rfl (bZ hvP sG rfl rfl rfl rfl rfl) (by rfl) (fun _ _ _ => trivial) ?_;rintro _ wS ⟨huS,hvS⟩;simp only [List.set] at hvS;have hBS := hBP.trans (Bw.upd huS D.nb);have hC6 := CvV.push (acc := acc ++ [iS i nme]) (spk := spk) D.und D.nb hBS (by simpa using hvS) (by simpa using g1) g2 (by simpa using g3) (hvk.upd huS hne) hfr;clear hvS hvk;have hx5 : Ext w wS := Bw.ext hxM hBS fun z hz => .inl (hFz z hz);have hv9 := aE hvb9 hBS (.inr rfl);refine Rv.done ?_;obtain ⟨dw,D2⟩ := hC6;refine Wp.drawV (fun w' => Var w' b [.int .i64 i,dw] 163 ∧ Var w' b9 g.cells 27) [0,1,2,3,4,5,6,7,8] [0] mixed (by kernel_rfl) (by kernel_rfl) ?_;intro w61 hx61 hh61;replace D2 := D2.ext hx61;replace hv9 := hv9.ext hx61;replace hx5 := hx5.ext hx61;refine ⟨⟨D2.var,hv9⟩,?_⟩;refine Rv.tm trivial rfl (ts fun wz hkz => by exact aL rfl) rfl ?_;refine Rv.tm trivial rfl (ts fun wz hkz => by have y2 := hkz.2.cells; exact bD rfl y2 (by rw [Mn.len]; exact cR)) rfl ?_;refine Rv.tm trivial rfl (ts fun wz hkz => by exact aL rfl) rfl ?_;refine Rv.tm trivial rfl (ts fun wz hkz => by exact aF rfl) rfl ?_;refine Rv.tm trivial rfl (ts fun wz hkz => by exact aA jB rfl) rfl ?_
   refine Rv.tm trivial rfl (ts fun wz hkz => by have y1 := hkz.1.cells; exact aB sG rfl (bC.get (i := 1) y1 rfl)) rfl ?_;have hs2 := fN D2.row;refine Rv.tm trivial rfl (ts fun wz hkz => by exact bV hs2 Tryz.underlying53 rfl) rfl ?_;refine Rv.tm trivial rfl (ts fun wz hkz => by exact dW rfl rfl (by simp; omega)) rfl ?_;rw [show (((acc ++ [iS i nme]).length : Nat) : Int) - 1 = acc.length from by simp];refine Rv.wdB (fun _ => True) trivial rfl (aC Tryz.call107 rfl (Gq _ g (Nat.le_refl _) F _ b i acc.length false _ (Cv.sub ⟨dw,D2⟩ fun z hz => .inl hz) (hgi.bw (Bw.of hx5 hzF) fun z hz => hFz z (hK z hz)) (by simp; omega))) rfl (by rfl) (fun _ _ _ => trivial) ?_;rintro _ wr ⟨hCr,hBr⟩;refine Rv.done (Wp.region ?_)
   first | refine .tq (bE rfl rfl (by omega)) rfl ?_ | refine .tq (fR rfl rfl) rfl ?_
   refine .m2 rfl (.done ?_);exact ⟨(i + 1,i),by repeat (first | exact .nil | refine .cons rfl ?_),⟨hlt,by simp only; rw [hnxt]; exact hCr,Bw.ext hx5 hBr hFz⟩,by simp only; omega⟩
  ·obtain rfl : i = mns.length := by omega
   obtain ⟨dv,D⟩ := hC;refine .sr ?_
   first | refine .tq (bG rfl rfl (by omega)) rfl ?_ | refine .tq (bJ rfl rfl (by omega)) rfl ?_ | refine .tq (cU rfl rfl) rfl ?_
   refine .done (.seq (.condF rfl (Wp.exit (.sr (.m2 rfl (.t2 (aF rfl) (.t2 (aA jB rfl) (.t2 (aB sG rfl (D.var.g 1 rfl)) (.a2 rfl (.done (Wp.ret ?_)))))))))));exact ⟨[_],⟨rfl,trivial⟩,fN D.row,fun z hz => Nat.le_of_not_lt fun c => D.nd z hz (hFz z c),hx⟩
noncomputable def iG (s : ByteArray) : Tr := .mk 1 fW (Classical.choose (parsed s))
theorem fZ (s : ByteArray) : fJ s (iG s) := (Classical.choose_spec (parsed s)).1
theorem oV {s : ByteArray} {t : Tr} (h : fJ s t) : t = iG s := h.unique (fZ s)
noncomputable def fL (s : ByteArray) : An := lX s (iG s)
noncomputable def syms (ms : List Md) : List Sy := cQ (fun i => (ms.getD i (.empty,.empty)).1) (fun i => fL (ms.getD i (.empty,.empty)).2) ms.length
theorem nC {nm nm' : Nat → ByteArray} {an an' : Nat → An} : ∀ k,(∀ i,i < k → nm i = nm' i ∧ an i = an' i) → cQ nm an k = cQ nm' an' k
 | 0,_ => rfl
 | k + 1,h => by rw [cQ,cQ,nC k fun i hi => h i (by omega),(h k (by omega)).1,(h k (by omega)).2]
theorem Trs.syms {ms : List Md} {mns : List Mn} (h : Trs ms mns) (hl : mns.length = ms.length) : cQ (fun i => (ms.getD i (.empty,.empty)).1) (fun i => (kB mns).getD i dA) mns.length = syms ms := by
 unfold Sym.syms;rw [hl];refine nC _ fun i hi => ⟨rfl,?_⟩;obtain ⟨t,h1,h2⟩ := h.2 i (by omega) hi;have e : (kB mns).getD i dA = mns[i].er := by simp [List.getD,vC mns i (by omega),iJ,hl,hi]
 show (kB mns).getD i dA = fL (ms.getD i (.empty,.empty)).2
 rw [e,h2,oV h1];simp [fL,List.getD,hi]
theorem Trs.anc {ms : List Md} {mns : List Mn} (h : Trs ms mns) (hl : mns.length = ms.length) (hs : ∀ m ∈ ms,m.2.size ≤ 2000) : ∀ g ∈ mns,anc g.er ≤ 50000 := by
 intro g hg;obtain ⟨i,hi,rfl⟩ := List.getElem_of_mem hg;obtain ⟨t,h1,h2⟩ := h.2 i hi (by omega);have h3 := h1.small.cnt;have h4 := oQ ms[i].2 t;have h5 := hs _ (List.getElem_mem (show i < ms.length by omega));rw [h2];omega
theorem PaR.slv {w w' : World} {ms : List Md} {u lv dv : Value} {K : Fs} {mns : List Mn} {ds : List Dm} (h : PaR w ms u w' K mns lv dv ds) : SlC w' lv 7 mns.length (aN Mn.cells mns) := fN h.pa.r6
theorem iH {w : World} {v : Value} {ms : List Md} (hA : Asc w) (hE : Er w) (hs0 : SlC w v 2 ms.length (aN gX ms)) (hlen : ms.length < 4611686018427387904) :
  Cl Tryz.prog 29 #[v] w (fun u w' => ((lA ms ≠ 0 ∧ u = .tuple #[.slice none 0 0,.int .i64 (lA ms)]) ∨ (lA ms = 0 ∧ ∃ sv,u = .tuple #[sv,.int .i64 0] ∧ SlC w' sv 6 (syms ms).length (aN lC (syms ms)))) ∧ Ext w w') := by
 have hx := Ext.refl w;obtain ⟨e,he⟩ : ∃ e,lA ms = e := ⟨_,rfl⟩;rw [he];refine Cl.enter Tryz.func29 rfl Tryz.ntmps29 rfl rfl (.sr (.a2 rfl (.a2 rfl (.done (.sr (.m2 rfl (Rg.wd trivial (aC Tryz.call57 rfl (pL hA hE hs0 hlen)) rfl ?_)))))));rintro _ w1 (⟨h0,rfl,hx1⟩ | ⟨h0,K,mns,lv,dv,ds,R⟩)
 ·rw [he] at h0 ⊢
  replace hx := hx.ext hx1;refine .m2 rfl (.t2 (aV rfl rfl) (.t2 (aV rfl rfl) (.t2 (aV rfl rfl) (.a2 rfl (.a2 rfl (.a2 rfl (.done (.seq (.sr (.m2 rfl (.t2 (eM rfl rfl h0) (.done ?_))))))))))));refine .condT rfl (.sr (.m2 rfl (.a2 rfl (.a2 rfl (.done (Wp.ret ?_))))));exact ⟨[_,_],⟨rfl,rfl,trivial⟩,.inl ⟨h0,rfl⟩,hx⟩
 ·have hT := R.tr
  have hl := R.len;have hx1 := R.pa.x;have hlv := R.slv;have hK := R.pa.und;have hN := R.pa.nk;obtain rfl := R.ue;obtain ⟨h8,hsz⟩ := gH h0;rw [he] at h0;subst h0;clear R;refine .m2 rfl (.t2 (aV rfl rfl) (.t2 (aV rfl rfl) (.t2 (aV rfl rfl) (.a2 rfl (.a2 rfl (.a2 rfl (.done (.seq (.sr (.m2 rfl (.t2 (eC rfl rfl rfl) (.done ?_))))))))))));refine .condF rfl (Wp.skip (.sr (.m2 rfl (.m2 rfl (Rg.wd trivial (aC Tryz.call58 rfl (Bu (hs0.ext hx1) hlv hK hN hl h8 (hT.anc hl hsz))) rfl ?_)))));rintro sv w2 ⟨hsv,hso,hx2⟩;rw [hT.syms hl] at hsv;refine .a2 rfl (.a2 rfl (.done (Wp.ret ?_)));exact ⟨[_,_],⟨rfl,rfl,trivial⟩,.inr ⟨rfl,sv,rfl,hsv⟩,hx1.ext hx2⟩
theorem Gs {w : World} {y : Sy} {m s : Int} {b1 b2 : Nat} (hv : Var w b1 [.int .i64 m] 3) (hvs : Var w b2 [.int .i64 s] 3) : Cl Tryz.prog 60 #[.agg (lC y).toArray,.pointer (some ⟨b1,0,none⟩),.pointer (some ⟨b2,0,none⟩)] w (fun u w' => u = .bool (decide (y.m = m) && decide (y.s = s)) ∧ Ext w w') := by
 have hx := Ext.refl w
 by_cases h1 : y.m = m
 ·rw [decide_eq_true h1]
  refine Cl.enter Tryz.func60 rfl Tryz.ntmps60 rfl rfl (.sr (Rg.wd trivial (bA (cs := lC y) rfl rfl) rfl ?_));rintro _ w1 ⟨b3,rfl,q3,hx1,hv3⟩;replace hx := hx.ext hx1;replace hv := hv.ext hx1;replace hvs := hvs.ext hx1;refine .a2 rfl (.done (.sr (.t2 (aA gS rfl) (.t2 (aB bB rfl (hv3.g 1 rfl)) (.t2 (aB bB rfl (hv.g 0 rfl)) (.t2 (aX rfl rfl h1) (.m2 rfl (.g2 (aA mX rfl) (.g2 (aB bB rfl (hv3.g 2 rfl)) (.g2 (aB bB rfl (hvs.g 0 rfl)) (.g2 (jI rfl rfl) (.t2 (aM rfl rfl) ?_))))))))))));refine .a2 rfl (.done (Wp.ret ?_));exact ⟨[_],⟨rfl,trivial⟩,rfl,hx⟩
 ·rw [decide_eq_false h1]
  refine Cl.enter Tryz.func60 rfl Tryz.ntmps60 rfl rfl (.sr (Rg.wd trivial (bA (cs := lC y) rfl rfl) rfl ?_));rintro _ w1 ⟨b3,rfl,q3,hx1,hv3⟩;replace hx := hx.ext hx1;replace hv := hv.ext hx1;replace hvs := hvs.ext hx1;refine .a2 rfl (.done (.sr (.t2 (aA gS rfl) (.t2 (aB bB rfl (hv3.g 1 rfl)) (.t2 (aB bB rfl (hv.g 0 rfl)) (.t2 (aQ rfl rfl h1) (.m2 rfl (.so rfl rfl (.so rfl rfl (.so rfl rfl (.so rfl rfl (.t2 (aP rfl rfl) ?_))))))))))));refine .a2 rfl (.done (Wp.ret ?_));exact ⟨[_],⟨rfl,trivial⟩,rfl,hx⟩
def sT (l : List Sy) (m s : Int) : Option Nat := l.findIdx? fun y => decide (y.m = m) && decide (y.s = s)
theorem Dw {w : World} {v : Value} {l : List Sy} {m s : Int} (hs0 : SlC w v 6 l.length (aN lC l)) (hlen : l.length < 4611686018427387904) :
  Cl Tryz.prog 32 #[v,.int .i64 m,.int .i64 s] w (fun u w' => u = .int .i64 (vG (sT l m s)) ∧ Ext w w') := by
 have hx := Ext.refl w;refine Cl.enter Tryz.func32 rfl Tryz.ntmps32 rfl rfl (.sr (Rg.wd trivial (bA (cs := [.int .i64 m]) rfl rfl) rfl ?_));rintro _ w1 ⟨b4,rfl,q4,hx1,hv4⟩;replace hx := hx.ext hx1;refine Rg.wd trivial (bA (cs := [.int .i64 s]) rfl rfl) rfl ?_;rintro _ w2 ⟨b5,rfl,q5,hx2,hv5⟩;replace hx := hx.ext hx2;replace hv4 := hv4.ext hx2;refine .a2 rfl (.done (.sr (.m2 rfl (.t2 (aK (us := []) (vs := [.pointer (some ⟨b4,0,none⟩),.pointer (some ⟨b5,0,none⟩)]) rfl rfl) (Rg.wd trivial (aC Tryz.call59 rfl (Jm (fst := []) (cap := [.pointer (some ⟨b4,0,none⟩),.pointer (some ⟨b5,0,none⟩)]) (hs0.ext hx) Tryz.call60 (fun w1 x1 m _ => Gs (hv4.ext x1) (hv5.ext x1)) hlen)) rfl ?_)))));rintro _ w3 ⟨rfl,hx3⟩;replace hx := hx.ext hx3;replace hv4 := hv4.ext hx3;replace hv5 := hv5.ext hx3;refine .a2 rfl (.done (Wp.ret ?_));exact ⟨[_],⟨rfl,trivial⟩,rfl,hx⟩
theorem Gu : (Tryz.prog.fieldsOf 59).toList.map (fun f => (f.name != "_",f.type,f.offset)) = [(true,3,0),(true,3,1),(true,3,2),(true,3,3),(true,9,4),(true,4,5)] := by kernel_rfl
theorem Jo : Tryz.prog.underlying 59 = some (.struct (Tryz.prog.fieldsOf 59)) := by kernel_rfl
theorem Ks (xs : Array Value) (v : Value) (o : Nat) (h : xs[o]? = some v) (w : World) : (part 4 xs o).run Tryz.prog w = .ok v w := by
 have h1 := tA.ag w;have h2 := tA.sz w;simp [part,h1,h2,h]
theorem L1 (a0 : Int) (a1 : Int) (a2 : Int) (a3 : Int) (a4 : ByteArray) (a5 : Bool) (b0 : Int) (b1 : Int) (b2 : Int) (b3 : Int) (b4 : ByteArray) (b5 : Bool) (w : World) : (Op.equal 59 (.agg #[.int .i64 a0,.int .i64 a1,.int .i64 a2,.int .i64 a3,.string a4,.bool a5]) (.agg #[.int .i64 b0,.int .i64 b1,.int .i64 b2,.int .i64 b3,.string b4,.bool b5])).run Tryz.prog w = .ok (a0 == b0 && (a1 == b1 && (a2 == b2 && (a3 == b3 && (decide (a4 = b4) && (a5 == b5)))))) w := by
 obtain ⟨f0,f1,f2,f3,f4,f5,hf,n0,t0,o0,n1,t1,o1,n2,t2,o2,n3,t3,o3,n4,t4,o4,n5,t5,o5⟩ : ∃ f0 f1 f2 f3 f4 f5 : Field,(Tryz.prog.fieldsOf 59).toList = [f0,f1,f2,f3,f4,f5] ∧ f0.name ≠ "_" ∧ f0.type = 3 ∧ f0.offset = 0 ∧ f1.name ≠ "_" ∧ f1.type = 3 ∧ f1.offset = 1 ∧ f2.name ≠ "_" ∧ f2.type = 3 ∧ f2.offset = 2 ∧ f3.name ≠ "_" ∧ f3.type = 3 ∧ f3.offset = 3 ∧ f4.name ≠ "_" ∧ f4.type = 9 ∧ f4.offset = 4 ∧ f5.name ≠ "_" ∧ f5.type = 4 ∧ f5.offset = 5 := by
  have hf := Gu;generalize (Tryz.prog.fieldsOf 59).toList = fs at hf ⊢
  rcases fs with _ | ⟨f0,_ | ⟨f1,_ | ⟨f2,_ | ⟨f3,_ | ⟨f4,_ | ⟨f5,_ | ⟨f6,r⟩⟩⟩⟩⟩⟩⟩
  ·cases hf
  ·simp at hf
  ·simp at hf
  ·simp at hf
  ·simp at hf
  ·simp at hf
  ·simp only [List.map_cons,List.map_nil,List.cons.injEq,Prod.mk.injEq,and_true,bne_iff_ne,ne_eq] at hf
   obtain ⟨⟨n0,t0,o0⟩,⟨n1,t1,o1⟩,⟨n2,t2,o2⟩,⟨n3,t3,o3⟩,⟨n4,t4,o4⟩,n5,t5,o5⟩ := hf;exact ⟨f0,f1,f2,f3,f4,f5,rfl,n0,t0,o0,n1,t1,o1,n2,t2,o2,n3,t3,o3,n4,t4,o4,n5,t5,o5⟩
  ·simp at hf
 unfold Op.equal;rw [show Op.maxDepth = 9999 + 1 from rfl,run_equalIn_struct w 9999 59 _ _ Jo (by kernel_rfl),hf];have e1 : ∀ p q : Int,(Op.equalIn 9999 3 (.int .i64 p) (.int .i64 q)).run Tryz.prog w = .ok (p == q) w := fun p q => run_equalIn_int w 9998 3 .i64 .i64 p q Tryz.underlying3;have p0 := iW #[.int .i64 a0,.int .i64 a1,.int .i64 a2,.int .i64 a3,.string a4,.bool a5] (.int .i64 a0) 0 rfl w;have q0 := iW #[.int .i64 b0,.int .i64 b1,.int .i64 b2,.int .i64 b3,.string b4,.bool b5] (.int .i64 b0) 0 rfl w;have g0  := e1 a0 b0;have p1 := iW #[.int .i64 a0,.int .i64 a1,.int .i64 a2,.int .i64 a3,.string a4,.bool a5] (.int .i64 a1) 1 rfl w;have q1 := iW #[.int .i64 b0,.int .i64 b1,.int .i64 b2,.int .i64 b3,.string b4,.bool b5] (.int .i64 b1) 1 rfl w;have g1  := e1 a1 b1;have p2 := iW #[.int .i64 a0,.int .i64 a1,.int .i64 a2,.int .i64 a3,.string a4,.bool a5] (.int .i64 a2) 2 rfl w;have q2 := iW #[.int .i64 b0,.int .i64 b1,.int .i64 b2,.int .i64 b3,.string b4,.bool b5] (.int .i64 b2) 2 rfl w;have g2  := e1 a2 b2;have p3 := iW #[.int .i64 a0,.int .i64 a1,.int .i64 a2,.int .i64 a3,.string a4,.bool a5] (.int .i64 a3) 3 rfl w;have q3 := iW #[.int .i64 b0,.int .i64 b1,.int .i64 b2,.int .i64 b3,.string b4,.bool b5] (.int .i64 b3) 3 rfl w;have g3  := e1 a3 b3;have p4 := Bm #[.int .i64 a0,.int .i64 a1,.int .i64 a2,.int .i64 a3,.string a4,.bool a5] (.string a4) 4 rfl w;have q4 := Bm #[.int .i64 b0,.int .i64 b1,.int .i64 b2,.int .i64 b3,.string b4,.bool b5] (.string b4) 4 rfl w;have g4 : (Op.equalIn 9999 9 (.string a4) (.string b4)).run Tryz.prog w = .ok (decide (a4 = b4)) w := Ko 9998 a4 b4 w;have p5 := Ks #[.int .i64 a0,.int .i64 a1,.int .i64 a2,.int .i64 a3,.string a4,.bool a5] (.bool a5) 5 rfl w;have q5 := Ks #[.int .i64 b0,.int .i64 b1,.int .i64 b2,.int .i64 b3,.string b4,.bool b5] (.bool b5) 5 rfl w;have g5 : (Op.equalIn 9999 4 (.bool a5) (.bool b5)).run Tryz.prog w = .ok (a5 == b5) w := run_equalIn_bool w 9998 4 a5 b5 Tryz.underlying4;generalize (a0 == b0) = r0 at g0 ⊢
 generalize (a1 == b1) = r1 at g1 ⊢;generalize (a2 == b2) = r2 at g2 ⊢;generalize (a3 == b3) = r3 at g3 ⊢;generalize decide (a4 = b4) = r4 at g4 ⊢;generalize (a5 == b5) = r5 at g5 ⊢;simp only [Op.eqFields,t0,o0,n0,t1,o1,n1,t2,o2,n2,t3,o3,n3,t4,o4,n4,t5,o5,n5,ne_eq,not_false_eq_true,if_true,Sem.run_bind,p0,q0,Result.andThen_ok,g0]
 cases r0
 ·simp
 ·simp [p1,q1,g1]
  cases r1
  ·simp
  ·simp [p2,q2,g2]
   cases r2
   ·simp
   ·simp [p3,q3,g3]
    cases r3
    ·simp
    ·simp [p4,q4,g4]
     cases r4
     ·simp
     ·simp [p5,q5,g5]
      cases r5 <;> simp
theorem Dx {w : World} {v1 v2 : Value} {xs ys : List Sy} (hx0 : SlC w v1 6 xs.length (aN lC xs)) (hy0 : SlC w v2 6 ys.length (aN lC ys)) (hn : xs.length ≤ 9223372036854775807) :
    Cl Tryz.prog 31 #[v1,v2] w (fun u w' => (∃ b : Bool,u = .bool b ∧ (b = true ↔ xs = ys)) ∧ Ext w w') := by
 have hx := Ext.refl w
 by_cases hnm : xs.length = ys.length
 ·skip
  refine Cl.enter Tryz.func31 rfl Tryz.ntmps31 rfl rfl (.sr (.a2 rfl (.done (.seq (.sr (.m2 rfl (.t2 (bV hx0 Tryz.underlying53 rfl) (.m2 rfl (.t2 (bV hy0 Tryz.underlying53 rfl) ?_)))))))))
  first | refine .tq (eM rfl rfl (by omega)) rfl ?_ | refine .tq (eC rfl rfl (by omega)) rfl ?_ | refine .tq (sX rfl rfl) rfl ?_
  refine .done (.condF rfl (Wp.skip (.seq (.sr (.m2 rfl (.t2 (bV hx0 Tryz.underlying53 rfl) (.m2 rfl (.done (Wp.block ?_)))))))));refine Wp.loop (ι := Nat) (fun k => [(0,v1),(1,v2),(12,.int .i64 xs.length),(13,.int .i64 k)])
   (fun k w' => k ≤ xs.length ∧ (∀ j (h : j < k),xs[j]? = ys[j]?) ∧ Ext w w') (fun k => xs.length - k) 0 (by repeat (first | exact .nil | refine .cons rfl ?_)) ⟨Nat.zero_le _,fun j h => by omega,hx⟩ ?_
  clear hx;rintro k w3 ⟨hk,hpre,hx⟩
  by_cases hlt : k < xs.length
  ·have hlt2 : k < ys.length := by omega
   obtain ⟨a,ha⟩ : ∃ a,xs[k] = a := ⟨_,rfl⟩;obtain ⟨b,hb⟩ : ∃ b,ys[k] = b := ⟨_,rfl⟩;obtain ⟨a0,a1,a2,a3,a4,a5⟩ := a;obtain ⟨b0,b1,b2,b3,b4,b5⟩ := b;have hiff : (a0 == b0 && (a1 == b1 && (a2 == b2 && (a3 == b3 && (decide (a4 = b4) && (a5 == b5)))))) = true ↔ (⟨a0,a1,a2,a3,a4,a5⟩ : Sy) = ⟨b0,b1,b2,b3,b4,b5⟩ := by simp
   refine .sr ?_
   first | refine .tq (bG rfl rfl (by omega)) rfl ?_ | refine .tq (bJ rfl rfl (by omega)) rfl ?_ | refine .tq (cU rfl rfl) rfl ?_
   refine .done (.seq (.condT rfl (Wp.skip (.seq (Wp.block (.sr (.m2 rfl (.a2 rfl (.done ?_)))))))));refine Wp.seq (Wp.draw [0,1,2,3,4,5,6,7,8] [] mixed (by kernel_rfl) (by kernel_rfl) ?_);intro w1 hx1 _;replace hx := hx.ext hx1;refine .m2 rfl (.m2 rfl ?_);refine Rg.ix hx0 trivial rfl rfl Tryz.underlying53 eG (by omega) rfl ?_;intro bt18 ot18 ht18;replace ht18 := ht18.ext hx;rw [Int.toNat_natCast,bT dS xs k hlt,ha] at ht18;refine .t2 (bD rfl ht18 eG) (.m2 rfl (.m2 rfl ?_));refine Rg.ix hy0 trivial rfl rfl Tryz.underlying53 eG (by omega) rfl ?_;intro bt22 ot22 ht22;replace ht22 := ht22.ext hx;rw [Int.toNat_natCast,bT dS ys k hlt2,hb] at ht22;refine .t2 (bD rfl ht22 eG) ?_;refine .t2 (wH (by kernel_rfl) (L1 a0 a1 a2 a3 a4 a5 b0 b1 b2 b3 b4 b5) rfl rfl) ?_;refine .done ?_
   by_cases heq : (⟨a0,a1,a2,a3,a4,a5⟩ : Sy) ≠ ⟨b0,b1,b2,b3,b4,b5⟩
   ·skip
    rw [show (a0 == b0 && (a1 == b1 && (a2 == b2 && (a3 == b3 && (decide (a4 = b4) && (a5 == b5)))))) = false from by rw [← Bool.not_eq_true,hiff]; exact heq];refine .condT rfl (.sr (.a2 rfl (.done (Wp.ret ?_))));refine ⟨[_],⟨rfl,trivial⟩,⟨false,rfl,?_⟩,hx⟩;refine ⟨fun h => (by cases h),fun e => ?_⟩;subst e;exact absurd (ha.symm.trans hb) heq
   ·skip
    rw [show (a0 == b0 && (a1 == b1 && (a2 == b2 && (a3 == b3 && (decide (a4 = b4) && (a5 == b5)))))) = true from by rw [hiff]; simpa using heq];refine .condF rfl (Wp.skip (Wp.region ?_))
    first | refine .tq (bE rfl rfl (by omega)) rfl ?_ | refine .tq (fR rfl rfl) rfl ?_
    refine .m2 rfl (.done ?_);refine ⟨k + 1,by repeat (first | exact .nil | refine .cons rfl ?_),⟨hlt,fun j hj => ?_,hx⟩,by omega⟩
    rcases Nat.lt_succ_iff_lt_or_eq.1 hj with h | h
    ·exact hpre j h
    ·subst h
     rw [List.getElem?_eq_getElem hlt,List.getElem?_eq_getElem hlt2,ha,hb]
     congr 1
     simpa using heq
  ·skip
   refine .sr ?_
   first | refine .tq (bG rfl rfl (by omega)) rfl ?_ | refine .tq (bJ rfl rfl (by omega)) rfl ?_ | refine .tq (cU rfl rfl) rfl ?_
   refine .done (.seq (.condF rfl (Wp.exit (.sr (.a2 rfl (.done (Wp.ret ?_)))))));refine ⟨[_],⟨rfl,trivial⟩,⟨true,rfl,fun _ => ?_,fun _ => rfl⟩,hx⟩;refine List.ext_getElem? fun j => ?_
   by_cases hj : j < xs.length
   ·exact hpre j (by omega)
   ·rw [List.getElem?_eq_none (by omega),List.getElem?_eq_none (by omega)]
 ·skip
  refine Cl.enter Tryz.func31 rfl Tryz.ntmps31 rfl rfl (.sr (.a2 rfl (.done (.seq (.sr (.m2 rfl (.t2 (bV hx0 Tryz.underlying53 rfl) (.m2 rfl (.t2 (bV hy0 Tryz.underlying53 rfl) ?_)))))))))
  first | refine .tq (eM rfl rfl (by omega)) rfl ?_ | refine .tq (eC rfl rfl (by omega)) rfl ?_ | refine .tq (sX rfl rfl) rfl ?_
  refine .done (.condT rfl (.sr (.a2 rfl (.done (Wp.ret ?_)))));exact ⟨[_],⟨rfl,trivial⟩,⟨false,rfl,fun h => (by cases h),fun e => absurd (congrArg List.length e) hnm⟩,hx⟩
def My : ByteArray := ⟨#[102,110,32,102,40,97,58,32,105,110,116,41,32,123,125]⟩
def exM : List Md := [("main".toUTF8,My)]
def Ag (y : Sy) : List Int × List UInt8 := ([y.k,y.m,y.s,y.p,if y.pub then 1 else 0],y.n.data.toList)
theorem L2 : ((run body 60 yJ ⟨Lexi.aH My,[],false,0⟩).map fun r => (cQ (fun i => (exM.getD i (.empty,.empty)).1) (fun _ => lX My (.mk 1 fW r.kids)) 1).map Ag) = some ((iX ++ [iS 0 "main".toUTF8,⟨2,0,3,4, "f".toUTF8,false⟩,⟨10,0,5,5, "a".toUTF8,false⟩]).map Ag) := by decide +kernel
theorem Gv {a b : Sy} (h : Ag a = Ag b) : a = b := by
 obtain ⟨a0,a1,a2,a3,a4,a5⟩ := a;obtain ⟨b0,b1,b2,b3,b4,b5⟩ := b;simp only [Ag,Prod.mk.injEq,List.cons.injEq,and_true] at h;obtain ⟨⟨rfl,rfl,rfl,rfl,hb⟩,h⟩ := h;obtain rfl : a5 = b5 := by revert hb; cases a5 <;> cases b5 <;> simp
 obtain rfl : a4 = b4 := ByteArray.ext (Array.toList_inj.1 h);rfl
theorem xZ : ∀ {l m : List Sy},l.map Ag = m.map Ag → l = m
 | [],[],_ => rfl
 | [],_ :: _,h => by cases h
 | _ :: _,[],h => by cases h
 | a :: l,b :: m,h => by
  simp only [List.map_cons,List.cons.injEq] at h;rw [Gv h.1,xZ h.2]
theorem Jp : syms exM = iX ++ [iS 0 "main".toUTF8,⟨2,0,3,4, "f".toUTF8,false⟩,⟨10,0,5,5, "a".toUTF8,false⟩] := by
 have h1 := L2;rw [Option.map_eq_some_iff] at h1;obtain ⟨r,h2,h3⟩ := h1;have h4 := oV (s := My) ⟨_,r,h2,rfl⟩;rw [h4] at h3;rw [← xZ h3];unfold syms;refine nC _ fun i hi => ⟨rfl,?_⟩;obtain rfl : i = 0 := by have : i < 1 := hi; omega
 rfl
theorem L3 : lA exM = 0 := by decide +kernel
theorem dT {w : World} (hA : Asc w) (hE : Er w) : Cl Tryz.prog 26 #[] w (fun u w' => u = .bool true ∧ Ext w w') := by
 have hx := Ext.refl w;refine Cl.enter Tryz.func26 rfl Tryz.ntmps26 rfl rfl (.sr (.a2 rfl (.done (.sr (Rg.wd trivial (aC Tryz.call43 rfl (L0 (s := My))) rfl ?_)))));rintro _ w1 ⟨hsm,hx1⟩;replace hx := hx.ext hx1;refine Rg.wd trivial (aC Tryz.call29 rfl (iH (ms := exM) (hA.ext hx) (dZ hE hx) hsm (by decide))) rfl ?_;rintro _ w2 ⟨⟨h0,_⟩ | ⟨_,sv,rfl,hsv⟩,hx2⟩
 ·exact absurd L3 h0
 rw [Jp] at hsv;have hel : (iX ++ [iS 0 "main".toUTF8,⟨2,0,3,4, "f".toUTF8,false⟩,⟨10,0,5,5, "a".toUTF8,false⟩]).length = 7 := rfl;replace hx := hx.ext hx2;replace hsm := hsm.ext hx2;refine .m2 rfl (.t2 (aV rfl rfl) (.t2 (aV rfl rfl) (.a2 rfl (.a2 rfl (.done (.sr (.m2 rfl (.t2 (aX rfl rfl rfl) (.m2 rfl ?_)))))))))
 first | refine .gd (aL rfl) rfl ?_ | refine .so rfl rfl ?_
 first | refine .gd (bV hsv Tryz.underlying53 rfl) rfl ?_ | refine .so rfl rfl ?_
 refine .g2 (aX rfl rfl (by decide)) ?_;refine .t2 (aM rfl rfl) (.m2 rfl ?_)
 first | refine .gd (aL rfl) rfl ?_ | refine .so rfl rfl ?_
 refine Rg.ix hsv ⟨_,rfl,rfl⟩ rfl rfl Tryz.underlying53 eG (by omega) rfl ?_;intro bt17 ot17 ht17;rw [show ((aN lC (iX ++ [iS 0 "main".toUTF8,⟨2,0,3,4, "f".toUTF8,false⟩,⟨10,0,5,5, "a".toUTF8,false⟩])).drop ((5 : Int).toNat * 6)).take 6 = lC ⟨2,0,3,4, "f".toUTF8,false⟩ from rfl] at ht17;refine .g2 (bD rfl ht17 (by exact eG)) ?_;refine .g2 (bR (nL _ _ _ _) rfl) ?_;refine .g2 (qL (b := true) (by kernel_rfl) (fun w => (L1 _ _ _ _ _ _ _ _ _ _ _ _ w).trans (by congr 1)) rfl rfl) ?_;refine .t2 (aM rfl rfl) (.m2 rfl ?_)
 first | refine .gd (aL rfl) rfl ?_ | refine .so rfl rfl ?_
 refine Rg.ix hsv ⟨_,rfl,rfl⟩ rfl rfl Tryz.underlying53 eG (by omega) rfl ?_;intro bt24 ot24 ht24;rw [show ((aN lC (iX ++ [iS 0 "main".toUTF8,⟨2,0,3,4, "f".toUTF8,false⟩,⟨10,0,5,5, "a".toUTF8,false⟩])).drop ((6 : Int).toNat * 6)).take 6 = lC ⟨10,0,5,5, "a".toUTF8,false⟩ from rfl] at ht24;refine .g2 (bD rfl ht24 (by exact eG)) ?_;refine .g2 (bR (nL _ _ _ _) rfl) ?_;refine .g2 (qL (b := true) (by kernel_rfl) (fun w => (L1 _ _ _ _ _ _ _ _ _ _ _ _ w).trans (by congr 1)) rfl rfl) ?_;refine .t2 (aM rfl rfl) (.a2 rfl (.done (Wp.ret ?_)));exact ⟨[_],⟨rfl,trivial⟩,rfl,hx⟩
def Bv (l : List Sy) : Prop := ∀ k (h : k < l.length),0 ≤ l[k].s → sT l l[k].m l[k].s = some k
theorem oA (ms : List Md) (h8 : ms.length ≤ 8) (hsz : ∀ m ∈ ms,m.2.size ≤ 2000) : (syms ms).length ≤ 500000 := by
 have := nZ (fun i => (ms.getD i (.empty,.empty)).1) (fun i => fL (ms.getD i (.empty,.empty)).2) ms.length fun i hi => by
  have h1 := (fZ (ms.getD i (.empty,.empty)).2).small.cnt;have h2 := oQ (ms.getD i (.empty,.empty)).2 (iG (ms.getD i (.empty,.empty)).2);have h3 := hsz _ (List.getElem_mem hi);have e : ms.getD i (.empty,.empty) = ms[i] := by simp [List.getD,hi]
  rw [e] at h1 h2 ⊢
  show anc (fL ms[i].2) ≤ 50000
  unfold fL;omega
 unfold syms;omega
theorem Jq (hfd : ∀ ms : List Md,lA ms = 0 → Bv (syms ms)) {w : World} {v : Value} {ms : List Md} {k : Int} (hA0 : Asc w) (hE0 : Er w) (hs0 : SlC w v 2 ms.length (aN gX ms)) :
  Cl Tryz.prog 7 #[v,.int .i64 k] w (fun u w' => u = .bool true ∧ Ext w w') := by
 have hx := Ext.refl w;refine Cl.enter Tryz.func7 rfl Tryz.ntmps7 rfl rfl (.sr (.a2 rfl (.done (.seq (.sr (Rg.wd trivial (aC Tryz.call26 rfl (dT (hA0.ext hx) (dZ hE0 hx))) rfl ?_))))));rintro _ w1 ⟨rfl,hx1⟩;replace hx := hx.ext hx1;refine .t2 (bN rfl) (.done (.condF rfl (Wp.skip (.sr ?_))));have hfl := rT ms;refine .m2 rfl (Rg.wd trivial (aC Tryz.call27 rfl (Af (hs0.ext hx))) rfl ?_);rintro _ w2 ⟨hfw,hfo,hx2⟩;replace hx := hx.ext hx2;refine Rg.wd trivial (aC Tryz.call29 rfl (iH (ms := oU ms) (hA0.ext hx) (dZ hE0 hx) hfw (by omega))) rfl ?_;rintro _ w3 ⟨⟨h0,rfl⟩ | ⟨h0,sv,rfl,hsv⟩,hx3⟩
 ·replace hx := hx.ext hx3
  refine .m2 rfl (.t2 (aV rfl rfl) (.t2 (aV rfl rfl) (.a2 rfl (.a2 rfl (.done (.seq (.sr (.m2 rfl (.t2 (eM rfl rfl h0) (.m2 rfl (.so rfl rfl (.so rfl rfl ?_))))))))))));refine .so rfl rfl (.t2 (aM rfl rfl) (.done (.condT rfl (.sr (Rg.wd trivial (aC Tryz.call26 rfl (dT (hA0.ext hx) (dZ hE0 hx))) rfl ?_)))));rintro _ w4 ⟨rfl,hx4⟩;replace hx := hx.ext hx4;refine .a2 rfl (.done (Wp.ret ?_));exact ⟨[_],⟨rfl,trivial⟩,rfl,hx⟩
 ·replace hx := hx.ext hx3
  have hsl := oA (oU ms) (gH h0).1 (gH h0).2;have hfk := hfd _ h0;obtain ⟨l,hl⟩ : ∃ l,syms (oU ms) = l := ⟨_,rfl⟩;rw [hl] at hsv hsl hfk;refine .m2 rfl (.t2 (aV rfl rfl) (.t2 (aV rfl rfl) (.a2 rfl (.a2 rfl (.done ?_)))))
  by_cases hz : l.length = 0
  ·skip
   refine .seq (.sr (.m2 rfl (.t2 (eC rfl rfl rfl) (.m2 rfl (.g2 (aL rfl) (.g2 (bV hsv Tryz.underlying53 rfl) ?_))))));refine .g2 (aX rfl rfl (by omega)) ?_;refine .t2 (aP rfl rfl) (.done (.condT rfl (.sr (Rg.wd trivial (aC Tryz.call26 rfl (dT (hA0.ext hx) (dZ hE0 hx))) rfl ?_))));rintro _ w4 ⟨rfl,hx4⟩;replace hx := hx.ext hx4;replace hsv := hsv.ext hx4;refine .a2 rfl (.done (Wp.ret ?_));exact ⟨[_],⟨rfl,trivial⟩,rfl,hx⟩
  ·skip
   refine .seq (.sr (.m2 rfl (.t2 (eC rfl rfl rfl) (.m2 rfl (.g2 (aL rfl) (.g2 (bV hsv Tryz.underlying53 rfl) ?_))))));refine .g2 (aQ rfl rfl (by omega)) ?_;refine .t2 (aP rfl rfl) (.done (.condF rfl (Wp.skip (.sr (.m2 rfl (.m2 rfl (.t2 (bV hsv Tryz.underlying53 rfl) ?_)))))));refine Rg.wd trivial (aC Tryz.call21 rfl (Ad (by omega) (by omega))) rfl ?_;rintro _ w4 ⟨⟨j,rfl,hj,_⟩,hx4⟩;replace hx := hx.ext hx4;replace hsv := hsv.ext hx4;refine .a2 rfl (.done ?_)
   by_cases hs : l[j].s < 0
   ·skip
    refine Wp.seq (Wp.draw [0,1,2,3,4,5,6,7,8,9,10,11,12,13,14,15,16,17,18,19,21,20,22,23,24,25] [] mixed (by kernel_rfl) (by kernel_rfl) ?_);intro w5 hx5 _;replace hx := hx.ext hx5;replace hsv := hsv.ext hx5;refine Rg.wdB trivial rfl (aC Tryz.call26 rfl (dT (hA0.ext hx) (dZ hE0 hx))) rfl (fun _ _ h => h.2.below) ?_;rintro _ w6 ⟨rfl,hx6⟩;replace hx := hx.ext hx6;replace hsv := hsv.ext hx6;refine .m2 rfl (.g2 (aL rfl) (.g2 (aL rfl) ?_));refine Rg.ix hsv ⟨_,rfl,rfl⟩ rfl rfl Tryz.underlying53 eG (by omega) rfl ?_;intro bt32 ot32 ht32;rw [Int.toNat_natCast,bT dS l j hj] at ht32;refine .g2 (aA mX rfl) (.g2 (aB bB rfl (bC.get (i := 2) ht32 rfl)) ?_);refine .g2 (bG rfl rfl (by omega)) ?_;refine .g2 (aL rfl) (.so rfl rfl (.so rfl rfl (.so rfl rfl (.so rfl rfl (.so rfl rfl (.so rfl rfl (.so rfl rfl (.so rfl rfl (.so rfl rfl (.so rfl rfl (.so rfl rfl (.so rfl rfl ?_))))))))))));refine .so rfl rfl (.so rfl rfl (.g2 (aM rfl rfl) (.t2 (aM rfl rfl) (.a2 rfl (.done (Wp.ret ?_))))));exact ⟨[_],⟨rfl,trivial⟩,rfl,hx⟩
   ·skip
    refine Wp.seq (Wp.draw [0,1,2,3,4,5,6,7,8,9,10,11,12,13,14,15,16,17,18,19,21,20,22,23,24,25] [] mixed (by kernel_rfl) (by kernel_rfl) ?_);intro w5 hx5 _;replace hx := hx.ext hx5;replace hsv := hsv.ext hx5;refine Rg.wdB trivial rfl (aC Tryz.call26 rfl (dT (hA0.ext hx) (dZ hE0 hx))) rfl (fun _ _ h => h.2.below) ?_;rintro _ w6 ⟨rfl,hx6⟩;replace hx := hx.ext hx6;replace hsv := hsv.ext hx6;refine .m2 rfl (.g2 (aL rfl) (.g2 (aL rfl) ?_));refine Rg.ix hsv ⟨_,rfl,rfl⟩ rfl rfl Tryz.underlying53 eG (by omega) rfl ?_;intro bt32 ot32 ht32;rw [Int.toNat_natCast,bT dS l j hj] at ht32;refine .g2 (aA mX rfl) (.g2 (aB bB rfl (bC.get (i := 2) ht32 rfl)) ?_);refine .g2 (bJ rfl rfl (by omega)) ?_;refine .g2 (aL rfl) (.g2 (aL rfl) (.g2 (aL rfl) (.g2 (aL rfl) ?_)));refine Rg.ix hsv ⟨_,rfl,rfl⟩ rfl rfl Tryz.underlying53 eG (by omega) rfl ?_;intro bt40 ot40 ht40;rw [Int.toNat_natCast,bT dS l j hj] at ht40;refine .g2 (aA gS rfl) (.g2 (aB bB rfl (bC.get (i := 1) ht40 rfl)) (.g2 (aL rfl) (.g2 (aL rfl) ?_)));refine Rg.ix hsv ⟨_,rfl,rfl⟩ rfl rfl Tryz.underlying53 eG (by omega) rfl ?_;intro bt45 ot45 ht45;rw [Int.toNat_natCast,bT dS l j hj] at ht45;refine .g2 (aA mX rfl) (.g2 (aB bB rfl (bC.get (i := 2) ht45 rfl)) (.g2 (aL rfl) ?_));refine Rg.wdB ⟨_,rfl,rfl⟩ rfl (aC Tryz.call32 rfl (Dw hsv (by omega))) rfl (fun _ _ h => h.2.below) ?_;rintro _ w7 ⟨rfl,hx7⟩;replace hx := hx.ext hx7;replace hsv := hsv.ext hx7;replace ht32 := ht32.ext hx7;replace ht40 := ht40.ext hx7;replace ht45 := ht45.ext hx7;rw [hfk j hj (by omega)];refine .g2 (aX rfl rfl rfl) (.g2 (aP rfl rfl) (.t2 (aM rfl rfl) (.a2 rfl (.done (Wp.ret ?_)))));exact ⟨[_],⟨rfl,trivial⟩,rfl,hx⟩
end Go.Proofs.YtiogccmfmjhipaaGreatDoor.Sym
namespace Go.Proofs.YtiogccmfmjhipaaGreatDoor.Sym
open Par Ast
def sh (d : Int) (y : Sy) : Sy := ⟨y.k,y.m,y.s,y.p + d,y.n,y.pub⟩
theorem yA (m : Int) (h : Hd) (p : Int) (lp : Bool) (d : Int) (pre l : List Sy) : eO m h (p + d) lp (pre ++ l.map (sh d)) = pre ++ (eO m h p lp l).map (sh d) := by
 unfold eO
 split
 ·rfl
 ·rw [List.map_append,List.append_assoc]
  rfl
theorem yB (h : Hd) (p : Int) (lp : Bool) (d : Int) (pre l : List Sy) (hd : (pre.length : Int) = d) : gL h (p + d) lp (pre ++ l.map (sh d)) = gL h p lp l + d := by
 unfold gL
 split
 ·rw [List.length_append,List.length_map]
  omega
 ·rfl
mutual
theorem tT (m : Int) (d : Int) (pre : List Sy) (hd : (pre.length : Int) = d) : ∀ (a : An) (p : Int) (lp : Bool) (l : List Sy),oC m a (p + d) lp (pre ++ l.map (sh d)) = pre ++ (oC m a p lp l).map (sh d)
 | .mk h ks,p,lp,l => by
  rw [oC,oC,yA,yB _ _ _ _ _ _ hd];exact rU m d pre hd ks _ _ _
theorem rU (m : Int) (d : Int) (pre : List Sy) (hd : (pre.length : Int) = d) : ∀ (qs : List An) (p : Int) (lp : Bool) (l : List Sy),fK m qs (p + d) lp (pre ++ l.map (sh d)) = pre ++ (fK m qs p lp l).map (sh d)
 | [],p,lp,l => by rw [fK,fK]
 | a :: qs,p,lp,l => by
  rw [fK,fK,tT m d pre hd a p lp l];exact rU m d pre hd qs _ _ _
end
def lE (m : Int) (a : An) : List Sy := oC m a (-1) false []
theorem Ah (i : Nat) (nm : ByteArray) (a : An) (acc : List Sy) : oC i a acc.length false (acc ++ [iS i nm]) = acc ++ (iS i nm :: (lE i a).map (sh (acc.length + 1))) := by
 have h := tT (i : Int) ((acc.length : Int) + 1) (acc ++ [iS i nm]) (by simp) a (-1) false [];simp only [List.map_nil,List.append_nil] at h;rw [show (-1 : Int) + ((acc.length : Int) + 1) = acc.length from by omega] at h;rw [h,List.append_assoc];rfl
def gA (n : Int) (i : Nat) (nm : ByteArray) (a : An) : List Sy := iS i nm :: (lE i a).map (sh (n + 1))
theorem gM (nm : Nat → ByteArray) (an : Nat → An) (k : Nat) : cQ nm an (k + 1) = cQ nm an k ++ gA (cQ nm an k).length k (nm k) (an k) := by
 rw [cQ,Ah];rfl
mutual
def pQ : An → Bool → List Int
 | .mk h ks,lp => (if cT h lp = 0 then [] else [iF h]) ++ eX ks (hY h lp)
def eX : List An → Bool → List Int
 | [],_ => []
 | a :: l,lp => pQ a lp ++ eX l lp
end
theorem Jr (m : Int) (h : Hd) (p : Int) (lp : Bool) (acc : List Sy) : (eO m h p lp acc).map (·.s) = acc.map (·.s) ++ (if cT h lp = 0 then [] else [iF h]) := by
 unfold eO
 split
 ·simp
 ·rw [List.map_append]; rfl
mutual
theorem Kt (m : Int) : ∀ (a : An) (p : Int) (lp : Bool) (acc : List Sy),(oC m a p lp acc).map (·.s) = acc.map (·.s) ++ pQ a lp
 | .mk h ks,p,lp,acc => by rw [oC,Gw m ks,Jr,List.append_assoc,pQ]
theorem Gw (m : Int) : ∀ (qs : List An) (p : Int) (lp : Bool) (acc : List Sy),(fK m qs p lp acc).map (·.s) = acc.map (·.s) ++ eX qs lp
 | [],p,lp,acc => by rw [fK,eX,List.append_nil]
 | a :: qs,p,lp,acc => by rw [fK,Gw m qs,Kt m a,List.append_assoc,eX]
end
theorem Jt {m : Int} {h : Hd} {p : Int} {lp : Bool} {acc : List Sy} (ha : ∀ y ∈ acc,y.m = m) : ∀ y ∈ eO m h p lp acc,y.m = m := by
 unfold eO
 split
 ·exact ha
 ·intro y hy
  rcases List.mem_append.1 hy with h | h
  ·exact ha y h
  ·rw [List.mem_singleton.1 h]; rfl
mutual
theorem Ku (m : Int) : ∀ (a : An) (p : Int) (lp : Bool) (acc : List Sy),(∀ y ∈ acc,y.m = m) → ∀ y ∈ oC m a p lp acc,y.m = m
 | .mk h ks,p,lp,acc,ha => by rw [oC]; exact Gy m ks _ _ _ (Jt ha)
theorem Gy (m : Int) : ∀ (qs : List An) (p : Int) (lp : Bool) (acc : List Sy),(∀ y ∈ acc,y.m = m) → ∀ y ∈ fK m qs p lp acc,y.m = m
 | [],p,lp,acc,ha => by rw [fK]; exact ha
 | a :: qs,p,lp,acc,ha => by rw [fK]; exact Gy m qs _ _ _ (Ku m a _ _ _ ha)
end
theorem rV (m : Int) (a : An) : ∀ y ∈ lE m a,y.m = m := Ku m a _ _ _ fun y hy => absurd hy List.not_mem_nil
theorem Gz (m : Int) (a : An) : (lE m a).map (·.s) = pQ a false := by unfold lE; rw [Kt]; rfl
theorem qB {n : Int} {i : Nat} {nm : ByteArray} {a : An} : ∀ y ∈ gA n i nm a,y.m = i := by
 intro y hy
 rcases List.mem_cons.1 hy with rfl | h
 ·rfl
 ·obtain ⟨z,hz,rfl⟩ := List.mem_map.1 h
  exact rV i a z hz
theorem Ai (nm : Nat → ByteArray) (an : Nat → An) : ∀ k,∀ y ∈ cQ nm an k,y.m < k
 | 0,y,hy => by
  rw [cQ] at hy;obtain ⟨z,_,rfl⟩ := List.mem_map.1 hy
  show (-1 : Int) < 0
  decide
 | k + 1,y,hy => by
  rw [gM] at hy
  rcases List.mem_append.1 hy with h | h
  ·have := Ai nm an k y h; omega
  ·rw [qB y h]; omega
theorem L4 : ∀ y ∈ iX,y.s < 0 := by
 intro y hy;obtain ⟨z,_,rfl⟩ := List.mem_map.1 hy
 show (-1 : Int) < 0
 decide
def PR (x y : Sy) : Prop := 0 ≤ y.s → ¬(x.m = y.m ∧ x.s = y.s)
theorem L5 {l : List Sy} (h : l.Pairwise PR) : Bv l := by
 intro j hj hs;unfold sT;rw [List.findIdx?_eq_some_iff_getElem];refine ⟨hj,by simp,fun i hij => ?_⟩;have := List.pairwise_iff_getElem.1 h i j (by omega) hj hij hs
 simpa using this
theorem G0 {n : Int} {i : Nat} {nm : ByteArray} {a : An} (h : (pQ a false).Nodup) : (gA n i nm a).Pairwise PR := by
 unfold gA;rw [List.pairwise_cons];refine ⟨fun y hy hs he => ?_,?_⟩
 ·have : (-1 : Int) = y.s := he.2
  omega
 ·rw [List.pairwise_map]
  rw [← Gz i a,List.nodup_iff_pairwise_ne,List.pairwise_map] at h;exact h.imp fun hab _ he => hab he.2
theorem Bx (nm : Nat → ByteArray) (an : Nat → An) (hn : ∀ i,(pQ (an i) false).Nodup) : ∀ k,(cQ nm an k).Pairwise PR
 | 0 => by
  rw [cQ];refine List.pairwise_iff_getElem.2 fun i j hi hj _ hs => ?_;have := L4 _ (List.getElem_mem hj);omega
 | k + 1 => by
  rw [gM,List.pairwise_append];refine ⟨Bx nm an hn k,G0 (hn k),fun x hx y hy hs he => ?_⟩;have h1 := Ai nm an k x hx;have h2 := qB y hy;have := he.1;omega
theorem G1 (hn : ∀ s : ByteArray,(pQ (fL s) false).Nodup) (ms : List Md) : Bv (syms ms) := L5 (Bx _ _ (fun _ => hn _) _)
end Go.Proofs.YtiogccmfmjhipaaGreatDoor.Sym
namespace Go.Proofs.YtiogccmfmjhipaaGreatDoor.Par
set_option maxRecDepth 20000
open Cmd
def B7 (l : List Tr) : Prop := ∃ (u : List Tok) (tk : Tok) (v : List Tr),l = u.map .tok ++ .tok tk :: v ∧ (∀ t ∈ u,cY t.1 = true) ∧ cY tk.1 = false ∧ 100 < tk.1 ∧ 0 < tk.2.size
mutual
def g7 : Tr → Prop
 | .mk k x ks => (k = 60 → ∀ c ∈ ks,c.kdn ≠ 7) ∧ (k = 7 → B7 ks) ∧ (k = 103 → 0 < x.size) ∧ tU ks
def tU : List Tr → Prop
 | [] => True
 | t :: l => g7 t ∧ tU l
end
theorem iK {a b : List Tr} : tU (a ++ b) ↔ tU a ∧ tU b := by
 induction a with
 | nil => simp [tU]
 | cons t a ih => rw [List.cons_append,tU,tU,ih,and_assoc]
theorem vI {k : Int} {x : ByteArray} {ks : List Tr} (h1 : k = 60 → ∀ c ∈ ks,c.kdn ≠ 7) (h2 : k = 7 → B7 ks) (h0 : k ≠ 103) (h3 : tU ks) : tU [.mk k x ks] := by
 rw [tU,g7];exact ⟨⟨h1,h2,fun e => absurd e h0,h3⟩,trivial⟩
theorem qC {l : List Tok} (h : V l) : tU (l.map .tok) := by
 induction l with
 | nil => exact trivial
 | cons t l ih =>
  rw [List.map_cons,tU];have h0 := (h t List.mem_cons_self).2;have h9 := (h t List.mem_cons_self).1;refine ⟨?_,ih fun u hu => h u (List.mem_cons_of_mem _ hu)⟩;unfold Tr.tok;rw [g7];exact ⟨fun e => by omega,fun e => by omega,fun _ => h9,trivial⟩
theorem B7.app {l m : List Tr} (h : B7 l) : B7 (l ++ m) := by
 obtain ⟨u,tk,v,e,h⟩ := h;exact ⟨u,tk,v ++ m,by rw [e]; simp,h⟩
theorem B7.init {a : List Tr} {t : Tr} (h : B7 (a ++ [t])) (ht : t.kdn < 100) : B7 a := by
 obtain ⟨u,tk,v,e,h1,h2,h3,h4⟩ := h
 rcases List.eq_nil_or_concat v with rfl | ⟨v',x,rfl⟩
 ·rw [show u.map Tr.tok ++ [Tr.tok tk] = (u.map Tr.tok) ++ [Tr.tok tk] from rfl] at e
  have := List.append_inj_right' e rfl;simp only [List.cons.injEq,and_true] at this;rw [this] at ht;exact absurd (show tk.1 < 100 from ht) (by omega)
 ·rw [show u.map Tr.tok ++ Tr.tok tk :: v'.concat x = (u.map Tr.tok ++ Tr.tok tk :: v') ++ [x] from by simp] at e
  have := List.append_inj_left' e rfl;exact ⟨u,tk,v',this,h1,h2,h3,h4⟩
theorem rW : ∀ {l : List Tok},V l → aO l ≠ Ac → ∃ u tk,taken l = u ++ [tk] ∧ (∀ t ∈ u,cY t.1 = true) ∧ cY tk.1 = false ∧ 100 < tk.1 ∧ 0 < tk.2.size
 | [],_,h => absurd rfl h
 | t :: l,hv,h => by
  unfold aO at h;unfold taken
  by_cases ht : cY t.1 = true
  ·rw [if_pos ht] at h ⊢
   obtain ⟨u,tk,e,h1,h2⟩ := rW (fun x hx => hv x (List.mem_cons_of_mem _ hx)) h;exact ⟨t :: u,tk,by rw [e]; rfl,fun x hx => by rcases List.mem_cons.1 hx with rfl | hx; exact ht; exact h1 x hx,h2⟩
  ·rw [if_neg ht]
   have := hv t List.mem_cons_self;exact ⟨[],t,rfl,fun x hx => absurd hx List.not_mem_nil,by simpa using ht,this.2,this.1⟩
def okA : Nm → Bool
 | .item => false
 | _ => true
def A7 : Cmd → Prop
 | .node k _ => k ≠ 7
 | .wrap k _ => k ≠ 7
 | .leaf k => k ≠ 7
 | .seq a b => A7 a ∧ A7 b
 | .cond _ a b => A7 a ∧ A7 b
 | .loop _ c => A7 c
 | .prog c a b => A7 c ∧ A7 a ∧ A7 b
 | .call x => okA x = true
 | .sel _ c => ∀ k,A7 (c k)
 | _ => True
def n7 : Cmd → Prop
 | .node k _ => k ≠ 7
 | _ => True
def Gk : Cmd → Prop
 | .node k c => k < 100 ∧ (k = 60 → A7 c) ∧ (k = 7 → ∃ x d,c = .seq (acc x) (.seq .bump (.call d))) ∧ n7 c ∧ Gk c
 | .wrap k c => (k < 100 ∧ k ≠ 60 ∧ k ≠ 7) ∧ n7 c ∧ Gk c
 | .leaf k => k ≠ 60 ∧ k ≠ 7 ∧ k ≠ 103
 | .seq a b => (n7 a ∧ n7 b) ∧ Gk a ∧ Gk b
 | .cond _ a b => (n7 a ∧ n7 b) ∧ Gk a ∧ Gk b
 | .loop _ c => n7 c ∧ Gk c
 | .prog c a b => (n7 c ∧ n7 a ∧ n7 b) ∧ Gk c ∧ Gk a ∧ Gk b
 | .sel f c => ∀ x y,Gk (c (f x y)) ∧ (x = Ac → n7 (c (f x y)))
 | _ => True
def G7R (rec : Cmd → S → Option S) : Prop := ∀ c s r i,Gk c → LkOk c i → LV i s.kids → V s.rem → (n7 c ∨ aO s.rem ≠ Ac) → tU s.kids → rec c s = some r →
 tU r.kids ∧ (B7 s.kids → B7 r.kids) ∧ (A7 c → (∀ t ∈ s.kids,t.kdn ≠ 7) → ∀ t ∈ r.kids,t.kdn ≠ 7)
theorem V.sufx {s r : S} (h : V s.rem) (hs : ∃ u,s.rem = u ++ r.rem) : V r.rem := by
 obtain ⟨u,e⟩ := hs;exact fun t ht => h t (by rw [e]; exact List.mem_append_right _ ht)
theorem V.taken {l : List Tok} (h : V l) : V (taken l) := fun t hm => h t (by rw [← eL l]; exact List.mem_append_left _ hm)
theorem Kv {rec : Cmd → S → Option S} (hb : ∀ x,Gk (body x) ∧ n7 (body x) ∧ (okA x = true → A7 (body x))) (hs : ∀ c s r,rec c s = some r → ∃ u,s.rem = u ++ r.rem) (hk : LkR rec) (hr : G7R rec) : G7R (bW body rec) := by
 intro c
 induction c with
 | skip | flag b => intro s r i _ _ _ _ _ hf h; obtain rfl := Option.some.inj h; exact ⟨hf,id,fun _ h => h⟩
 | drop =>
  intro s r i _ ho hl _ _ hf h;obtain rfl : i = 2 := ho;obtain ⟨a,t,e,ht⟩ := hl;obtain rfl := Option.some.inj h;rw [e] at hf;simp only [e,List.dropLast_concat];exact ⟨(iK.1 hf).1,fun h => h.init ht,fun _ h x hx => h x (List.mem_append_left _ hx)⟩
 | bump =>
  intro s r i _ _ _ hv _ hf h;obtain rfl := Option.some.inj h;refine ⟨iK.2 ⟨hf,qC hv.taken⟩,fun h => h.app,fun _ h x hx => ?_⟩
  rcases List.mem_append.1 hx with hx | hx
  ·exact h x hx
  ·obtain ⟨t,ht,rfl⟩ := List.mem_map.1 hx
   have := (hv.taken t ht).2
   show t.1 ≠ 7
   omega
 | leaf k =>
  intro s r i hk _ _ _ _ hf h;obtain rfl := Option.some.inj h;refine ⟨iK.2 ⟨hf,vI (fun e => absurd e hk.1) (fun e => absurd e hk.2.1) hk.2.2 trivial⟩,fun h => h.app,fun ha h x hx => ?_⟩
  rcases List.mem_append.1 hx with hx | hx
  ·exact h x hx
  ·rw [List.mem_singleton.1 hx]; exact hk.2.1
 | before =>
  intro s r i _ ho hl _ _ hf h;obtain rfl : i = 2 := ho;obtain ⟨a,t,e,ht⟩ := hl;simp only [bW,e,List.getLast?_append,List.getLast?_singleton,Option.some_or] at h;obtain rfl := Option.some.inj h;rw [e] at hf ⊢;have hf := iK.1 hf;simp only [List.dropLast_concat];refine ⟨iK.2 ⟨hf.1,?_⟩,fun h => (h.init ht).app,fun _ h x hx => ?_⟩
  ·rw [show [Tr.leaf 0,t] = [Tr.leaf 0] ++ [t] from rfl]
   exact iK.2 ⟨vI (fun e => absurd e (by decide)) (fun e => absurd e (by decide)) (by decide) trivial,hf.2⟩
  ·rcases List.mem_append.1 hx with hx | hx
   ·exact h x (List.mem_append_left _ hx)
   ·rcases List.mem_cons.1 hx with rfl | hx
    ·show (0 : Int) ≠ 7; decide
    ·exact h x (List.mem_append_right _ hx)
 | seq a b iha ihb =>
  intro s r i hG ho hl hv _ hf h;simp only [bW,Option.bind_eq_some_iff] at h;obtain ⟨x,h1,h2⟩ := h;obtain ⟨⟨na,nb⟩,ga,gb⟩ := hG;obtain ⟨p1,p2,p3⟩ := iha _ _ _ ga ho.1 hl hv (.inl na) hf h1;obtain ⟨q1,q2,q3⟩ := ihb _ _ _ gb ho.2 (lW hk _ _ _ _ ho.1 hl h1) (hv.sufx (kC hs _ _ _ h1)) (.inl nb) p1 h2;exact ⟨q1,fun h => q2 (p2 h),fun ha h => q3 ha.2 (p3 ha.1 h)⟩
 | node k c ih =>
  intro s r i hG ho hl hv hn hf h;simp only [bW,Option.map_eq_some_iff] at h;obtain ⟨x,h1,rfl⟩ := h;obtain ⟨hk1,hA,h7,hnc,hG⟩ := hG;obtain ⟨p1,p2,p3⟩ := ih { s with kids := [],adds := s.adds + 1 } x 0 hG ho trivial hv (.inl hnc) (show tU ([] : List Tr) from trivial) h1;refine ⟨iK.2 ⟨hf,vI (fun e => p3 (hA e) fun t ht => absurd ht List.not_mem_nil) (fun e => ?_) (by omega) p1⟩,fun h => h.app,fun ha h x hx => ?_⟩
  ·obtain ⟨tx,d,rfl⟩ := h7 e
   have hne : aO s.rem ≠ Ac := hn.resolve_left fun hh => hh e;obtain ⟨u,tk,et,g1,g2,g3,g4⟩ := rW hv hne;have hB0 : B7 ([] ++ (taken s.rem).map Tr.tok) := ⟨u,tk,[],by rw [et]; simp,g1,g2,g3,g4⟩;have h1' := h1;simp only [bW,Option.bind_eq_some_iff,acc] at h1;obtain ⟨y,h2,z,h3,h4⟩ := h1;obtain rfl := Option.some.inj h3;have hly := lW hk _ _ _ 0 ho.1 (show LV 0 ([] : List Tr) from trivial) (show bW body rec (acc tx) { s with kids := [],adds := s.adds + 1 } = some y from h2);have hlz := lW hk .bump _ _ _ ho.2.1 hly (show bW body rec .bump y = some y.bump from rfl);have hvy : V y.rem := hv.sufx (s := { s with kids := [],adds := s.adds + 1 }) (kC (body := body) hs (acc tx) _ _ h2);have hvz : V y.bump.rem := hvy.sufx (s := y) (kC (body := body) hs .bump _ _ (show bW body rec .bump y = some y.bump from rfl));have hBz : B7 y.bump.kids ∧ tU y.bump.kids := by
    split at h2
    ·obtain rfl := Option.some.inj h2
     exact ⟨B7.app hB0,iK.2 ⟨qC hv.taken,qC hvy.taken⟩⟩
    ·obtain rfl := Option.some.inj h2
     exact ⟨hB0,qC hv.taken⟩
   exact (hr _ _ _ _ (hb d).1 (qA d _ ho.2.2.1 ho.2.2.2).1 hlz hvz (.inl (hb d).2.1) hBz.2 h4).2.1 hBz.1
  ·rcases List.mem_append.1 hx with hx | hx
   ·exact h x hx
   ·rw [List.mem_singleton.1 hx]; exact ha
 | wrap k c ih =>
  intro s r i hG ho hl hv hn hf h;obtain ⟨rfl,ho⟩ := ho;obtain ⟨l,t,e,h0⟩ := hl;obtain ⟨⟨hk1,hk2,hk3⟩,hnc,hG⟩ := hG;simp only [bW,e,List.getLast?_append,List.getLast?_singleton,Option.some_or,List.dropLast_concat,Option.map_eq_some_iff] at h;obtain ⟨x,h1,rfl⟩ := h;rw [e] at hf ⊢;have hf := iK.1 hf;obtain ⟨p1,p2,p3⟩ := ih { s with kids := [t],adds := s.adds + 1 } x 2 hG ho (show LV 2 [t] from ⟨[],t,rfl,h0⟩) hv (.inl hnc) hf.2 h1;refine ⟨iK.2 ⟨hf.1,vI (fun e => absurd e hk2) (fun e => absurd e hk3) (by omega) p1⟩,fun h => (h.init h0).app,fun ha h x hx => ?_⟩
  rcases List.mem_append.1 hx with hx | hx
  ·exact h x (List.mem_append_left _ hx)
  ·rw [List.mem_singleton.1 hx]; exact hk3
 | cond t a b iha ihb =>
  intro s r i hG ho hl hv _ hf h;obtain ⟨⟨na,nb⟩,ga,gb⟩ := hG;simp only [bW] at h
  split at h
  ·obtain ⟨p1,p2,p3⟩ := iha _ _ _ ga ho.1 hl hv (.inl na) hf h
   exact ⟨p1,p2,fun ha => p3 ha.1⟩
  ·obtain ⟨p1,p2,p3⟩ := ihb _ _ _ gb ho.2 hl hv (.inl nb) hf h
   exact ⟨p1,p2,fun ha => p3 ha.2⟩
 | loop t c ih =>
  intro s r i hG ho hl hv _ hf h;have hl' := LV.down (Nat.min_le_left i (lk c i)) hl;simp only [bW] at h
  split at h
  ·simp only [Option.bind_eq_some_iff] at h
   obtain ⟨x,h1,h2⟩ := h;have h3 := lW hk _ _ _ _ ho.1 hl' h1;obtain ⟨p1,p2,p3⟩ := ih _ _ _ hG.2 ho.1 hl' hv (.inl hG.1) hf h1;obtain ⟨q1,q2,q3⟩ := hr _ _ _ _ (show Gk (.loop t c) from hG) (rL ho).1 (h3.down ho.2) (hv.sufx (kC hs _ _ _ h1)) (.inl trivial) p1 h2;exact ⟨q1,fun h => q2 (p2 h),fun ha h => q3 ha (p3 ha h)⟩
  ·obtain rfl := Option.some.inj h
   exact ⟨hf,id,fun _ h => h⟩
 | prog c a b ihc iha ihb =>
  intro s r i hG ho hl hv _ hf h;obtain ⟨⟨nc,na,nb⟩,gc,ga,gb⟩ := hG;simp only [bW,Option.bind_eq_some_iff] at h;obtain ⟨x,h1,h2⟩ := h;have h3 := lW hk _ _ _ _ ho.1 hl h1;obtain ⟨p1,p2,p3⟩ := ihc _ _ _ gc ho.1 hl hv (.inl nc) hf h1;have h5 := hv.sufx (kC hs _ _ _ h1)
  split at h2
  ·obtain ⟨q1,q2,q3⟩ := iha _ _ _ ga ho.2.1 h3 h5 (.inl na) p1 h2
   exact ⟨q1,fun h => q2 (p2 h),fun ha h => q3 ha.2.1 (p3 ha.1 h)⟩
  ·obtain ⟨q1,q2,q3⟩ := ihb _ _ _ gb ho.2.2 h3 h5 (.inl nb) p1 h2
   exact ⟨q1,fun h => q2 (p2 h),fun ha h => q3 ha.2.2 (p3 ha.1 h)⟩
 | call x =>
  intro s r i hG ho hl hv _ hf h;obtain ⟨p1,p2,p3⟩ := hr _ _ _ _ (hb x).1 (qA x i ho.1 ho.2).1 hl hv (.inl (hb x).2.1) hf h;exact ⟨p1,p2,fun ha => p3 ((hb x).2.2 ha)⟩
 | sel f c ih =>
  intro s r i hG ho hl hv _ hf h;have hg := hG (aO s.rem) (aO (left s.rem));obtain ⟨p1,p2,p3⟩ := ih _ _ _ _ hg.1 (ho _) hl hv (by
   by_cases he : aO s.rem = Ac
   ·exact .inl (hg.2 he)
   ·exact .inr he) hf h
  exact ⟨p1,p2,fun ha => p3 (ha _)⟩
theorem Gk.list {cl : ByteArray} {el : Cmd} (h : Gk el) (hn : n7 el) : Gk (list cl el) := ⟨⟨trivial,trivial⟩,⟨trivial,⟨hn,by show (46 : Int) ≠ 7; decide,trivial⟩,h,⟨by decide,fun e => absurd e (by decide),fun e => absurd e (by decide),trivial,trivial⟩,⟨trivial,trivial⟩,trivial,⟨trivial,trivial⟩,trivial,by decide,by decide,by decide⟩,⟨trivial,trivial⟩,trivial,by decide,by decide,by decide⟩
theorem Gk.seg {b : Bool} : Gk (seg b) := by
 cases b
 ·exact ⟨by decide,fun e => absurd e (by decide),fun e => absurd e (by decide),trivial,⟨trivial,trivial⟩,⟨⟨trivial,trivial⟩,trivial,by decide,by decide,by decide⟩,trivial⟩
 ·exact ⟨by decide,fun e => absurd e (by decide),fun e => absurd e (by decide),trivial,⟨trivial,trivial⟩,⟨⟨trivial,trivial⟩,trivial,by decide,by decide,by decide⟩,⟨trivial,trivial⟩,⟨⟨trivial,trivial⟩,trivial,Gk.list trivial trivial⟩,trivial⟩
theorem A7.list {cl : ByteArray} {el : Cmd} (h : A7 el) : A7 (list cl el) := ⟨⟨h,by show (46 : Int) ≠ 7; decide,trivial,trivial,by show (108 : Int) ≠ 7; decide⟩,trivial,by show (108 : Int) ≠ 7; decide⟩
theorem By : ∀ x,Gk (body x) := by
 intro x
 cases x
 case item =>
  intro x y;have h := pJ x y;constructor
  ·show Gk (if _ then _ else _)
   split
   ·trivial
   ·exact ⟨by omega,fun e => by omega,fun _ => ⟨_,_,rfl⟩,trivial,⟨trivial,trivial⟩,⟨⟨trivial,trivial⟩,trivial,trivial⟩,⟨trivial,trivial⟩,trivial,trivial⟩
  ·rintro rfl
   show n7 (if _ then _ else _)
   split
   ·trivial
   ·rename_i hk
    refine fun e => hk ?_;unfold dL;rw [Gn];simp only [Bool.false_eq_true,if_false];rw [show (Ac.1 != 104) = true from rfl,Bool.or_true];rfl
 case itemBody k =>
  show Gk (if _ then _ else _)
  repeat' (first | exact trivial | apply And.intro | (intro e; exact absurd e (by decide)) | decide | split)
 case binary n =>
  show Gk (if _ then _ else _)
  split
  ·trivial
  ·refine ⟨⟨trivial,?_⟩,trivial,?_⟩
   ·split <;> trivial
   ·split
    ·exact ⟨⟨trivial,trivial⟩,⟨⟨by decide,by decide,by decide⟩,trivial,⟨trivial,trivial⟩,trivial,trivial⟩,trivial⟩
    ·exact ⟨trivial,⟨by decide,by decide,by decide⟩,trivial,⟨trivial,trivial⟩,trivial,trivial⟩
 case path b => exact ⟨by decide,fun e => absurd e (by decide),fun e => absurd e (by decide),trivial,⟨by show (18 : Int) ≠ 7; decide,trivial⟩,Gk.seg,trivial,⟨trivial,by show (18 : Int) ≠ 7; decide⟩,trivial,Gk.seg⟩
 case statement =>
  repeat' (first | exact trivial | exact rfl | apply And.intro | (intro e; exact absurd e (by decide)) | decide | (unfold iL) | split)
 case function b => cases b <;> repeat' (first | exact trivial | exact rfl | apply And.intro | (intro e; exact absurd e (by decide)) | decide)
 case dataType k =>
  by_cases h4 : k = 4
  ·subst h4
   repeat' (first | exact trivial | exact rfl | apply And.intro | (intro e; exact absurd e (by decide)) | decide | refine Gk.list ?_ ?_)
  ·show Gk (eY [expIdent,.call .typeParams,_,_])
   rw [if_neg h4]
   repeat' (first | exact trivial | exact rfl | apply And.intro | (intro e; exact absurd e (by decide)) | decide | refine Gk.list ?_ ?_)
 all_goals (repeat' (first | exact trivial | exact rfl | apply And.intro | (intro e; exact absurd e (by decide)) | decide | refine Gk.list ?_ ?_ | intro _))
theorem Bz (x : Nm) : n7 (body x) := by
 cases x
 case itemBody k => show n7 (if _ then _ else _); repeat' (first | exact trivial | split)
 case binary n => show n7 (if _ then _ else _); split <;> exact trivial
 all_goals (first | exact trivial | (intro e; exact absurd e (by decide)))
theorem B0 (x : Nm) (hx : okA x = true) : A7 (body x) := by
 cases x
 case item => cases hx
 case itemBody k =>
  show A7 (if _ then _ else _)
  repeat' (first | exact trivial | exact rfl | apply And.intro | (intro e; exact absurd e (by decide)) | split)
 case binary n =>
  show A7 (if _ then _ else _)
  split
  ·rfl
  ·refine ⟨rfl,?_⟩
   split
   ·exact ⟨by show (39 : Int) ≠ 7; decide,trivial⟩
   ·show (39 : Int) ≠ 7
    decide
 case function b => cases b <;> repeat' (first | exact trivial | exact rfl | apply And.intro | (intro e; exact absurd e (by decide)))
 case dataType k =>
  by_cases h4 : k = 4
  ·subst h4
   repeat' (first | exact trivial | exact rfl | apply And.intro | (intro e; exact absurd e (by decide)) | refine A7.list ?_)
  ·show A7 (eY [expIdent,.call .typeParams,_,_])
   rw [if_neg h4]
   repeat' (first | exact trivial | exact rfl | apply And.intro | (intro e; exact absurd e (by decide)) | refine A7.list ?_)
 case statement =>
  repeat' (first | exact trivial | exact rfl | apply And.intro | (intro e; exact absurd e (by decide)) | (unfold iL) | split)
 all_goals (repeat' (first | exact trivial | exact rfl | apply And.intro | (intro e; exact absurd e (by decide)) | refine A7.list ?_))
theorem G2 : ∀ n,G7R (run body n)
 | 0 => Kv (fun x => ⟨By x,Bz x,B0 x⟩) (by intro _ _ _ h; cases h) (by intro _ _ _ _ _ _ h; cases h) (by intro _ _ _ _ _ _ _ _ _ _ h; cases h)
 | n + 1 => Kv (fun x => ⟨By x,Bz x,B0 x⟩) (vA n) (Ab n) (G2 n)
theorem fJ.g7 {s : ByteArray} {t : Tr} (h : fJ s t) : g7 t := by
 obtain ⟨n,r,h1,rfl⟩ := h;have h2 := G2 n yJ _ r 0 (show Gk yJ from ⟨⟨trivial,trivial⟩,⟨trivial,trivial⟩,trivial⟩) ⟨Bq,trivial⟩ trivial (uR s) (.inl trivial) (show tU ([] : List Tr) from trivial) h1;rw [Par.g7];exact ⟨fun e => absurd e (by decide),fun e => absurd e (by decide),fun e => absurd e (by decide),h2.1⟩
end Go.Proofs.YtiogccmfmjhipaaGreatDoor.Par
namespace Go.Proofs.YtiogccmfmjhipaaGreatDoor.Sym
open Par Ast
theorem mG (h : Hd) (lp : Bool) : cT h lp = 0 ↔ cT h false = 0 := by
 unfold cT
 by_cases h1 : h.kind = 7
 ·simp [h1]
 ·rw [if_neg h1,if_neg h1]
  by_cases h2 : h.ns < 0
  ·simp [h2]
  ·rw [if_neg h2,if_neg h2]
   by_cases h3 : h.kind = 13
   ·cases lp <;> simp [h3,Ae]
   ·simp [h3]
mutual
theorem L6 : ∀ (a : An) (lp : Bool),pQ a lp = pQ a false
 | .mk h ks,lp => by
  rw [pQ,pQ,qD ks (hY h lp),qD ks (hY h false)]
  by_cases hz : cT h false = 0
  ·rw [if_pos hz,if_pos ((mG h lp).2 hz)]
  ·rw [if_neg hz,if_neg fun c => hz ((mG h lp).1 c)]
theorem qD : ∀ (l : List An) (lp : Bool),eX l lp = eX l false
 | [],lp => by rw [eX,eX]
 | a :: l,lp => by rw [eX,eX,L6 a lp,qD l lp]
end
theorem G4 (l m : List An) : eX (l ++ m) false = eX l false ++ eX m false := by
 induction l with
 | nil => rw [eX]; rfl
 | cons a l ih => rw [List.cons_append,eX,eX,ih,List.append_assoc]
def own (h : Hd) : List Int := if cT h false = 0 then [] else [iF h]
theorem lY (h : Hd) (ks : List An) : pQ (.mk h ks) false = own h ++ eX ks false := by rw [pQ,qD ks]; rfl
theorem Dy (h : Hd) : own h = [] ∨ (h.kind = 7 ∧ own h = [h.st]) ∨ (h.kind ≠ 7 ∧ 0 ≤ h.ns ∧ own h = [h.ns]) := by
 unfold own
 by_cases hz : cT h false = 0
 ·exact .inl (if_pos hz)
 ·rw [if_neg hz]
  unfold iF
  by_cases h7 : h.kind = 7
  ·exact .inr (.inl ⟨h7,by rw [if_pos h7]⟩)
  ·refine .inr (.inr ⟨h7,?_,by rw [if_neg h7]⟩)
   apply Int.not_lt.1;intro hn;exact hz (by unfold cT; rw [if_neg h7,if_pos hn])
theorem yC {h h' : Hd} (h7 : h.kind ≠ 7) (hk : h'.kind = h.kind) (hn : h'.ns = h.ns) : own h' = own h := by
 unfold own cT iF Ae;rw [hk,hn,if_neg h7,if_neg h7,if_neg h7]
theorem B7.head {t : Tr} {l : List Tr} (h : B7 (t :: l)) : 100 < kd t ∧ ((cY (kd t) = true ∧ B7 l) ∨ (cY (kd t) = false ∧ 0 < (tx t).size)) := by
 obtain ⟨u,tk,v,e,h1,h2,h3,h4⟩ := h
 rcases u with _ | ⟨x,u⟩
 ·simp only [List.map_nil,List.nil_append,List.cons.injEq] at e
  rw [e.1];exact ⟨h3,.inr ⟨h2,h4⟩⟩
 ·simp only [List.map_cons,List.cons_append,List.cons.injEq] at e
  have hx := h1 x List.mem_cons_self;rw [e.1];refine ⟨?_,.inl ⟨hx,u,tk,v,e.2,fun t ht => h1 t (List.mem_cons_of_mem _ ht),h2,h3,h4⟩⟩;have := Jh hx
  show 100 < x.1
  omega
structure Iv (h : Hd) (ns : List An) (o off : Int) : Prop where
 nd : (eX ns false).Nodup
 rg : ∀ s ∈ eX ns false,o ≤ s ∧ s < off
 nm : 0 ≤ h.ns → o ≤ h.ns ∧ h.ns < off ∧ h.ns ∉ eX ns false
 s7 : h.kind = 7 → 0 ≤ h.en → o ≤ h.st ∧ h.st < off ∧ h.st ∉ eX ns false
theorem Iv.mono {h : Hd} {ns : List An} {o off off' : Int} (i : Iv h ns o off) (ho : off ≤ off') : Iv h ns o off' :=
 ⟨i.nd,fun s hs => ⟨(i.rg s hs).1,by have := (i.rg s hs).2; omega⟩,fun hn => by have := i.nm hn; exact ⟨this.1,by omega,this.2.2⟩,fun h7 he => by have := i.s7 h7 he; exact ⟨this.1,by omega,this.2.2⟩⟩
theorem Iv.fresh {h : Hd} {ns : List An} {o off : Int} (i : Iv h ns o off) : off ∉ eX ns false := fun hm => by have := (i.rg _ hm).2; omega
theorem vJ (h : Hd) (s : Int) (ds : List Dg) (k : Int) (x : ByteArray) :
  (gG h s ds k x).1.kind = h.kind ∧ ((gG h s ds k x).1.ns = h.ns ∨ (k = 103 ∧ (gG h s ds k x).1.ns = s)) ∧ (gG h s ds k x).2.1 = s + x.size ∧
  (((gG h s ds k x).1.st = h.st ∧ (gG h s ds k x).1.en = h.en ∧ (cY k = true ∨ x = fW)) ∨ ((gG h s ds k x).1.en = s + x.size ∧ (gG h s ds k x).1.st = (if h.en < 0 then s else h.st) ∧ cY k = false)) := by
 have hfl := mE h x;have hfn : (flag h x).ns = h.ns := by
  unfold flag
  repeat' split
  all_goals rfl
 have hid := jS h x s;have hin : (gF h x s).ns = h.ns ∨ (gF h x s).ns = s := by unfold gF; split; exact .inr rfl; exact .inl rfl
 unfold gG;simp only
 by_cases h1 : k = 101 ∨ k = 102
 ·rw [if_pos h1]
  refine ⟨rfl,.inl rfl,rfl,.inl ⟨rfl,rfl,.inl ?_⟩⟩
  rcases h1 with rfl | rfl <;> rfl
 rw [if_neg h1];have hnt : cY k = false := by
  unfold cY;simp only [Bool.or_eq_false_iff,beq_eq_false_iff_ne];exact ⟨fun e => h1 (.inl e),fun e => h1 (.inr e)⟩
 by_cases h2 : k = 108
 ·rw [if_pos h2]
  by_cases hx : x = fW
  ·rw [if_pos hx]
   exact ⟨rfl,.inl rfl,rfl,.inl ⟨rfl,rfl,.inr hx⟩⟩
  ·rw [if_neg hx]
   exact ⟨rfl,.inl rfl,rfl,.inr ⟨rfl,rfl,hnt⟩⟩
 rw [if_neg h2]
 by_cases h3 : k = 103
 ·rw [if_pos h3]
  refine ⟨hid.2.2,?_,rfl,.inr ⟨rfl,?_,hnt⟩⟩
  ·exact hin.imp id fun e => ⟨h3,e⟩
  ·show (if (gF h x s).en < 0 then s else (gF h x s).st) = _
   rw [hid.1,hid.2.1]
 rw [if_neg h3]
 by_cases h4 : k = 105
 ·rw [if_pos h4]
  exact ⟨rfl,.inl rfl,rfl,.inr ⟨rfl,rfl,hnt⟩⟩
 rw [if_neg h4]
 by_cases h5 : k = 106
 ·rw [if_pos h5]
  exact ⟨rfl,.inl rfl,rfl,.inr ⟨rfl,rfl,hnt⟩⟩
 rw [if_neg h5];refine ⟨hfl.2.2,.inl hfn,rfl,.inr ⟨rfl,?_,hnt⟩⟩
 show (if (flag h x).en < 0 then s else (flag h x).st) = _
 rw [hfl.1,hfl.2.1]
theorem Iv.tok {h : Hd} {ns : List An} {o off : Int} {k : Int} {x : ByteArray} {ds : List Dg} (i : Iv h ns o off) (ho : o ≤ off) (h0 : 0 ≤ off) (hx : k = 103 → 0 < x.size) (h7 : h.kind = 7 → h.en < 0 → cY k = true ∨ 0 < x.size) :
  Iv (gG h off ds k x).1 ns o (off + x.size) := by
 obtain ⟨hk,hn,_,hs⟩ := vJ h off ds k x;have im := i.mono (off' := off + x.size) (by omega);refine ⟨i.nd,im.rg,fun hp => ?_,fun hk7 he => ?_⟩
 ·rcases hn with e | ⟨e1,e2⟩
  ·rw [e] at hp ⊢; exact im.nm hp
  ·have := hx e1
   rw [e2];exact ⟨ho,by omega,i.fresh⟩
 ·rw [hk] at hk7
  rcases hs with ⟨e1,e2,_⟩ | ⟨e1,e2,e3⟩
  ·rw [e1]; rw [e2] at he; exact im.s7 hk7 he
  ·rw [e2]
   by_cases hn0 : h.en < 0
   ·rw [if_pos hn0]
    rcases h7 hk7 hn0 with hh | hh
    ·rw [e3] at hh; cases hh
    ·exact ⟨ho,by omega,i.fresh⟩
   ·rw [if_neg hn0]
    exact im.s7 hk7 (by omega)
theorem Iv.node {h : Hd} {ns : List An} {o off off' : Int} {a : An} (i : Iv h ns o off) (ho : o ≤ off) (h0 : off ≤ off') (hn : (pQ a false).Nodup) (hr : ∀ s ∈ pQ a false,off ≤ s ∧ s < off') (h7 : h.kind = 7 → 0 ≤ h.en) :
  Iv (ext h a.hd.st a.hd.en) (ns ++ [a]) o off' := by
 have e : eX (ns ++ [a]) false = eX ns false ++ pQ a false := by rw [G4,eX,eX,List.append_nil]
 have ne : ∀ s,s < off → s ∉ eX ns false → s ∉ eX (ns ++ [a]) false := fun s h1 h2 hm => by
  rw [e] at hm
  rcases List.mem_append.1 hm with hm | hm
  ·exact h2 hm
  ·have := (hr s hm).1; omega
 refine ⟨?_,fun s hs => ?_,fun hp => ?_,fun hk he => ?_⟩
 ·rw [e,List.nodup_append]
  refine ⟨i.nd,hn,fun x hx y hy hxy => ?_⟩;have := (i.rg x hx).2;have := (hr y hy).1;omega
 ·rw [e] at hs
  rcases List.mem_append.1 hs with hs | hs
  ·have := i.rg s hs; omega
  ·have := hr s hs; omega
 ·obtain ⟨a1,a2,a3⟩ := i.nm hp
  exact ⟨a1,by show h.ns < off'; omega,ne _ a2 a3⟩
 ·have h8 := h7 hk
  obtain ⟨a1,a2,a3⟩ := i.s7 hk h8
  show o ≤ (if h.en < 0 then a.hd.st else h.st) ∧ (if h.en < 0 then a.hd.st else h.st) < off' ∧ (if h.en < 0 then a.hd.st else h.st) ∉ _
  rw [if_neg (by omega)];exact ⟨a1,by omega,ne _ a2 a3⟩
theorem Iv.out {h h' : Hd} {ns : List An} {o off : Int} (i : Iv h ns o off) (hk : h'.kind = h.kind) (hn : h'.ns = h.ns) (hs : h'.st = h.st) (h7 : h.kind = 7 → 0 ≤ h.en) : (pQ (.mk h' ns) false).Nodup ∧ ∀ s ∈ pQ (.mk h' ns) false,o ≤ s ∧ s < off := by
 rw [lY]
 rcases Dy h' with e | ⟨k7,e⟩ | ⟨_,hp,e⟩
 ·rw [e]; exact ⟨i.nd,i.rg⟩
 ·obtain ⟨a1,a2,a3⟩ := i.s7 (hk ▸ k7) (h7 (hk ▸ k7))
  rw [e,hs];refine ⟨List.nodup_cons.2 ⟨a3,i.nd⟩,fun s hm => ?_⟩
  rcases List.mem_cons.1 hm with rfl | hm
  ·exact ⟨a1,a2⟩
  ·exact i.rg s hm
 ·rw [hn] at hp
  obtain ⟨a1,a2,a3⟩ := i.nm hp;rw [e,hn];refine ⟨List.nodup_cons.2 ⟨a3,i.nd⟩,fun s hm => ?_⟩
  rcases List.mem_cons.1 hm with rfl | hm
  ·exact ⟨a1,a2⟩
  ·exact i.rg s hm
mutual
theorem G5 (src : ByteArray) : ∀ (t : Tr) (off : Int) (ds : List Dg),0 ≤ off → t.wf → kd t < 100 → g7 t →
  (pQ (gO src t off ds).1 false).Nodup ∧ (∀ s ∈ pQ (gO src t off ds).1 false,off ≤ s ∧ s < (gO src t off ds).2.1) ∧ ((gO src t off ds).1.hd.kind = 7 → kd t = 7)
 | .mk k x ks,off,ds,h0,hw,hk,hg => by
  rw [g7] at hg;obtain ⟨g60,g7',_,gl⟩ := hg;have hwl : oX ks := by
   simp only [Tr.wf] at hw
   rcases hw with ⟨h1,_⟩ | ⟨_,_,_,h⟩
   ·exact absurd (show k < 100 from hk) (by omega)
   ·exact h
  obtain ⟨i,e7,ek,e60⟩ := vK src ks (sC k off) [] off ds off h0 (Int.le_refl _) hwl gl ⟨by rw [eX]; exact List.nodup_nil,fun s hs => (by rw [eX] at hs; cases hs),fun hp => absurd hp (by show ¬ (0 : Int) ≤ -1; decide),fun _ he => absurd he (by show ¬ (0 : Int) ≤ -1; decide)⟩ (fun e _ => g7' e) (fun e => ⟨g60 e,fun a ha => by cases ha⟩);rw [gO];unfold kA;generalize dJ src ks (sC k off) [] off ds = r at *;obtain ⟨H,ns,of,d2⟩ := r;simp only at i e7 ek e60 ⊢;have ek : H.kind = k := ek;have hkd : kd (.mk k x ks) = k := rfl;have o := i.out (h' := lD H) rfl rfl rfl e7;unfold xM
  by_cases h60 : (lD H).kind = 60
  ·rw [if_pos h60]
   have hk60 : k = 60 := ek.symm.trans h60
   cases ns with
   | nil => exact ⟨o.1,o.2,fun e => by have e : H.kind = 7 := e; rw [hkd]; omega⟩
   | cons a0 rest =>
    obtain ⟨c,ks2⟩ := a0;have h7 : c.kind ≠ 7 := e60 hk60 _ List.mem_cons_self;have es : pQ (.mk ⟨c.kind,c.value,c.text,(lD H).st,(lD H).en,c.ns⟩ ks2) false = pQ (.mk c ks2) false := by
     have eo : own ⟨c.kind,c.value,c.text,(lD H).st,(lD H).en,c.ns⟩ = own c := yC h7 rfl rfl;rw [lY,lY,eo]
    have en : eX (.mk c ks2 :: rest) false = pQ (.mk c ks2) false ++ eX rest false := by rw [eX]
    have h1 := i.nd;have h2 := i.rg;rw [en] at h1 h2;simp only;rw [es];exact ⟨(List.nodup_append.1 h1).1,fun s hs => h2 s (List.mem_append_left _ hs),fun e => absurd e h7⟩
  ·rw [if_neg h60]
   by_cases h46 : (lD H).kind = 46
   ·rw [if_pos h46]
    refine ⟨?_,fun s hs => ?_,fun e => absurd (show (46 : Int) = 7 from e) (by decide)⟩
    ·rw [lY,eX]
     exact List.nodup_nil
    ·rw [lY,eX] at hs
     cases hs
   ·rw [if_neg h46]
    exact ⟨o.1,o.2,fun e => ek.symm.trans e⟩
theorem vK (src : ByteArray) : ∀ (l : List Tr) (h : Hd) (ns : List An) (off : Int) (ds : List Dg) (o : Int),0 ≤ o → o ≤ off → oX l → tU l → Iv h ns o off → (h.kind = 7 → h.en < 0 → B7 l) → (h.kind = 60 → (∀ c ∈ l,c.kdn ≠ 7) ∧ ∀ a ∈ ns,a.hd.kind ≠ 7) →
  Iv (dJ src l h ns off ds).1 (dJ src l h ns off ds).2.1 o (dJ src l h ns off ds).2.2.1 ∧ ((dJ src l h ns off ds).1.kind = 7 → 0 ≤ (dJ src l h ns off ds).1.en) ∧ (dJ src l h ns off ds).1.kind = h.kind ∧ (h.kind = 60 → ∀ a ∈ (dJ src l h ns off ds).2.1,a.hd.kind ≠ 7)
 | [],h,ns,off,ds,o,h0,ho,hw,hg,i,hb,h60 => by
  rw [dJ];refine ⟨i,fun e => Int.not_lt.1 fun hn => ?_,rfl,fun e => (h60 e).2⟩;obtain ⟨u,tk,v,e2,_⟩ := hb e hn
  cases u <;> cases e2
 | t :: l,h,ns,off,ds,o,h0,ho,hw,hg,i,hb,h60 => by
  rw [dJ];rw [oX] at hw;rw [tU] at hg
  by_cases hk : 100 ≤ kd t
  ·rw [if_pos hk]
   simp only;obtain ⟨tk,tn,te,tse⟩ := vJ h off ds (kd t) (tx t);have hx : kd t = 103 → 0 < (tx t).size := by
    have := hg.1;obtain ⟨k,x,ks⟩ := t;rw [g7] at this;exact this.2.2.1
   have i2 := i.tok (k := kd t) (x := tx t) (ds := ds) ho (by omega) hx fun e en => (B7.head (hb e en)).2.imp (·.1) (·.2);rw [← te] at i2;have r := vK src l (gG h off ds (kd t) (tx t)).1 ns (gG h off ds (kd t) (tx t)).2.1 (gG h off ds (kd t) (tx t)).2.2 o h0 (by rw [te]; omega) hw.2 hg.2 i2 (fun e en => by
    rw [tk] at e
    rcases tse with ⟨_,e2,e3⟩ | ⟨e2,_⟩
    ·rw [e2] at en
     rcases (B7.head (hb e en)).2 with ⟨_,hb2⟩ | ⟨hb1,hb2⟩
     ·exact hb2
     ·rcases e3 with e3 | e3
      ·rw [e3] at hb1; cases hb1
      ·rw [e3] at hb2; exact absurd hb2 (by decide)
    ·omega) (fun e => by rw [tk] at e; exact ⟨fun c hc => (h60 e).1 c (List.mem_cons_of_mem _ hc),(h60 e).2⟩)
   exact ⟨r.1,r.2.1,r.2.2.1.trans tk,fun e => r.2.2.2 (tk.trans e)⟩
  ·rw [if_neg hk]
   simp only;obtain ⟨c1,c2,c3⟩ := G5 src t off ds (by omega) hw.1 (by omega) hg.1;obtain ⟨v1,v2,v3,v4,_⟩ := nT src t off ds (by omega) hw.1 (by omega);have h7 : h.kind = 7 → 0 ≤ h.en := fun e => Int.not_lt.1 fun en => by have := (B7.head (hb e en)).1; omega
   have i2 := i.node (off' := (gO src t off ds).2.1) ho (by omega) c1 c2 h7;have r := vK src l (ext h (gO src t off ds).1.hd.st (gO src t off ds).1.hd.en) (ns ++ [(gO src t off ds).1]) (gO src t off ds).2.1 (gO src t off ds).2.2 o h0 (by omega) hw.2 hg.2 i2 (fun e en => absurd (show (gO src t off ds).1.hd.en < 0 from en) (by omega)) (fun e => ⟨fun c hc => (h60 e).1 c (List.mem_cons_of_mem _ hc),fun a ha => by
    rcases List.mem_append.1 ha with ha | ha
    ·exact (h60 e).2 a ha
    ·rw [List.mem_singleton.1 ha]
     intro e7;have := (h60 e).1 t List.mem_cons_self;rw [← Gl] at this;exact this (c3 e7)⟩)
   exact ⟨r.1,r.2.1,r.2.2.1,r.2.2.2⟩
end
theorem B1 (s : ByteArray) : (pQ (fL s) false).Nodup := by
 have hp := fZ s;have hsm := hp.small;have hkd : kd (iG s) = 1 := rfl;obtain ⟨c1,_,c3⟩ := G5 s (iG s) 0 [] (Int.le_refl _) hsm.wf (by rw [hkd]; decide) hp.g7;unfold fL lX;generalize (gO s (iG s) 0 []).1 = a at *;obtain ⟨h,ks⟩ := a;have h7 : h.kind ≠ 7 := fun e => by have := c3 e; rw [hkd] at this; omega
 simp only;have eo : own ⟨h.kind,h.value,h.text,0,s.size,h.ns⟩ = own h := yC h7 rfl rfl;rw [lY,eo,← lY];exact c1
theorem L7 (ms : List Md) : Bv (syms ms) := G1 B1 ms
end Go.Proofs.YtiogccmfmjhipaaGreatDoor.Sym
namespace Go.Proofs.YtiogccmfmjhipaaGreatDoor
set_option maxRecDepth 20000
open Sym (Md gX eA)
open Par (aN bT aY)
open Go.ChangeShapes Go.WideShapes Go.ChangeAt Go.RowKit Go.Gx Go.Deep
theorem Ju : Tryz.prog.cellsOf 9 = 1 := by kernel_rfl
theorem yD : Tryz.prog.cellsOf 52 = 2 := by kernel_rfl
instance : Inhabited Md := ⟨(⟨#[]⟩,⟨#[]⟩)⟩
theorem Jv {es : List Md} {k j : Nat} (hk : k < es.length) (hj : j < 2) : (aN gX es)[k * 2 + j]? = (gX es[k])[j]? := by
 rw [← bT eA es k hk,List.getElem?_take,if_pos hj,List.getElem?_drop]
def B2 {H : Type} (e : Md) : DataW H := .agg [.lit (.string e.1.data.toList),.lit (.string e.2.data.toList)]
theorem vL {W : World} {a0 : Option Addr} {len cap : Nat} {p : List MemPlace} {H : Type} {enc : TypeId × Value → H} {base : Nat} {d : DataW H}
  (h0 : DataW.Trod enc Tryz.prog W base (fun _ => true) true 49 (.slice a0 len cap) d p) : ∃ es : List Md,es.length = len ∧ SlC W (.slice a0 len cap) 2 len (aN gX es) ∧ (len = 0 ∨ ∃ rest,d = .slice (es.map B2) rest) := by
 obtain ⟨fuel,hf⟩ := h0
 rcases open_slice Tryz.underlying49 hf with ⟨hcs,hx⟩ | ⟨a,len',cap',m,n,D,Pl,hcs,hbs,hl,hm,hmm,hx,hcell⟩
 ·simp [Value.cells] at hcs
  obtain ⟨rfl,rfl,rfl⟩ := hcs;exact ⟨[],rfl,⟨rfl,_,_,rfl,Nat.le_refl _,.inl rfl⟩,.inl rfl⟩
 ·simp [Value.cells] at hcs
  obtain ⟨rfl,rfl,rfl⟩ := hcs;replace hmm : m = cap := by simpa using hmm
  subst hmm;rw [yD] at hcell;have hone : ∀ i,i < m → ∃ e : Md,W.cells? base (a.add (i * 2)) 2 = some (gX e) ∧ D i = B2 e := by
   intro i hi;obtain ⟨cs',h1,h2⟩ := hcell i hi;obtain ⟨y0,y1,n',hD,hl3,k0,k1⟩ := trod_struct2 Tryz.underlying52 h2;rw [yD] at hl3
   match cs',hl3 with
   | [c0,c1],_ =>
    obtain ⟨z0,q0,r0,_⟩ := DataW.trod_string Tryz.underlying9 k0;obtain ⟨z1,q1,r1,_⟩ := DataW.trod_string Tryz.underlying9 k1;simp [Ju] at q0 q1;subst q0; subst q1;refine ⟨(z0,z1),h1,?_⟩;simp only [Prod.mk.injEq] at hD;rw [hD.1,r0,r1];rfl
  obtain ⟨f,hF⟩ := choose_lt hone;refine ⟨(List.range len).map f,by simp,⟨by rw [aY eA]; simp,_,_,rfl,hl,?_⟩,?_⟩
  ·by_cases h0 : m = 0
   ·exact .inl h0
   ·obtain ⟨b,off,spot⟩ := a
    obtain ⟨g1,g2⟩ := hF 0 (by omega);have g3 := (World.cells?_some g1).2.2 0 (by omega);have hspot : spot = none := by simpa [Addr.add] using World.cell?_spot (g3.trans rfl)
    subst hspot;refine .inr ⟨b,off,rfl,fun i v hv => ?_⟩;have hi : i < len * 2 := by
     have := (List.getElem?_eq_some_iff.1 hv).1;rw [aY eA] at this
     simpa using this
    have hk : i / 2 < len := by omega
    have hj : i % 2 < 2 := by omega
    have e1 : i = i / 2 * 2 + i % 2 := by omega
    rw [e1,Jv (by simpa using hk) hj] at hv;have g4 := (World.cells?_some (hF (i / 2) (by omega)).1).2.2 (i % 2) hj;rw [Go.Gx.cI,Go.Gx.cI] at g4;rw [e1,← Nat.add_assoc];simp only [List.getElem_map,List.getElem_range] at hv;rw [g4,hv]
  ·refine .inr ⟨(List.range (m - len)).map fun j => D (len + j),?_⟩
   simp only [Prod.mk.injEq] at hx;rw [hx.1,List.map_map]
   congr 1
   exact List.map_congr_left fun i hi => (hF i (by simp at hi; omega)).2
end Go.Proofs.YtiogccmfmjhipaaGreatDoor
namespace Go.Proofs.YtiogccmfmjhipaaGreatDoor.Sym
set_option maxRecDepth 20000
open Go.Gx Go.RowKit Go.Lib
open Lexi (Asc tok)
open Par Ast
theorem yE {w : World} {v : Value} {l : List Sy} {m s : Int} (hs0 : SlC w v 6 l.length (aN lC l)) (hlen : l.length < 4611686018427387904) :
  Cl Tryz.prog 36 #[v,.int .i64 m,.int .i64 s] w (fun u w' => u = .int .i64 (vG (sT l m s)) ∧ Ext w w') := by
 have hx := Ext.refl w;unfold sT;refine Cl.enter Tryz.func36 rfl Tryz.ntmps36 rfl rfl (.sr (.a2 rfl (.done (.seq (.sr (.m2 rfl (.t2 (bV hs0 Tryz.underlying53 rfl) (.m2 rfl (.done (Wp.block ?_))))))))));refine Wp.loop (ι := Nat) (fun k => [(1,.int .i64 m),(2,.int .i64 s),(9,v),(10,.int .i64 l.length),(11,.int .i64 k)])
  (fun k w' => k ≤ l.length ∧ (∀ j (h : j < l.length),j < k → (decide (l[j].m = m) && decide (l[j].s = s)) = false) ∧ Ext w w') (fun k => l.length - k) 0 (by repeat (first | exact .nil | refine .cons rfl ?_)) ⟨Nat.zero_le _,fun j _ h => absurd h (Nat.not_lt_zero _),hx⟩ ?_
 clear hx;rintro k w3 ⟨hk,hno,hx⟩
 by_cases hlt : k < l.length
 ·have hs3 := hs0.ext hx
  obtain ⟨y,hy⟩ : ∃ y,l[k] = y := ⟨_,rfl⟩;have hone : (lC y).all (·.oneCell') = true := rfl
  by_cases h1 : y.m = m
  ·by_cases h2 : y.s = s
   ·skip
    refine .sr ?_
    first | refine .tq (bG rfl rfl (by omega)) rfl ?_ | refine .tq (bJ rfl rfl (by omega)) rfl ?_ | refine .tq (cU rfl rfl) rfl ?_
    refine .done (.seq (.condT rfl (Wp.skip (.seq (Wp.block (.sr (.m2 rfl ?_)))))));refine Rg.ix hs3 trivial rfl rfl Tryz.underlying53 eG (by omega) rfl ?_;intro bt14 ot14 ht14;rw [Int.toNat_natCast,bT dS l k hlt,hy] at ht14;refine .t2 (bD rfl ht14 (by exact eG)) ?_;refine Rg.wd trivial (cJ Tryz.zeroValue59 rfl) rfl ?_;rintro _ wab8 ⟨b8,rfl,qb8,a,b⟩;refine .a2 rfl (Rg.wn trivial (cB (cs := lC y) b rfl rfl rfl (eG) (rfl) (rfl)) ?_);rintro _ w1 ⟨hub8,hvb8⟩;have hx1 := a.upd hub8 (Nat.le_of_eq qb8.symm);clear b hub8 a;replace hx := hx.ext hx1;replace hs3 := hs3.ext hx1;replace ht14 := ht14.ext hx1;clear qb8;refine .done (.sr (.t2 (aA gS rfl) (.t2 (aB bB rfl (hvb8.g 1 rfl)) (.m2 rfl (.t2 (aX rfl rfl h1) (.m2 rfl (.g2 (aA mX rfl) (.g2 (aB bB rfl (hvb8.g 2 rfl)) (.g2 (aL rfl) (.g2 (aX rfl rfl h2) (.t2 (aM rfl rfl) (.done ?_))))))))))));refine .condT rfl (.sr (.m2 rfl (.a2 rfl (.done (Wp.ret ?_)))));exact ⟨[_],⟨rfl,trivial⟩,by rw [List.findIdx?_eq_some_iff_getElem.2 ⟨hlt,by rw [hy]; simp [h1,h2],fun j hj => by rw [hno j (by omega) hj]; decide⟩]; rfl,hx⟩
   ·skip
    refine .sr ?_
    first | refine .tq (bG rfl rfl (by omega)) rfl ?_ | refine .tq (bJ rfl rfl (by omega)) rfl ?_ | refine .tq (cU rfl rfl) rfl ?_
    refine .done (.seq (.condT rfl (Wp.skip (.seq (Wp.block (.sr (.m2 rfl ?_)))))));refine Rg.ix hs3 trivial rfl rfl Tryz.underlying53 eG (by omega) rfl ?_;intro bt14 ot14 ht14;rw [Int.toNat_natCast,bT dS l k hlt,hy] at ht14;refine .t2 (bD rfl ht14 (by exact eG)) ?_;refine Rg.wd trivial (cJ Tryz.zeroValue59 rfl) rfl ?_;rintro _ wab8 ⟨b8,rfl,qb8,a,b⟩;refine .a2 rfl (Rg.wn trivial (cB (cs := lC y) b rfl rfl rfl (eG) (rfl) (rfl)) ?_);rintro _ w1 ⟨hub8,hvb8⟩;have hx1 := a.upd hub8 (Nat.le_of_eq qb8.symm);clear b hub8 a;replace hx := hx.ext hx1;replace hs3 := hs3.ext hx1;replace ht14 := ht14.ext hx1;clear qb8;refine .done (.sr (.t2 (aA gS rfl) (.t2 (aB bB rfl (hvb8.g 1 rfl)) (.m2 rfl (.t2 (aX rfl rfl h1) (.m2 rfl (.g2 (aA mX rfl) (.g2 (aB bB rfl (hvb8.g 2 rfl)) (.g2 (aL rfl) (.g2 (aQ rfl rfl h2) (.t2 (aM rfl rfl) (.done ?_))))))))))));refine .condF rfl (Wp.skip (Wp.region ?_))
    first | refine .tq (bE rfl rfl (by omega)) rfl ?_ | refine .tq (fR rfl rfl) rfl ?_
    refine .m2 rfl (.done ?_);exact ⟨k + 1,by repeat (first | exact .nil | refine .cons rfl ?_),⟨hlt,fun j h hj => by rcases Nat.lt_succ_iff_lt_or_eq.1 hj with c | c; exact hno j h c; subst c; rw [hy]; simp [h1,h2],hx⟩,by omega⟩
  ·skip
   refine .sr ?_
   first | refine .tq (bG rfl rfl (by omega)) rfl ?_ | refine .tq (bJ rfl rfl (by omega)) rfl ?_ | refine .tq (cU rfl rfl) rfl ?_
   refine .done (.seq (.condT rfl (Wp.skip (.seq (Wp.block (.sr (.m2 rfl ?_)))))));refine Rg.ix hs3 trivial rfl rfl Tryz.underlying53 eG (by omega) rfl ?_;intro bt14 ot14 ht14;rw [Int.toNat_natCast,bT dS l k hlt,hy] at ht14;refine .t2 (bD rfl ht14 (by exact eG)) ?_;refine Rg.wd trivial (cJ Tryz.zeroValue59 rfl) rfl ?_;rintro _ wab8 ⟨b8,rfl,qb8,a,b⟩;refine .a2 rfl (Rg.wn trivial (cB (cs := lC y) b rfl rfl rfl (eG) (rfl) (rfl)) ?_);rintro _ w1 ⟨hub8,hvb8⟩;have hx1 := a.upd hub8 (Nat.le_of_eq qb8.symm);clear b hub8 a;replace hx := hx.ext hx1;replace hs3 := hs3.ext hx1;replace ht14 := ht14.ext hx1;clear qb8;refine .done (.sr (.t2 (aA gS rfl) (.t2 (aB bB rfl (hvb8.g 1 rfl)) (.m2 rfl (.t2 (aQ rfl rfl h1) (.m2 rfl (.so rfl rfl (.so rfl rfl (.so rfl rfl (.so rfl rfl (.t2 (aP rfl rfl) (.done ?_))))))))))));refine .condF rfl (Wp.skip (Wp.region ?_))
   first | refine .tq (bE rfl rfl (by omega)) rfl ?_ | refine .tq (fR rfl rfl) rfl ?_
   refine .m2 rfl (.done ?_);exact ⟨k + 1,by repeat (first | exact .nil | refine .cons rfl ?_),⟨hlt,fun j h hj => by rcases Nat.lt_succ_iff_lt_or_eq.1 hj with c | c; exact hno j h c; subst c; rw [hy]; simp [h1],hx⟩,by omega⟩
 ·skip
  refine .sr ?_
  first | refine .tq (bG rfl rfl (by omega)) rfl ?_ | refine .tq (bJ rfl rfl (by omega)) rfl ?_ | refine .tq (cU rfl rfl) rfl ?_
  refine .done (.seq (.condF rfl (Wp.exit (.sr (.a2 rfl (.done (Wp.ret ?_)))))));exact ⟨[_],⟨rfl,trivial⟩,by rw [List.findIdx?_eq_none_iff.2 fun x hx => by obtain ⟨j,hj,rfl⟩ := List.getElem_of_mem hx; exact hno j hj (by omega)]; rfl,hx⟩
def rb (st : Int) (y : Sy) : Sy := if 0 ≤ y.p then ⟨y.k,y.m,y.s,y.p - st,y.n,y.pub⟩ else y
def Jw (l : List Sy) (m : Int) : List Sy := (l.filter fun y => decide (y.m = m)).map (rb (vG (sT l m (-1))))
theorem pM {w : World} {v : Value} {l : List Sy} {m : Int} (hs0 : SlC w v 6 l.length (aN lC l)) (hlen : l.length ≤ 1000000) (hp : ∀ y ∈ l,-1000000 ≤ y.p ∧ y.p ≤ 1000000) :
  Cl Tryz.prog 30 #[v,.int .i64 m] w (fun u w' => SlC w' u 6 (Jw l m).length (aN lC (Jw l m)) ∧ Ext w w') := by
 have hx := Ext.refl w;obtain ⟨i59,hi59,hz59,hsi59,hby59⟩ := Fd;unfold Jw;obtain ⟨st,hst⟩ : ∃ st,vG (sT l m (-1)) = st := ⟨_,rfl⟩;have hstb : -1 ≤ st ∧ st ≤ 1000000 := by
  rw [← hst];unfold sT
  cases h : l.findIdx? (fun y => decide (y.m = m) && decide (y.s = -1)) with
  | none => exact ⟨by decide,by decide⟩
  | some k =>
   obtain ⟨h1,_⟩ := List.findIdx?_eq_some_iff_getElem.1 h;exact ⟨by show (-1 : Int) ≤ (k : Nat); omega,by show ((k : Nat) : Int) ≤ 1000000; omega⟩
 refine Cl.enter Tryz.func30 rfl Tryz.ntmps30 rfl rfl (.sr (.a2 rfl (.done (.sr (.a2 rfl (.done (.sr (.m2 rfl (.m2 rfl ?_)))))))));refine Rg.wd trivial (aC Tryz.call36 rfl (yE hs0 (by omega))) rfl ?_;rintro _ w1 ⟨rfl,hx1⟩;replace hx := hx.ext hx1;rw [hst];refine .a2 rfl (.done (.seq (.sr (.m2 rfl (.t2 (bV hs0 Tryz.underlying53 rfl) (.m2 rfl (.done (Wp.block ?_))))))));refine Wp.loop (ι := Nat × Value × List Sy) (fun j => [(1,.int .i64 m),(5,j.2.1),(6,.int .i64 st),(12,v),(13,.int .i64 l.length),(14,.int .i64 j.1)])
  (fun j w' => j.1 ≤ l.length ∧ w'.ownsRow w.heap.size 59 6 j.2.1 j.2.2.length (aN lC j.2.2) ∧ j.2.2 = ((l.take j.1).filter fun y => decide (y.m = m)).map (rb st) ∧ Ext w w')
  (fun j => l.length - j.1) (0,.slice none 0 0,[]) (by repeat (first | exact .nil | refine .cons rfl ?_)) ⟨Nat.zero_le _,iZ _ _ _ _,rfl,hx⟩ ?_
 clear hx;rintro ⟨k,vr,acc⟩ w3 ⟨hk,hown,hacc,hx⟩;simp only at hk hown hacc ⊢;have hal : acc.length ≤ 1000000 := by
  rw [hacc,List.length_map];have := List.length_filter_le (fun y : Sy => decide (y.m = m)) (l.take k);rw [List.length_take] at this;omega
 by_cases hlt : k < l.length
 ·have hs3 := hs0.ext hx
  have hq := Ext.refl w3;have htk := List.take_succ_eq_append_getElem hlt;have hpk := hp _ (List.getElem_mem hlt);obtain ⟨⟨y0,y1,y2,y3,y4,y5⟩,hy⟩ : ∃ y,l[k] = y := ⟨_,rfl⟩;rw [hy] at htk hpk;simp only at hpk
  by_cases h1 : y1 = m
  ·by_cases h3 : 0 ≤ y3
   ·skip
    refine .sr ?_
    first | refine .tq (bG rfl rfl (by omega)) rfl ?_ | refine .tq (bJ rfl rfl (by omega)) rfl ?_ | refine .tq (cU rfl rfl) rfl ?_
    refine .done (.seq (.condT rfl (Wp.skip (.seq (Wp.block (.sr ?_))))));refine Rg.ix hs3 trivial rfl rfl Tryz.underlying53 eG (by omega) rfl ?_;intro bt16 ot16 ht16;rw [Int.toNat_natCast,bT dS l k hlt,hy] at ht16;refine .t2 (bD rfl ht16 (by exact eG)) ?_;refine Rg.wd trivial (cJ Tryz.zeroValue59 rfl) rfl ?_;rintro _ wab8 ⟨b8,rfl,qb8,a,b⟩;have qb8g : w3.heap.size ≤ b8 := Nat.le_of_eq qb8.symm;have hxle := hx.le;refine Rg.wn trivial (cB (cs := [.int .i64 y0,.int .i64 y1,.int .i64 y2,.int .i64 y3,.string y4,.bool y5]) b rfl rfl rfl (eG) (rfl) (rfl)) ?_;rintro _ w2 ⟨hub8,hvb8⟩;have hx2 := a.upd hub8 (Nat.le_of_eq qb8.symm);clear b hub8 a;replace hx := hx.ext hx2;replace hs3 := hs3.ext hx2;replace hq := hq.ext hx2;replace ht16 := ht16.ext hx2;clear qb8;refine .done (.seq (.sr (.t2 (aA gS rfl) (.t2 (aB bB rfl (hvb8.g 1 rfl)) (.m2 rfl ?_)))));refine .t2 (eC rfl rfl (by omega)) ?_;refine .done (.condF rfl (Wp.skip (.seq (.sr (.t2 (aA kW rfl) (.t2 (aB bB rfl (hvb8.g 3 rfl)) ?_))))));refine .t2 (gD rfl rfl (by omega)) ?_;refine .done (.condT rfl (Wp.region (.t2 (aA kW rfl) (.t2 (aB bB rfl (hvb8.g 3 rfl)) (.m2 rfl ?_)))));refine .t2 (dW rfl rfl (by omega)) ?_;refine .t2 (aA kW rfl) (Rg.wn trivial (bZ hvb8 bB rfl rfl rfl rfl rfl) ?_);rintro _ w3 ⟨huS,hvS⟩;simp only [List.set] at hvS;have hb8g := qb8g;replace hx := hx.upd huS (by omega);replace hq := hq.upd huS (by omega);clear hvb8 huS hs3 ht16;have hvb8 := hvS;refine .done (Wp.region (.m2 rfl ?_));refine .t2 (bD rfl hvb8.cells (by exact eG)) ?_;refine Rg.wd trivial (aD (qV _ _ _ _ _ _) rfl) rfl ?_;rintro _ w4 ⟨bb,rfl,qbb,hx4,hvbb⟩;replace hx := hx.ext hx4;replace hq := hq.ext hx4;replace hvb8 := hvb8.ext hx4;replace hown := cW hown hq;refine Rg.wd trivial (kF w.heap.size Tryz.underlying53 hi59 hz59 hsi59 hby59 rfl (by decide) rfl rfl hown rfl (fun j u hu => by rw [Go.Gx.cI]; exact hvbb.cells j u hu) (by simp [Value.oneCell']) (by unfold maxLen; omega) (by omega) hx.le) rfl ?_;rintro v2 wc ⟨hown2,hgr,p2,l2,c2,rfl⟩
    replace hx := lL hx hown hgr;refine .a2 rfl (.done (Wp.region ?_))
    first | refine .tq (bE rfl rfl (by omega)) rfl ?_ | refine .tq (fR rfl rfl) rfl ?_
    refine .m2 rfl (.done ?_);refine ⟨(k + 1,.slice p2 l2 c2,acc ++ [(⟨y0,y1,y2,y3 - st,y4,y5⟩ : Sy)]),by repeat (first | exact .nil | refine .cons rfl ?_),⟨hlt,?_,?_,hx⟩,by simp only; omega⟩
    ·simp only [List.length_append,List.length_singleton]
     rw [iD];exact hown2
    ·simp only
     rw [htk,List.filter_append,List.map_append,← hacc];simp [h1,rb,h3]
   ·skip
    refine .sr ?_
    first | refine .tq (bG rfl rfl (by omega)) rfl ?_ | refine .tq (bJ rfl rfl (by omega)) rfl ?_ | refine .tq (cU rfl rfl) rfl ?_
    refine .done (.seq (.condT rfl (Wp.skip (.seq (Wp.block (.sr ?_))))));refine Rg.ix hs3 trivial rfl rfl Tryz.underlying53 eG (by omega) rfl ?_;intro bt16 ot16 ht16;rw [Int.toNat_natCast,bT dS l k hlt,hy] at ht16;refine .t2 (bD rfl ht16 (by exact eG)) ?_;refine Rg.wd trivial (cJ Tryz.zeroValue59 rfl) rfl ?_;rintro _ wab8 ⟨b8,rfl,qb8,a,b⟩;have qb8g : w3.heap.size ≤ b8 := Nat.le_of_eq qb8.symm;have hxle := hx.le;refine Rg.wn trivial (cB (cs := [.int .i64 y0,.int .i64 y1,.int .i64 y2,.int .i64 y3,.string y4,.bool y5]) b rfl rfl rfl (eG) (rfl) (rfl)) ?_;rintro _ w2 ⟨hub8,hvb8⟩;have hx2 := a.upd hub8 (Nat.le_of_eq qb8.symm);clear b hub8 a;replace hx := hx.ext hx2;replace hs3 := hs3.ext hx2;replace hq := hq.ext hx2;replace ht16 := ht16.ext hx2;clear qb8;refine .done (.seq (.sr (.t2 (aA gS rfl) (.t2 (aB bB rfl (hvb8.g 1 rfl)) (.m2 rfl ?_)))));refine .t2 (eC rfl rfl (by omega)) ?_;refine .done (.condF rfl (Wp.skip (.seq (.sr (.t2 (aA kW rfl) (.t2 (aB bB rfl (hvb8.g 3 rfl)) ?_))))));refine .t2 (iU rfl rfl (by omega)) ?_;refine .done (.condF rfl (Wp.skip (Wp.region (.m2 rfl ?_))));refine .t2 (bD rfl hvb8.cells (by exact eG)) ?_;refine Rg.wd trivial (aD (qV _ _ _ _ _ _) rfl) rfl ?_;rintro _ w3 ⟨bb,rfl,qbb,hx3,hvbb⟩;replace hx := hx.ext hx3;replace hs3 := hs3.ext hx3;replace hq := hq.ext hx3;replace ht16 := ht16.ext hx3;replace hvb8 := hvb8.ext hx3;replace hown := cW hown hq;refine Rg.wd trivial (kF w.heap.size Tryz.underlying53 hi59 hz59 hsi59 hby59 rfl (by decide) rfl rfl hown rfl (fun j u hu => by rw [Go.Gx.cI]; exact hvbb.cells j u hu) (by simp [Value.oneCell']) (by unfold maxLen; omega) (by omega) hx.le) rfl ?_;rintro v2 wc ⟨hown2,hgr,p2,l2,c2,rfl⟩;replace hx := lL hx hown hgr;refine .a2 rfl (.done (Wp.region ?_))
    first | refine .tq (bE rfl rfl (by omega)) rfl ?_ | refine .tq (fR rfl rfl) rfl ?_
    refine .m2 rfl (.done ?_);refine ⟨(k + 1,.slice p2 l2 c2,acc ++ [(⟨y0,y1,y2,y3,y4,y5⟩ : Sy)]),by repeat (first | exact .nil | refine .cons rfl ?_),⟨hlt,?_,?_,hx⟩,by simp only; omega⟩
    ·simp only [List.length_append,List.length_singleton]
     rw [iD];exact hown2
    ·simp only
     rw [htk,List.filter_append,List.map_append,← hacc];simp [h1,rb,h3]
  ·skip
   refine .sr ?_
   first | refine .tq (bG rfl rfl (by omega)) rfl ?_ | refine .tq (bJ rfl rfl (by omega)) rfl ?_ | refine .tq (cU rfl rfl) rfl ?_
   refine .done (.seq (.condT rfl (Wp.skip (.seq (Wp.block (.sr ?_))))));refine Rg.ix hs3 trivial rfl rfl Tryz.underlying53 eG (by omega) rfl ?_;intro bt16 ot16 ht16;rw [Int.toNat_natCast,bT dS l k hlt,hy] at ht16;refine .t2 (bD rfl ht16 (by exact eG)) ?_;refine Rg.wd trivial (cJ Tryz.zeroValue59 rfl) rfl ?_;rintro _ wab8 ⟨b8,rfl,qb8,a,b⟩;refine Rg.wn trivial (cB (cs := [.int .i64 y0,.int .i64 y1,.int .i64 y2,.int .i64 y3,.string y4,.bool y5]) b rfl rfl rfl (eG) (rfl) (rfl)) ?_;rintro _ w2 ⟨hub8,hvb8⟩;have hx2 := a.upd hub8 (Nat.le_of_eq qb8.symm);clear b hub8 a;replace hx := hx.ext hx2;replace hs3 := hs3.ext hx2;replace hq := hq.ext hx2;replace ht16 := ht16.ext hx2;clear qb8;refine .done (.seq (.sr (.t2 (aA gS rfl) (.t2 (aB bB rfl (hvb8.g 1 rfl)) (.m2 rfl ?_)))));refine .t2 (eM rfl rfl (by omega)) ?_;refine .done (.condT rfl (Wp.exit (Wp.region ?_)))
   first | refine .tq (bE rfl rfl (by omega)) rfl ?_ | refine .tq (fR rfl rfl) rfl ?_
   refine .m2 rfl (.done ?_);exact ⟨(k + 1,vr,acc),by repeat (first | exact .nil | refine .cons rfl ?_),⟨hlt,cW hown hq,by simp only; rw [htk,List.filter_append,List.map_append,← hacc]; simp [h1],hx⟩,by simp only; omega⟩
 ·obtain rfl : k = l.length := by omega
  rw [List.take_length] at hacc;rw [← hacc];refine .sr ?_
  first | refine .tq (bG rfl rfl (by omega)) rfl ?_ | refine .tq (bJ rfl rfl (by omega)) rfl ?_ | refine .tq (cU rfl rfl) rfl ?_
  refine .done (.seq (.condF rfl (Wp.exit (.sr (.m2 rfl (.a2 rfl (.done (Wp.ret ?_))))))));exact ⟨[_],⟨rfl,trivial⟩,fN hown,hx⟩
theorem Jx (l r : List Md) (m : Md) (s : ByteArray) (sp : List Value) : (aN gX (l ++ m :: r) ++ sp).take (l.length * 2 + 1) ++ [.string s] ++ (aN gX (l ++ m :: r) ++ sp).drop (l.length * 2 + 1 + 1) = aN gX (l ++ (m.1,s) :: r) ++ sp := by
 have e : aN gX (l ++ m :: r) ++ sp = (aN gX l ++ [.string m.1]) ++ (.string m.2 :: (aN gX r ++ sp)) := by simp [eR,aN,gX]
 have hl : (aN gX l ++ [Value.string m.1]).length = l.length * 2 + 1 := by rw [List.length_append,aY eA]; rfl
 rw [e,List.take_left' hl,← List.drop_drop,List.drop_left' hl];simp [eR,aN,gX]
theorem Jy (ms : List Md) : ∀ u ∈ aN gX ms,u.oneCell' = true := by
 intro u hu;obtain ⟨m,_,h⟩ := List.mem_flatMap.1 hu;simp only [gX,List.mem_cons,List.not_mem_nil,or_false] at h
 rcases h with rfl | rfl <;> rfl
theorem G6 {w : World} {v : Value} {ms : List Md} (hs0 : SlC w v 2 ms.length (aN gX ms)) (hlen : ms.length ≤ 1000000) :
  Cl Tryz.prog 28 #[v] w (fun u w' => w'.ownsRow w.heap.size 52 2 u ms.length (aN gX ms) ∧ Ext w w') := by
 have hx := Ext.refl w;obtain ⟨i,hi,hz,hsi,hby⟩ := Kd;have hone := Jy ms;have hown := iZ w w.heap.size 52 2;refine Cl.enter Tryz.func28 rfl Tryz.ntmps28 rfl rfl (.sr (.a2 rfl (.done (.sr (.m2 rfl ?_)))));refine Rg.wd trivial (Ck w.heap.size Tryz.underlying49 hi hz hsi hby rfl (by decide) rfl rfl hown hs0 hone (by unfold maxLen; omega) (by omega) hx.le) rfl ?_;rintro v2 wc ⟨hown2,hgr,p2,l2,c2,rfl⟩;replace hx := lL hx hown hgr;rw [Nat.zero_add,List.nil_append] at hown2;refine .a2 rfl (.done (Wp.ret ?_));exact ⟨[_],⟨rfl,trivial⟩,hown2,hx⟩
theorem vM {n : Int} {i : Nat} {nm : ByteArray} {a : An} {m : Int} : (gA n i nm a).filter (fun y => decide (y.m = m)) = if m = i then gA n i nm a else [] := by
 split
 ·rename_i h
  refine List.filter_eq_self.2 fun y hy => ?_;rw [qB y hy,h];simp
 ·rename_i h
  refine List.filter_eq_nil_iff.2 fun y hy => ?_;rw [qB y hy]
  simpa using fun e => h e.symm
theorem Jz (st : Int) (i : Nat) (nm : ByteArray) : rb st (iS i nm) = iS i nm := by
 unfold rb;exact if_neg (show ¬ (0 : Int) ≤ (iS i nm).p from by show ¬ (0 : Int) ≤ -1; decide)
mutual
theorem Kx (m : Int) : ∀ (a : An) (p : Int) (lp : Bool) (acc : List Sy),-1 ≤ p → (∀ y ∈ acc,-1 ≤ y.p) → ∀ y ∈ oC m a p lp acc,-1 ≤ y.p
 | .mk h ks,p,lp,acc,hp,ha => by
  rw [oC];refine G7 m ks _ _ _ ?_ ?_
  ·unfold gL; split <;> omega
  ·unfold eO
   split
   ·exact ha
   ·intro y hy
    rcases List.mem_append.1 hy with h1 | h1
    ·exact ha y h1
    ·rw [List.mem_singleton.1 h1]; exact hp
theorem G7 (m : Int) : ∀ (qs : List An) (p : Int) (lp : Bool) (acc : List Sy),-1 ≤ p → (∀ y ∈ acc,-1 ≤ y.p) → ∀ y ∈ fK m qs p lp acc,-1 ≤ y.p
 | [],p,lp,acc,hp,ha => by rw [fK]; exact ha
 | a :: qs,p,lp,acc,hp,ha => by rw [fK]; exact G7 m qs _ _ _ hp (Kx m a _ _ _ hp ha)
end
theorem G8 (m : Int) (a : An) : ∀ y ∈ lE m a,-1 ≤ y.p := Kx m a _ _ _ (by decide) fun y hy => absurd hy List.not_mem_nil
theorem G9 (n : Int) (hn : 0 ≤ n) (i : Nat) (nm : ByteArray) (a : An) : (gA n i nm a).map (rb n) = iS i nm :: (lE i a).map (sh 1) := by
 unfold gA;rw [List.map_cons,Jz,List.map_map]
 congr 1
 refine List.map_congr_left fun y hy => ?_;have := G8 i a y hy
 show rb n (sh (n + 1) y) = sh 1 y
 unfold rb;rw [if_pos (show 0 ≤ (sh (n + 1) y).p from by show 0 ≤ y.p + (n + 1); omega)];have e : (sh (n + 1) y).p - n = y.p + 1 := by show y.p + (n + 1) - n = y.p + 1; omega
 rw [e];rfl
theorem pN (nm : Nat → ByteArray) (an : Nat → An) (i : Nat) : ∀ k,(cQ nm an k).filter (fun y => decide (y.m = (i : Int))) = if i < k then gA (cQ nm an i).length i (nm i) (an i) else []
 | 0 => by
  rw [if_neg (Nat.not_lt_zero _),cQ];refine List.filter_eq_nil_iff.2 fun y hy => ?_;obtain ⟨z,_,rfl⟩ := List.mem_map.1 hy;have : (Me z).m = -1 := rfl;rw [this];simp
 | k + 1 => by
  rw [gM,List.filter_append,pN nm an i k,vM]
  by_cases h1 : i < k
  ·rw [if_pos h1,if_neg (show ¬ (i : Int) = k by omega),if_pos (show i < k + 1 by omega),List.append_nil]
  ·by_cases h2 : i = k
   ·subst h2
    rw [if_neg (Nat.lt_irrefl _),if_pos rfl,if_pos (show i < i + 1 by omega),List.nil_append]
   ·rw [if_neg h1,if_neg (show ¬ (i : Int) = k by omega),if_neg (show ¬ i < k + 1 by omega),List.append_nil]
end Go.Proofs.YtiogccmfmjhipaaGreatDoor.Sym
namespace Go.Proofs.YtiogccmfmjhipaaGreatDoor.Sym
open Par Ast
theorem yF (nm : Nat → ByteArray) (an : Nat → An) (i : Nat) : ∀ k,i < k → ∃ r,cQ nm an k = cQ nm an i ++ (gA (cQ nm an i).length i (nm i) (an i) ++ r)
 | 0,h => absurd h (Nat.not_lt_zero _)
 | k + 1,h => by
  rw [gM]
  by_cases h2 : i = k
  ·subst h2
   exact ⟨[],by rw [List.append_nil]⟩
  ·obtain ⟨r,e⟩ := yF nm an i k (by omega)
   refine ⟨r ++ gA (cQ nm an k).length k (nm k) (an k),?_⟩;rw [← List.append_assoc (gA _ i _ _),← List.append_assoc,← e]
theorem Dz (nm : Nat → ByteArray) (an : Nat → An) (i k : Nat) (h : i < k) : sT (cQ nm an k) i (-1) = some (cQ nm an i).length := by
 obtain ⟨r,e⟩ := yF nm an i k h;rw [e];unfold sT;have hl : (cQ nm an i).length < (cQ nm an i ++ (gA (cQ nm an i).length i (nm i) (an i) ++ r)).length := by
  simp [gA]
 rw [List.findIdx?_eq_some_iff_getElem];refine ⟨hl,?_,fun j hj => ?_⟩
 ·rw [List.getElem_append_right (Nat.le_refl _)]
  simp [gA,iS]
 ·rw [List.getElem_append_left hj]
  have := Ai nm an i _ (List.getElem_mem hj);have hne : ¬ ((cQ nm an i)[j]).m = (i : Int) := by omega
  simp [hne]
theorem B3 (nm : Nat → ByteArray) (an : Nat → An) (i k : Nat) (h : i < k) : Jw (cQ nm an k) i = iS i (nm i) :: (lE i (an i)).map (sh 1) := by
 unfold Jw;rw [Dz nm an i k h,pN,if_pos h];exact G9 _ (Int.natCast_nonneg _) _ _ _
theorem Ha {ms ms' : List Md} {i : Nat} (h : i < ms.length) (h' : i < ms'.length) (e : ms[i] = ms'[i]) : Jw (syms ms) i = Jw (syms ms') i := by
 unfold syms;rw [B3 _ _ _ _ h,B3 _ _ _ _ h'];simp only [List.getD,List.getElem?_eq_getElem h,List.getElem?_eq_getElem h',e]
theorem Hb (nm : Nat → ByteArray) (an : Nat → An) : ∀ k,∀ y ∈ cQ nm an k,-1 ≤ y.p
 | 0,y,hy => by
  rw [cQ] at hy;obtain ⟨z,_,rfl⟩ := List.mem_map.1 hy
  show (-1 : Int) ≤ -1
  decide
 | k + 1,y,hy => by
  rw [gM] at hy
  rcases List.mem_append.1 hy with h | h
  ·exact Hb nm an k y h
  ·rcases List.mem_cons.1 h with rfl | h
   ·show (-1 : Int) ≤ -1
    decide
   ·obtain ⟨z,hz,rfl⟩ := List.mem_map.1 h
    have := G8 k (an k) z hz
    show -1 ≤ z.p + _
    omega
mutual
theorem Hc (m : Int) : ∀ (a : An) (p : Int) (lp : Bool) (acc : List Sy) (B : Int),p < B → (∀ y ∈ acc,y.p < B) → (acc.length : Int) + anc a ≤ B → ∀ y ∈ oC m a p lp acc,y.p < B
 | .mk h ks,p,lp,acc,B,hp,ha,hl => by
  rw [oC];rw [anc] at hl;have h1 := (rO m h p lp acc).2;refine B4 m ks _ _ _ B ?_ ?_ (by omega)
  ·unfold gL; split <;> omega
  ·unfold eO
   split
   ·exact ha
   ·intro y hy
    rcases List.mem_append.1 hy with h1 | h1
    ·exact ha y h1
    ·rw [List.mem_singleton.1 h1]; exact hp
theorem B4 (m : Int) : ∀ (qs : List An) (p : Int) (lp : Bool) (acc : List Sy) (B : Int),p < B → (∀ y ∈ acc,y.p < B) → (acc.length : Int) + gW qs ≤ B → ∀ y ∈ fK m qs p lp acc,y.p < B
 | [],p,lp,acc,B,hp,ha,_ => by rw [fK]; exact ha
 | a :: qs,p,lp,acc,B,hp,ha,hl => by
  rw [fK];rw [gW] at hl;have := vE m a p lp acc;exact B4 m qs _ _ _ B hp (Hc m a _ _ _ B hp ha (by omega)) (by omega)
end
theorem B5 (nm : Nat → ByteArray) (an : Nat → An) : ∀ k,(∀ i,i < k → anc (an i) ≤ 50000) → ∀ y ∈ cQ nm an k,y.p < 4 + (k : Int) * 50001
 | 0,_,y,hy => by
  rw [cQ] at hy;obtain ⟨z,_,rfl⟩ := List.mem_map.1 hy
  show (-1 : Int) < 4 + ((0 : Nat) : Int) * 50001
  decide
 | k + 1,h,y,hy => by
  have h1 := nZ nm an k fun i hi => h i (by omega);have h2 := h k (by omega);have h3 := B5 nm an k fun i hi => h i (by omega);rw [cQ] at hy;refine Hc k (an k) _ false _ (4 + ((k + 1 : Nat) : Int) * 50001) (by omega) (fun z hz => ?_) (by simp; omega) y hy
  rcases List.mem_append.1 hz with hz | hz
  ·have := h3 z hz; omega
  ·rw [List.mem_singleton.1 hz]
   show (-1 : Int) < _
   omega
theorem He (ms : List Md) (h8 : ms.length ≤ 8) (hsz : ∀ m ∈ ms,m.2.size ≤ 2000) : ∀ y ∈ syms ms,-1000000 ≤ y.p ∧ y.p ≤ 1000000 := by
 intro y hy;unfold syms at hy;have h1 := Hb _ _ _ y hy;have h2 := B5 _ _ ms.length (fun i hi => by
  have h1 := (fZ (ms.getD i (.empty,.empty)).2).small.cnt;have h2 := oQ (ms.getD i (.empty,.empty)).2 (iG (ms.getD i (.empty,.empty)).2);have h3 := hsz _ (List.getElem_mem hi);have e : ms.getD i (.empty,.empty) = ms[i] := by simp [List.getD,hi]
  rw [e] at h1 h2 ⊢
  show anc (fL ms[i].2) ≤ 50000
  unfold fL
  omega) y hy
 omega
end Go.Proofs.YtiogccmfmjhipaaGreatDoor.Sym
namespace Go.Proofs.YtiogccmfmjhipaaGreatDoor.Sym
set_option maxRecDepth 20000
open Go.Gx Go.RowKit Go.Lib
open Lexi (Asc tok)
open Par Ast
theorem Hf {ms ms' : List Md} (hl : ms.length = ms'.length) (h8 : ms.length ≤ 8) (hs : ∀ m ∈ ms,m.2.size ≤ 2000) (hs' : ∀ m ∈ ms',m.2.size ≤ 2000) (hn : ms.map (·.1) = ms'.map (·.1)) : lA ms = lA ms' := by
 have no : ∀ l : List Md,(∀ m ∈ l,m.2.size ≤ 2000) → (l.any fun m => decide ((2000 : Int) < m.2.size)) = false := fun l h => by
  rw [List.any_eq_false];intro m hm;have := h m hm;simp;omega
 have hid : ∀ l : List Md,(l.any fun m => !kS m.1) = ((l.map (·.1)).any fun s => !kS s) := fun l => by rw [List.any_map]; rfl
 have hix : ∀ (l : List Md) (nm : ByteArray),Ds l nm = (l.map (·.1)).findIdx? fun s => decide (s = nm) := fun l nm => by
  unfold Ds;rw [List.findIdx?_map];rfl
 have hd : ∀ l : List Md,rS l = (List.range (l.map (·.1)).length).any fun i => (((l.map (·.1)).take i).findIdx? fun s => decide (s = (l.map (·.1)).getD i .empty)).isSome := fun l => by
  unfold rS;rw [List.length_map]
  congr 1
  funext i
  unfold Du;rw [hix,List.map_take];have e : (l.getD i (.empty,.empty)).1 = (l.map (·.1)).getD i .empty := by
   simp only [List.getD,List.getElem?_map]
   cases l[i]? <;> rfl
  rw [e]
 unfold lA;rw [no ms hs,no ms' hs',hid,hid,hd,hd,hn,hl]
theorem Aj {w : World} {v : Value} {ms : List Md} {s : ByteArray} {k : Int} (hA0 : Asc w) (hE0 : Er w) (hs0 : SlC w v 2 ms.length (aN gX ms)) :
  Cl Tryz.prog 6 #[v,.string s,.int .i64 k] w (fun u w' => u = .bool true ∧ Ext w w') := by
 have hx := Ext.refl w;refine Cl.enter Tryz.func6 rfl Tryz.ntmps6 rfl rfl (.sr (.a2 rfl (.done (.seq (.sr (Rg.wd trivial (aC Tryz.call26 rfl (dT (hA0.ext hx) (dZ hE0 hx))) rfl ?_))))));rintro _ w1 ⟨rfl,hx1⟩;replace hx := hx.ext hx1;refine .t2 (bN rfl) (.done (.condF rfl (Wp.skip (.sr (.m2 rfl (Rg.wd trivial (aC Tryz.call27 rfl (Af (hs0.ext hx))) rfl ?_))))));rintro _ w2 ⟨hfw,_,hx2⟩;replace hx := hx.ext hx2;have hfl := rT ms;obtain ⟨M,hM⟩ : ∃ q,oU ms = q := ⟨_,rfl⟩;have hsz : ∀ m ∈ M,m.2.size ≤ 250 := fun m hm => Dv (ms := ms) (by rw [hM]; exact hm);rw [hM] at hfw hfl;refine .a2 rfl (.done (.seq ?_))
 by_cases hz : M.length = 0
 ·skip
  refine .sr (.m2 rfl (.t2 (bV hfw Tryz.underlying49 rfl) ?_));refine .t2 (aX rfl rfl (by omega)) ?_;refine .done (.condT rfl (.sr (Rg.wd trivial (aC Tryz.call26 rfl (dT (hA0.ext hx) (dZ hE0 hx))) rfl ?_)));rintro _ w3 ⟨rfl,hx3⟩;replace hx := hx.ext hx3;replace hfw := hfw.ext hx3;refine .a2 rfl (.done (Wp.ret ?_));exact ⟨[_],⟨rfl,trivial⟩,rfl,hx⟩
 ·skip
  refine .sr (.m2 rfl (.t2 (bV hfw Tryz.underlying49 rfl) ?_));refine .t2 (aQ rfl rfl (by omega)) ?_;refine .done (.condF rfl (Wp.skip (.sr (.m2 rfl (.m2 rfl (.t2 (bV hfw Tryz.underlying49 rfl) ?_))))));refine Rg.wd trivial (aC Tryz.call21 rfl (Ad (by omega) (by omega))) rfl ?_;rintro _ w3 ⟨⟨j,rfl,hj,_⟩,hx3⟩;replace hx := hx.ext hx3;replace hfw := hfw.ext hx3;refine .a2 rfl (.done (.sr (.m2 rfl ?_)));refine Rg.wd trivial (aC Tryz.call28 rfl (G6 hfw (by omega))) rfl ?_;rintro vc w4 ⟨hown,hx4⟩;have hxc := hx.le;have hfw3 := hfw;have hq := hx4;replace hx := hx.ext hx4;replace hfw := hfw.ext hx4;refine .a2 rfl (.done (.sr (.m2 rfl (.m2 rfl (.m2 rfl (Rg.wd trivial (aC Tryz.call16 rfl (xU (n := 250))) rfl ?_))))));rintro _ w5 ⟨rfl,hx5⟩;replace hx := hx.ext hx5;replace hfw := hfw.ext hx5;replace hq := hq.ext hx5;replace hown := cW hown hx5;obtain ⟨s2,hs2⟩ : ∃ q,s.extract 0 (min s.size 250) = q := ⟨_,rfl⟩;have hs2z : s2.size ≤ 250 := by rw [← hs2,ByteArray.size_extract]; omega
  rw [hs2];have hxle := hx.le
  rcases bO hown with ⟨_,h0⟩ | ⟨g,cap,sp,rfl,g1,g2,g3,g4,g5⟩
  ·omega
  refine .t2 (bH Tryz.underlying49 jP rfl rfl (by omega)) ?_;refine .t2 (aA qS rfl) ?_;refine Rg.wn trivial (dO (cs := [.string s2]) g5 rfl rfl rfl gY (by rw [List.length_append,aY eA]; simp; omega) (by simp [Value.oneCell'])) ?_;rintro _ wS ⟨huS,hvS⟩;have hmd : M = M.take j ++ M[j] :: M.drop (j + 1) := by rw [← List.drop_eq_getElem_cons hj,List.take_append_drop]
  have htj : (M.take j).length = j := by rw [List.length_take]; omega
  have hset := Jx (M.take j) (M.drop (j + 1)) M[j] s2 sp;rw [htj,← hmd] at hset;rw [show 0 + ((j : Int)).toNat * 2 + 1 = j * 2 + 1 from by omega,show j * 2 + 1 + [Value.string s2].length = j * 2 + 1 + 1 from rfl,hset] at hvS;obtain ⟨M2,hM2⟩ : ∃ q,M.take j ++ (M[j].1,s2) :: M.drop (j + 1) = q := ⟨_,rfl⟩;have hl2 : M2.length = M.length := by rw [← hM2]; simp; omega
  have hn2 : M.map (·.1) = M2.map (·.1) := by
   rw [← hM2];have h9 := congrArg (List.map (fun m : Md => m.1)) hmd;exact h9.trans (by rw [List.map_append,List.map_append]; rfl)
  have hz2 : ∀ m ∈ M2,m.2.size ≤ 250 := by
   intro m hm;rw [← hM2] at hm
   rcases List.mem_append.1 hm with h | h
   ·exact hsz m (List.mem_of_mem_take h)
   ·rcases List.mem_cons.1 h with rfl | h
    ·exact hs2z
    ·exact hsz m (List.mem_of_mem_drop h)
  have hat : ∀ i (h : i < M.length) (h2 : i < M2.length),i ≠ j → M[i] = M2[i] := by
   intro i h h2 hij;subst hM2
   by_cases hlt : i < j
   ·rw [List.getElem_append_left (by rw [htj]; exact hlt)]
    simp
   ·rw [List.getElem_append_right (by rw [htj]; omega)]
    simp only [htj];obtain ⟨d,rfl⟩ : ∃ d,i = j + 1 + d := ⟨i - (j + 1),by omega⟩;simp [show j + 1 + d - j = d + 1 from by omega]
  rw [hM2] at hvS;have hxS : Ext w wS := hx.upd huS (by omega);have hqS := hq.upd huS g1;have hfS := hfw3.ext hqS;have hsM : SlC wS (.slice (some ⟨g,0,none⟩) M.length cap) 2 M2.length (aN gX M2) := by
   rw [hl2];exact fN (bM (Nat.zero_le _) (by rw [aY eA,hl2]) g2 g3 g4 hvS)
  have hve := Hf hl2.symm (by omega) (fun m hm => Nat.le_trans (hsz m hm) (by decide)) (fun m hm => Nat.le_trans (hz2 m hm) (by decide)) hn2;clear hx hq hfw hfw3 hown;have hx := hxS;refine .done (.sr (.m2 rfl ?_));refine Rg.wd trivial (aC Tryz.call29 rfl (iH (ms := M) (hA0.ext hx) (dZ hE0 hx) hfS (by omega))) rfl ?_;rintro _ w21 ⟨⟨h0,rfl⟩ | ⟨h0,sv,rfl,hsv⟩,hx21⟩
  ·skip
   replace hx := hx.ext hx21;replace hsM := hsM.ext hx21;refine .m2 rfl (.t2 (aV rfl rfl) (.t2 (aV rfl rfl) (.a2 rfl (.a2 rfl (.done (.sr (.m2 rfl ?_)))))));refine Rg.wd trivial (aC Tryz.call29 rfl (iH (ms := M2) (hA0.ext hx) (dZ hE0 hx) hsM (by omega))) rfl ?_;rintro _ w22 ⟨⟨h1,rfl⟩ | ⟨h1,sv2,rfl,hsv2⟩,hx22⟩
   ·skip
    replace hx := hx.ext hx22;refine .m2 rfl (.t2 (aV rfl rfl) (.t2 (aV rfl rfl) (.a2 rfl (.a2 rfl (.done (.seq (.sr (.m2 rfl (.t2 (eM rfl rfl h0) (.m2 rfl (.so rfl rfl (.so rfl rfl ?_))))))))))));refine .t2 (aM rfl rfl) (.done (.condT rfl (.sr (Rg.wd trivial (aC Tryz.call26 rfl (dT (hA0.ext hx) (dZ hE0 hx))) rfl ?_))));rintro _ w23 ⟨rfl,hx23⟩;replace hx := hx.ext hx23;refine .m2 rfl (.g2 (aL rfl) (.g2 (aL rfl) (.g2 (aX rfl rfl hve) (.t2 (aM rfl rfl) (.a2 rfl (.done (Wp.ret ?_)))))));exact ⟨[_],⟨rfl,trivial⟩,rfl,hx⟩
   ·skip
    exact absurd (hve.trans h1) h0
  ·skip
   replace hx := hx.ext hx21;replace hsM := hsM.ext hx21;refine .m2 rfl (.t2 (aV rfl rfl) (.t2 (aV rfl rfl) (.a2 rfl (.a2 rfl (.done (.sr (.m2 rfl ?_)))))));refine Rg.wd trivial (aC Tryz.call29 rfl (iH (ms := M2) (hA0.ext hx) (dZ hE0 hx) hsM (by omega))) rfl ?_;rintro _ w22 ⟨⟨h1,rfl⟩ | ⟨h1,sv2,rfl,hsv2⟩,hx22⟩
   ·skip
    exact absurd (hve.symm.trans h0) h1
   ·skip
    replace hx := hx.ext hx22;replace hsv := hsv.ext hx22;refine .m2 rfl (.t2 (aV rfl rfl) (.t2 (aV rfl rfl) (.a2 rfl (.a2 rfl (.done (.seq (.sr (.m2 rfl (.t2 (eC rfl rfl rfl) (.m2 rfl (.g2 (aL rfl) (.g2 (eC rfl rfl rfl) ?_))))))))))));refine .t2 (aP rfl rfl) (.done (.condF rfl (Wp.skip (.seq (.sr (.m2 rfl (.t2 (bV hfS Tryz.underlying49 rfl) (.m2 rfl (.done (Wp.block ?_))))))))));have hM8 : M.length ≤ 8 := by omega
    have hM20 : ∀ m ∈ M,m.2.size ≤ 2000 := fun m hm => Nat.le_trans (hsz m hm) (by decide);have hN20 : ∀ m ∈ M2,m.2.size ≤ 2000 := fun m hm => Nat.le_trans (hz2 m hm) (by decide);have b1 := oA M hM8 hM20;have b2 := oA M2 (by omega) hN20;have p1 := He M hM8 hM20;have p2 := He M2 (by omega) hN20;refine Wp.loop (ι := Nat) (fun i => [(7,.int .i64 j),(9,sv),(11,sv2),(59,.int .i64 M.length),(60,.int .i64 i)])
     (fun i w' => i ≤ M.length ∧ Ext w w' ∧ SlC w' sv 6 (syms M).length (aN lC (syms M)) ∧ SlC w' sv2 6 (syms M2).length (aN lC (syms M2))) (fun i => M.length - i) 0 (by repeat (first | exact .nil | refine .cons rfl ?_)) ⟨Nat.zero_le _,hx,hsv,hsv2⟩ ?_
    clear hx hsv hsv2;rintro i w50 ⟨hi,hx,hsv,hsv2⟩
    by_cases hlt : i < M.length
    ·by_cases hij : i = j
     ·skip
      refine .sr ?_
      first | refine .tq (bG rfl rfl (by omega)) rfl ?_ | refine .tq (bJ rfl rfl (by omega)) rfl ?_ | refine .tq (cU rfl rfl) rfl ?_
      refine .done (.seq (.condT rfl (Wp.skip (.seq (Wp.block (.sr (.m2 rfl (.a2 rfl (.done (.seq (.sr (.m2 rfl ?_))))))))))));refine .m2 rfl ?_;refine .t2 (aX rfl rfl (by omega)) ?_;refine .done (.condT rfl (Wp.exit (Wp.region ?_)))
      first | refine .tq (bE rfl rfl (by omega)) rfl ?_ | refine .tq (fR rfl rfl) rfl ?_
      refine .m2 rfl (.done ?_);exact ⟨i + 1,by repeat (first | exact .nil | refine .cons rfl ?_),⟨hlt,hx,hsv,hsv2⟩,by omega⟩
     ·have heq := Ha hlt (show i < M2.length by omega) (hat i hlt (by omega) hij)
      have hml : (Jw (syms M) i).length ≤ (syms M).length := by unfold Jw; rw [List.length_map]; exact List.length_filter_le _ _
      refine .sr ?_
      first | refine .tq (bG rfl rfl (by omega)) rfl ?_ | refine .tq (bJ rfl rfl (by omega)) rfl ?_ | refine .tq (cU rfl rfl) rfl ?_
      refine .done (.seq (.condT rfl (Wp.skip (.seq (Wp.block (.sr (.m2 rfl (.a2 rfl (.done (.seq (.sr (.m2 rfl ?_))))))))))));refine .m2 rfl ?_;refine .t2 (aQ rfl rfl (by omega)) ?_;refine .done (.condF rfl (Wp.skip (.sr (.m2 rfl (.m2 rfl ?_)))));refine Rg.wd trivial (aC Tryz.call30 rfl (pM (m := i) hsv (by omega) p1)) rfl ?_;rintro _ w51 ⟨hr1,hx51⟩;replace hx := hx.ext hx51;replace hsv := hsv.ext hx51;replace hsv2 := hsv2.ext hx51;refine .m2 rfl (.m2 rfl ?_);refine Rg.wd trivial (aC Tryz.call30 rfl (pM (m := i) hsv2 (by omega) p2)) rfl ?_;rintro _ w52 ⟨hr2,hx52⟩;replace hx := hx.ext hx52;replace hsv := hsv.ext hx52;replace hsv2 := hsv2.ext hx52;replace hr1 := hr1.ext hx52;refine .a2 rfl (.a2 rfl (.done (.sr (.m2 rfl (.m2 rfl ?_)))));refine Rg.wd trivial (aC Tryz.call31 rfl (Dx hr1 hr2 (by omega))) rfl ?_;rintro _ w53 ⟨⟨bq,rfl,hbq⟩,hx53⟩;replace hx := hx.ext hx53;replace hsv := hsv.ext hx53;replace hsv2 := hsv2.ext hx53;replace hr1 := hr1.ext hx53;replace hr2 := hr2.ext hx53;obtain rfl := hbq.2 heq;refine .t2 (bN rfl) (.done (.condF rfl (Wp.skip (Wp.region ?_))))
      first | refine .tq (bE rfl rfl (by omega)) rfl ?_ | refine .tq (fR rfl rfl) rfl ?_
      refine .m2 rfl (.done ?_);exact ⟨i + 1,by repeat (first | exact .nil | refine .cons rfl ?_),⟨hlt,hx,hsv,hsv2⟩,by omega⟩
    ·skip
     refine .sr ?_
     first | refine .tq (bG rfl rfl (by omega)) rfl ?_ | refine .tq (bJ rfl rfl (by omega)) rfl ?_ | refine .tq (cU rfl rfl) rfl ?_
     refine .done (.seq (.condF rfl (Wp.exit (.sr (Rg.wd trivial (aC Tryz.call26 rfl (dT (hA0.ext hx) (dZ hE0 hx))) rfl ?_)))));rintro _ w51 ⟨rfl,hx51⟩;replace hx := hx.ext hx51;refine .a2 rfl (.done (Wp.ret ?_));exact ⟨[_],⟨rfl,trivial⟩,rfl,hx⟩
end Go.Proofs.YtiogccmfmjhipaaGreatDoor.Sym
namespace Go.Proofs.YtiogccmfmjhipaaGreatDoor.Sym
open Par Ast
mutual
def mH : An → Prop
 | .mk h ks => fA h.st h.en ks
def fA : Int → Int → List An → Prop
 | _,_,[] => True
 | lo,hi,a :: l => lo ≤ a.hd.st ∧ a.hd.st ≤ a.hd.en ∧ a.hd.en ≤ hi ∧ mH a ∧ fA a.hd.en hi l
end
theorem jO {hi hi' : Int} (h2 : hi ≤ hi') : ∀ (l : List An) {lo lo' : Int},lo' ≤ lo → fA lo hi l → fA lo' hi' l
 | [],_,_,_,_ => by rw [fA]; trivial
 | a :: l,lo,lo',h1,h => by
  rw [fA] at h ⊢;exact ⟨by omega,h.2.1,by omega,h.2.2.2.1,jO h2 l (Int.le_refl _) h.2.2.2.2⟩
theorem rX {hi : Int} {a : An} (h2 : hi ≤ a.hd.st) (h3 : a.hd.st ≤ a.hd.en) (h4 : mH a) : ∀ (l : List An) {lo : Int},lo ≤ a.hd.st → fA lo hi l → fA lo a.hd.en (l ++ [a])
 | [],lo,h1,_ => by rw [List.nil_append,fA,fA]; exact ⟨h1,h3,Int.le_refl _,h4,trivial⟩
 | x :: l,lo,h1,h => by
  rw [fA] at h;rw [List.cons_append,fA];exact ⟨h.1,h.2.1,by omega,h.2.2.2.1,rX h2 h3 h4 l (by omega) h.2.2.2.2⟩
def Nv (h : Hd) (ns : List An) : Prop := ns = [] ∨ (0 ≤ h.en ∧ fA h.st h.en ns)
theorem Nv.wide {h h' : Hd} {ns : List An} (i : Nv h ns) (h1 : 0 ≤ h.en → h'.st = h.st) (h2 : 0 ≤ h.en → h.en ≤ h'.en) : Nv h' ns :=
 i.imp id fun ⟨a,b⟩ => ⟨by have := h2 a; omega,jO (h2 a) ns (Int.le_of_eq (h1 a)) b⟩
theorem Nv.node {h : Hd} {ns : List An} {o off : Int} {a : An} (i : Nv h ns) (v : Inv h o off) (h1 : off ≤ a.hd.st) (h2 : a.hd.st ≤ a.hd.en) (h0 : 0 ≤ off) (ha : mH a) : Nv (ext h a.hd.st a.hd.en) (ns ++ [a]) := by
 refine .inr ⟨by show 0 ≤ a.hd.en; omega,?_⟩
 show fA (if h.en < 0 then a.hd.st else h.st) a.hd.en (ns ++ [a])
 have hb := v.b;have hc := v.c
 rcases i with rfl | ⟨i1,i2⟩
 ·rw [List.nil_append,fA,fA]
  refine ⟨?_,h2,Int.le_refl _,ha,trivial⟩
  split <;> omega
 ·rw [if_neg (by omega)]
  exact rX (by omega) h2 ha ns (by omega) i2
mutual
theorem yG (src : ByteArray) : ∀ (t : Tr) (off : Int) (ds : List Dg),0 ≤ off → t.wf → kd t < 100 → mH (gO src t off ds).1
 | .mk k x ks,off,ds,h0,hw,hk => by
  have hwl : oX ks := by
   simp only [Tr.wf] at hw
   rcases hw with ⟨h1,_⟩ | ⟨_,_,_,h⟩
   ·exact absurd (show k < 100 from hk) (by omega)
   ·exact h
  have i := oW src ks (sC k off) [] off ds off h0 ⟨Int.le_refl _,Int.le_refl _,by show (-1 : Int) ≤ off; omega,.inl (show (-1 : Int) < 0 by decide)⟩ hwl (.inl rfl);rw [gO];unfold kA;generalize dJ src ks (sC k off) [] off ds = r at *;obtain ⟨H,ns,of,d2⟩ := r;simp only at i ⊢;have i2 : fA (lD H).st (lD H).en ns := by
   rcases i with rfl | ⟨a,b⟩
   ·rw [fA]; trivial
   ·exact jO (Int.le_max_left _ _) ns (Int.le_refl _) b
  unfold xM
  by_cases h60 : (lD H).kind = 60
  ·rw [if_pos h60]
   cases ns with
   | nil => rw [mH,fA]; trivial
   | cons a0 rest =>
    obtain ⟨c,ks2⟩ := a0;rw [fA] at i2;obtain ⟨a1,_,a3,a4,_⟩ := i2;rw [mH] at a4;simp only;rw [mH];exact jO a3 ks2 a1 a4
  ·rw [if_neg h60]
   by_cases h46 : (lD H).kind = 46
   ·rw [if_pos h46,mH,fA]; trivial
   ·rw [if_neg h46,mH]; exact i2
theorem oW (src : ByteArray) : ∀ (l : List Tr) (h : Hd) (ns : List An) (off : Int) (ds : List Dg) (o : Int),0 ≤ o → Inv h o off → oX l → Nv h ns →
  Nv (dJ src l h ns off ds).1 (dJ src l h ns off ds).2.1
 | [],h,ns,off,ds,o,h0,v,hw,i => by rw [dJ]; exact i
 | t :: l,h,ns,off,ds,o,h0,v,hw,i => by
  rw [oX] at hw;have ho : 0 ≤ off := by have := v.a; have := v.b; omega
  rw [dJ]
  by_cases h1 : 100 ≤ kd t
  ·rw [if_pos h1]
   simp only;obtain ⟨v2,e2,_,_⟩ := xP (k := kd t) (x := tx t) (ds := ds) v h0;obtain ⟨_,_,te,tse⟩ := vJ h off ds (kd t) (tx t);refine oW src l _ ns _ _ o h0 v2 hw.2 (i.wide (fun hp => ?_) fun hp => ?_)
   ·rcases tse with ⟨a,_⟩ | ⟨_,a,_⟩
    ·exact a
    ·rw [a,if_neg (by omega)]
   ·have := v.c
    rcases tse with ⟨_,a,_⟩ | ⟨a,_⟩
    ·omega
    ·omega
  ·rw [if_neg h1]
   simp only;obtain ⟨a,b,c,d,n⟩ := nT src t off ds ho hw.1 (by omega);have v2 : Inv (ext h (gO src t off ds).1.hd.st (gO src t off ds).1.hd.en) o (gO src t off ds).2.1 := by
    have i3 := v.ext h0 a b;exact ⟨i3.a,by have := i3.b; omega,by have := i3.c; omega,i3.d⟩
   exact oW src l _ _ _ _ o h0 v2 hw.2 (i.node v a b ho (yG src t off ds ho hw.1 (by omega)))
end
theorem tV (s : ByteArray) : mH (fL s) ∧ (fL s).hd.st = 0 ∧ (fL s).hd.en = s.size := by
 have hp := fZ s;have hsm := hp.small;have hkd : kd (iG s) = 1 := rfl;have hn := yG s (iG s) 0 [] (Int.le_refl _) hsm.wf (by rw [hkd]; decide);obtain ⟨a,b,c,d,_⟩ := nT s (iG s) 0 [] (Int.le_refl _) hsm.wf (by rw [hkd]; decide);have hl : (iG s).txt.length = s.size := by rw [hsm.txt]; exact Lexi.lQ _
 unfold fL lX;generalize (gO s (iG s) 0 []).1 = q at *;obtain ⟨h,ks⟩ := q;simp only [An.hd] at a b c ⊢;refine ⟨?_,trivial,trivial⟩;rw [mH] at hn ⊢;exact jO (show h.en ≤ (s.size : Int) by omega) ks a hn
mutual
def D6 : An → List An
 | .mk h ks => (if cT h false = 0 then [] else [.mk h ks]) ++ nD ks
def nD : List An → List An
 | [] => []
 | a :: l => D6 a ++ nD l
end
def D7 (a : An) : Int := iF a.hd
mutual
theorem Ak : ∀ a : An,(D6 a).map D7 = pQ a false
 | .mk h ks => by
  rw [D6,lY,List.map_append,B6 ks];unfold own
  split <;> rfl
theorem B6 : ∀ l : List An,(nD l).map D7 = eX l false
 | [] => by rw [nD,eX]; rfl
 | a :: l => by rw [nD,eX,List.map_append,Ak a,B6 l]
end
def ins (b a : An) : Prop := a.hd.st ≤ b.hd.st ∧ b.hd.en ≤ a.hd.en
mutual
theorem B8 : ∀ (a : An),mH a → ∀ b ∈ D6 a,ins b a
 | .mk h ks,hn,b,hb => by
  rw [mH] at hn;rw [D6] at hb
  rcases List.mem_append.1 hb with hb | hb
  ·split at hb
   ·cases hb
   ·rw [List.mem_singleton.1 hb]; exact ⟨Int.le_refl _,Int.le_refl _⟩
  ·exact rY ks hn b hb
theorem rY : ∀ (l : List An) {lo hi : Int},fA lo hi l → ∀ b ∈ nD l,lo ≤ b.hd.st ∧ b.hd.en ≤ hi
 | [],_,_,_,b,hb => by rw [nD] at hb; cases hb
 | a :: l,lo,hi,hn,b,hb => by
  rw [fA] at hn;obtain ⟨h1,h2,h3,h4,h5⟩ := hn;rw [nD] at hb
  rcases List.mem_append.1 hb with hb | hb
  ·obtain ⟨i1,i2⟩ := B8 a h4 b hb
   exact ⟨by omega,by omega⟩
  ·obtain ⟨i1,i2⟩ := rY l h5 b hb
   exact ⟨by omega,i2⟩
end
structure Pt (p : Int) (base : Nat) (L : List Sy) (N : List An) : Prop where
 len : L.length = N.length
 par : ∀ (j : Nat) (y : Sy) (x : An),L[j]? = some y → N[j]? = some x → y.p = p ∨ ∃ (q : Nat) (z : An),q < j ∧ y.p = (base : Int) + q ∧ N[q]? = some z ∧ ins x z
theorem Pt.nil (p : Int) (base : Nat) : Pt p base [] [] := ⟨rfl,fun j y x h => by cases h⟩
theorem Pt.app {p : Int} {base : Nat} {L M : List Sy} {N O : List An} (a : Pt p base L N) (b : Pt p (base + L.length) M O) : Pt p base (L ++ M) (N ++ O) := by
 refine ⟨by simp [a.len,b.len],fun j y x h1 h2 => ?_⟩
 by_cases hj : j < L.length
 ·have hj2 : j < N.length := a.len ▸ hj
  rw [List.getElem?_append_left hj] at h1;rw [List.getElem?_append_left hj2] at h2;refine (a.par j y x h1 h2).imp id fun ⟨q,z,c1,c2,c3,c4⟩ => ⟨q,z,c1,c2,?_,c4⟩;rw [List.getElem?_append_left (by omega)];exact c3
 ·rw [List.getElem?_append_right (by omega)] at h1
  rw [List.getElem?_append_right (by rw [← a.len]; omega),← a.len] at h2;refine (b.par _ y x h1 h2).imp id fun ⟨q,z,c1,c2,c3,c4⟩ => ⟨L.length + q,z,by omega,by rw [c2]; omega,?_,c4⟩;rw [List.getElem?_append_right (by rw [← a.len]; omega),← a.len,Nat.add_sub_cancel_left];exact c3
mutual
theorem Hg (m : Int) : ∀ (a : An) (p : Int) (lp : Bool) (acc : List Sy),mH a → ∃ L,oC m a p lp acc = acc ++ L ∧ Pt p acc.length L (D6 a)
 | .mk h ks,p,lp,acc,hn => by
  have hn' := hn;rw [mH] at hn';obtain ⟨L,e,P⟩ := B9 m ks (gL h p lp acc) (hY h lp) (eO m h p lp acc) ⟨_,_,hn'⟩;rw [oC,e,D6]
  by_cases hz : cT h lp = 0
  ·have hz' := (mG h lp).1 hz
   have e1 : eO m h p lp acc = acc := by unfold eO; rw [if_pos hz]
   have e2 : gL h p lp acc = p := by unfold gL; rw [if_neg fun c => c.1 hz]
   rw [e1,e2] at P;rw [if_pos hz',e1];exact ⟨L,rfl,P⟩
  ·have hz' : ¬ cT h false = 0 := fun c => hz ((mG h lp).2 c)
   have e1 : eO m h p lp acc = acc ++ [nW m h p lp] := by unfold eO; rw [if_neg hz]
   rw [if_neg hz',e1];rw [e1] at P;refine ⟨nW m h p lp :: L,by simp,⟨by simp [P.len],fun j y x h1 h2 => ?_⟩⟩
   cases j with
   | zero => obtain rfl := Option.some.inj h1; exact .inl rfl
   | succ j =>
    have h1 : L[j]? = some y := by simpa using h1
    have h2 : (nD ks)[j]? = some x := by simpa using h2
    rcases P.par j y x h1 h2 with c | ⟨q,z,c1,c2,c3,c4⟩
    ·unfold gL at c
     split at c
     ·refine .inr ⟨0,.mk h ks,Nat.succ_pos _,by rw [c]; omega,rfl,?_⟩
      exact rY ks hn' x (List.mem_of_getElem? h2)
     ·exact .inl c
    ·refine .inr ⟨q + 1,z,by omega,by rw [c2]; simp; omega,by simpa using c3,c4⟩
theorem B9 (m : Int) : ∀ (l : List An) (p : Int) (lp : Bool) (acc : List Sy),(∃ lo hi,fA lo hi l) → ∃ L,fK m l p lp acc = acc ++ L ∧ Pt p acc.length L (nD l)
 | [],p,lp,acc,hn => by rw [fK,nD]; exact ⟨[],by simp,Pt.nil _ _⟩
 | a :: l,p,lp,acc,hn => by
  obtain ⟨lo,hi,hn⟩ := hn;rw [fA] at hn;obtain ⟨L,e,P⟩ := Hg m a p lp acc hn.2.2.2.1;obtain ⟨M,e2,P2⟩ := B9 m l p lp (acc ++ L) ⟨_,_,hn.2.2.2.2⟩;rw [fK,e,e2,nD];rw [List.length_append] at P2;exact ⟨L ++ M,List.append_assoc ..,P.app P2⟩
end
theorem J0 (m : Int) {a : An} (hn : mH a) : Pt (-1) 0 (lE m a) (D6 a) := by
 obtain ⟨L,e,P⟩ := Hg m a (-1) false [] hn;unfold lE;rw [e];exact P
mutual
def Ca (s : Int) : An → Option An
 | .mk h ks => if cT h false ≠ 0 ∧ iF h = s then some (.mk h ks) else lF s ks
def lF (s : Int) : List An → Option An
 | [] => none
 | a :: l => match Ca s a with
  | some x => some x
  | none => lF s l
end
mutual
theorem Hh (s : Int) : ∀ a : An,Ca s a = (D6 a).find? fun x => decide (D7 x = s)
 | .mk h ks => by
  rw [Ca,D6,List.find?_append,Cb s ks]
  by_cases hz : cT h false = 0
  ·rw [if_neg (fun c => c.1 hz),if_pos hz]; rfl
  ·rw [if_neg hz]
   by_cases hs : iF h = s
   ·rw [if_pos ⟨hz,hs⟩]
    have : decide (D7 (An.mk h ks) = s) = true := decide_eq_true hs;simp [List.find?,this]
   ·rw [if_neg fun c => hs c.2]
    have : decide (D7 (An.mk h ks) = s) = false := decide_eq_false hs;simp [List.find?,this]
theorem Cb (s : Int) : ∀ l : List An,lF s l = (nD l).find? fun x => decide (D7 x = s)
 | [] => by rw [lF,nD]; rfl
 | a :: l => by
  rw [lF,nD,List.find?_append,← Hh s a,← Cb s l]
  cases Ca s a <;> rfl
end
theorem J2 {l : List An} (hn : (l.map D7).Nodup) {j : Nat} {x : An} (hx : l[j]? = some x) : l.find? (fun y => decide (D7 y = D7 x)) = some x := by
 induction l generalizing j with
 | nil => cases hx
 | cons a l ih =>
  rw [List.map_cons,List.nodup_cons] at hn
  cases j with
  | zero => obtain rfl := Option.some.inj hx; simp [List.find?]
  | succ j =>
   have hx : l[j]? = some x := by simpa using hx
   have hne : ¬ D7 a = D7 x := fun e => hn.1 (e ▸ List.mem_map_of_mem (List.mem_of_getElem? hx));rw [List.find?_cons_of_neg (by simpa using hne)];exact ih hn.2 hx
theorem L8 {s : ByteArray} {j : Nat} {x : An} (hx : (D6 (fL s))[j]? = some x) : Ca (D7 x) (fL s) = some x := by
 rw [Hh];exact J2 (by rw [Ak]; exact B1 s) hx
theorem rZ (nm : Nat → ByteArray) (an : Nat → An) (i : Nat) : ∀ K,i < K → ∃ r,cQ nm an K = cQ nm an i ++ (gA (cQ nm an i).length i (nm i) (an i) ++ r)
 | 0,h => absurd h (Nat.not_lt_zero _)
 | K + 1,h => by
  rw [gM]
  by_cases e : i = K
  ·subst e
   exact ⟨[],by rw [List.append_nil]⟩
  ·obtain ⟨r,h2⟩ := rZ nm an i K (by omega)
   exact ⟨r ++ gA (cQ nm an K).length K (nm K) (an K),by rw [h2]; simp only [List.append_assoc]⟩
theorem yH {n : Int} {i : Nat} {nm : ByteArray} {a : An} {j : Nat} : (gA n i nm a)[j + 1]? = (lE i a)[j]?.map (sh (n + 1)) := by
 unfold gA;rw [List.getElem?_cons_succ,List.getElem?_map]
theorem Hi {nm : Nat → ByteArray} {an : Nat → An} {i K : Nat} (h : i < K) : (cQ nm an K)[(cQ nm an i).length]? = some (iS i (nm i)) := by
 obtain ⟨r,e⟩ := rZ nm an i K h;rw [e,List.getElem?_append_right (Nat.le_refl _),Nat.sub_self];rfl
theorem D1 {nm : Nat → ByteArray} {an : Nat → An} {i K j : Nat} {z : Sy} (h : i < K) (hz : (lE i (an i))[j]? = some z) : (cQ nm an K)[(cQ nm an i).length + 1 + j]? = some (sh ((cQ nm an i).length + 1) z) := by
 obtain ⟨r,e⟩ := rZ nm an i K h;have hj := (List.getElem?_eq_some_iff.1 hz).1;have hl : (gA (cQ nm an i).length i (nm i) (an i)).length = (lE i (an i)).length + 1 := by simp [gA]
 rw [e,List.getElem?_append_right (by omega),show (cQ nm an i).length + 1 + j - (cQ nm an i).length = j + 1 from by omega,List.getElem?_append_left (by rw [hl]; omega),yH,hz];rfl
theorem oB (nm : Nat → ByteArray) (an : Nat → An) : ∀ (K k : Nat) (y : Sy),(cQ nm an K)[k]? = some y → (y ∈ iX) ∨ ∃ i,i < K ∧ ((k = (cQ nm an i).length ∧ y = iS i (nm i)) ∨ ∃ j z,k = (cQ nm an i).length + 1 + j ∧ (lE i (an i))[j]? = some z ∧ y = sh ((cQ nm an i).length + 1) z)
 | 0,k,y,h => .inl (List.mem_of_getElem? h)
 | K + 1,k,y,h => by
  rw [gM] at h
  by_cases hk : k < (cQ nm an K).length
  ·rw [List.getElem?_append_left hk] at h
   exact (oB nm an K k y h).imp id fun ⟨i,h1,h2⟩ => ⟨i,by omega,h2⟩
  ·rw [List.getElem?_append_right (by omega)] at h
   refine .inr ⟨K,Nat.lt_succ_self _,?_⟩;obtain ⟨d,hd⟩ : ∃ d,k = (cQ nm an K).length + d := ⟨k - (cQ nm an K).length,by omega⟩;rw [hd,Nat.add_sub_cancel_left] at h
   cases d with
   | zero => obtain rfl := Option.some.inj h; exact .inl ⟨hd,rfl⟩
   | succ j =>
    rw [yH,Option.map_eq_some_iff] at h;obtain ⟨z,h1,rfl⟩ := h;exact .inr ⟨j,z,by omega,h1,rfl⟩
theorem Al (h : Hd) (lp : Bool) : cT h lp = 0 ∨ (2 ≤ cT h lp ∧ cT h lp ≤ 14) := by
 unfold cT Ae
 repeat' split
 all_goals omega
theorem J3 {m : Int} {h : Hd} {p : Int} {lp : Bool} {acc : List Sy} (ha : ∀ y ∈ acc,2 ≤ y.k ∧ y.k ≤ 14) : ∀ y ∈ eO m h p lp acc,2 ≤ y.k ∧ y.k ≤ 14 := by
 unfold eO
 split
 ·exact ha
 ·rename_i hz
  intro y hy
  rcases List.mem_append.1 hy with hy | hy
  ·exact ha y hy
  ·rw [List.mem_singleton.1 hy]
   exact (Al h lp).resolve_left hz
mutual
theorem Ky (m : Int) : ∀ (a : An) (p : Int) (lp : Bool) (acc : List Sy),(∀ y ∈ acc,2 ≤ y.k ∧ y.k ≤ 14) → ∀ y ∈ oC m a p lp acc,2 ≤ y.k ∧ y.k ≤ 14
 | .mk h ks,p,lp,acc,ha => by rw [oC]; exact Hj m ks _ _ _ (J3 ha)
theorem Hj (m : Int) : ∀ (qs : List An) (p : Int) (lp : Bool) (acc : List Sy),(∀ y ∈ acc,2 ≤ y.k ∧ y.k ≤ 14) → ∀ y ∈ fK m qs p lp acc,2 ≤ y.k ∧ y.k ≤ 14
 | [],p,lp,acc,ha => by rw [fK]; exact ha
 | a :: qs,p,lp,acc,ha => by rw [fK]; exact Hj m qs _ _ _ (Ky m a _ _ _ ha)
end
theorem vN (m : Int) (a : An) : ∀ y ∈ lE m a,2 ≤ y.k ∧ y.k ≤ 14 := Ky m a _ _ _ fun y hy => absurd hy List.not_mem_nil
theorem vO : ∀ y ∈ iX,y.k = 15 ∧ y.p = -1 ∧ y.m = -1 := by
 intro y hy;obtain ⟨z,_,rfl⟩ := List.mem_map.1 hy;exact ⟨rfl,rfl,rfl⟩
noncomputable def D3 (ms : List Md) (y : Sy) : Option An := if y.k = 1 then some (fL (ms.getD y.m.toNat (.empty,.empty)).2) else Ca y.s (fL (ms.getD y.m.toNat (.empty,.empty)).2)
theorem sA {ms : List Md} {i j : Nat} {z : Sy} {n : Int} (hz : (lE i (fL (ms.getD i (.empty,.empty)).2))[j]? = some z) : ∃ x,(D6 (fL (ms.getD i (.empty,.empty)).2))[j]? = some x ∧ D3 ms (sh n z) = some x := by
 obtain ⟨s,hs⟩ : ∃ s,(ms.getD i (.empty,.empty)).2 = s := ⟨_,rfl⟩;rw [hs] at hz ⊢;have hm := List.mem_of_getElem? hz;have h1 := vN i _ z hm;have h2 := rV i _ z hm;have h3 : ((lE i (fL s)).map (·.s))[j]? = some z.s := by rw [List.getElem?_map,hz]; rfl
 rw [Gz,← Ak,List.getElem?_map,Option.map_eq_some_iff] at h3;obtain ⟨x,hx,e⟩ := h3;refine ⟨x,hx,?_⟩;unfold D3;rw [if_neg (show ¬ (sh n z).k = 1 from by show ¬ z.k = 1; omega)]
 show Ca z.s (fL (ms.getD z.m.toNat (.empty,.empty)).2) = some x
 rw [h2,Int.toNat_natCast,hs,← e];exact L8 hx
theorem Hk {ms : List Md} {k : Nat} {y : Sy} (hy : (syms ms)[k]? = some y) (h15 : y.k ≠ 15) (h1 : y.k ≠ 1) :
  ∃ q x u v,y.p = ((q : Nat) : Int) ∧ q < k ∧ (syms ms)[q]? = some x ∧ x.m = y.m ∧ x.k ≠ 15 ∧ D3 ms x = some u ∧ D3 ms y = some v ∧ ins v u := by
 unfold syms at hy ⊢
 rcases oB _ _ _ _ _ hy with hb | ⟨i,hi,⟨_,rfl⟩ | ⟨j,z,hk,hz,rfl⟩⟩
 ·exact absurd (vO y hb).1 h15
 ·exact absurd rfl h1
 obtain ⟨x,hx,hn⟩ := sA (ms := ms) (n := (cQ (fun i => (ms.getD i (.empty,.empty)).1) (fun i => fL (ms.getD i (.empty,.empty)).2) i).length + 1) hz;have hnest := tV (ms.getD i (.empty,.empty)).2;have P := J0 (i : Int) hnest.1;have hm := rV i _ z (List.mem_of_getElem? hz);obtain ⟨B,hB⟩ : ∃ B,(cQ (fun i => (ms.getD i (.empty,.empty)).1) (fun i => fL (ms.getD i (.empty,.empty)).2) i).length = B := ⟨_,rfl⟩
 rcases P.par j z x hz hx with c | ⟨q,u,c1,c2,c3,c4⟩
 ·refine ⟨_,_,fL (ms.getD i (.empty,.empty)).2,x,?_,?_,Hi hi,?_,?_,?_,hn,?_⟩
  ·show z.p + _ = _
   rw [c]; omega
  ·omega
  ·exact hm.symm
  ·show (1 : Int) ≠ 15; decide
  ·unfold D3
   rw [if_pos (show (iS i _).k = 1 from rfl)]
   show some (fL (ms.getD ((i : Int)).toNat (.empty,.empty)).2) = _
   rw [Int.toNat_natCast]
  ·exact B8 _ hnest.1 x (List.mem_of_getElem? hx)
 ·have hq := (List.getElem?_eq_some_iff.1 hz).1
  obtain ⟨zq,hzq⟩ : ∃ zq,(lE i (fL (ms.getD i (.empty,.empty)).2))[q]? = some zq := ⟨_,List.getElem?_eq_getElem (by omega)⟩;obtain ⟨u',hu',hn'⟩ := sA (ms := ms) (n := (cQ (fun i => (ms.getD i (.empty,.empty)).1) (fun i => fL (ms.getD i (.empty,.empty)).2) i).length + 1) hzq;rw [c3] at hu';obtain rfl := Option.some.inj hu';have hmq := rV i _ zq (List.mem_of_getElem? hzq);have hkq := vN i _ zq (List.mem_of_getElem? hzq);refine ⟨_,_,u,x,?_,?_,D1 hi hzq,?_,?_,hn',hn,c4⟩
  ·show z.p + _ = _
   rw [c2]; omega
  ·omega
  ·exact hmq.trans hm.symm
  ·show zq.k ≠ 15; omega
theorem J4 {ms : List Md} {k : Nat} {y : Sy} (hy : (syms ms)[k]? = some y) (h1 : y.k = 1) : ∃ i,∃ h : i < ms.length,y.m = (i : Int) ∧ ∃ u,D3 ms y = some u ∧ u.hd.st = 0 ∧ u.hd.en = ms[i].2.size := by
 unfold syms at hy
 rcases oB _ _ _ _ _ hy with hb | ⟨i,hi,⟨_,rfl⟩ | ⟨j,z,hk,hz,rfl⟩⟩
 ·have := (vO y hb).1; omega
 ·refine ⟨i,hi,rfl,fL ms[i].2,?_,(tV _).2⟩
  unfold D3;rw [if_pos h1]
  show some (fL (ms.getD ((i : Int)).toNat (.empty,.empty)).2) = _
  rw [Int.toNat_natCast];simp [List.getD,hi]
 ·have := vN i _ z (List.mem_of_getElem? hz)
  exact absurd h1 (show z.k ≠ 1 by omega)
theorem L9 {ms : List Md} {k : Nat} {y : Sy} (hy : (syms ms)[k]? = some y) (h15 : y.k ≠ 15) : ∃ i u,i < ms.length ∧ y.m = ((i : Nat) : Int) ∧ D3 ms y = some u := by
 unfold syms at hy
 rcases oB _ _ _ _ _ hy with hb | ⟨i,hi,⟨_,rfl⟩ | ⟨j,z,hk,hz,rfl⟩⟩
 ·exact absurd (vO y hb).1 h15
 ·exact ⟨i,fL (ms.getD ((i : Int)).toNat (.empty,.empty)).2,hi,rfl,by unfold D3; exact if_pos rfl⟩
 ·obtain ⟨x,_,hn⟩ := sA (ms := ms) (n := (cQ (fun i => (ms.getD i (.empty,.empty)).1) (fun i => fL (ms.getD i (.empty,.empty)).2) i).length + 1) hz
  exact ⟨i,x,hi,rV i _ z (List.mem_of_getElem? hz),hn⟩
theorem Trs.at {ms : List Md} {mns : List Mn} (h : Trs ms mns) {i : Nat} (hi : i < mns.length) (hj : i < ms.length) : mns[i].er = fL (ms.getD i (.empty,.empty)).2 := by
 obtain ⟨t,h1,h2⟩ := h.2 i hi hj;rw [h2,oV h1];simp [fL,List.getD,hj]
theorem Hl (ms : List Md) : 4 ≤ (syms ms).length := by
 have key : ∀ (nm : Nat → ByteArray) (an : Nat → An) k,4 ≤ (cQ nm an k).length := by
  intro nm an k
  induction k with
  | zero => exact Nat.le_refl 4
  | succ k ih => rw [gM,List.length_append]; omega
 exact key _ _ _
theorem Hm {ms : List Md} {k : Nat} {y : Sy} (hy : (syms ms)[k]? = some y) (h1 : y.k = 15) : y.p = -1 := by
 unfold syms at hy
 rcases oB _ _ _ _ _ hy with hb | ⟨i,hi,⟨_,rfl⟩ | ⟨j,z,hk,hz,rfl⟩⟩
 ·exact (vO y hb).2.1
 ·exact absurd h1 (show (1 : Int) ≠ 15 by decide)
 ·have := vN i _ z (List.mem_of_getElem? hz)
  exact absurd h1 (show z.k ≠ 15 by omega)
end Go.Proofs.YtiogccmfmjhipaaGreatDoor.Sym
namespace Go.Proofs.YtiogccmfmjhipaaGreatDoor.Sym
set_option maxRecDepth 20000
open Go.Gx Go.RowKit Go.Lib
open Lexi (Asc tok)
open Par Ast
theorem yI (s : Int) (a b : List An) : lF s (a ++ b) = (lF s a).or (lF s b) := by
 induction a with
 | nil => rw [lF]; rfl
 | cons x a ih =>
  rw [List.cons_append,lF,lF,ih]
  cases Ca s x <;> rfl
def zHd : Hd := ⟨0,0,.empty,0,0,0⟩
def Ma : Mn := .mk zHd (.slice none 0 0) []
theorem Kz (w : World) : (Instr.build 27 [].toArray).run Tryz.prog w = .ok (.agg Ma.cells.toArray) w := by kernel_rfl
theorem aAb (F : Fs) (w : World) : NOk F w Ma := .mk (Bb _ _) rfl (fun z hz => by cases hz) fun g hg => by cases hg
theorem pO : ∀ (n : Nat),n ≤ 1000000 → ∀ (g : Mn),anc g.er ≤ n → ∀ (F : Fs) (w : World) (s : Int),NOk F w g → Und F w.heap.size →
  Cl Tryz.prog 108 #[.agg g.cells.toArray,.int .i64 s] w (fun u w' => (∃ (x : Mn) (b : Bool),u = .tuple #[.agg x.cells.toArray,.bool b] ∧ NOk F w' x ∧ Ca s g.er = if b then some x.er else none) ∧ Ext w w') := by
 intro n
 induction n with
 | zero =>
  intro hnm g hn
  cases g
  simp [Mn.er,anc] at hn
 | succ n ih =>
  intro hnm g hn F w s hg hU;obtain ⟨h,cv,kids⟩ := g;have hog := hg.oneL;obtain ⟨hs,hone,hbk,hkk⟩ : SlC w cv 7 kids.length (aN Mn.cells kids) ∧ cv.oneCell' = true ∧ jL F cv ∧ ∀ g ∈ kids,NOk F w g := by cases hg with | mk a b c d => exact ⟨a,b,c,d⟩
  simp only [Mn.er,anc] at hn;have hkl := xV (kB kids);rw [iJ] at hkl;have hx := Ext.refl w;have hsx := hs;obtain ⟨k,hk⟩ : ∃ k,cT h false = k := ⟨_,rfl⟩;obtain ⟨d,hd⟩ : ∃ d,iF h = d := ⟨_,rfl⟩;have hfe : Ca s (.mk h (kB kids)) = if k ≠ 0 ∧ d = s then some (.mk h (kB kids)) else lF s (kB kids) := by rw [Ca,hk,hd]
  refine Cl.enter Tryz.func108 rfl Tryz.ntmps108 rfl rfl (.sr (Rg.wd trivial (bA (cs := (Mn.mk h cv kids).cells) rfl rfl) rfl ?_));rintro _ w1 ⟨b2,rfl,q2,hx1,hv2⟩;replace hx := hx.ext hx1;replace hsx := hsx.ext hx1;have lt2 := hv2.lt;have le2 := hx.le;refine Rg.wd trivial (cJ Tryz.zeroValue27 rfl) rfl ?_;rintro _ w2 ⟨b4,rfl,q4,hx2,hv4⟩;replace hx := hx.ext hx2;replace hsx := hsx.ext hx2;replace hv2 := hv2.ext hx2;have g4 : w.heap.size ≤ b4 := by omega
  have n4 : ¬ F b4 := fun hf => by have := hU b4 hf; omega
  have b24 : b2 ≠ b4 := by omega
  refine .a2 rfl (.done (.seq ?_));refine Wp.seq (Wp.cut (fun L w' => Gx.Sub [(1,.int .i64 s),(2,.pointer (some ⟨b2,0,none⟩)),(4,.pointer (some ⟨b4,0,none⟩)),(5,.bool false),(18,.bool (decide (k ≠ 0 ∧ d = s)))] L ∧ Ext w2 w') ?_ ?_)
  ·have hq := Ext.refl w2
   (rcases (by by_cases h0 : k = 0; exact .inr (.inr h0); by_cases h1 : d = s; exact .inl ⟨h0,h1⟩; exact .inr (.inl ⟨h0,h1⟩) : (k ≠ 0 ∧ d = s) ∨ (k ≠ 0 ∧ d ≠ s) ∨ k = 0) with ⟨h0,h1⟩ | ⟨h0,h1⟩ | h0)
   ·skip
    refine Wp.region ?_;refine .t2 (bD rfl hv2.cells (by rw [Mn.len]; exact cR)) ?_;refine Rg.wd trivial (aC Tryz.call167 rfl kZ) rfl ?_;rintro _ w3 ⟨rfl,hx3⟩;replace hx := hx.ext hx3;replace hsx := hsx.ext hx3;replace hv2 := hv2.ext hx3;replace hv4 := hv4.ext hx3;replace hq := hq.ext hx3;rw [hk];refine .t2 (eM rfl rfl h0) (.m2 rfl ?_);refine .g2 (bD rfl hv2.cells (by rw [Mn.len]; exact cR)) ?_;refine Rg.wd ⟨_,rfl,rfl⟩ (aC Tryz.call168 rfl oR) rfl ?_;rintro _ w4 ⟨rfl,hx4⟩;replace hx := hx.ext hx4;replace hsx := hsx.ext hx4;replace hv2 := hv2.ext hx4;replace hv4 := hv4.ext hx4;replace hq := hq.ext hx4;rw [hd];refine .g2 (aL rfl) (.g2 (aX rfl rfl h1) (.t2 (aM rfl rfl) ?_));rw [show true = decide (k ≠ 0 ∧ d = s) from (decide_eq_true ⟨h0,h1⟩).symm];refine .done ?_;exact ⟨by repeat (first | exact .nil | refine .cons rfl ?_),hq⟩
   ·skip
    refine Wp.region ?_;refine .t2 (bD rfl hv2.cells (by rw [Mn.len]; exact cR)) ?_;refine Rg.wd trivial (aC Tryz.call167 rfl kZ) rfl ?_;rintro _ w3 ⟨rfl,hx3⟩;replace hx := hx.ext hx3;replace hsx := hsx.ext hx3;replace hv2 := hv2.ext hx3;replace hv4 := hv4.ext hx3;replace hq := hq.ext hx3;rw [hk];refine .t2 (eM rfl rfl h0) (.m2 rfl ?_);refine .g2 (bD rfl hv2.cells (by rw [Mn.len]; exact cR)) ?_;refine Rg.wd ⟨_,rfl,rfl⟩ (aC Tryz.call168 rfl oR) rfl ?_;rintro _ w4 ⟨rfl,hx4⟩;replace hx := hx.ext hx4;replace hsx := hsx.ext hx4;replace hv2 := hv2.ext hx4;replace hv4 := hv4.ext hx4;replace hq := hq.ext hx4;rw [hd];refine .g2 (aL rfl) (.g2 (aQ rfl rfl h1) (.t2 (aM rfl rfl) ?_));rw [show false = decide (k ≠ 0 ∧ d = s) from (decide_eq_false fun c => h1 c.2).symm];refine .done ?_;exact ⟨by repeat (first | exact .nil | refine .cons rfl ?_),hq⟩
   ·skip
    refine Wp.region ?_;refine .t2 (bD rfl hv2.cells (by rw [Mn.len]; exact cR)) ?_;refine Rg.wd trivial (aC Tryz.call167 rfl kZ) rfl ?_;rintro _ w3 ⟨rfl,hx3⟩;replace hx := hx.ext hx3;replace hsx := hsx.ext hx3;replace hv2 := hv2.ext hx3;replace hv4 := hv4.ext hx3;replace hq := hq.ext hx3;rw [hk];refine .t2 (eC rfl rfl h0) (.m2 rfl (.so rfl rfl (.so rfl rfl (.so rfl rfl (.so rfl rfl (.t2 (aP rfl rfl) ?_))))));rw [show false = decide (k ≠ 0 ∧ d = s) from (decide_eq_false fun c => c.1 h0).symm];refine .done ?_;exact ⟨by repeat (first | exact .nil | refine .cons rfl ?_),hq⟩
  ·rintro L' w3 ⟨hs',hx3⟩
   refine Wp.sub hs' ?_;replace hx := hx.ext hx3;replace hsx := hsx.ext hx3;replace hv2 := hv2.ext hx3;replace hv4 := hv4.ext hx3
   by_cases hc : k ≠ 0 ∧ d = s
   ·rw [decide_eq_true hc]
    refine .condT rfl (.sr ?_);refine .t2 (bD rfl hv2.cells (by rw [Mn.len]; exact cR)) ?_;refine Rg.wn trivial (cB (cs := (Mn.mk h cv kids).cells) hv4 rfl rfl rfl (by rw [Mn.len]; exact cR) (by rw [Mn.len]; rfl) hog) ?_;rintro _ w4 ⟨hu4,hv4x⟩;have hxe := hx.upd hu4 g4;refine .a2 rfl (.done (Wp.ret ?_));rw [if_pos hc] at hfe;exact ⟨[_,_],⟨⟨_,rfl,iC hv4x (by exact cR)⟩,rfl,trivial⟩,⟨.mk h cv kids,true,rfl,hg.bw (Bw.of hxe hU) fun z hz => hz,hfe⟩,hxe⟩
   ·rw [decide_eq_false hc]
    rw [if_neg hc] at hfe;refine .condF rfl (Wp.skip (.seq (.sr (.t2 (aA qR rfl) (.t2 (aB yY rfl (hv2.g 6 rfl)) (.t2 (bV hsx Tryz.underlying25 rfl) (.m2 rfl (.done (Wp.block ?_)))))))));clear hv2;refine Wp.loop (ι := Nat) (fun i => [(1,.int .i64 s),(4,.pointer (some ⟨b4,0,none⟩)),(21,cv),(22,.int .i64 kids.length),(23,.int .i64 i)])
     (fun i w' => i ≤ kids.length ∧ lF s (kB (kids.take i)) = none ∧ Var w' b4 ((Value.agg Ma.cells.toArray).cells.toList) 27 ∧ Ext w w') (fun i => kids.length - i) 0 (by repeat (first | exact .nil | refine .cons rfl ?_)) ⟨Nat.zero_le _,rfl,hv4,hx⟩ ?_
    clear hv4 hx hsx;rintro i wl ⟨hi,hno,hv4,hx⟩;have hsx := hs.ext hx
    by_cases hlt : i < kids.length
    ·have hcm : anc kids[i].er ≤ gW (kB kids) := xW (by rw [← vC kids i hlt]; exact List.getElem_mem _)
     have hgi : NOk F wl kids[i] := NOk.bw (hkk _ (List.getElem_mem hlt)) (Bw.of hx hU) fun z hz => hz;have hUl : Und F wl.heap.size := fun z hz => by have := hU z hz; have := hx.le; omega
     have hogi := hgi.oneL;have hstep : lF s (kB (kids.take (i + 1))) = Ca s kids[i].er := by
      rw [List.take_succ_eq_append_getElem hlt,uU,yI,hno]
      show lF s [kids[i].er] = _
      rw [lF,lF]
      cases Ca s kids[i].er <;> rfl
     have hxx := Ext.refl wl;refine .sr ?_
     first | refine .tq (bG rfl rfl (by omega)) rfl ?_ | refine .tq (bJ rfl rfl (by omega)) rfl ?_ | refine .tq (cU rfl rfl) rfl ?_
     refine .done (.seq (.condT rfl (Wp.skip (.seq (Wp.block (.sr ?_))))));refine Rg.ix hsx trivial rfl rfl Tryz.underlying25 cR (by omega) rfl ?_;intro bt25 ot25 ht25;rw [Int.toNat_natCast,bT Mn.len kids i hlt] at ht25;refine .t2 (bD rfl ht25 (by rw [Mn.len]; exact cR)) ?_;refine Rg.wd trivial (cJ Tryz.zeroValue27 rfl) rfl ?_;rintro _ wab7 ⟨b7,rfl,qb7,f,j⟩;refine Rg.wn trivial (cB (cs := kids[i].cells) j rfl rfl rfl (by rw [Mn.len]; exact cR) (by rw [Mn.len]; rfl) (hogi)) ?_;rintro _ w31 ⟨hub7,hvb7⟩;have hx31 := f.upd hub7 (Nat.le_of_eq qb7.symm);clear j hub7 f;replace hx := hx.ext hx31;replace hsx := hsx.ext hx31;replace hv4 := hv4.ext hx31;replace hxx := hxx.ext hx31;replace ht25 := ht25.ext hx31;clear qb7;refine .done (.sr ?_);refine .t2 (bD rfl hvb7.cells (by rw [Mn.len]; exact cR)) ?_;refine .m2 rfl ?_;refine Rg.wd trivial (aC Tryz.call108 rfl (ih (by omega) kids[i] (by omega) F _ s (hgi.bw (Bw.of hxx hUl) fun z hz => hz) fun z hz => by have := hUl z hz; have := hxx.le; omega)) rfl ?_;rintro _ w32 ⟨⟨x,bb,rfl,hxo,hfx⟩,hx32⟩;have hox := hxo.oneL;replace hx := hx.ext hx32;replace hsx := hsx.ext hx32;replace hv4 := hv4.ext hx32;replace hxx := hxx.ext hx32;replace ht25 := ht25.ext hx32;replace hvb7 := hvb7.ext hx32;have hxr := Ext.refl w32;have hUr : Und F w32.heap.size := fun z hz => by have := hU z hz; have := hx.le; omega
     obtain ⟨xh,xv,xk⟩ := x;obtain ⟨xp,xc,rfl⟩ : ∃ p q,xv = .slice p xk.length q := by
      cases hxo with | mk a _ _ _ => obtain ⟨_,p,c,rfl,_⟩ := a; exact ⟨p,c,rfl⟩
     refine .m2 rfl (.t2 (aV rfl rfl) (.t2 (aV rfl rfl) (Rg.wd trivial (cJ Tryz.zeroValue27 rfl) rfl ?_)));rintro _ wab8 ⟨b8,rfl,qb8,l,m⟩;refine Rg.wn trivial (cB (cs := (Mn.mk xh (.slice xp xk.length xc) xk).cells) m rfl rfl rfl (by rw [Mn.len]; exact cR) (by rw [Mn.len]; rfl) (hox)) ?_;rintro _ w33 ⟨hub8,hvb8⟩;have hx33 := l.upd hub8 (Nat.le_of_eq qb8.symm);clear m hub8 l;replace hx := hx.ext hx33;replace hsx := hsx.ext hx33;replace hv4 := hv4.ext hx33;replace hxx := hxx.ext hx33;replace ht25 := ht25.ext hx33;replace hvb7 := hvb7.ext hx33;replace hxr := hxr.ext hx33;clear qb8;refine .a2 rfl (.done ?_)
     cases bb with
     | true =>
      refine .sr (.m2 rfl (.done (.condT rfl (.sr ?_))));refine .t2 (bD rfl hvb8.cells (by rw [Mn.len]; exact cR)) ?_;refine Rg.wn trivial (cB (cs := (Mn.mk xh (.slice xp xk.length xc) xk).cells) hv4 rfl rfl rfl (by rw [Mn.len]; exact cR) (by rw [Mn.len]; rfl) hox) ?_;rintro _ w34 ⟨hu4,hv4x⟩;have hxe := hx.upd hu4 g4;refine .a2 rfl (.done (Wp.ret ?_));rw [if_pos rfl] at hfx;have hful : lF s (kB kids) = some (Mn.mk xh (.slice xp xk.length xc) xk).er := by
       have e := yI s (kB (kids.take (i + 1))) (kB (kids.drop (i + 1)));rw [← uU,List.take_append_drop,hstep,hfx] at e;exact e
      exact ⟨[_,_],⟨⟨_,rfl,iC hv4x (by exact cR)⟩,rfl,trivial⟩,⟨_,true,rfl,hxo.bw ((Bw.of hxr hUr).trans (Bw.upd hu4 n4)) fun z hz => hz,hfe.trans hful⟩,hxe⟩
     | false =>
      refine .sr (.m2 rfl (.done (.condF rfl (Wp.skip (Wp.region ?_)))))
      first | refine .tq (bE rfl rfl (by omega)) rfl ?_ | refine .tq (fR rfl rfl) rfl ?_
      refine .m2 rfl (.done ?_);exact ⟨i + 1,by repeat (first | exact .nil | refine .cons rfl ?_),⟨hlt,hstep.trans hfx,hv4,hx⟩,by omega⟩
    ·obtain rfl : i = kids.length := by omega
     rw [List.take_length] at hno;refine .sr ?_
     first | refine .tq (bG rfl rfl (by omega)) rfl ?_ | refine .tq (bJ rfl rfl (by omega)) rfl ?_ | refine .tq (cU rfl rfl) rfl ?_
     refine .done (.seq (.condF rfl (Wp.exit (.sr (.t2 (bR Kz rfl) ?_)))));refine Rg.wn trivial (cB (cs := Ma.cells) hv4 rfl rfl rfl (by exact cR) rfl rfl) ?_;rintro _ w31 ⟨hu4,hv4x⟩;have hxe := hx.upd hu4 g4;refine .a2 rfl (.done (Wp.ret ?_));exact ⟨[_,_],⟨⟨_,rfl,iC hv4x (by exact cR)⟩,rfl,trivial⟩,⟨Ma,false,rfl,aAb _ _,hfe.trans hno⟩,hxe⟩
theorem D4 {w : World} {v : Value} {ms : List Md} {k : Nat} {y : Sy} (hA : Asc w) (hE : Er w) (hs0 : SlC w v 2 ms.length (aN gX ms)) (hlen : ms.length < 4611686018427387904) (h0 : lA ms = 0) (hy : (syms ms)[k]? = some y) :
  Cl Tryz.prog 61 #[v,.int .i64 k] w (fun u w' => (∃ (g : Mn) (c : Int),u = .tuple #[.agg g.cells.toArray,.int .i64 c] ∧ g.cells.all (·.oneCell') = true ∧ ((y.k = 15 ∧ c = 5) ∨ (y.k ≠ 15 ∧ c = 0 ∧ D3 ms y = some g.er))) ∧ Ext w w') := by
 have hx := Ext.refl w;obtain ⟨hkl,hyk⟩ := List.getElem?_eq_some_iff.1 hy;obtain ⟨h8,hsz⟩ := gH h0;refine Cl.enter Tryz.func61 rfl Tryz.ntmps61 rfl rfl (.sr ?_)
 skip
 refine Rg.wd trivial (cJ Tryz.zeroValue27 rfl) rfl ?_;rintro _ w1 ⟨b4,rfl,q4,hx1,hv4⟩;replace hx := hx.ext hx1;have g4 : w.heap.size ≤ b4 := Nat.le_of_eq q4.symm;refine .a2 rfl (.done (.sr (.m2 rfl (Rg.wd trivial (aC Tryz.call57 rfl (pL (hA.ext hx) (dZ hE hx) (hs0.ext hx) hlen)) rfl ?_))));rintro _ w2 (⟨h0',_⟩ | ⟨_,K,mns,lv,dv,ds,R⟩)
 ·exact absurd h0 h0'
 have hT := R.tr;have hl := R.len;have hx2 := R.pa.x;have hlv := R.slv;have hK := R.pa.und;have hN := R.pa.nk;have hlo := R.pa.lo;obtain rfl := R.ue;clear R;replace hx := hx.ext hx2;replace hv4 := hv4.ext hx2;refine .m2 rfl (.t2 (aV rfl rfl) (.t2 (aV rfl rfl) (.t2 (aV rfl rfl) (.a2 rfl (.a2 rfl (.a2 rfl (.done (.seq (.sr (.m2 rfl (.t2 (eC rfl rfl rfl) (.done ?_))))))))))));refine .condF rfl (Wp.skip (.sr (.m2 rfl (.m2 rfl (Rg.wd trivial (aC Tryz.call58 rfl (Bu (hs0.ext hx) hlv hK hN hl h8 (hT.anc hl hsz))) rfl ?_)))));rintro sv w3 ⟨hsv,hso,hx3⟩;rw [hT.syms hl] at hsv;replace hN : ∀ g ∈ mns,NOk K w3 g := fun g hg => (hN g hg).bw (Bw.of hx3 hK) fun z hz => hz;replace hK : Und K w3.heap.size := fun z hz => by have := hK z hz; have := hx3.le; omega
 replace hx := hx.ext hx3;replace hv4 := hv4.ext hx3;replace hlv := hlv.ext hx3;refine .a2 rfl (.done (.seq ?_))
 by_cases h15 : y.k = 15
 ·skip
  refine .sr (.m2 rfl ?_);refine .t2 (bJ rfl rfl (by omega)) ?_;refine .m2 rfl (.g2 (aL rfl) (.g2 (aL rfl) (.g2 (bV hsv Tryz.underlying53 rfl) ?_)));refine .g2 (iU rfl rfl (by omega)) ?_;refine .t2 (aP rfl rfl) (.m2 rfl (.g2 (aL rfl) (.g2 (aL rfl) ?_)));refine Rg.ix hsv ⟨_,rfl,rfl⟩ rfl rfl Tryz.underlying53 eG (by omega) rfl ?_;intro bt37 ot37 ht37;rw [Int.toNat_natCast,bT dS (syms ms) k hkl,hyk] at ht37;refine .g2 (aA lR rfl) (.g2 (aB bB rfl (bC.get (i := 0) ht37 rfl)) ?_);refine .g2 (aX rfl rfl (by exact h15)) ?_;refine .t2 (aP rfl rfl) (.done (.condT rfl (.sr (.t2 (bR Kz rfl) ?_))));refine Rg.wn trivial (cB (cs := Ma.cells) hv4 rfl rfl rfl (by exact cR) rfl rfl) ?_;rintro _ w4 ⟨hu4,hv4x⟩;have hxe := hx.upd hu4 g4;refine .a2 rfl (.done (Wp.ret ?_));exact ⟨[_,_],⟨⟨_,rfl,iC hv4x (by exact cR)⟩,rfl,trivial⟩,⟨Ma,5,rfl,rfl,.inl ⟨h15,rfl⟩⟩,hxe⟩
 ·skip
  obtain ⟨i,u,hi,hym,hun⟩ := L9 hy h15;have him : i < mns.length := by omega
  have hat := hT.at him hi;obtain ⟨g,hg⟩ : ∃ g,mns[i] = g := ⟨_,rfl⟩;have hgi := hN _ (List.getElem_mem him);rw [hg] at hat hgi;have hgo := hgi.oneL;have hga : anc g.er ≤ 50000 := by rw [← hg]; exact hT.anc hl hsz _ (List.getElem_mem him)
  refine .sr (.m2 rfl ?_);refine .t2 (bJ rfl rfl (by omega)) ?_;refine .m2 rfl (.g2 (aL rfl) (.g2 (aL rfl) (.g2 (bV hsv Tryz.underlying53 rfl) ?_)));refine .g2 (iU rfl rfl (by omega)) ?_;refine .t2 (aP rfl rfl) (.m2 rfl (.g2 (aL rfl) (.g2 (aL rfl) ?_)));refine Rg.ix hsv ⟨_,rfl,rfl⟩ rfl rfl Tryz.underlying53 eG (by omega) rfl ?_;intro bt37 ot37 ht37;rw [Int.toNat_natCast,bT dS (syms ms) k hkl,hyk] at ht37;refine .g2 (aA lR rfl) (.g2 (aB bB rfl (bC.get (i := 0) ht37 rfl)) ?_);refine .g2 (aQ rfl rfl (by exact h15)) ?_;refine .t2 (aP rfl rfl) (.done (.condF rfl (Wp.skip (.sr (.m2 rfl (.m2 rfl ?_))))));refine Rg.ix hsv trivial rfl rfl Tryz.underlying53 eG (by omega) rfl ?_;intro bt45 ot45 ht45;rw [Int.toNat_natCast,bT dS (syms ms) k hkl,hyk] at ht45;refine .t2 (bD rfl ht45 (by exact eG)) ?_;refine Rg.wd trivial (cJ Tryz.zeroValue59 rfl) rfl ?_;rintro _ wab10 ⟨b10,rfl,qb10,d,e⟩;refine Rg.wn trivial (cB (cs := (lC y)) e rfl rfl rfl (eG) (rfl) (rfl)) ?_;rintro _ w4 ⟨hub10,hvb10⟩;have hx4 := d.upd hub10 (Nat.le_of_eq qb10.symm);clear e hub10 d;replace hx := hx.ext hx4;replace hv4 := hv4.ext hx4;replace hlv := hlv.ext hx4;replace hsv := hsv.ext hx4;replace ht37 := ht37.ext hx4;replace ht45 := ht45.ext hx4;clear qb10;refine .done (.seq ?_)
  by_cases h1 : y.k = 1
  ·skip
   refine .sr (.t2 (aA lR rfl) (.t2 (aB bB rfl (hvb10.g 0 rfl)) (.t2 (aX rfl rfl h1) (.done (.condT rfl (.sr (.m2 rfl (.t2 (aA gS rfl) (.t2 (aB bB rfl (hvb10.g 1 rfl)) ?_)))))))));rw [hym];refine Rg.ix hlv trivial rfl rfl Tryz.underlying25 cR (by omega) rfl ?_;intro bt53 ot53 ht53;rw [Int.toNat_natCast,bT Mn.len mns i him,hg] at ht53;refine .t2 (bD rfl ht53 (by rw [Mn.len]; exact cR)) ?_;refine Rg.wn trivial (cB (cs := g.cells) hv4 rfl rfl rfl (by rw [Mn.len]; exact cR) (by rw [Mn.len]; rfl) hgo) ?_;rintro _ w5 ⟨hu4,hv4x⟩;have hxe := hx.upd hu4 g4;refine .a2 rfl (.done (Wp.ret ?_));refine ⟨[_,_],⟨⟨_,rfl,iC hv4x (by rw [Mn.len]; exact cR)⟩,rfl,trivial⟩,⟨g,0,rfl,hgo,.inr ⟨h15,rfl,?_⟩⟩,hxe⟩;unfold D3;rw [if_pos h1,hym,Int.toNat_natCast,hat]
  ·skip
   refine .sr (.t2 (aA lR rfl) (.t2 (aB bB rfl (hvb10.g 0 rfl)) (.t2 (aQ rfl rfl h1) (.done (.condF rfl (Wp.skip ?_))))));have hfu : Ca y.s g.er = some u := by
    rw [hat];unfold D3 at hun;rw [if_neg h1,hym,Int.toNat_natCast] at hun;exact hun
   obtain ⟨bm,om,cm,rfl,hcm⟩ : ∃ bm om cm,lv = .slice (some ⟨bm,om,none⟩) mns.length cm ∧ bC w4 bm om (aN Mn.cells mns) := by
    obtain ⟨_,p,cap,rfl,hcap,h0 | ⟨b1,o1,rfl,h1⟩⟩ := hlv
    ·omega
    ·exact ⟨b1,o1,cap,rfl,h1⟩
   have hcmi : bC w4 bm (om + i * 7) g.cells := by rw [← hg]; exact bC.at hcm Mn.len him
   have hK4 : Und K w4.heap.size := fun z hz => by have := hK z hz; have := hx4.le; omega
   replace hgi := hgi.bw (Bw.of hx4 hK) fun z hz => hz;refine Wp.seq (Wp.cut (fun L w' => ∃ i_ : Mn × Nat,Sub ((fun i => [(4,.pointer (some ⟨b4,0,none⟩)),(11,.pointer (some ⟨i.2,0,none⟩))]) i_) L ∧ (fun i w' => u = i.1.er ∧ i.1.cells.all (·.oneCell') = true ∧ Var w' i.2 i.1.cells 27 ∧ Ext w4 w') i_ w') ?_ ?_)
   ·skip
    refine Wp.drawB (fun w' => Var w' b10 (lC y) 59 ∧ bC w' bm (om + i * 7) g.cells) 14 mixed ?_;intro w5 hx5 hh5;replace hvb10 := hvb10.ext hx5;refine ⟨⟨hvb10,fun j v hv => dD (hx5) (hcmi j v hv)⟩,?_⟩;have hyB := hx5;refine Qb.tameW (by kernel_rfl) 0 rfl (by kernel_rfl) trivial (cN fun wz => aL rfl) rfl ?_;refine Qb.tameW (by kernel_rfl) 1 rfl (by kernel_rfl) trivial (cN fun wz => aA gS rfl) rfl ?_;refine Qb.tame (by kernel_rfl) 2 rfl (by kernel_rfl) trivial (ts fun wz hkz => by exact aB bB rfl (hkz.1.g 1 rfl)) rfl ?_;rw [hym];refine Qb.tameW (by kernel_rfl) 3 rfl (by kernel_rfl) trivial (cN fun wz => bH Tryz.underlying25 cR rfl rfl (by omega)) rfl ?_;rw [Int.toNat_natCast];refine Qb.tame (by kernel_rfl) 4 rfl (by kernel_rfl) trivial (ts fun wz hkz => by exact bD rfl hkz.2 (by rw [Mn.len]; exact cR)) rfl ?_;refine Qb.tameW (by kernel_rfl) 5 rfl (by kernel_rfl) trivial (cN fun wz => aA mX rfl) rfl ?_;refine Qb.tame (by kernel_rfl) 6 rfl (by kernel_rfl) trivial (ts fun wz hkz => by exact aB bB rfl (hkz.1.g 2 rfl)) rfl ?_;refine Qb.alt2 (i := 7) (j := 11) (by kernel_rfl) ?_ ?_
    ·skip
     refine ⟨_,_,rfl,rfl,trivial,aC Tryz.call108 rfl (pO 50000 (by decide) g hga K _ y.s (hgi.bw (Bw.of hyB hK4) fun z hz => hz) fun z hz => by have := hK4 z hz; have := hyB.le; omega),rfl,fun _ _ hr => ⟨hvb10.ext hr.2,fun j v hv => dD (hyB.ext hr.2) (hcmi j v hv)⟩,?_⟩;rintro _ w6 ⟨⟨x,bb,rfl,hxo,hfx⟩,hx6⟩;have hxc := hxo.oneL;rw [hfu] at hfx;obtain rfl : bb = true := by cases bb; cases hfx; rfl
     obtain rfl : u = x.er := Option.some.inj hfx;obtain ⟨xh,xv,xk⟩ := x;obtain ⟨xp,xq,rfl⟩ : ∃ p q,xv = .slice p xk.length q := by
      cases hxo with | mk a _ _ _ => obtain ⟨_,p,c,rfl,_⟩ := a; exact ⟨p,c,rfl⟩
     clear hxo;replace hvb10 := hvb10.ext hx6;replace hyB := hyB.ext hx6;refine Qb.tameW (by kernel_rfl) 8 rfl (by kernel_rfl) trivial (cN fun wz => aL rfl) rfl ?_;refine Qb.tameW (by kernel_rfl) 9 rfl (by kernel_rfl) trivial (cN fun wz => aV rfl rfl) rfl ?_;refine Qb.tameW (by kernel_rfl) 10 rfl (by kernel_rfl) trivial (cN fun wz => aV rfl rfl) rfl ?_;refine Qb.alt1 (i := 11) (by kernel_rfl) ?_;have lt10 := hvb10.lt;have leB := hyB.le;refine ⟨_,_,rfl,rfl,trivial,cJ Tryz.zeroValue27 rfl,rfl,fun _ _ hr => by obtain ⟨_,_,_,hr,_⟩ := hr; exact ⟨hvb10.ext hr,fun j v hv => dD (hyB.ext hr) (hcmi j v hv)⟩,?_⟩;rintro _ w7 ⟨b11,rfl,q11,hx7,b⟩;have g11 : w4.heap.size ≤ b11 := by omega
     have n1011 : b10 ≠ b11 := by omega
     replace hvb10 := hvb10.ext hx7;replace hyB := hyB.ext hx7;refine Qb.alt1 (i := 12) (by kernel_rfl) ?_;refine ⟨_,_,rfl,rfl,trivial,cB (cs := (Mn.mk xh (.slice xp xk.length xq) xk).cells) b rfl rfl rfl (by rw [Mn.len]; exact cR) (by rw [Mn.len]; rfl) hxc,rfl,fun _ _ hr => ⟨hvb10.upd hr.1 n1011,fun j v hv => dD (hyB.upd hr.1 g11) (hcmi j v hv)⟩,?_⟩;rintro _ w8 ⟨hu11,hv11⟩;have hyz := hyB.upd hu11 g11;refine Qb.tameW (by kernel_rfl) 13 rfl (by kernel_rfl) trivial (cN fun wz => kE rfl) rfl ?_;refine Qb.done (by kernel_rfl) ?_;exact ⟨(_,b11),by repeat (first | exact .nil | refine .cons rfl ?_),rfl,hxc,hv11,hyz⟩
    ·skip
     have lt10 := hvb10.lt;have leB := hyB.le;refine ⟨_,_,rfl,rfl,trivial,cJ Tryz.zeroValue27 rfl,rfl,fun _ _ hr => by obtain ⟨_,_,_,hr,_⟩ := hr; exact ⟨hvb10.ext hr,fun j v hv => dD (hyB.ext hr) (hcmi j v hv)⟩,?_⟩;rintro _ w6 ⟨b11,rfl,q11,hx6,b⟩;have g11 : w4.heap.size ≤ b11 := by omega
     have n1011 : b10 ≠ b11 := by omega
     replace hvb10 := hvb10.ext hx6;replace hyB := hyB.ext hx6;refine Qb.alt1 (i := 7) (by kernel_rfl) ?_;refine ⟨_,_,rfl,rfl,trivial,aC Tryz.call108 rfl (pO 50000 (by decide) g hga K _ y.s (hgi.bw (Bw.of hyB hK4) fun z hz => hz) fun z hz => by have := hK4 z hz; have := hyB.le; omega),rfl,fun _ _ hr => ⟨hvb10.ext hr.2,fun j v hv => dD (hyB.ext hr.2) (hcmi j v hv)⟩,?_⟩;rintro _ w7 ⟨⟨x,bb,rfl,hxo,hfx⟩,hx7⟩;have hxc := hxo.oneL;rw [hfu] at hfx;obtain rfl : bb = true := by cases bb; cases hfx; rfl
     obtain rfl : u = x.er := Option.some.inj hfx;obtain ⟨xh,xv,xk⟩ := x;obtain ⟨xp,xq,rfl⟩ : ∃ p q,xv = .slice p xk.length q := by
      cases hxo with | mk a _ _ _ => obtain ⟨_,p,c,rfl,_⟩ := a; exact ⟨p,c,rfl⟩
     clear hxo;replace hvb10 := hvb10.ext hx7;replace hyB := hyB.ext hx7;replace b := b.ext hx7;refine Qb.tameW (by kernel_rfl) 8 rfl (by kernel_rfl) trivial (cN fun wz => aL rfl) rfl ?_;refine Qb.tameW (by kernel_rfl) 9 rfl (by kernel_rfl) trivial (cN fun wz => aV rfl rfl) rfl ?_;refine Qb.tameW (by kernel_rfl) 10 rfl (by kernel_rfl) trivial (cN fun wz => aV rfl rfl) rfl ?_;refine Qb.alt1 (i := 12) (by kernel_rfl) ?_;refine ⟨_,_,rfl,rfl,trivial,cB (cs := (Mn.mk xh (.slice xp xk.length xq) xk).cells) b rfl rfl rfl (by rw [Mn.len]; exact cR) (by rw [Mn.len]; rfl) hxc,rfl,fun _ _ hr => ⟨hvb10.upd hr.1 n1011,fun j v hv => dD (hyB.upd hr.1 g11) (hcmi j v hv)⟩,?_⟩;rintro _ w8 ⟨hu11,hv11⟩;have hyz := hyB.upd hu11 g11;refine Qb.tameW (by kernel_rfl) 13 rfl (by kernel_rfl) trivial (cN fun wz => kE rfl) rfl ?_;refine Qb.done (by kernel_rfl) ?_;exact ⟨(_,b11),by repeat (first | exact .nil | refine .cons rfl ?_),rfl,hxc,hv11,hyz⟩
   ·rintro L' wF ⟨⟨x,b11⟩,f,hux,hxc,hv11,hyF⟩
    simp only at hux hxc hv11;refine Wp.sub f ?_;replace hx := hx.ext hyF;replace hv4 := hv4.ext hyF;refine .sr ?_;refine .t2 (bD rfl hv11.cells (by rw [Mn.len]; exact cR)) ?_;refine Rg.wn trivial (cB (cs := x.cells) hv4 rfl rfl rfl (by rw [Mn.len]; exact cR) (by rw [Mn.len]; rfl) hxc) ?_;rintro _ w5 ⟨hu4,hv4x⟩;have hxe := hx.upd hu4 g4;refine .a2 rfl (.done (Wp.ret ?_));exact ⟨[_,_],⟨⟨_,rfl,iC hv4x (by rw [Mn.len]; exact cR)⟩,rfl,trivial⟩,⟨x,0,rfl,hxc,.inr ⟨h15,rfl,by rw [hun,hux]⟩⟩,hxe⟩
theorem sB {w : World} {v : Value} {ms : List Md} {k : Nat} {y : Sy} (hA : Asc w) (hE : Er w) (hs0 : SlC w v 2 ms.length (aN gX ms)) (hlen : ms.length < 4611686018427387904) (h0 : lA ms = 0) (hy : (syms ms)[k]? = some y) :
  Cl Tryz.prog 33 #[v,.int .i64 k] w (fun u w' => (∃ (s e c : Int),u = .tuple #[.int .i64 s,.int .i64 e,.int .i64 c] ∧ ((y.k = 15 ∧ c = 5) ∨ (y.k ≠ 15 ∧ c = 0 ∧ ∃ x,D3 ms y = some x ∧ s = x.hd.st ∧ e = x.hd.en))) ∧ Ext w w') := by
 have hx := Ext.refl w;refine Cl.enter Tryz.func33 rfl Tryz.ntmps33 rfl rfl (.sr (.a2 rfl (.a2 rfl (.a2 rfl (.done (.sr (.m2 rfl (.m2 rfl (Rg.wd trivial (aC Tryz.call61 rfl (D4 hA hE hs0 hlen h0 hy)) rfl ?_)))))))));rintro _ w1 ⟨⟨g,c,rfl,hgo,hgs⟩,hx1⟩;obtain ⟨gh,gv,gk⟩ := g;replace hx := hx.ext hx1;refine .m2 rfl (.t2 (aV rfl rfl) (.t2 (aV rfl rfl) (Rg.wd trivial (cJ Tryz.zeroValue27 rfl) rfl ?_)));rintro _ wab7 ⟨b7,rfl,qb7,a,b⟩;refine Rg.wn trivial (cB (cs := (Mn.mk gh gv gk).cells) b rfl rfl rfl (by rw [Mn.len]; exact cR) (by rw [Mn.len]; rfl) (hgo)) ?_;rintro _ w2 ⟨hub7,hvb7⟩;have hx2 := a.upd hub7 (Nat.le_of_eq qb7.symm);clear b hub7 a;replace hx := hx.ext hx2;clear qb7;refine .a2 rfl (.done ?_);refine Wp.seq (Wp.draw [0,1,2,3,4,5,6,7] [] mixed (by kernel_rfl) (by kernel_rfl) ?_);intro w3 hx3 _;replace hx := hx.ext hx3;replace hvb7 := hvb7.ext hx3;refine .t2 (aA fU rfl) (.t2 (aB bB rfl (hvb7.g 3 rfl)) (.t2 (aA eU rfl) (.t2 (aB bB rfl (hvb7.g 4 rfl)) (.m2 rfl (.a2 rfl (.a2 rfl (.a2 rfl (.done (Wp.ret ?_)))))))));refine ⟨[_,_,_],⟨rfl,rfl,rfl,trivial⟩,⟨gh.st,gh.en,c,rfl,?_⟩,hx⟩
 rcases hgs with h | ⟨h1,h2,h3⟩
 ·exact .inl h
 ·exact .inr ⟨h1,h2,_,h3,rfl,rfl⟩
theorem J5 {w : World} {v : Value} {ms : List Md} {k : Int} (hA0 : Asc w) (hE0 : Er w) (hs0 : SlC w v 2 ms.length (aN gX ms)) :
  Cl Tryz.prog 8 #[v,.int .i64 k] w (fun u w' => u = .bool true ∧ Ext w w') := by
 have hx := Ext.refl w;refine Cl.enter Tryz.func8 rfl Tryz.ntmps8 rfl rfl (.sr (.a2 rfl (.done (.seq (.sr (Rg.wd trivial (aC Tryz.call26 rfl (dT (hA0.ext hx) (dZ hE0 hx))) rfl ?_))))));rintro _ w1 ⟨rfl,hx1⟩;replace hx := hx.ext hx1;refine .t2 (bN rfl) (.done (.condF rfl (Wp.skip (.sr (.m2 rfl (Rg.wd trivial (aC Tryz.call27 rfl (Af (hs0.ext hx))) rfl ?_))))));rintro _ w2 ⟨hfw,_,hx2⟩;replace hx := hx.ext hx2;have hfl := rT ms;obtain ⟨M,hM⟩ : ∃ q,oU ms = q := ⟨_,rfl⟩;rw [hM] at hfw hfl;have hM62 : M.length < 4611686018427387904 := by omega
 refine .a2 rfl (.done (.sr (.m2 rfl ?_)));refine Rg.wd trivial (aC Tryz.call29 rfl (iH (ms := M) (hA0.ext hx) (dZ hE0 hx) hfw (by omega))) rfl ?_;rintro _ w3 ⟨⟨h0,rfl⟩ | ⟨h0,sv,rfl,hsv⟩,hx3⟩
 ·skip
  replace hx := hx.ext hx3;replace hfw := hfw.ext hx3;refine .m2 rfl (.t2 (aV rfl rfl) (.t2 (aV rfl rfl) (.a2 rfl (.a2 rfl (.done (.seq (.sr (.m2 rfl (.t2 (eM rfl rfl h0) (.m2 rfl (.so rfl rfl (.so rfl rfl ?_))))))))))));refine .so rfl rfl (.t2 (aM rfl rfl) (.done (.condT rfl (.sr (Rg.wd trivial (aC Tryz.call26 rfl (dT (hA0.ext hx) (dZ hE0 hx))) rfl ?_)))));rintro _ w4 ⟨rfl,hx4⟩;replace hx := hx.ext hx4;replace hfw := hfw.ext hx4;refine .m2 rfl (.g2 (aL rfl) (.g2 (cZ Tryz.underlying53 rfl) (.g2 (aX rfl rfl rfl) (.t2 (aM rfl rfl) (.a2 rfl (.done (Wp.ret ?_)))))));exact ⟨[_],⟨rfl,trivial⟩,rfl,hx⟩
 ·skip
  replace hx := hx.ext hx3;replace hfw := hfw.ext hx3;refine .m2 rfl (.t2 (aV rfl rfl) (.t2 (aV rfl rfl) (.a2 rfl (.a2 rfl (.done ?_)))));have hsl := oA M (gH h0).1 (gH h0).2;have hps := Hl M;refine .seq (.sr (.m2 rfl (.t2 (eC rfl rfl rfl) (.m2 rfl (.g2 (aL rfl) (.g2 (bV hsv Tryz.underlying53 rfl) ?_))))));refine .g2 (aQ rfl rfl (by omega)) ?_;refine .t2 (aP rfl rfl) (.done (.condF rfl (Wp.skip (.sr (.m2 rfl (.m2 rfl (.t2 (bV hsv Tryz.underlying53 rfl) ?_)))))));refine Rg.wd trivial (aC Tryz.call21 rfl (Ad (by omega) (by omega))) rfl ?_;rintro _ w4 ⟨⟨j,rfl,hj,_⟩,hx4⟩;replace hx := hx.ext hx4;replace hfw := hfw.ext hx4;replace hsv := hsv.ext hx4;obtain ⟨y,hyj⟩ : ∃ y,(syms M)[j] = y := ⟨_,rfl⟩;have hy : (syms M)[j]? = some y := by rw [List.getElem?_eq_getElem hj,hyj]
  refine .a2 rfl (.done (.sr (.m2 rfl (.m2 rfl ?_))));refine Rg.ix hsv trivial rfl rfl Tryz.underlying53 eG (by omega) rfl ?_;intro bt43 ot43 ht43;rw [Int.toNat_natCast,bT dS (syms M) j hj,hyj] at ht43;refine .t2 (bD rfl ht43 (by exact eG)) ?_;refine Rg.wd trivial (cJ Tryz.zeroValue59 rfl) rfl ?_;rintro _ wab8 ⟨b8,rfl,qb8,a,b⟩;refine Rg.wn trivial (cB (cs := (lC y)) b rfl rfl rfl (eG) (rfl) (rfl)) ?_;rintro _ w5 ⟨hub8,hvb8⟩;have hx5 := a.upd hub8 (Nat.le_of_eq qb8.symm);clear b hub8 a;replace hx := hx.ext hx5;replace hfw := hfw.ext hx5;replace hsv := hsv.ext hx5;replace ht43 := ht43.ext hx5;clear qb8;refine .done (.sr (.m2 rfl (.m2 rfl (Rg.wd trivial (aC Tryz.call33 rfl (sB (hA0.ext hx) (dZ hE0 hx) hfw hM62 h0 hy)) rfl ?_))));rintro _ w6 ⟨⟨r1,r2,r3,rfl,hr⟩,hx6⟩;replace hx := hx.ext hx6;replace hfw := hfw.ext hx6;replace hsv := hsv.ext hx6;replace ht43 := ht43.ext hx6;replace hvb8 := hvb8.ext hx6;refine .m2 rfl (.t2 (aV rfl rfl) (.t2 (aV rfl rfl) (.t2 (aV rfl rfl) (.a2 rfl (.a2 rfl (.a2 rfl (.done (.seq ?_))))))))
  by_cases h15 : y.k = 15
  ·obtain rfl : r3 = 5 := by rcases hr with h | h; exact h.2; exact absurd h15 h.1
   have hyp := Hm hy h15;refine .sr (.t2 (aA lR rfl) (.t2 (aB bB rfl (hvb8.g 0 rfl)) (.t2 (aX rfl rfl h15) (.done (.condT rfl (.sr (Rg.wd trivial (aC Tryz.call26 rfl (dT (hA0.ext hx) (dZ hE0 hx))) rfl ?_)))))));rintro _ w7 ⟨rfl,hx7⟩;replace hx := hx.ext hx7;replace hfw := hfw.ext hx7;replace hsv := hsv.ext hx7;replace ht43 := ht43.ext hx7;replace hvb8 := hvb8.ext hx7;refine .m2 rfl (.g2 (aL rfl) (.g2 (aX rfl rfl rfl) (.t2 (aM rfl rfl) (.m2 rfl (.g2 (aA kW rfl) (.g2 (aB bB rfl (hvb8.g 3 rfl)) (.g2 (aX rfl rfl hyp) (.t2 (aM rfl rfl) (.a2 rfl (.done (Wp.ret ?_)))))))))));exact ⟨[_],⟨rfl,trivial⟩,rfl,hx⟩
  ·obtain ⟨rfl,x,hnx,hs1,he1⟩ := (hr.resolve_left fun h => h15 h.1).2
   refine .sr (.t2 (aA lR rfl) (.t2 (aB bB rfl (hvb8.g 0 rfl)) (.t2 (aQ rfl rfl h15) (.done (.condF rfl (Wp.skip (.seq ?_)))))))
   by_cases h1 : y.k = 1
   ·obtain ⟨i,him,hym,u,hu,hu0,hu1⟩ := J4 hy h1
    obtain rfl : x = u := Option.some.inj (hnx.symm.trans hu);obtain ⟨mi,hmi⟩ : ∃ mi,M[i] = mi := ⟨_,rfl⟩;rw [hmi] at hu1;refine .sr (.t2 (aA lR rfl) (.t2 (aB bB rfl (hvb8.g 0 rfl)) (.t2 (aX rfl rfl h1) (.done (.condT rfl (.sr (Rg.wd trivial (aC Tryz.call26 rfl (dT (hA0.ext hx) (dZ hE0 hx))) rfl ?_)))))));rintro _ w7 ⟨rfl,hx7⟩;replace hx := hx.ext hx7;replace hfw := hfw.ext hx7;replace hsv := hsv.ext hx7;replace ht43 := ht43.ext hx7;replace hvb8 := hvb8.ext hx7;refine .m2 rfl (.g2 (aL rfl) (.g2 (aX rfl rfl rfl) (.t2 (aM rfl rfl) (.m2 rfl (.g2 (aL rfl) ?_)))));refine .g2 (aX rfl rfl (by omega)) ?_;refine .t2 (aM rfl rfl) (.m2 rfl (.g2 (aL rfl) (.g2 (aL rfl) (.g2 (aA gS rfl) (.g2 (aB bB rfl (hvb8.g 1 rfl)) ?_)))));rw [hym];refine Rg.ix hfw ⟨_,rfl,rfl⟩ rfl rfl Tryz.underlying49 jP (by omega) rfl ?_;intro bt82 ot82 ht82;rw [Int.toNat_natCast,bT eA M i him,hmi] at ht82;refine .g2 (aA qS rfl) (.g2 (aB gY rfl (bC.get (i := 1) ht82 rfl)) (.g2 (cK Tryz.underlying9 rfl) ?_));refine .g2 (aX rfl rfl (by omega)) ?_;refine .t2 (aM rfl rfl) (.a2 rfl (.done (Wp.ret ?_)));exact ⟨[_],⟨rfl,trivial⟩,rfl,hx⟩
   ·obtain ⟨q,z,u,x',hyp,hqj,hzq,hzm,hzk,hnu,hnx',hin⟩ := Hk hy h15 h1
    obtain rfl : x = x' := Option.some.inj (hnx.symm.trans hnx');obtain ⟨hql,hzq'⟩ := List.getElem?_eq_some_iff.1 hzq;refine .sr (.t2 (aA lR rfl) (.t2 (aB bB rfl (hvb8.g 0 rfl)) (.t2 (aQ rfl rfl h1) (.done (.condF rfl (Wp.skip (.sr (.m2 rfl (.t2 (aA kW rfl) (.t2 (aB bB rfl (hvb8.g 3 rfl)) ?_))))))))));rw [hyp];refine Rg.wd trivial (aC Tryz.call33 rfl (sB (hA0.ext hx) (dZ hE0 hx) hfw hM62 h0 hzq)) rfl ?_;rintro _ w7 ⟨⟨p1,p2,p3,rfl,hr2⟩,hx7⟩;replace hx := hx.ext hx7;replace hfw := hfw.ext hx7;replace hsv := hsv.ext hx7;replace ht43 := ht43.ext hx7;replace hvb8 := hvb8.ext hx7;obtain ⟨rfl,u',hnu',hp1,hp2⟩ := (hr2.resolve_left fun h => hzk h.1).2;obtain rfl : u = u' := Option.some.inj (hnu.symm.trans hnu');refine .m2 rfl (.t2 (aV rfl rfl) (.t2 (aV rfl rfl) (.t2 (aV rfl rfl) (.a2 rfl (.a2 rfl (.a2 rfl (.done ?_)))))));refine Wp.seq (Wp.draw [0,1,2,3,4,5,6,7,8,9,10,11,12,13,14,15,16,17,18,19,20,21,22,23,24,25,26,27,28,29,30,31,32,33,34,35,36,37,38,39,40,41] [] mixed (by kernel_rfl) (by kernel_rfl) ?_);intro w8 hx8 _;replace hx := hx.ext hx8;replace hfw := hfw.ext hx8;replace hsv := hsv.ext hx8;replace ht43 := ht43.ext hx8;replace hvb8 := hvb8.ext hx8;refine Rg.wdB trivial rfl (aC Tryz.call26 rfl (dT (hA0.ext hx) (dZ hE0 hx))) rfl (fun _ _ h => h.2.below) ?_;rintro _ w9 ⟨rfl,hx9⟩;replace hx := hx.ext hx9;replace hfw := hfw.ext hx9;replace hsv := hsv.ext hx9;replace ht43 := ht43.ext hx9;replace hvb8 := hvb8.ext hx9;refine .m2 rfl (.g2 (aL rfl) (.g2 (aX rfl rfl rfl) (.t2 (aM rfl rfl) (.m2 rfl (.g2 (aL rfl) (.g2 (aX rfl rfl rfl) (.t2 (aM rfl rfl) (.m2 rfl (.g2 (aA kW rfl) (.g2 (aB bB rfl (hvb8.g 3 rfl)) ?_))))))))));rw [hyp];refine .g2 (gD rfl rfl (by omega)) ?_;refine .t2 (aM rfl rfl) (.m2 rfl (.g2 (aA kW rfl) (.g2 (aB bB rfl (hvb8.g 3 rfl)) ?_)));rw [hyp];refine .g2 (aL rfl) ?_;refine .g2 (bG rfl rfl (by omega)) ?_;refine .t2 (aM rfl rfl) (.m2 rfl (.g2 (aL rfl) (.g2 (aA kW rfl) (.g2 (aB bB rfl (hvb8.g 3 rfl)) ?_))));rw [hyp]
    refine Rg.ix hsv ⟨_,rfl,rfl⟩ rfl rfl Tryz.underlying53 eG (by omega) rfl ?_;intro bt120 ot120 ht120;rw [Int.toNat_natCast,bT dS (syms M) q hql,hzq'] at ht120;refine .g2 (aA gS rfl) (.g2 (aB bB rfl (bC.get (i := 1) ht120 rfl)) (.g2 (aA gS rfl) (.g2 (aB bB rfl (hvb8.g 1 rfl)) (.g2 (aX rfl rfl hzm) (.t2 (aM rfl rfl) (.m2 rfl (.g2 (aL rfl) (.g2 (aL rfl) ?_))))))));refine .g2 (mR rfl rfl (by have := hin.1; omega)) ?_;refine .t2 (aM rfl rfl) (.m2 rfl (.g2 (aL rfl) (.g2 (aL rfl) ?_)));refine .g2 (mR rfl rfl (by have := hin.2; omega)) ?_;refine .t2 (aM rfl rfl) (.a2 rfl (.done (Wp.ret ?_)));exact ⟨[_],⟨rfl,trivial⟩,rfl,hx⟩
end Go.Proofs.YtiogccmfmjhipaaGreatDoor.Sym
