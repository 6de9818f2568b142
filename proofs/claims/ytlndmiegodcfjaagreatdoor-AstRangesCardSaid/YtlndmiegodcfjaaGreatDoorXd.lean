/- The parser: wrap. Printed by r6/Nk.py. -/
import Derived.Test.YtlndmiegodcfjaaGreatDoorXc
import Derived.Test.YtlndmiegodcfjaaGreatDoorXb
set_option linter.unusedVariables false
set_option linter.unusedSimpArgs false
namespace Go.Proofs.YtlndmiegodcfjaaGreatDoor.Par
set_option maxRecDepth 20000
open Go.Gx Go.RowKit Go.Lib
open Lexi (Asc)
variable {w0 : World} {tv : Value} {aG : List Tok} {F : Fs} {w w' : World} {bP : Nat} {below : List (Int × List Tr)} {k : Int} {s : S}
theorem C2 {l : List Gt} {m : List Tr} {t : Tr} (h : kS l = m ++ [t]) : ∃ kl kt,l = kl ++ [kt] ∧ kS kl = m ∧ kt.er = t := by
 rw [hZ] at h;obtain ⟨a,b,h1,h2,h3⟩ := jA h;exact ⟨a,b,h1,by rw [hZ]; exact h2,h3⟩
theorem E4 {k' : Int} {r : S} {l : List Tr} {t : Tr} {cf : FuncId} {fst cap : List Value} (hcf : ∀ (args : Array Value) (w : World),(callFunc cf args).run Tryz.prog w = .ok (.enter cf args) w) (h : Ps w0 tv aG F w bP below k s) (hs : s.kids = l ++ [t])
  (hP : Part w0 tv aG F bP cf fst cap w (below ++ [(k,l)]) k' { s with kids := [t],adds := s.adds + 1 } r) (h1 : s.adds + 1 ≤ r.adds) (hb : r.adds ≤ fR) :
  Cl Tryz.prog 200 #[.pointer (some ⟨bP,0,none⟩),.int .i64 k',.func (.func cf) fst.toArray cap.toArray] w (fun u w' => Ps w0 tv aG F w' bP below k { r with kids := l ++ [.mk k' fS r.kids] } ∧ Bw F w w') := by
 have hk1 := h.kids_le;have hU := h.und;obtain ⟨g,hW,e0,hd,hpos,hm,hks,hfl⟩ := h;obtain ⟨gP,sv,pos,frs,Q⟩ := g;simp only at e0 hd hpos hm hks hfl;subst e0;rw [hs] at hm;obtain ⟨pre,f,rfl,em,e2⟩ := jA hm;obtain ⟨fk,cv,fkids⟩ := f
 injection e2 with e3 e4
 simp only at e3 e4;obtain ⟨kl,kt,rfl,ekl,ekt⟩ := C2 e4;have hb' : s.adds + 1 ≤ 1000000000 := by unfold fR at hb; omega
 have hvar := hW.var;simp only at hvar
 rcases bH hW.stk with ⟨_,h0⟩ | ⟨gs,caps,sps,es,_,gs1,gs2,gs3,hS⟩
 ·simp at h0
 simp only at es gs1 gs3 hS;subst es;have hlen : (pre ++ [(⟨fk,cv,kl ++ [kt]⟩ : Fr)]).length = pre.length + 1 := by simp
 rw [hlen] at gs1 gs3 hvar hW hfl;have hown := hW.kid ⟨fk,cv,kl ++ [kt]⟩ (by simp);simp only at hown
 rcases bH hown with ⟨_,h0⟩ | ⟨gk,capk,spk,ek,_,gk1,gk2,gk3,hK⟩
 ·simp at h0
 have hkl : (kl ++ [kt]).length = kl.length + 1 := by simp
 rw [hkl] at ek gk1 gk3;subst ek;have hgt : GOk Q w kt := hW.ok ⟨fk,.slice (some ⟨gk,0,none⟩) (kl.length + 1) capk,kl ++ [kt]⟩ (by simp) kt (by simp);have hx := Ext.refl w;have hc := hvar.cells;have htop : bF w gs (0 + ((pre.length + 1 : Nat) - 1 : Int).toNat * 3) (Fr.cells ⟨fk,.slice (some ⟨gk,0,none⟩) (kl.length + 1) capk,kl ++ [kt]⟩) := fun j v hv => by
  have hj : j < 3 := by have := (List.getElem?_eq_some_iff.1 hv).1; exact this
  have := hS.cells _ _ ((mZ (pre := pre) (f := ⟨fk,.slice (some ⟨gk,0,none⟩) (kl.length + 1) capk,kl ++ [kt]⟩) (sp := sps) j hj).trans hv);rw [Nat.zero_add] at this;rw [show 0 + ((pre.length + 1 : Nat) - 1 : Int).toNat * 3 + j = pre.length * 3 + j by omega];exact this
 have hlast : bF w gk (0 + ((kl.length + 1 : Nat) - 1 : Int).toNat * 3) kt.cells := fun j v hv => by
  have hj : j < 3 := by have := (List.getElem?_eq_some_iff.1 hv).1; rw [Gt.len] at this; exact this
  have hl : (aK Gt.cells kl).length = kl.length * 3 := aQ Gt.len _;have e : (aK Gt.cells (kl ++ [kt]) ++ spk)[kl.length * 3 + j]? = some v := by
   rw [fF,iF,List.append_assoc,List.getElem?_append_right (by omega),hl,Nat.add_sub_cancel_left,List.getElem?_append_left (by rw [Gt.len]; exact hj)];exact hv
  have := hK.cells _ _ e;rw [Nat.zero_add] at this;rw [show 0 + ((kl.length + 1 : Nat) - 1 : Int).toNat * 3 + j = kl.length * 3 + j by omega];exact this
 have hgk : gk < w.heap.size := hK.lt;have hPs : gP ≠ gs := fun e => by
  have hn := hW.nod;simp only [Pg.muts,List.nodup_cons] at hn;exact hn.1 (by simp [Value.ownBlock,e])
 obtain ⟨i25,hi25,hz25,hsi25,hby25⟩ := rJ;have hone := hgt.one;obtain ⟨tk,tx,tc,tks⟩ := kt;have hkn : kl.length + 1 ≤ 1000000000 := by
  have := hks ⟨fk,.slice (some ⟨gk,0,none⟩) (kl.length + 1) capk,kl ++ [.mk tk tx tc tks]⟩ (by simp);simp at this;omega
 obtain ⟨tp,tl,tcap,rfl⟩ : ∃ tp tl tcap,tc = .slice tp tl tcap := by
  cases hgt with
  | mk hs h1 h2 h3 =>
   obtain ⟨_,p,cap,e,_⟩ := hs;exact ⟨p,_,cap,e⟩
 simp only [Gt.cells] at hone hlast;refine Cl.enter Tryz.func200 rfl Tryz.ntmps200 rfl rfl ?_;refine Wp.seq (Wp.draw [0,1,2,3,4,5,6,7,8,9,10,11] [] mixed (by kernel_rfl) (by kernel_rfl) ?_);intro w1 hx1 _;replace hx := hx.ext hx1;refine .m2 rfl (.t2 (aF rfl) (.t2 (aA eI rfl) (.t2 (aB eH rfl (bF.get (i := 2) (hc.ext hx) rfl)) (.m2 rfl (.t2 (aF rfl) (.t2 (aA eI rfl) (.t2 (aB eH rfl (bF.get (i := 2) (hc.ext hx) rfl)) (.t2 (dC Tryz.underlying52 rfl) ?_))))))));refine .t2 (eG rfl rfl (by omega)) ?_;refine .t2 (bI Tryz.underlying52 dA rfl rfl (by omega)) ?_;refine .a2 rfl (.done (.sr (.m2 rfl (.t2 (aF rfl) (.t2 (aA gE rfl) (.t2 (aB eH rfl (bF.get (i := 2) (htop.ext hx) rfl)) (.t2 (dC Tryz.underlying52 rfl) ?_)))))));refine .t2 (eG rfl rfl (by omega)) ?_;refine .a2 rfl (.done (.sr (.m2 rfl (.t2 (aF rfl) (.t2 (aA gE rfl) (.t2 (aB eH rfl (bF.get (i := 2) (htop.ext hx) rfl)) (.m2 rfl ?_)))))));refine .t2 (bI Tryz.underlying52 dA rfl rfl (by omega)) ?_;refine .t2 (bB rfl (hlast.ext hx) dA) (Rg.wd trivial (dB Tryz.zeroValue54 rfl) rfl ?_);have hlo := hx.le;rintro _ w2 ⟨b8,rfl,qb8,hx2,hv8⟩;replace hx := hx.ext hx2;refine Rg.wn trivial (cW hv8 rfl rfl rfl dA rfl (by rfl)) ?_;rintro _ w8 ⟨hu8,hv8'⟩;clear hv8;have hv8 := hv8';clear hv8';have hb8 : w.heap.size ≤ b8 := by omega
 replace hx : Ext w w8 := Ext.upd hx hu8 hb8;have hW8 := hW.extw hx;have hS8 := hS.ext hx;have hK8 := hK.ext hx;have a := hvar.ext hx;have hoS : 0 + (((pre.length + 1 : Nat) : Int) - 1).toNat * 3 + 2 = pre.length * 3 + 2 := by omega
 have hSl : (aK Fr.cells (pre ++ [(⟨fk,.slice (some ⟨gk,0,none⟩) (kl.length + 1) capk,kl ++ [.mk tk tx (.slice tp tl tcap) tks]⟩ : Fr)]) ++ sps).length = (pre.length + 1) * 3 + sps.length := by rw [List.length_append,aQ Fr.len,hlen]
 refine .done (.sr (.m2 rfl (.m2 rfl (.t2 (aF rfl) (.t2 (aA gE rfl) (.t2 (aB eH rfl (bF.get (i := 2) (htop.ext hx) rfl)) (.m2 rfl ?_)))))));refine .t2 (dG Tryz.underlying52 dA rfl rfl rfl (by omega)) ?_;have e5 : Value.slice (some (if capk = (0 : Int).toNat then (⟨gk,0,none⟩ : Addr) else ⟨gk,0 + (0 : Int).toNat * 3,none⟩)) ((((kl.length + 1 : Nat) : Int) - 1).toNat - (0 : Int).toNat) (capk - (0 : Int).toNat) = .slice (some ⟨gk,0,none⟩) kl.length capk := by
  rw [if_neg (by simp; omega),show ((((kl.length + 1 : Nat) : Int) - 1).toNat - (0 : Int).toNat) = kl.length by omega,show capk - (0 : Int).toNat = capk by omega,show 0 + (0 : Int).toNat * 3 = 0 by omega]
 rw [e5];refine .t2 (aF rfl) (.t2 (aA gE rfl) ?_);refine Rg.wn trivial (dZ (cs := [.slice (some ⟨gk,0,none⟩) kl.length capk]) hS8 rfl rfl rfl eH (by rw [hoS,hSl]; simp only [List.length_singleton]; omega) (by intro u hu; simp at hu; subst hu; rfl)) ?_;rintro _ w9 ⟨hu9,hS9⟩;rw [hoS] at hS9;replace hS9 : Var w9 gs (aK Fr.cells (pre ++ [⟨fk,.slice (some ⟨gk,0,none⟩) kl.length capk,kl⟩]) ++ sps) 54 := by
  have := oY (pre := pre) (f := ⟨fk,.slice (some ⟨gk,0,none⟩) (kl.length + 1) capk,kl ++ [.mk tk tx (.slice tp tl tcap) tks]⟩) (sp := sps) (.slice (some ⟨gk,0,none⟩) kl.length capk);rw [show aK Fr.cells (pre ++ [⟨fk,.slice (some ⟨gk,0,none⟩) kl.length capk,kl⟩]) = aK Fr.cells (pre ++ [⟨fk,.slice (some ⟨gk,0,none⟩) kl.length capk,kl ++ [.mk tk tx (.slice tp tl tcap) tks]⟩]) by simp [aK,Fr.cells],← this];exact hS9
 have hnsk : gs ≠ gk := fun e => by
  have hn := hW.nod;rw [gF] at hn;exact (List.nodup_append.1 hn).2.2 gs (by simp [Value.ownBlock]) gk (by simp [Value.ownBlock]) e
 have hK9 := hK8.upd hu9 (Ne.symm hnsk);have hB9 : Bw (fun z => z ≠ gs) w8 w9 := Bw.upd hu9 fun hh => hh rfl;obtain ⟨hW9,d⟩ := hW8.top (cv' := .slice (some ⟨gk,0,none⟩) kl.length capk) (kids' := kl) hB9 (fun z h1 h2 h3 e => h2 (by rw [e]; rfl)) (bK (Nat.zero_le _) ((aQ Fr.len _).trans (by simp)) gs1 gs2 gs3 hS9)
  (bK (sp := Gt.cells (.mk tk tx (.slice tp tl tcap) tks) ++ spk) (Nat.zero_le _) (aQ Gt.len _) (by omega) gk2 (by rw [List.length_append,Gt.len,gk3]; omega) (by rw [← List.append_assoc]; have := hK9; rw [fF,iF] at this; exact this)) (fun b hb => .inl hb)
  (fun t ht => (hW8.ok ⟨fk,.slice (some ⟨gk,0,none⟩) (kl.length + 1) capk,kl ++ [.mk tk tx (.slice tp tl tcap) tks]⟩ (by simp) t (by simp [ht])))
 have hv8g := hv8.upd hu9 (by have := hS.lt; omega);have hvarg := a.upd hu9 hPs;have hgtg : GOk Q w9 (.mk tk tx (.slice tp tl tcap) tks) := (hgt.bw (Bw.of hx (hW.undQ)) fun _ hz => hz).bw (Bw.upd hu9 (fun hq => (hW.off gs (by simp [Pg.muts,Value.ownBlock])).2 hq)) fun _ hz => hz;have hsz : w8.heap.size = w9.heap.size := hu9.size.symm;have hown9 := hW9.stk;simp only [List.length_append,List.length_singleton] at hown9;have hx9 := hx;clear hx;have hx := Ext.refl w9;refine .done ?_;refine Wp.seq (Wp.cut (fun L w' => ∃ i_ : Unit,Sub ((fun _ => [(0,.pointer (some ⟨gP,0,none⟩)),(1,.int .i64 k'),(2,.func (.func cf) fst.toArray cap.toArray)]) i_) L ∧ (fun _ w' => ∃ sv' cv',PsW w0 tv F w' { bP := gP,sv := sv',pos := pos,frs := (pre ++ [(⟨fk,.slice (some ⟨gk,0,none⟩) kl.length capk,kl⟩ : Fr)]) ++ [⟨k',cv',[.mk tk tx (.slice tp tl tcap) tks]⟩],Q := Q } ∧ Bw F w9 w') i_ w') ?_ ?_)
 ·skip
  refine Wp.drawB (fun w' => Var w' gP [tv,.int .i64 pos,.slice (some ⟨gs,0,none⟩) (pre.length + 1) caps] 82 ∧ Var w' b8 [.int .i64 tk,.string tx,.slice tp tl tcap] 54) 10 mixed ?_;intro w3 hx3 hh3;replace hx := hx.ext hx3;refine ⟨⟨hvarg.ext hx,hv8g.ext hx⟩,?_⟩;refine Qb.tameW (by kernel_rfl) 0 rfl (by kernel_rfl) trivial (bY fun wz => aP rfl) rfl ?_;refine Qb.tameW (by kernel_rfl) 1 rfl (by kernel_rfl) trivial (bY fun wz => aF rfl) rfl ?_;refine Qb.tameW (by kernel_rfl) 2 rfl (by kernel_rfl) trivial (bY fun wz => aA eI rfl) rfl ?_;refine Qb.tame (by kernel_rfl) 3 rfl (by kernel_rfl) trivial (ts fun wz hkz => by exact aB eH rfl (hkz.1.g 2 rfl)) rfl ?_;refine Qb.tameW (by kernel_rfl) 4 rfl (by kernel_rfl) trivial (bY fun wz => aP rfl) rfl ?_;refine Qb.tame (by kernel_rfl) 5 rfl (by kernel_rfl) trivial (ts fun wz hkz => by exact bB rfl hkz.2.cells dA) rfl ?_;refine Qb.tame (by kernel_rfl) 8 rfl (by kernel_rfl) trivial (ts fun wz hkz => by exact dC Tryz.underlying52 rfl) rfl ?_;refine Qb.alt2 (i := 6) (j := 9) (by kernel_rfl) ?_ ?_
  ·skip
   refine ⟨_,_,rfl,rfl,trivial,aD (jH _ _ _ _ _) rfl,rfl,fun _ _ hr => by obtain ⟨_,_,_,hr,_⟩ := hr; exact ⟨hvarg.ext (hx.ext hr),hv8g.ext (hx.ext hr)⟩,?_⟩;rintro _ w4 ⟨b48,rfl,q48,hx4,hv48⟩;have hlo48 := hx.le;replace hx := hx.ext hx4;refine Qb.tameW (by kernel_rfl) 7 rfl (by kernel_rfl) trivial (bY fun wz => cH (vB _ _ _ _) rfl) rfl ?_;refine Qb.alt1 (i := 9) (by kernel_rfl) ?_;refine ⟨_,_,rfl,rfl,trivial,aD (jH _ _ _ _ _) rfl,rfl,fun _ _ hr => by obtain ⟨_,_,_,hr,_⟩ := hr; exact ⟨hvarg.ext (hx.ext hr),hv8g.ext (hx.ext hr)⟩,?_⟩;rintro _ w5 ⟨b51,rfl,q51,hx5,hv51⟩;replace hx := hx.ext hx5;replace hv48 := hv48.ext hx5;refine Qb.bar (fun _ => True) 10 16 rfl (by kernel_rfl) rfl trivial (bL Tryz.underlying52 hi25 hz25 hsi25 hby25 rfl rfl rfl (cM hown9 hx) (bX hv51 rfl) (by decide) (by decide) (by unfold maxLen; omega) (by omega)) rfl (fun _ _ _ => trivial) ?_;rintro _ w6 ⟨gn,capn,spn,rfl,hcn,hmn,hln,hvn,hwhere⟩;have hb48 : w9.heap.size ≤ b48 := by omega
   have hfr : gs = gn ∨ w9.heap.size ≤ gn := by
    rcases hwhere with ⟨⟨c,e⟩,_⟩ | ⟨e,_⟩
    ·injection e with e _ _
     injection e with e
     injection e with e _ _
     exact .inl e
    ·exact .inr (Nat.le_trans hx.le e)
   have hne : gP ≠ gn := fun e => by
    rcases hfr with e1 | e1
    ·exact hPs (e.trans e1.symm)
    ·have := hvarg.lt
     omega
   have hn48 : b48 ≠ gn := fun e => by
    rcases hwhere with ⟨⟨c,e1⟩,_⟩ | ⟨e1,_⟩
    ·injection e1 with e1 _ _
     injection e1 with e1
     injection e1 with e1 _ _
     have := hS.lt;have := hx9.le;omega
    ·have := hv48.lt
     omega
   obtain ⟨G,hGd⟩ : ∃ G : Fs,G = fun z => z < w9.heap.size ∧ z ≠ gn ∧ z ≠ gP := ⟨_,rfl⟩;have nGk : ¬ G gn := by rw [hGd]; exact fun h => h.2.1 rfl
   have nGP : ¬ G gP := by rw [hGd]; exact fun h => h.2.2 rfl
   have hB : Bw G w9 w6 := by
    have h1 : Bw G w9 w5 := Bw.of hx (by rw [hGd]; exact fun z hz => hz.1)
    rcases hwhere with ⟨_,hu⟩ | ⟨_,hu⟩
    ·exact h1.trans (Bw.upd hu nGk)
    ·exact h1.trans (Bw.of hu (by rw [hGd]; exact fun z hz => Nat.lt_of_lt_of_le hz.1 hx.le))
   have hvP := hvarg.ext hx;replace hvP : Var w6 gP [tv,.int .i64 pos,.slice (some ⟨gs,0,none⟩) (pre.length + 1) caps] 82 := by
    rcases hwhere with ⟨_,hu⟩ | ⟨_,hu⟩
    ·exact hvP.upd hu hne
    ·exact hvP.ext hu
   replace hv48 : Var w6 b48 (Gt.cells (.mk tk tx (.slice tp tl tcap) tks)) 54 := by
    rcases hwhere with ⟨_,hu⟩ | ⟨_,hu⟩
    ·exact hv48.upd hu hn48
    ·exact hv48.ext hu
   have hoE : 0 + ((pre.length + 1 : Nat) : Int).toNat * 3 = (pre ++ [(⟨fk,.slice (some ⟨gk,0,none⟩) kl.length capk,kl⟩ : Fr)]).length * 3 := by rw [List.length_append,List.length_singleton]; omega
   have hKl : (aK Fr.cells (pre ++ [(⟨fk,.slice (some ⟨gk,0,none⟩) kl.length capk,kl⟩ : Fr)]) ++ [Value.int .i64 0,Value.string ⟨#[]⟩,Value.slice none 0 0] ++ spn).length = (pre ++ [(⟨fk,.slice (some ⟨gk,0,none⟩) kl.length capk,kl⟩ : Fr)]).length * 3 + 3 + spn.length := by rw [List.length_append,List.length_append,aQ Fr.len]; rfl
   refine Qb.tameW (by kernel_rfl) 11 rfl (by kernel_rfl) trivial (bY fun wz => bI Tryz.underlying52 dA rfl rfl (by omega)) rfl ?_;refine Qb.tameW (by kernel_rfl) 13 rfl (by kernel_rfl) trivial (bY fun wz => aF rfl) rfl ?_;refine Qb.tameW (by kernel_rfl) 14 rfl (by kernel_rfl) trivial (bY fun wz => aA eI rfl) rfl ?_;refine Qb.alt2 (i := 12) (j := 15) (by kernel_rfl) ?_ ?_
   ·skip
    refine ⟨_,_,rfl,rfl,trivial,dZ (cs := [.int .i64 k',.string fS,.slice (some ⟨b48,0,none⟩) 1 1]) hvn rfl rfl rfl dA (by rw [hoE,hKl]; simp) (Fr.one (f := ⟨k',.slice (some ⟨b48,0,none⟩) 1 1,[.mk tk tx (.slice tp tl tcap) tks]⟩) rfl),rfl,fun _ _ h => trivial,?_⟩;rintro _ wE ⟨huE,hvE⟩;rw [hoE] at hvE;replace hvE : Var wE gn (aK Fr.cells ((pre ++ [(⟨fk,.slice (some ⟨gk,0,none⟩) kl.length capk,kl⟩ : Fr)]) ++ [⟨k',.slice (some ⟨b48,0,none⟩) 1 1,[.mk tk tx (.slice tp tl tcap) tks]⟩]) ++ spn) 54 := (lH (frs := (pre ++ [(⟨fk,.slice (some ⟨gk,0,none⟩) kl.length capk,kl⟩ : Fr)])) (f := ⟨k',.slice (some ⟨b48,0,none⟩) 1 1,[.mk tk tx (.slice tp tl tcap) tks]⟩) (z := [Value.int .i64 0,Value.string ⟨#[]⟩,Value.slice none 0 0]) (sp := spn) rfl) ▸ hvE;clear hvn;have hvn := hvE;clear hvE;replace hvP := hvP.upd huE hne;replace hv48 := hv48.upd huE hn48;replace hB := hB.trans (Bw.upd huE nGk);refine Qb.alt1 (i := 15) (by kernel_rfl) ?_;refine ⟨_,_,rfl,rfl,trivial,cG hvP eH rfl rfl rfl rfl rfl,rfl,fun _ _ h => trivial,?_⟩;rintro _ wS ⟨huS,hvS⟩;simp only [List.set] at hvS;clear hvP;have hvP := hvS;clear hvS;replace hvn := hvn.upd huS (Ne.symm hne);replace hv48 := hv48.upd huS (by have := hvarg.lt; omega);replace hB := hB.trans (Bw.upd huS nGP);refine Qb.done (by kernel_rfl) ?_;exact ⟨(),by repeat (first | exact .nil | refine .cons rfl ?_),_,_,hW9.push (f := ⟨k',.slice (some ⟨b48,0,none⟩) 1 1,[.mk tk tx (.slice tp tl tcap) tks]⟩) (sv' := .slice (some ⟨gn,0,none⟩) (pre.length + 1 + 1) capn) hB (fun z h1 h2 h3 => by rw [hGd]; exact ⟨h1,fun e => h3 (by rw [e]; rfl),h2⟩) hvP (by rw [List.length_append,List.length_singleton]; exact bK (Nat.zero_le _) (aQ Fr.len _ |>.trans (by simp)) hcn hmn hln hvn) (fun b hb => by injection hb with hb; subst hb; exact hfr.imp (fun e => by rw [e]; rfl) id)
     (by simpa using bK (sp := []) (Nat.zero_le _) (by rfl) (Nat.le_refl 1) (by decide) rfl (by rw [List.append_nil]; exact hv48)) (fun b hb => by injection hb with hb; subst hb; exact ⟨hb48,fun e => by injection e with e; exact hn48 e⟩) (fun t ht => by (obtain rfl : t = Gt.mk tk tx (.slice tp tl tcap) tks := by simpa using ht); exact hgtg)⟩
   ·skip
    refine ⟨_,_,rfl,rfl,trivial,cG hvP eH rfl rfl rfl rfl rfl,rfl,fun _ _ h => trivial,?_⟩;rintro _ wS ⟨huS,hvS⟩;simp only [List.set] at hvS;clear hvP;have hvP := hvS;clear hvS;replace hvn := hvn.upd huS (Ne.symm hne);replace hv48 := hv48.upd huS (by have := hvarg.lt; omega);replace hB := hB.trans (Bw.upd huS nGP);refine Qb.alt1 (i := 12) (by kernel_rfl) ?_;refine ⟨_,_,rfl,rfl,trivial,dZ (cs := [.int .i64 k',.string fS,.slice (some ⟨b48,0,none⟩) 1 1]) hvn rfl rfl rfl dA (by rw [hoE,hKl]; simp) (Fr.one (f := ⟨k',.slice (some ⟨b48,0,none⟩) 1 1,[.mk tk tx (.slice tp tl tcap) tks]⟩) rfl),rfl,fun _ _ h => trivial,?_⟩;rintro _ wE ⟨huE,hvE⟩;rw [hoE] at hvE;replace hvE : Var wE gn (aK Fr.cells ((pre ++ [(⟨fk,.slice (some ⟨gk,0,none⟩) kl.length capk,kl⟩ : Fr)]) ++ [⟨k',.slice (some ⟨b48,0,none⟩) 1 1,[.mk tk tx (.slice tp tl tcap) tks]⟩]) ++ spn) 54 := (lH (frs := (pre ++ [(⟨fk,.slice (some ⟨gk,0,none⟩) kl.length capk,kl⟩ : Fr)])) (f := ⟨k',.slice (some ⟨b48,0,none⟩) 1 1,[.mk tk tx (.slice tp tl tcap) tks]⟩) (z := [Value.int .i64 0,Value.string ⟨#[]⟩,Value.slice none 0 0]) (sp := spn) rfl) ▸ hvE;clear hvn;have hvn := hvE;clear hvE;replace hvP := hvP.upd huE hne;replace hv48 := hv48.upd huE hn48;replace hB := hB.trans (Bw.upd huE nGk);refine Qb.done (by kernel_rfl) ?_;exact ⟨(),by repeat (first | exact .nil | refine .cons rfl ?_),_,_,hW9.push (f := ⟨k',.slice (some ⟨b48,0,none⟩) 1 1,[.mk tk tx (.slice tp tl tcap) tks]⟩) (sv' := .slice (some ⟨gn,0,none⟩) (pre.length + 1 + 1) capn) hB (fun z h1 h2 h3 => by rw [hGd]; exact ⟨h1,fun e => h3 (by rw [e]; rfl),h2⟩) hvP (by rw [List.length_append,List.length_singleton]; exact bK (Nat.zero_le _) (aQ Fr.len _ |>.trans (by simp)) hcn hmn hln hvn) (fun b hb => by injection hb with hb; subst hb; exact hfr.imp (fun e => by rw [e]; rfl) id)
     (by simpa using bK (sp := []) (Nat.zero_le _) (by rfl) (Nat.le_refl 1) (by decide) rfl (by rw [List.append_nil]; exact hv48)) (fun b hb => by injection hb with hb; subst hb; exact ⟨hb48,fun e => by injection e with e; exact hn48 e⟩) (fun t ht => by (obtain rfl : t = Gt.mk tk tx (.slice tp tl tcap) tks := by simpa using ht); exact hgtg)⟩
  ·skip
   refine ⟨_,_,rfl,rfl,trivial,aD (jH _ _ _ _ _) rfl,rfl,fun _ _ hr => by obtain ⟨_,_,_,hr,_⟩ := hr; exact ⟨hvarg.ext (hx.ext hr),hv8g.ext (hx.ext hr)⟩,?_⟩;rintro _ w4 ⟨b51,rfl,q51,hx4,hv51⟩;replace hx := hx.ext hx4;refine Qb.alt1 (i := 6) (by kernel_rfl) ?_;refine ⟨_,_,rfl,rfl,trivial,aD (jH _ _ _ _ _) rfl,rfl,fun _ _ hr => by obtain ⟨_,_,_,hr,_⟩ := hr; exact ⟨hvarg.ext (hx.ext hr),hv8g.ext (hx.ext hr)⟩,?_⟩;rintro _ w5 ⟨b48,rfl,q48,hx5,hv48⟩;have hlo48 := hx.le;replace hx := hx.ext hx5;replace hv51 := hv51.ext hx5;refine Qb.tameW (by kernel_rfl) 7 rfl (by kernel_rfl) trivial (bY fun wz => cH (vB _ _ _ _) rfl) rfl ?_;refine Qb.bar (fun _ => True) 10 16 rfl (by kernel_rfl) rfl trivial (bL Tryz.underlying52 hi25 hz25 hsi25 hby25 rfl rfl rfl (cM hown9 hx) (bX hv51 rfl) (by decide) (by decide) (by unfold maxLen; omega) (by omega)) rfl (fun _ _ _ => trivial) ?_;rintro _ w6 ⟨gn,capn,spn,rfl,hcn,hmn,hln,hvn,hwhere⟩;have hb48 : w9.heap.size ≤ b48 := by omega
   have hfr : gs = gn ∨ w9.heap.size ≤ gn := by
    rcases hwhere with ⟨⟨c,e⟩,_⟩ | ⟨e,_⟩
    ·injection e with e _ _
     injection e with e
     injection e with e _ _
     exact .inl e
    ·exact .inr (Nat.le_trans hx.le e)
   have hne : gP ≠ gn := fun e => by
    rcases hfr with e1 | e1
    ·exact hPs (e.trans e1.symm)
    ·have := hvarg.lt
     omega
   have hn48 : b48 ≠ gn := fun e => by
    rcases hwhere with ⟨⟨c,e1⟩,_⟩ | ⟨e1,_⟩
    ·injection e1 with e1 _ _
     injection e1 with e1
     injection e1 with e1 _ _
     have := hS.lt;have := hx9.le;omega
    ·have := hv48.lt
     omega
   obtain ⟨G,hGd⟩ : ∃ G : Fs,G = fun z => z < w9.heap.size ∧ z ≠ gn ∧ z ≠ gP := ⟨_,rfl⟩;have nGk : ¬ G gn := by rw [hGd]; exact fun h => h.2.1 rfl
   have nGP : ¬ G gP := by rw [hGd]; exact fun h => h.2.2 rfl
   have hB : Bw G w9 w6 := by
    have h1 : Bw G w9 w5 := Bw.of hx (by rw [hGd]; exact fun z hz => hz.1)
    rcases hwhere with ⟨_,hu⟩ | ⟨_,hu⟩
    ·exact h1.trans (Bw.upd hu nGk)
    ·exact h1.trans (Bw.of hu (by rw [hGd]; exact fun z hz => Nat.lt_of_lt_of_le hz.1 hx.le))
   have hvP := hvarg.ext hx;replace hvP : Var w6 gP [tv,.int .i64 pos,.slice (some ⟨gs,0,none⟩) (pre.length + 1) caps] 82 := by
    rcases hwhere with ⟨_,hu⟩ | ⟨_,hu⟩
    ·exact hvP.upd hu hne
    ·exact hvP.ext hu
   replace hv48 : Var w6 b48 (Gt.cells (.mk tk tx (.slice tp tl tcap) tks)) 54 := by
    rcases hwhere with ⟨_,hu⟩ | ⟨_,hu⟩
    ·exact hv48.upd hu hn48
    ·exact hv48.ext hu
   have hoE : 0 + ((pre.length + 1 : Nat) : Int).toNat * 3 = (pre ++ [(⟨fk,.slice (some ⟨gk,0,none⟩) kl.length capk,kl⟩ : Fr)]).length * 3 := by rw [List.length_append,List.length_singleton]; omega
   have hKl : (aK Fr.cells (pre ++ [(⟨fk,.slice (some ⟨gk,0,none⟩) kl.length capk,kl⟩ : Fr)]) ++ [Value.int .i64 0,Value.string ⟨#[]⟩,Value.slice none 0 0] ++ spn).length = (pre ++ [(⟨fk,.slice (some ⟨gk,0,none⟩) kl.length capk,kl⟩ : Fr)]).length * 3 + 3 + spn.length := by rw [List.length_append,List.length_append,aQ Fr.len]; rfl
   refine Qb.tameW (by kernel_rfl) 11 rfl (by kernel_rfl) trivial (bY fun wz => bI Tryz.underlying52 dA rfl rfl (by omega)) rfl ?_;refine Qb.tameW (by kernel_rfl) 13 rfl (by kernel_rfl) trivial (bY fun wz => aF rfl) rfl ?_;refine Qb.tameW (by kernel_rfl) 14 rfl (by kernel_rfl) trivial (bY fun wz => aA eI rfl) rfl ?_;refine Qb.alt2 (i := 12) (j := 15) (by kernel_rfl) ?_ ?_
   ·skip
    refine ⟨_,_,rfl,rfl,trivial,dZ (cs := [.int .i64 k',.string fS,.slice (some ⟨b48,0,none⟩) 1 1]) hvn rfl rfl rfl dA (by rw [hoE,hKl]; simp) (Fr.one (f := ⟨k',.slice (some ⟨b48,0,none⟩) 1 1,[.mk tk tx (.slice tp tl tcap) tks]⟩) rfl),rfl,fun _ _ h => trivial,?_⟩;rintro _ wE ⟨huE,hvE⟩;rw [hoE] at hvE;replace hvE : Var wE gn (aK Fr.cells ((pre ++ [(⟨fk,.slice (some ⟨gk,0,none⟩) kl.length capk,kl⟩ : Fr)]) ++ [⟨k',.slice (some ⟨b48,0,none⟩) 1 1,[.mk tk tx (.slice tp tl tcap) tks]⟩]) ++ spn) 54 := (lH (frs := (pre ++ [(⟨fk,.slice (some ⟨gk,0,none⟩) kl.length capk,kl⟩ : Fr)])) (f := ⟨k',.slice (some ⟨b48,0,none⟩) 1 1,[.mk tk tx (.slice tp tl tcap) tks]⟩) (z := [Value.int .i64 0,Value.string ⟨#[]⟩,Value.slice none 0 0]) (sp := spn) rfl) ▸ hvE;clear hvn;have hvn := hvE;clear hvE;replace hvP := hvP.upd huE hne;replace hv48 := hv48.upd huE hn48;replace hB := hB.trans (Bw.upd huE nGk);refine Qb.alt1 (i := 15) (by kernel_rfl) ?_;refine ⟨_,_,rfl,rfl,trivial,cG hvP eH rfl rfl rfl rfl rfl,rfl,fun _ _ h => trivial,?_⟩;rintro _ wS ⟨huS,hvS⟩;simp only [List.set] at hvS;clear hvP;have hvP := hvS;clear hvS;replace hvn := hvn.upd huS (Ne.symm hne);replace hv48 := hv48.upd huS (by have := hvarg.lt; omega);replace hB := hB.trans (Bw.upd huS nGP);refine Qb.done (by kernel_rfl) ?_;exact ⟨(),by repeat (first | exact .nil | refine .cons rfl ?_),_,_,hW9.push (f := ⟨k',.slice (some ⟨b48,0,none⟩) 1 1,[.mk tk tx (.slice tp tl tcap) tks]⟩) (sv' := .slice (some ⟨gn,0,none⟩) (pre.length + 1 + 1) capn) hB (fun z h1 h2 h3 => by rw [hGd]; exact ⟨h1,fun e => h3 (by rw [e]; rfl),h2⟩) hvP (by rw [List.length_append,List.length_singleton]; exact bK (Nat.zero_le _) (aQ Fr.len _ |>.trans (by simp)) hcn hmn hln hvn) (fun b hb => by injection hb with hb; subst hb; exact hfr.imp (fun e => by rw [e]; rfl) id)
     (by simpa using bK (sp := []) (Nat.zero_le _) (by rfl) (Nat.le_refl 1) (by decide) rfl (by rw [List.append_nil]; exact hv48)) (fun b hb => by injection hb with hb; subst hb; exact ⟨hb48,fun e => by injection e with e; exact hn48 e⟩) (fun t ht => by (obtain rfl : t = Gt.mk tk tx (.slice tp tl tcap) tks := by simpa using ht); exact hgtg)⟩
   ·skip
    refine ⟨_,_,rfl,rfl,trivial,cG hvP eH rfl rfl rfl rfl rfl,rfl,fun _ _ h => trivial,?_⟩;rintro _ wS ⟨huS,hvS⟩;simp only [List.set] at hvS;clear hvP;have hvP := hvS;clear hvS;replace hvn := hvn.upd huS (Ne.symm hne);replace hv48 := hv48.upd huS (by have := hvarg.lt; omega);replace hB := hB.trans (Bw.upd huS nGP);refine Qb.alt1 (i := 12) (by kernel_rfl) ?_;refine ⟨_,_,rfl,rfl,trivial,dZ (cs := [.int .i64 k',.string fS,.slice (some ⟨b48,0,none⟩) 1 1]) hvn rfl rfl rfl dA (by rw [hoE,hKl]; simp) (Fr.one (f := ⟨k',.slice (some ⟨b48,0,none⟩) 1 1,[.mk tk tx (.slice tp tl tcap) tks]⟩) rfl),rfl,fun _ _ h => trivial,?_⟩;rintro _ wE ⟨huE,hvE⟩;rw [hoE] at hvE;replace hvE : Var wE gn (aK Fr.cells ((pre ++ [(⟨fk,.slice (some ⟨gk,0,none⟩) kl.length capk,kl⟩ : Fr)]) ++ [⟨k',.slice (some ⟨b48,0,none⟩) 1 1,[.mk tk tx (.slice tp tl tcap) tks]⟩]) ++ spn) 54 := (lH (frs := (pre ++ [(⟨fk,.slice (some ⟨gk,0,none⟩) kl.length capk,kl⟩ : Fr)])) (f := ⟨k',.slice (some ⟨b48,0,none⟩) 1 1,[.mk tk tx (.slice tp tl tcap) tks]⟩) (z := [Value.int .i64 0,Value.string ⟨#[]⟩,Value.slice none 0 0]) (sp := spn) rfl) ▸ hvE;clear hvn;have hvn := hvE;clear hvE;replace hvP := hvP.upd huE hne;replace hv48 := hv48.upd huE hn48;replace hB := hB.trans (Bw.upd huE nGk);refine Qb.done (by kernel_rfl) ?_;exact ⟨(),by repeat (first | exact .nil | refine .cons rfl ?_),_,_,hW9.push (f := ⟨k',.slice (some ⟨b48,0,none⟩) 1 1,[.mk tk tx (.slice tp tl tcap) tks]⟩) (sv' := .slice (some ⟨gn,0,none⟩) (pre.length + 1 + 1) capn) hB (fun z h1 h2 h3 => by rw [hGd]; exact ⟨h1,fun e => h3 (by rw [e]; rfl),h2⟩) hvP (by rw [List.length_append,List.length_singleton]; exact bK (Nat.zero_le _) (aQ Fr.len _ |>.trans (by simp)) hcn hmn hln hvn) (fun b hb => by injection hb with hb; subst hb; exact hfr.imp (fun e => by rw [e]; rfl) id)
     (by simpa using bK (sp := []) (Nat.zero_le _) (by rfl) (Nat.le_refl 1) (by decide) rfl (by rw [List.append_nil]; exact hv48)) (fun b hb => by injection hb with hb; subst hb; exact ⟨hb48,fun e => by injection e with e; exact hn48 e⟩) (fun t ht => by (obtain rfl : t = Gt.mk tk tx (.slice tp tl tcap) tks := by simpa using ht); exact hgtg)⟩
 ·rintro L' wF ⟨_,hs',sv',cv',q1,q2⟩
  refine Wp.sub hs' ?_;have qF : Bw F w wF := ((Bw.of hx9 hU).trans d).trans q2;refine .sr (.m2 rfl ?_);refine Rg.wd trivial (mY rfl hcf rfl (hP _ qF ⟨_,q1,rfl,hd,hpos,by simp [em,e3,ekl,kS,ekt],fun f hf => by (rcases List.mem_append.1 hf with hf | hf); (rcases List.mem_append.1 hf with hf | hf); (have := hks f (by simp [hf]); simp only; omega); (obtain rfl : f = ⟨fk,.slice (some ⟨gk,0,none⟩) kl.length capk,kl⟩ := by simpa using hf); (have := hks ⟨fk,.slice (some ⟨gk,0,none⟩) (kl.length + 1) capk,kl ++ [.mk tk tx (.slice tp tl tcap) tks]⟩ (by simp); simp at this ⊢; omega); (obtain rfl : f = ⟨k',cv',[.mk tk tx (.slice tp tl tcap) tks]⟩ := by simpa using hf); simp,by simp at hfl ⊢; omega⟩)) rfl ?_;rintro _ w20 ⟨q3,q4⟩;refine .done (Wp.region (.m2 rfl ?_));refine Rg.wd trivial (aC Tryz.call123 rfl (jT (s := { s with kids := l }) q3 (by have := hk1; rw [hs] at this; simp at this ⊢; omega) hb)) rfl ?_;rintro _ w21 ⟨q5,q6⟩;refine .done ?_;exact ⟨[],trivial,q5,qF.trans (q4.trans q6)⟩
end Go.Proofs.YtlndmiegodcfjaaGreatDoor.Par
namespace Go.Proofs.YtlndmiegodcfjaaGreatDoor.Par
open Go.Gx Go.RowKit Go.Lib
open Lexi (Asc)
theorem aI {n : Nat} {a b : Cmd} {s r : S} (h : run body n (.seq a b) s = some r) : ∃ s1,run body n a s = some s1 ∧ run body n b s1 = some r := by
 cases n <;> simp only [run,bW,Option.bind_eq_some_iff] at h ⊢ <;> exact h
theorem cN {n : Nat} {s r : S} (h : run body n .bump s = some r) : r = s.bump := by
 rw [uJ] at h;exact (Option.some.inj h).symm
theorem cI {n : Nat} {s r : S} (h : run body n .skip s = some r) : r = s := by
 cases n <;> simp only [run,bW] at h <;> exact (Option.some.inj h).symm
theorem nV {n : Nat} {k : Int} {s r : S} (h : run body n (.leaf k) s = some r) : r = s.add (.leaf k) := by
 cases n <;> simp only [run,bW] at h <;> exact (Option.some.inj h).symm
theorem cD {n : Nat} {b : Bool} {s r : S} (h : run body n (.flag b) s = some r) : r = { s with flag := b } := by
 cases n <;> simp only [run,bW] at h <;> exact (Option.some.inj h).symm
theorem rK {n : Nat} {s r : S} (h : run body n .drop s = some r) : r = { s with kids := s.kids.dropLast } := by
 cases n <;> simp only [run,bW] at h <;> exact (Option.some.inj h).symm
theorem aX {n : Nat} {t : Test} {a b : Cmd} {s r : S} (h : run body n (.cond t a b) s = some r) (ht : s.test t = true) : run body n a s = some r := by
 cases n <;> simp only [run,bW,ht] at h ⊢ <;> simpa using h
theorem aU {n : Nat} {t : Test} {a b : Cmd} {s r : S} (h : run body n (.cond t a b) s = some r) (ht : s.test t = false) : run body n b s = some r := by
 cases n <;> simp only [run,bW,ht] at h ⊢ <;> simpa using h
theorem rL {n : Nat} {k : Int} {c : Cmd} {s r : S} (h : run body n (.node k c) s = some r) : ∃ q,run body n c { s with kids := [],adds := s.adds + 1 } = some q ∧ r = { q with kids := s.kids ++ [.mk k fS q.kids] } := by
 cases n <;> simp only [run,bW,Option.map_eq_some_iff] at h ⊢ <;> obtain ⟨q,h1,h2⟩ := h <;> exact ⟨q,h1,h2.symm⟩
theorem Ar {n : Nat} {k : Int} {c : Cmd} {s r : S} (h : run body n (.wrap k c) s = some r) : ∃ l t q,s.kids = l ++ [t] ∧ run body n c { s with kids := [t],adds := s.adds + 1 } = some q ∧ r = { q with kids := l ++ [.mk k fS q.kids] } := by
 have key : ∀ rec,bW body rec (.wrap k c) s = some r → ∃ l t q,s.kids = l ++ [t] ∧ bW body rec c { s with kids := [t],adds := s.adds + 1 } = some q ∧ r = { q with kids := l ++ [.mk k fS q.kids] } := fun rec h => by
  simp only [bW] at h
  split at h
  ·rename_i t ht
   simp only [Option.map_eq_some_iff] at h;obtain ⟨q,h1,h2⟩ := h;have hne : s.kids ≠ [] := fun e => by rw [e] at ht; cases ht
   refine ⟨s.kids.dropLast,t,q,?_,h1,h2.symm⟩;have := List.dropLast_concat_getLast hne;rw [List.getLast?_eq_some_getLast hne] at ht;rw [← Option.some.inj ht];exact this.symm
  ·cases h
 cases n <;> exact key _ h
theorem rM {n : Nat} {x : Nm} {s r : S} (h : run body n (.call x) s = some r) : ∃ m,m < n ∧ run body m (body x) s = some r := by
 cases n with
 | zero => simp only [run,bW] at h; cases h
 | succ n => exact ⟨n,Nat.lt_succ_self _,h⟩
theorem C3 {n : Nat} {f : Tok → Tok → Int} {c : Int → Cmd} {s r : S} (h : run body n (.sel f c) s = some r) : run body n (c (f (aO s.rem) (aO (left s.rem)))) s = some r := by
 cases n <;> exact h
theorem nW {n : Nat} {c a b : Cmd} {s r : S} (h : run body n (.prog c a b) s = some r) : ∃ q,run body n c s = some q ∧ (q.rem.length = s.rem.length → run body n a q = some r) ∧ (q.rem.length ≠ s.rem.length → run body n b q = some r) := by
 have key : ∀ rec,bW body rec (.prog c a b) s = some r → ∃ q,bW body rec c s = some q ∧ (q.rem.length = s.rem.length → bW body rec a q = some r) ∧ (q.rem.length ≠ s.rem.length → bW body rec b q = some r) := fun rec h => by
  simp only [bW,Option.bind_eq_some_iff] at h;obtain ⟨q,h1,h2⟩ := h;refine ⟨q,h1,fun e => ?_,fun e => ?_⟩
  ·rwa [if_pos e] at h2
  ·rwa [if_neg e] at h2
 cases n <;> exact key _ h
theorem cL {n : Nat} {t : Test} {c : Cmd} {s r : S} (h : run body n (.loop t c) s = some r) (ht : s.test t = false) : r = s := by
 cases n <;> simp only [run,bW,ht] at h <;> exact (by simpa using h : s = r).symm
theorem dP {n : Nat} {t : Test} {c : Cmd} {s r : S} (h : run body n (.loop t c) s = some r) (ht : s.test t = true) : ∃ m s1,n = m + 1 ∧ run body n c s = some s1 ∧ run body m (.loop t c) s1 = some r := by
 cases n with
 | zero =>
  simp only [run,bW,ht,if_true,Option.bind_eq_some_iff] at h;obtain ⟨_,_,h⟩ := h
  cases h
 | succ m =>
  simp only [run,bW,ht,if_true,Option.bind_eq_some_iff] at h;obtain ⟨s1,h1,h2⟩ := h;exact ⟨m,s1,rfl,h1,h2⟩
theorem rN {rec : Cmd → S → Option S} (h : ∀ c s r,rec c s = some r → s.adds ≤ r.adds) : ∀ c s r,bW body rec c s = some r → s.adds ≤ r.adds := by
 intro c
 induction c with
 | skip | drop | flag b => intro s x hx; simp only [bW] at hx; cases hx; exact Nat.le_refl _
 | bump => intro s x hx; simp only [bW] at hx; cases hx; simp [S.bump]
 | leaf k => intro s x hx; simp only [bW] at hx; cases hx; simp [S.add]
 | before =>
  intro s x hx;simp only [bW] at hx
  split at hx
  ·cases hx; simp
  ·cases hx
 | seq a b iha ihb =>
  intro s x hx;simp only [bW,Option.bind_eq_some_iff] at hx;obtain ⟨r,h1,h2⟩ := hx;exact Nat.le_trans (iha _ _ h1) (ihb _ _ h2)
 | node k c ih =>
  intro s x hx;simp only [bW,Option.map_eq_some_iff] at hx;obtain ⟨r,h1,rfl⟩ := hx;have := ih _ _ h1;simp only at this ⊢;omega
 | wrap k c ih =>
  intro s x hx;simp only [bW] at hx
  split at hx
  ·simp only [Option.map_eq_some_iff] at hx
   obtain ⟨r,h1,rfl⟩ := hx;have := ih _ _ h1;simp only at this ⊢;omega
  ·cases hx
 | cond t a b iha ihb =>
  intro s x hx;simp only [bW] at hx
  split at hx
  ·exact iha _ _ hx
  ·exact ihb _ _ hx
 | loop t c ih =>
  intro s x hx;simp only [bW] at hx
  split at hx
  ·simp only [Option.bind_eq_some_iff] at hx
   obtain ⟨r,h2,h3⟩ := hx;exact Nat.le_trans (ih _ _ h2) (h _ _ _ h3)
  ·cases hx; exact Nat.le_refl _
 | prog c a b ihc iha ihb =>
  intro s x hx;simp only [bW,Option.bind_eq_some_iff] at hx;obtain ⟨r,h1,h2⟩ := hx
  split at h2
  ·exact Nat.le_trans (ihc _ _ h1) (iha _ _ h2)
  ·exact Nat.le_trans (ihc _ _ h1) (ihb _ _ h2)
 | call x => intro s r hx; exact h _ _ _ hx
 | sel f c ih => intro s r hx; exact ih _ _ _ hx
theorem jU {c : Cmd} {s r : S} : ∀ {n},run body n c s = some r → s.adds ≤ r.adds
 | 0,h => rN (by intro _ _ _ h; cases h) c s r h
 | n + 1,h => rN (fun c s r h => jU (n := n) h) c s r h
theorem aH {c : Cmd} {s r : S} {n m : Nat} (h : run body n c s = some r) (hb : r.adds ≤ m) : s.adds ≤ m := Nat.le_trans (jU h) hb
def Clo (w0 : World) (tv : Value) (aG : List Tok) (n : Nat) (F : Fs) (bP : Nat) (cf : FuncId) (fst cap : List Value) (w : World) (c : Cmd) : Prop :=
 (∀ (args : Array Value) (w : World),(callFunc cf args).run Tryz.prog w = .ok (.enter cf args) w) ∧
 ∀ w1,Bw F w w1 → ∀ below k s r,Ps w0 tv aG F w1 bP below k s → run body n c s = some r → r.adds ≤ fR → Cl Tryz.prog cf (fst ++ ([] : List Value) ++ cap).toArray w1 (fun u w2 => Ps w0 tv aG F w2 bP below k r ∧ Bw F w1 w2)
section
variable {w0 : World} {tv : Value} {aG : List Tok} {F : Fs} {w w' : World} {bP : Nat} {below : List (Int × List Tr)} {k : Int} {s r : S} {n : Nat} {cf : FuncId} {fst cap : List Value} {c : Cmd}
theorem bZ {k' : Int} (hp : Ps w0 tv aG F w bP below k s) (hc : Clo w0 tv aG n F bP cf fst cap w c) (h : run body n (.node k' c) s = some r) (hb : r.adds ≤ fR) :
  Cl Tryz.prog 77 #[.pointer (some ⟨bP,0,none⟩),.int .i64 k',.func (.func cf) fst.toArray cap.toArray] w (fun u w' => Ps w0 tv aG F w' bP below k r ∧ Bw F w w') := by
 obtain ⟨q,h1,rfl⟩ := rL h;exact sW hc.1 hp (fun w1 h2 h3 => hc.2 w1 h2 _ _ _ _ h3 h1 hb) (jU h1) hb
theorem gN {k' : Int} (hp : Ps w0 tv aG F w bP below k s) (hc : Clo w0 tv aG n F bP cf fst cap w c) (h : run body n (.wrap k' c) s = some r) (hb : r.adds ≤ fR) :
  Cl Tryz.prog 200 #[.pointer (some ⟨bP,0,none⟩),.int .i64 k',.func (.func cf) fst.toArray cap.toArray] w (fun u w' => Ps w0 tv aG F w' bP below k r ∧ Bw F w w') := by
 obtain ⟨l,t,q,hk,h1,rfl⟩ := Ar h;exact E4 hc.1 hp hk (fun w1 h2 h3 => hc.2 w1 h2 _ _ _ _ h3 h1 hb) (jU h1) hb
theorem cJ (hC : Cx w0 tv aG) (hp : Ps w0 tv aG F w bP below k s) (h : run body n .bump s = some r) (hb : r.adds ≤ fR) :
  Cl Tryz.prog 80 #[.pointer (some ⟨bP,0,none⟩)] w (fun u w' => Ps w0 tv aG F w' bP below k r ∧ Bw F w w') := by
 obtain rfl := cN h;exact sV hC hp hb
end
set_option maxRecDepth 20000
section
variable {w0 : World} {tv : Value} {aG : List Tok} {F : Fs} {w w' : World} {bP : Nat} {below : List (Int × List Tr)} {k : Int} {s r : S} {n : Nat} {cf : FuncId} {fst cap : List Value} {c : Cmd}
theorem jV (hp : Ps w0 tv aG F w bP below k s) (h : run body n (.leaf 0) s = some r) (hb : r.adds ≤ fR) : Cl Tryz.prog 157 #[.pointer (some ⟨bP,0,none⟩)] w (fun u w' => Ps w0 tv aG F w' bP below k r ∧ Bw F w w') := by
 obtain rfl := nV h;refine Cl.enter Tryz.func157 rfl Tryz.ntmps157 rfl rfl (Wp.region (.m2 rfl (.t2 (cH (mM _) rfl) (Rg.wd trivial (aC Tryz.call134 rfl (kL hp hb)) rfl ?_))));rintro _ w1 ⟨h1,h2⟩;refine .done ?_;exact ⟨[],trivial,h1,h2⟩
theorem nX (hp : Ps w0 tv aG F w bP below k s) (h : run body n (.leaf 108) s = some r) (hb : r.adds ≤ fR) : Cl Tryz.prog 164 #[.pointer (some ⟨bP,0,none⟩)] w (fun u w' => Ps w0 tv aG F w' bP below k r ∧ Bw F w w') := by
 obtain rfl := nV h;refine Cl.enter Tryz.func164 rfl Tryz.ntmps164 rfl rfl (Wp.region (.m2 rfl (.t2 (cH (mM _) rfl) (Rg.wd trivial (aC Tryz.call134 rfl (kL hp hb)) rfl ?_))));rintro _ w1 ⟨h1,h2⟩;refine .done ?_;exact ⟨[],trivial,h1,h2⟩
theorem mO (hp : Ps w0 tv aG F w bP below k s) (h : run body n (.leaf 46) s = some r) (hb : r.adds ≤ fR) : Cl Tryz.prog 171 #[.pointer (some ⟨bP,0,none⟩)] w (fun u w' => Ps w0 tv aG F w' bP below k r ∧ Bw F w w') := by
 obtain rfl := nV h;refine Cl.enter Tryz.func171 rfl Tryz.ntmps171 rfl rfl (Wp.region (.m2 rfl (.t2 (cH (mM _) rfl) (Rg.wd trivial (aC Tryz.call134 rfl (kL hp hb)) rfl ?_))));rintro _ w1 ⟨h1,h2⟩;refine .done ?_;exact ⟨[],trivial,h1,h2⟩
theorem gT (hC : Cx w0 tv aG) (hp : Ps w0 tv aG F w bP below k s) {texts : List ByteArray} {bt : Nat} (ht : Var w bt (texts.map .string) 9) (hn : texts.length ≤ 1000) (h : aV texts (aO s.rem) = true) (hb : s.bump.adds ≤ fR) :
  Cl Tryz.prog 79 #[.pointer (some ⟨bP,0,none⟩),.slice (some ⟨bt,0,none⟩) texts.length texts.length] w (fun u w' => u = .bool true ∧ Ps w0 tv aG F w' bP below k s.bump ∧ Bw F w w') := by
 refine Cl.enter Tryz.func79 rfl Tryz.ntmps79 rfl rfl (.sr (.a2 rfl (.done (.seq (.sr (.m2 rfl (.m2 rfl (Rg.wd trivial (aC Tryz.call73 rfl (bD hC hp ht hn)) rfl ?_))))))));rintro _ w1 ⟨rfl,hx1⟩;rw [h];refine .done (.condT rfl (.sr (.m2 rfl (Rg.wd trivial (aC Tryz.call80 rfl (sV hC (hp.extw hx1) hb)) rfl ?_))));rintro _ w2 ⟨h1,h2⟩;refine .done (.sr (.a2 rfl (.done (Wp.ret ?_))));exact ⟨[_],⟨rfl,trivial⟩,rfl,h1,(Bw.of hx1 hp.und).trans h2⟩
theorem gU (hC : Cx w0 tv aG) (hp : Ps w0 tv aG F w bP below k s) {texts : List ByteArray} {bt : Nat} (ht : Var w bt (texts.map .string) 9) (hn : texts.length ≤ 1000) (h : aV texts (aO s.rem) = false) :
  Cl Tryz.prog 79 #[.pointer (some ⟨bP,0,none⟩),.slice (some ⟨bt,0,none⟩) texts.length texts.length] w (fun u w' => u = .bool false ∧ Ps w0 tv aG F w' bP below k s ∧ Bw F w w') := by
 refine Cl.enter Tryz.func79 rfl Tryz.ntmps79 rfl rfl (.sr (.a2 rfl (.done (.seq (.sr (.m2 rfl (.m2 rfl (Rg.wd trivial (aC Tryz.call73 rfl (bD hC hp ht hn)) rfl ?_))))))));rintro _ w1 ⟨rfl,hx1⟩;rw [h];refine .done (.condF rfl (Wp.skip (.sr (.a2 rfl (.done (Wp.ret ?_))))));exact ⟨[_],⟨rfl,trivial⟩,rfl,hp.extw hx1,Bw.of hx1 hp.und⟩
theorem dI {x : ByteArray} (hC : Cx w0 tv aG) (hp : Ps w0 tv aG F w bP below k s) (h : run body n (Cmd.exp x) s = some r) (hb : r.adds ≤ fR) : Cl Tryz.prog 130 #[.pointer (some ⟨bP,0,none⟩),.string x] w (fun u w' => Ps w0 tv aG F w' bP below k r ∧ Bw F w w') := by
 have hU := hp.und
 cases ht : aV [x] (aO s.rem) with
 | true =>
  have h := aX h ht;obtain rfl := cN h;refine Cl.enter Tryz.func130 rfl Tryz.ntmps130 rfl rfl (.sr (.m2 rfl (.m2 rfl (Rg.wd trivial (aD (aT _) rfl) rfl ?_))));rintro _ w1 ⟨b6,rfl,q6,hx1,hv6⟩;refine Rg.wd trivial (aC Tryz.call79 rfl (gT hC (hp.extw hx1) (texts := [x]) hv6 (by simp) ht hb)) rfl ?_;rintro _ w2 ⟨rfl,h1,h2⟩;refine .t2 (bJ rfl) (.done (.condF rfl (Wp.skip ?_)));exact ⟨[],trivial,h1,(Bw.of hx1 hU).trans h2⟩
 | false =>
  have h := aU h ht;refine Cl.enter Tryz.func130 rfl Tryz.ntmps130 rfl rfl (.sr (.m2 rfl (.m2 rfl (Rg.wd trivial (aD (aT _) rfl) rfl ?_))));rintro _ w1 ⟨b6,rfl,q6,hx1,hv6⟩;refine Rg.wd trivial (aC Tryz.call79 rfl (gU hC (hp.extw hx1) (texts := [x]) hv6 (by simp) ht)) rfl ?_;rintro _ w2 ⟨rfl,h1,h2⟩;refine .t2 (bJ rfl) (.done (.condT rfl (Wp.region (.m2 rfl (Rg.wd trivial (aC Tryz.call164 rfl (nX h1 h hb)) rfl ?_)))));rintro _ w3 ⟨h3,h4⟩;refine .done ?_;exact ⟨[],trivial,h3,((Bw.of hx1 hU).trans h2).trans h4⟩
theorem dH (hC : Cx w0 tv aG) (hp : Ps w0 tv aG F w bP below k s) (h : run body n Cmd.expIdent s = some r) (hb : r.adds ≤ fR) : Cl Tryz.prog 127 #[.pointer (some ⟨bP,0,none⟩)] w (fun u w' => Ps w0 tv aG F w' bP below k r ∧ Bw F w w') := by
 have hU := hp.und
 cases ht : ((aO s.rem).1 == 103) with
 | true =>
  have h := aX h ht;refine Cl.enter Tryz.func127 rfl Tryz.ntmps127 rfl rfl (.sr (.m2 rfl (Rg.wd trivial (aC Tryz.call161 rfl (bT hC hp)) rfl ?_)));rintro _ w1 ⟨rfl,hx1⟩;rw [ht];refine .done (.condT rfl (Wp.region (.m2 rfl (Rg.wd trivial (aC Tryz.call80 rfl (cJ hC (hp.extw hx1) h hb)) rfl ?_))));rintro _ w3 ⟨h3,h4⟩;refine .done ?_;exact ⟨[],trivial,h3,(Bw.of hx1 hU).trans h4⟩
 | false =>
  have h := aU h ht;refine Cl.enter Tryz.func127 rfl Tryz.ntmps127 rfl rfl (.sr (.m2 rfl (Rg.wd trivial (aC Tryz.call161 rfl (bT hC hp)) rfl ?_)));rintro _ w1 ⟨rfl,hx1⟩;rw [ht];refine .done (.condF rfl (Wp.region (.m2 rfl (Rg.wd trivial (aC Tryz.call164 rfl (nX (hp.extw hx1) h hb)) rfl ?_))));rintro _ w3 ⟨h3,h4⟩;refine .done ?_;exact ⟨[],trivial,h3,(Bw.of hx1 hU).trans h4⟩
theorem iG (hC : Cx w0 tv aG) : Clo w0 tv aG n F bP 80 [.pointer (some ⟨bP,0,none⟩)] [] w .bump := ⟨Tryz.call80,fun w1 _ below k s r hp h hb => cJ hC hp h hb⟩
theorem nA (hC : Cx w0 tv aG) : Clo w0 tv aG n F bP 127 [.pointer (some ⟨bP,0,none⟩)] [] w Cmd.expIdent := ⟨Tryz.call127,fun w1 _ below k s r hp h hb => dH hC hp h hb⟩
theorem sX (hC : Cx w0 tv aG) (hp : Ps w0 tv aG F w bP below k s) (h : run body n Cmd.unexpected s = some r) (hb : r.adds ≤ fR) : Cl Tryz.prog 193 #[.pointer (some ⟨bP,0,none⟩)] w (fun u w' => Ps w0 tv aG F w' bP below k r ∧ Bw F w w') := by
 refine Cl.enter Tryz.func193 rfl Tryz.ntmps193 rfl rfl (Wp.region (.m2 rfl (.m2 rfl (.t2 (aM (us := [.pointer (some ⟨bP,0,none⟩)]) (vs := []) rfl rfl) (Rg.wd trivial (aC Tryz.call77 rfl (bZ hp (iG hC) h hb)) rfl ?_)))));rintro _ w1 ⟨h1,h2⟩;refine .done ?_;exact ⟨[],trivial,h1,h2⟩
theorem pS {x : ByteArray} (hC : Cx w0 tv aG) (hp : Ps w0 tv aG F w bP below k s) (hc : Clo w0 tv aG n F bP cf fst cap w c) (h : run body n (Cmd.opt x c) s = some r) (hb : r.adds ≤ fR) : Cl Tryz.prog 156 #[.pointer (some ⟨bP,0,none⟩),.string x,.func (.func cf) fst.toArray cap.toArray] w (fun u w' => Ps w0 tv aG F w' bP below k r ∧ Bw F w w') := by
 have hU := hp.und
 cases ht : aV [x] (aO s.rem) with
 | true =>
  have h := aX h ht;obtain ⟨s1,h1,h⟩ := aI h;obtain rfl := cN h1;refine Cl.enter Tryz.func156 rfl Tryz.ntmps156 rfl rfl (.sr (.m2 rfl (.m2 rfl (Rg.wd trivial (aD (aT _) rfl) rfl ?_))));rintro _ w1 ⟨b6,rfl,q6,hx1,hv6⟩;refine Rg.wd trivial (aC Tryz.call79 rfl (gT hC (hp.extw hx1) (texts := [x]) hv6 (by simp) ht (aH h hb))) rfl ?_;rintro _ w2 ⟨rfl,h1,h2⟩;refine .done (.condT rfl (Wp.region (.m2 rfl (Rg.wd trivial (mY rfl hc.1 rfl (hc.2 _ ((Bw.of hx1 hU).trans h2) _ _ _ _ h1 h hb)) rfl ?_))));rintro _ w3 ⟨h3,h4⟩;refine .done ?_;exact ⟨[],trivial,h3,((Bw.of hx1 hU).trans h2).trans h4⟩
 | false =>
  have h := aU h ht;refine Cl.enter Tryz.func156 rfl Tryz.ntmps156 rfl rfl (.sr (.m2 rfl (.m2 rfl (Rg.wd trivial (aD (aT _) rfl) rfl ?_))));rintro _ w1 ⟨b6,rfl,q6,hx1,hv6⟩;refine Rg.wd trivial (aC Tryz.call79 rfl (gU hC (hp.extw hx1) (texts := [x]) hv6 (by simp) ht)) rfl ?_;rintro _ w2 ⟨rfl,h1,h2⟩;refine .done (.condF rfl (Wp.region (.m2 rfl (Rg.wd trivial (aC Tryz.call157 rfl (jV h1 h hb)) rfl ?_))));rintro _ w3 ⟨h3,h4⟩;refine .done ?_;exact ⟨[],trivial,h3,((Bw.of hx1 hU).trans h2).trans h4⟩
theorem iS (hA : Asc w) : Cl Tryz.prog 122 #[] w (fun u w' => (∃ b,u = .slice (some ⟨b,0,none⟩) eR.length eR.length ∧ Var w' b (eR.map .string) 9) ∧ Ext w w') := by
 have el : (Lib.fields nQ.data.toList).length = eR.length := by unfold eR; rw [List.length_map]
 refine Cl.enter Tryz.func122 rfl Tryz.ntmps122 rfl rfl (.sr (.a2 rfl (.done (.sr ?_))));refine Rg.wd trivial (aC Tryz.call106 rfl (Lexi.jR (s := nQ) (by decide) (by decide +kernel) hA)) rfl ?_;rintro _ w1 ⟨⟨b,rfl,hv⟩,hx⟩;rw [el];refine .a2 rfl (.done (Wp.ret ?_));exact ⟨[_],⟨rfl,trivial⟩,⟨b,rfl,hv⟩,hx⟩
theorem iT : eR.length = 9 := by kernel_rfl
theorem rO (hC : Cx w0 tv aG) (hp : Ps w0 tv aG F w bP below k s) : Cl Tryz.prog 192 #[.pointer (some ⟨bP,0,none⟩)] w (fun u w' => u = .bool (kX (aO s.rem)) ∧ Ext w w') := by
 have hx := Ext.refl w;unfold kX
 cases ht : aV eR (aO s.rem) with
 | true =>
  refine Cl.enter Tryz.func192 rfl Tryz.ntmps192 rfl rfl (.sr (.a2 rfl (.done (.sr (.m2 rfl (Rg.wd trivial (aC Tryz.call122 rfl (iS ((hC.asc.ext hp.ext).ext hx))) rfl ?_))))));rintro _ w1 ⟨⟨b4,rfl,hv4⟩,hx1⟩;replace hx := hx.ext hx1;refine Rg.wd trivial (aC Tryz.call73 rfl (bD hC (hp.extw hx) hv4 (by rw [iT]; decide))) rfl ?_;rintro _ w2 ⟨rfl,hx2⟩;replace hx := hx.ext hx2;rw [ht];refine .m2 rfl (.g2 (aP rfl) (Rg.wd ⟨_,rfl,rfl⟩ (aD (aT _) rfl) rfl ?_));rintro _ w3 ⟨b8,rfl,q8,hx3,hv8⟩;replace hx := hx.ext hx3;refine Rg.wd ⟨_,rfl,rfl⟩ (aC Tryz.call73 rfl (bD hC (hp.extw hx) (texts := [⟨#[102,110]⟩]) hv8 (by decide))) rfl ?_;rintro _ w4 ⟨rfl,hx4⟩;replace hx := hx.ext hx4;refine .g2 (bJ rfl) (.t2 (aJ rfl rfl) (.a2 rfl (.done (Wp.ret ?_))));exact ⟨[_],⟨rfl,trivial⟩,rfl,hx⟩
 | false =>
  refine Cl.enter Tryz.func192 rfl Tryz.ntmps192 rfl rfl (.sr (.a2 rfl (.done (.sr (.m2 rfl (Rg.wd trivial (aC Tryz.call122 rfl (iS ((hC.asc.ext hp.ext).ext hx))) rfl ?_))))));rintro _ w1 ⟨⟨b4,rfl,hv4⟩,hx1⟩;replace hx := hx.ext hx1;refine Rg.wd trivial (aC Tryz.call73 rfl (bD hC (hp.extw hx) hv4 (by rw [iT]; decide))) rfl ?_;rintro _ w2 ⟨rfl,hx2⟩;replace hx := hx.ext hx2;rw [ht];refine .m2 rfl (.so rfl rfl (.so rfl rfl (.so rfl rfl (.so rfl rfl (.t2 (aN rfl rfl) (.a2 rfl (.done (Wp.ret ?_))))))));exact ⟨[_],⟨rfl,trivial⟩,rfl,hx⟩
end
end Go.Proofs.YtlndmiegodcfjaaGreatDoor.Par
namespace Go.Proofs
open Go.Shelf
theorem Tryz.lays109 : Go.Proofs.Lays.n109 Tryz.prog Tryz.lays110_ren := {
 mixed := by kernel_rfl
 f109 := Tryz.func105.trans (congrArg some (by kernel_rfl))
 t0 := Tryz.underlying0
 a0 := Tryz.isAgg0
 z0 := Tryz.sizeOf0
 v0 := Tryz.zeroValue0
 t3 := Tryz.underlying3
 a3 := Tryz.isAgg3
 z3 := Tryz.sizeOf3
 v3 := Tryz.zeroValue3
 t4 := Tryz.underlying4
 a4 := Tryz.isAgg4
 z4 := Tryz.sizeOf4
 v4 := Tryz.zeroValue4
 t9 := Tryz.underlying9
 a9 := Tryz.isAgg9
 z9 := Tryz.sizeOf9
 v9 := Tryz.zeroValue9
 t31 := Tryz.underlying74
 a31 := Tryz.isAgg74
 z31 := Tryz.sizeOf74
 v31 := Tryz.zeroValue74 }
open Go.RowKit Go.Lib in
theorem Tryz.slices_Index_string (b off n c : Nat) (zs : List ByteArray) (x : ByteArray) (w : World) (hz : n ≤ zs.length) (hbig : n ≤ 9223372036854775807) (hc : ∀ j,j < zs.length → w.cell? ⟨b,off + j,none⟩ = some (.string (zs.getD j ByteArray.empty))) :
  Calls Tryz.prog 105 #[.slice (some ⟨b,off,none⟩) n c,.string x] w fun e w' => e = .returned (.int .i64 (Lib.idxOfS (zs.take n) x)) ∧ w' = w := Any.slices_Index_string Tryz.lays109 b off n c zs x w hz hbig hc
end Go.Proofs
namespace Go.Proofs.YtlndmiegodcfjaaGreatDoor.Par
set_option maxRecDepth 20000
open Go.Gx Go.RowKit Go.Lib
open Lexi (Asc)
section
variable {w0 : World} {tv : Value} {aG : List Tok} {F : Fs} {w w' : World} {bP : Nat} {below : List (Int × List Tr)} {k : Int} {s r : S} {n : Nat} {cf : FuncId} {fst cap : List Value} {c : Cmd}
theorem pT {b : Nat} {zs : List ByteArray} {x : ByteArray} (hz : zs.length ≤ 9223372036854775807) (hv : Var w b (zs.map .string) 9) :
  Cl Tryz.prog 105 #[.slice (some ⟨b,0,none⟩) zs.length zs.length,.string x] w (fun u w' => u = .int .i64 (idxOfS zs x) ∧ w = w') :=
 (Cl.of (Tryz.slices_Index_string b 0 zs.length zs.length zs x w (Nat.le_refl _) hz (fun j hj => hv.cells j _ (by simp [hj])))).mono fun _ _ ⟨h1,h2⟩ => ⟨by rw [h1,List.take_length],h2.symm⟩
theorem oL {x : ByteArray} (hA : Asc w) : Cl Tryz.prog 75 #[.string x] w (fun u w' => u = .int .i64 (eF x) ∧ Ext w w') := by
 have el : (Lib.fields jL.data.toList).length = fX.length := by unfold fX; rw [List.length_map]
 have hx := Ext.refl w;have hrange := mE fX x 0;rw [lO] at hrange;obtain ⟨ix,hix⟩ : ∃ ix,idxOfS fX x = ix := ⟨_,rfl⟩;have hrange : ix < 8 ∨ ix = -1 := by rw [← hix]; unfold idxOfS; omega
 refine Cl.enter Tryz.func75 rfl Tryz.ntmps75 rfl rfl (.sr (.a2 rfl (.done (.sr ?_))));refine Rg.wd trivial (aC Tryz.call106 rfl (Lexi.jR (s := jL) (by decide) (by decide +kernel) hA)) rfl ?_;rintro _ w1 ⟨⟨b,rfl,hv⟩,hx1⟩;replace hx := hx.ext hx1;rw [el];refine .m2 rfl ?_;refine Rg.wd trivial (aC Tryz.call105 rfl (pT (zs := fX) (by rw [lO]; decide) hv)) rfl ?_;rintro _ w2 ⟨rfl,rfl⟩;rw [hix];refine .a2 rfl (.done (.seq (.sr (.m2 rfl (.t2 (cT rfl rfl) (.done ?_))))))
 by_cases hn : ix < 0
 ·rw [show decide (ix < 0) = true from decide_eq_true hn]
  refine .condT rfl (.sr (.a2 rfl (.done (Wp.ret ?_))));exact ⟨[_],⟨rfl,trivial⟩,by unfold eF; rw [hix,if_pos hn]; rfl,hx⟩
 ·rw [show decide (ix < 0) = false from decide_eq_false hn]
  refine .condF rfl (Wp.skip (.sr (.m2 rfl ?_)));refine .t2 (bC rfl rfl (by omega)) ?_;refine .a2 rfl (.done (Wp.ret ?_));exact ⟨[_],⟨rfl,trivial⟩,by unfold eF; rw [hix,if_neg hn]; rfl,hx⟩
def S.look (s : S) : S := S.bump ⟨s.rem,[],false,0⟩
theorem C4 (s : S) : s.look.rem = left s.rem := rfl
theorem dJ (hC : Cx w0 tv aG) (hp : Ps w0 tv aG F w bP below k s) :
  Cl Tryz.prog 74 #[.pointer (some ⟨bP,0,none⟩)] w (fun u w' => ∃ bQ,u = .pointer (some ⟨bQ,0,none⟩) ∧ Ps w0 tv aG (fun z => z < w.heap.size) w' bQ [] 0 s.look ∧ Ext w w') := by
 have hx := Ext.refl w;obtain ⟨g,h1,e0,h2,h3,hvar⟩ := hp.var;have hc := hvar.cells;have hxw := h1.ext;have hne : fE s.rem = fE s.rem := rfl;have hlen : s.look.adds ≤ fR := by
  have hl : (fE s.rem).length ≤ s.rem.length := by
   have := congrArg List.length (eY s.rem);rw [List.length_append] at this;omega
  have h4 := congrArg List.length h2;rw [List.length_drop] at h4;have := hC.few;simp only [S.look,S.bump,fR];omega
 obtain ⟨tp,tl,tcap,rfl⟩ : ∃ tp tl tcap,tv = .slice tp tl tcap := by
  obtain ⟨_,p,cap,e,_⟩ := hC.tok;exact ⟨p,_,cap,e⟩
 refine Cl.enter Tryz.func74 rfl Tryz.ntmps74 rfl rfl (.sr (.a2 rfl (.done ?_)));refine Wp.seq (Wp.draw [0,1,2,3,4,5,6,7,8,9,10,11,12] [] mixed (by kernel_rfl) (by kernel_rfl) ?_);intro w1 hx1 _;replace hx := hx.ext hx1;refine .m2 rfl (.t2 (aF rfl) (.t2 (aA gM rfl) (.t2 (aB mJ rfl (bF.get (i := 0) (hc.ext hx) rfl)) (.m2 rfl (.t2 (aF rfl) (.t2 (aA fA rfl) (.t2 (aB bA rfl (bF.get (i := 1) (hc.ext hx) rfl)) (.t2 (cH (aAa) rfl) ?_))))))));refine Rg.wdB trivial rfl (aD (jH _ _ _ _ _) rfl) rfl (fun _ _ hr => by obtain ⟨_,_,_,hr,_⟩ := hr; exact hr) ?_;have hl13 := hx.le;rintro _ w2 ⟨b13,rfl,q13,hx2,hv13⟩;replace hx := hx.ext hx2;refine .t2 (cH (xF _ _ _ _ _ _ _) rfl) ?_;refine Rg.wdB trivial rfl (aW rfl rfl) rfl (fun _ _ hr => by obtain ⟨_,_,_,hr,_⟩ := hr; exact hr) ?_;have hl15 := hx.le;have hl13b := hv13.lt;rintro _ w3 ⟨b15,rfl,q15,hx3,hv15⟩;replace hx := hx.ext hx3;replace hv13 := hv13.ext hx3;refine .a2 rfl (.done ?_);have hpq : Ps w0 (.slice tp tl tcap) aG (fun z => z < w.heap.size) w3 b15 [] 0 ⟨s.rem,[],false,0⟩ := by
  refine ⟨⟨b15,.slice (some ⟨b13,0,none⟩) 1 1,g.pos,[⟨0,.slice none 0 0,[]⟩],fun _ => False⟩,⟨hxw.ext hx,fun z hz => Nat.lt_of_lt_of_le hz hxw.le,fun z hz => Nat.lt_of_lt_of_le hz hx.le,fun z hz => hz.elim,hv15,bK (sp := []) (Nat.zero_le _) rfl (Nat.le_refl _) (by decide) rfl hv13,fun f hf => ?_,fun f hf t ht => ?_,?_,fun b hb => ⟨fun hF => ?_,fun h => h⟩,fun z _ h => h⟩,rfl,h2,h3,rfl,fun f hf => ?_,Nat.le_refl _⟩
  ·obtain rfl : f = ⟨0,.slice none 0 0,[]⟩ := by simpa using hf
   exact ⟨rfl,.inl ⟨rfl,rfl⟩⟩
  ·obtain rfl : f = ⟨0,.slice none 0 0,[]⟩ := by simpa using hf
   cases ht
  ·simp [Pg.muts,Value.ownBlock]
   omega
  ·simp [Pg.muts,Value.ownBlock] at hb
   omega
  ·obtain rfl : f = ⟨0,.slice none 0 0,[]⟩ := by simpa using hf
   exact Nat.le_refl _
 refine .sr (.m2 rfl (Rg.wd trivial (aC Tryz.call80 rfl (sV hC hpq hlen)) rfl ?_));rintro _ w17 ⟨h17,hb17⟩;refine .done (.sr (.m2 rfl (.a2 rfl (.done (Wp.ret ?_)))));exact ⟨[_],⟨rfl,trivial⟩,⟨b15,rfl,h17,Bw.ext hx hb17 fun z hz => hz⟩⟩
end
section
variable {w0 : World} {tv : Value} {aG : List Tok} {F : Fs} {w w' : World} {bP : Nat} {below : List (Int × List Tr)} {k : Int} {s r : S} {n : Nat} {cf : FuncId} {fst cap : List Value} {c : Cmd}
theorem jJ {cl : ByteArray} (hC : Cx w0 tv aG) (hp : Ps w0 tv aG F w bP below k s) (hc : Clo w0 tv aG n F bP cf fst cap w c) (hr : run body n (Cmd.list cl c) s = some r) (hb : r.adds ≤ fR) :
  Cl Tryz.prog 159 #[.pointer (some ⟨bP,0,none⟩),.string cl,.func (.func cf) fst.toArray cap.toArray] w (fun u w' => Ps w0 tv aG F w' bP below k r ∧ Bw F w w') := by
 obtain ⟨sL,hL,hE⟩ := aI hr;have hbL := aH hE hb;refine Cl.enter Tryz.func159 rfl Tryz.ntmps159 rfl rfl (.seq (Wp.block ?_));refine Wp.loop (ι := S × Nat) (fun _ => [(0,.pointer (some ⟨bP,0,none⟩)),(1,.string cl),(2,.func (.func cf) fst.toArray cap.toArray)])
  (fun i w' => Ps w0 tv aG F w' bP below k i.1 ∧ Bw F w w' ∧ run body i.2 _ i.1 = some sL ∧ i.2 ≤ n) (fun i => i.2) (s,n) (by repeat (first | exact .nil | refine .cons rfl ?_)) ⟨hp,Bw.refl _ _,hL,Nat.le_refl _⟩ ?_
 clear hp hL;rintro ⟨s',m⟩ wl ⟨hp,a,hrun,hmn⟩;simp only at hp hrun hmn;have hx := Ext.refl wl;have hU := hp.und
 cases h1 : aV [cl] (aO s'.rem) with
 | true =>
  have ht : s'.test (fun t _ _ _ => !aV [cl] t && t.1 != 100 && !kX t) = false := by simp [S.test,h1]
  obtain rfl := cL hrun ht;refine .seq (.sr (.m2 rfl (.m2 rfl (Rg.wd trivial (aD (aT _) rfl) rfl ?_))));rintro _ w1 ⟨b9,rfl,q9,hx1,hv9⟩;replace hx := hx.ext hx1;refine Rg.wd trivial (aC Tryz.call73 rfl (bD hC (hp.extw hx) (texts := [cl]) hv9 (by simp))) rfl ?_;rintro _ w2 ⟨rfl,hx2⟩;replace hx := hx.ext hx2;rw [h1];refine .t2 (bJ rfl) (.m2 rfl (.so rfl rfl (.so rfl rfl (.so rfl rfl (.t2 (aN rfl rfl) (.m2 rfl (.so rfl rfl (.so rfl rfl (.so rfl rfl (.t2 (aN rfl rfl) (.done (.condF rfl ?_))))))))))));refine Wp.exit (Wp.region (.m2 rfl (.m2 rfl (Rg.wd trivial (aC Tryz.call130 rfl (dI hC (hp.extw hx) hE hb)) rfl ?_))));rintro _ wE ⟨hE1,hE2⟩;refine .done ?_;exact ⟨[],trivial,hE1,(a.trans (Bw.of hx hU)).trans hE2⟩
 | false =>
  cases h2 : ((aO s'.rem).1 == 100) with
  | true =>
   have ht : s'.test (fun t _ _ _ => !aV [cl] t && t.1 != 100 && !kX t) = false := by simp only [S.test,bne,h1,h2]; rfl
   obtain rfl := cL hrun ht;refine .seq (.sr (.m2 rfl (.m2 rfl (Rg.wd trivial (aD (aT _) rfl) rfl ?_))));rintro _ w1 ⟨b9,rfl,q9,hx1,hv9⟩;replace hx := hx.ext hx1;refine Rg.wd trivial (aC Tryz.call73 rfl (bD hC (hp.extw hx) (texts := [cl]) hv9 (by simp))) rfl ?_;rintro _ w2 ⟨rfl,hx2⟩;replace hx := hx.ext hx2;rw [h1];refine .t2 (bJ rfl) (.m2 rfl (.g2 (aP rfl) (Rg.wd ⟨_,rfl,rfl⟩ (aC Tryz.call35 rfl (fQ hC (hp.extw hx))) rfl ?_)));rintro _ w3 ⟨rfl,hx3⟩;replace hx := hx.ext hx3;rw [h2];refine .g2 (bJ rfl) (.t2 (aJ rfl rfl) (.m2 rfl (.so rfl rfl (.so rfl rfl (.so rfl rfl (.t2 (aN rfl rfl) (.done (.condF rfl (Wp.exit (Wp.region (.m2 rfl (.m2 rfl ?_))))))))))));refine Rg.wd trivial (aC Tryz.call130 rfl (dI hC (hp.extw hx) hE hb)) rfl ?_;rintro _ wE ⟨hE1,hE2⟩;refine .done ?_;exact ⟨[],trivial,hE1,(a.trans (Bw.of hx hU)).trans hE2⟩
  | false =>
   cases h3 : kX (aO s'.rem) with
   | true =>
    have ht : s'.test (fun t _ _ _ => !aV [cl] t && t.1 != 100 && !kX t) = false := by simp only [S.test,bne,h1,h2,h3]; rfl
    obtain rfl := cL hrun ht;refine .seq (.sr (.m2 rfl (.m2 rfl (Rg.wd trivial (aD (aT _) rfl) rfl ?_))));rintro _ w1 ⟨b9,rfl,q9,hx1,hv9⟩;replace hx := hx.ext hx1;refine Rg.wd trivial (aC Tryz.call73 rfl (bD hC (hp.extw hx) (texts := [cl]) hv9 (by simp))) rfl ?_;rintro _ w2 ⟨rfl,hx2⟩;replace hx := hx.ext hx2;rw [h1];refine .t2 (bJ rfl) (.m2 rfl (.g2 (aP rfl) (Rg.wd ⟨_,rfl,rfl⟩ (aC Tryz.call35 rfl (fQ hC (hp.extw hx))) rfl ?_)));rintro _ w3 ⟨rfl,hx3⟩;replace hx := hx.ext hx3;rw [h2];refine .g2 (bJ rfl) (.t2 (aJ rfl rfl) (.m2 rfl (.g2 (aP rfl) (Rg.wd ⟨_,rfl,rfl⟩ (aC Tryz.call192 rfl (rO hC (hp.extw hx))) rfl ?_))));rintro _ w4 ⟨rfl,hx4⟩;replace hx := hx.ext hx4;rw [h3];refine .g2 (bJ rfl) (.t2 (aJ rfl rfl) (.done (.condF rfl (Wp.exit (Wp.region (.m2 rfl (.m2 rfl (Rg.wd trivial (aC Tryz.call130 rfl (dI hC (hp.extw hx) hE hb)) rfl ?_))))))));rintro _ wE ⟨hE1,hE2⟩;refine .done ?_;exact ⟨[],trivial,hE1,(a.trans (Bw.of hx hU)).trans hE2⟩
   | false =>
    have ht : s'.test (fun t _ _ _ => !aV [cl] t && t.1 != 100 && !kX t) = true := by simp only [S.test,bne,h1,h2,h3]; rfl
    obtain ⟨m1,s2,rfl,hbody,hrest⟩ := dP hrun ht;obtain ⟨q,hq,hsame,hmore⟩ := nW hbody;have hb2 := aH hrest hbL;have hqb : q.adds ≤ fR := by
     by_cases e : q.rem.length = s'.rem.length
     ·exact aH (hsame e) hb2
     ·exact aH (hmore e) hb2
    refine .seq (.sr (.m2 rfl (.m2 rfl (Rg.wd trivial (aD (aT _) rfl) rfl ?_))));rintro _ w1 ⟨b9,rfl,q9,hx1,hv9⟩;replace hx := hx.ext hx1;refine Rg.wd trivial (aC Tryz.call73 rfl (bD hC (hp.extw hx) (texts := [cl]) hv9 (by simp))) rfl ?_;rintro _ w2 ⟨rfl,hx2⟩;replace hx := hx.ext hx2;rw [h1];refine .t2 (bJ rfl) (.m2 rfl (.g2 (aP rfl) (Rg.wd ⟨_,rfl,rfl⟩ (aC Tryz.call35 rfl (fQ hC (hp.extw hx))) rfl ?_)));rintro _ w3 ⟨rfl,hx3⟩;replace hx := hx.ext hx3;rw [h2];refine .g2 (bJ rfl) (.t2 (aJ rfl rfl) (.m2 rfl (.g2 (aP rfl) (Rg.wd ⟨_,rfl,rfl⟩ (aC Tryz.call192 rfl (rO hC (hp.extw hx))) rfl ?_))));rintro _ w4 ⟨rfl,hx4⟩;replace hx := hx.ext hx4;rw [h3];refine .g2 (bJ rfl) (.t2 (aJ rfl rfl) (.done (.condT rfl (Wp.skip (Wp.block ?_)))));have hp1 := hp.extw hx;obtain ⟨g,g1,g0,g2,g3,hvar⟩ := hp1.var;have hc1 := hvar.cells;have hbx := Bw.of hx hU;refine .sr (.m2 rfl (.t2 (aF rfl) (.t2 (aA fA rfl) (.t2 (aB bA rfl (bF.get (i := 1) hc1 rfl)) (.a2 rfl (.done (.sr (.m2 rfl (Rg.wd trivial (mY rfl hc.1 rfl (hc.2 _ (a.trans hbx) _ _ _ _ hp1 (dT hmn hq) hqb)) rfl ?_)))))))));rintro _ wq ⟨hp2,hb3⟩;obtain ⟨g',g1',g0',g2',g3',hvar'⟩ := hp2.var;have hc2 := hvar'.cells;have hl1 := congrArg List.length g2;have hl2 := congrArg List.length g2';rw [List.length_drop] at hl1 hl2;refine .done (Wp.block ?_)
    by_cases hsm : q.rem.length = s'.rem.length
    ·skip
     refine .sr (.m2 rfl (.t2 (aF rfl) (.t2 (aA fA rfl) (.t2 (aB bA rfl (bF.get (i := 1) hc2 rfl)) (.m2 rfl ?_)))));refine .t2 (aS rfl rfl (by omega)) ?_;refine .a2 rfl (.done (.condT rfl (Wp.region (.m2 rfl (Rg.wd trivial (aC Tryz.call193 rfl (sX hC hp2 (hsame hsm) hb2)) rfl ?_)))));rintro _ wU ⟨hU1,hU2⟩;refine .done ?_;exact ⟨(s2,m1),by repeat (first | exact .nil | refine .cons rfl ?_),⟨hU1,((a.trans hbx).trans hb3).trans hU2,hrest,by simp only; omega⟩,by simp only; omega⟩
    ·skip
     refine .sr (.m2 rfl (.t2 (aF rfl) (.t2 (aA fA rfl) (.t2 (aB bA rfl (bF.get (i := 1) hc2 rfl)) (.m2 rfl ?_)))));refine .t2 (aR rfl rfl (by omega)) ?_;refine .a2 rfl (.done ?_);have hmm := hmore hsm
     cases h4 : aV [cl] (aO q.rem) with
     | true =>
      refine .condF rfl (.sr (.m2 rfl (.m2 rfl (Rg.wd trivial (aD (aT _) rfl) rfl ?_))));rintro _ w40 ⟨b40,rfl,q40,hx40,hv40⟩;refine Rg.wd trivial (aC Tryz.call73 rfl (bD hC (hp2.extw hx40) (texts := [cl]) hv40 (by simp))) rfl ?_;rintro _ w41 ⟨rfl,hx41⟩;rw [h4];have hx42 := hx40.ext hx41;refine .t2 (bJ rfl) (.a2 rfl (.done (.condF rfl (Wp.skip ?_))));obtain rfl := cI (aX hmm h4);exact ⟨(s2,m1),by repeat (first | exact .nil | refine .cons rfl ?_),⟨hp2.extw hx42,((a.trans hbx).trans hb3).trans (Bw.of hx42 hp2.und),hrest,by simp only; omega⟩,by simp only; omega⟩
     | false =>
      refine .condF rfl (.sr (.m2 rfl (.m2 rfl (Rg.wd trivial (aD (aT _) rfl) rfl ?_))));rintro _ w40 ⟨b40,rfl,q40,hx40,hv40⟩;refine Rg.wd trivial (aC Tryz.call73 rfl (bD hC (hp2.extw hx40) (texts := [cl]) hv40 (by simp))) rfl ?_;rintro _ w41 ⟨rfl,hx41⟩;rw [h4];have hx42 := hx40.ext hx41;refine .t2 (bJ rfl) (.a2 rfl (.done (.condT rfl (Wp.region (.m2 rfl (Rg.wd trivial (aC Tryz.call130 rfl (dI hC (hp2.extw hx42) (aU hmm h4) hb2)) rfl ?_))))));rintro _ w44 ⟨h441,h442⟩;refine .done ?_;exact ⟨(s2,m1),by repeat (first | exact .nil | refine .cons rfl ?_),⟨h441,(((a.trans hbx).trans hb3).trans (Bw.of hx42 hp2.und)).trans h442,hrest,by simp only; omega⟩,by simp only; omega⟩
end
def Au : Nm → FuncId × List Value
 | .block => (158,[]) | .statement => (191,[]) | .letS => (224,[]) | .returnS => (226,[]) | .binary n => (172,[.int .i64 n]) | .unary => (198,[]) | .arguments => (250,[]) | .postE => (233,[]) | .primary => (227,[]) | .ifExpr => (252,[]) | .matchE => (253,[])
 | .structLit => (254,[]) | .lambda => (255,[]) | .pattern => (248,[]) | .item => (36,[]) | .skipTo => (76,[]) | .itemBody k => (81,[.int .i64 k]) | .use => (124,[]) | .typeParams => (155,[]) | .typeParam => (189,[]) | .params cl => (133,[.string cl])
 | .function b => (125,[.bool b]) | .dataType k => (126,[.int .i64 k]) | .members => (128,[]) | .impl => (129,[]) | .path b => (170,[.bool b]) | .typeExpr => (131,[])
def DN (w0 : World) (tv : Value) (aG : List Tok) (m : Nat) : Prop := ∀ (x : Nm) (F : Fs) (w : World) (bP : Nat) (below : List (Int × List Tr)) (k : Int) (s r : S),Ps w0 tv aG F w bP below k s → run body m (body x) s = some r → r.adds ≤ fR →
 Cl Tryz.prog (Au x).1 (.pointer (some ⟨bP,0,none⟩) :: (Au x).2).toArray w (fun u w' => (x = .statement → u = .bool r.flag) ∧ Ps w0 tv aG F w' bP below k r ∧ Bw F w w')
section
variable {w0 : World} {tv : Value} {aG : List Tok} {F : Fs} {w w' : World} {bP : Nat} {below : List (Int × List Tr)} {k : Int} {s r : S} {n : Nat} {cf : FuncId} {fst cap : List Value} {c : Cmd}
theorem bG {x : Nm} (hD : ∀ m,m < n → DN w0 tv aG m) (hp : Ps w0 tv aG F w bP below k s) (h : run body n (.call x) s = some r) (hb : r.adds ≤ fR) :
  Cl Tryz.prog (Au x).1 (.pointer (some ⟨bP,0,none⟩) :: (Au x).2).toArray w (fun u w' => (x = .statement → u = .bool r.flag) ∧ Ps w0 tv aG F w' bP below k r ∧ Bw F w w') := by
 obtain ⟨m,h1,h2⟩ := rM h;exact hD m h1 x F w bP below k s r hp h2 hb
theorem dL {f : FuncId} (hcf : ∀ (args : Array Value) (w : World),(callFunc f args).run Tryz.prog w = .ok (.enter f args) w) (hD : ∀ m,m < n → DN w0 tv aG m) (x : Nm) (hf : (Au x).1 = f := by rfl) (hx : (Au x).2 = [] := by rfl) : Clo w0 tv aG n F bP f [.pointer (some ⟨bP,0,none⟩)] [] w (.call x) := by
 refine ⟨hcf,fun w1 _ below k s r hp h hb => ?_⟩;have := bG hD hp h hb;rw [hf,hx] at this;exact this.mono fun u w' h => h.2
theorem gH (hC : Cx w0 tv aG) (hD : ∀ m,m < n → DN w0 tv aG m) (hp : Ps w0 tv aG F w bP below k s) (hr : run body n Cmd.expr s = some r) (hb : r.adds ≤ fR) : Cl Tryz.prog 132 #[.pointer (some ⟨bP,0,none⟩)] w (fun u w' => Ps w0 tv aG F w' bP below k r ∧ Bw F w w') := by
 have b := Bw.refl F w;have a : ∀ z,F z → F z := fun z h => h;have c := hp.base;refine Cl.enter Tryz.func132 rfl Tryz.ntmps132 rfl rfl (Wp.region (.m2 rfl (Rg.wd trivial (aC Tryz.call172 rfl (bG hD hp hr hb)) rfl ?_)));rintro _ w1 ⟨hst,hp1,hb1⟩;replace b := b.trans (hb1.sub a);clear hp;have hp := hp1;clear hp1;refine .done ?_;exact ⟨[],trivial,hp.sub a c,b⟩
theorem C5 (hC : Cx w0 tv aG) (hD : ∀ m,m < n → DN w0 tv aG m) : Clo w0 tv aG n F bP 132 [.pointer (some ⟨bP,0,none⟩)] [] w Cmd.expr := ⟨Tryz.call132,fun w1 _ below k s r hp h hb => gH hC hD hp h hb⟩
theorem nB (hC : Cx w0 tv aG) (hp : Ps w0 tv aG F w bP below k s) : Cl Tryz.prog 268 #[.pointer (some ⟨bP,0,none⟩)] w (fun u w' => u = .bool (fT (aO s.rem)) ∧ Ext w w') := by
 have hx := Ext.refl w;unfold fT
 cases h1 : ((aO s.rem).1 == 103) with
 | true =>
  refine Cl.enter Tryz.func268 rfl Tryz.ntmps268 rfl rfl (.sr (.a2 rfl (.done (.sr (.m2 rfl (Rg.wd trivial (aC Tryz.call161 rfl (bT hC (hp.extw hx))) rfl ?_))))));rintro _ w1 ⟨rfl,hx1⟩;replace hx := hx.ext hx1;rw [h1];refine .m2 rfl (.so rfl rfl (.so rfl rfl (.so rfl rfl (.so rfl rfl (.t2 (aJ rfl rfl) (.m2 rfl (.so rfl rfl (.so rfl rfl (.so rfl rfl (.t2 (aJ rfl rfl) (.a2 rfl (.done ?_))))))))))));refine Wp.ret ?_;exact ⟨[_],⟨rfl,trivial⟩,rfl,hx⟩
 | false =>
  cases h2 : ((aO s.rem).1 == 105) with
  | true =>
   refine Cl.enter Tryz.func268 rfl Tryz.ntmps268 rfl rfl (.sr (.a2 rfl (.done (.sr (.m2 rfl (Rg.wd trivial (aC Tryz.call161 rfl (bT hC (hp.extw hx))) rfl ?_))))));rintro _ w1 ⟨rfl,hx1⟩;replace hx := hx.ext hx1;rw [h1];refine .m2 rfl (.g2 (aP rfl) (Rg.wd ⟨_,rfl,rfl⟩ (aC Tryz.call72 rfl ((hp.extw hx).peek hC)) rfl ?_));rintro _ w2 ⟨rfl,hx2⟩;replace hx := hx.ext hx2;refine .g2 (lQ rfl (fun w => rfl)) (.g2 (aS rfl rfl (beq_iff_eq.1 h2)) (.t2 (aN rfl rfl) (.m2 rfl (.so rfl rfl (.so rfl rfl (.so rfl rfl (.t2 (aJ rfl rfl) (.a2 rfl (.done (Wp.ret ?_))))))))));exact ⟨[_],⟨rfl,trivial⟩,rfl,hx⟩
  | false =>
   refine Cl.enter Tryz.func268 rfl Tryz.ntmps268 rfl rfl (.sr (.a2 rfl (.done (.sr (.m2 rfl (Rg.wd trivial (aC Tryz.call161 rfl (bT hC (hp.extw hx))) rfl ?_))))));rintro _ w1 ⟨rfl,hx1⟩;replace hx := hx.ext hx1;rw [h1];refine .m2 rfl (.g2 (aP rfl) (Rg.wd ⟨_,rfl,rfl⟩ (aC Tryz.call72 rfl ((hp.extw hx).peek hC)) rfl ?_));rintro _ w2 ⟨rfl,hx2⟩;replace hx := hx.ext hx2;refine .g2 (lQ rfl (fun w => rfl)) ?_;refine .g2 (aR rfl rfl (fun e => by rw [beq_iff_eq.2 e] at h2; cases h2)) ?_;refine .t2 (aN rfl rfl) (.m2 rfl (.g2 (aP rfl) (Rg.wd ⟨_,rfl,rfl⟩ (aD (pP _ _ _) rfl) rfl ?_)));rintro _ w3 ⟨b13,rfl,q13,hx3,hv13⟩;replace hx := hx.ext hx3;refine Rg.wd ⟨_,rfl,rfl⟩ (aC Tryz.call73 rfl (bD hC (hp.extw hx) (texts := [⟨#[116,114,117,101]⟩,⟨#[102,97,108,115,101]⟩,⟨#[109,117,116]⟩]) hv13 (by decide))) rfl ?_;rintro _ w4 ⟨rfl,hx4⟩;replace hx := hx.ext hx4;refine .t2 (aN rfl rfl) (.a2 rfl (.done (Wp.ret ?_)));exact ⟨[_],⟨rfl,trivial⟩,rfl,hx⟩
theorem Ib (hC : Cx w0 tv aG) (hD : ∀ m,m < n → DN w0 tv aG m) (hp : Ps w0 tv aG F w bP below k s) (hr : run body n (body .letS) s = some r) (hb : r.adds ≤ fR) :
  Cl Tryz.prog 224 #[.pointer (some ⟨bP,0,none⟩)] w (fun u w' => (Nm.letS = Nm.statement → u = .bool r.flag) ∧ Ps w0 tv aG F w' bP below k r ∧ Bw F w w') := by
 have a := Bw.refl F w;have b : ∀ z,F z → F z := fun z h => h;have c := hp.base;have hr : run body n (.seq .bump (.seq (.call .pattern) (.seq (Cmd.opt ⟨#[58]⟩ (.call .typeExpr)) (.seq (Cmd.exp ⟨#[61]⟩) (.seq Cmd.expr (Cmd.exp ⟨#[59]⟩)))))) s = some r := hr;refine Cl.enter Tryz.func224 rfl Tryz.ntmps224 rfl rfl (.sr (.m2 rfl ?_));obtain ⟨s1,h1a,h1b⟩ := aI hr;refine Rg.wd trivial (aC Tryz.call80 rfl (cJ hC hp h1a (aH h1b hb))) rfl ?_;rintro _ w1 ⟨hp1,hb1⟩;replace a := a.trans (hb1.sub b);clear hp;have hp := hp1;clear hp1;refine .done (.sr (.m2 rfl ?_));obtain ⟨s2,h2a,h2b⟩ := aI h1b;refine Rg.wd trivial (aC Tryz.call248 rfl (bG hD hp h2a (aH h2b hb))) rfl ?_;rintro _ w2 ⟨hst,hp1,hb2⟩;replace a := a.trans (hb2.sub b);clear hp;have hp := hp1;clear hp1;refine .done (.sr (.m2 rfl (.m2 rfl (.t2 (aM (us := [.pointer (some ⟨bP,0,none⟩)]) (vs := []) rfl rfl) ?_))));obtain ⟨s3,h3a,h3b⟩ := aI h2b;refine Rg.wd trivial (aC Tryz.call156 rfl (pS hC hp (dL Tryz.call131 hD (.typeExpr)) h3a (aH h3b hb))) rfl ?_;rintro _ w3 ⟨hp1,hb3⟩;replace a := a.trans (hb3.sub b);clear hp;have hp := hp1;clear hp1;refine .done (.sr (.m2 rfl ?_));obtain ⟨s4,h4a,h4b⟩ := aI h3b;refine Rg.wd trivial (aC Tryz.call130 rfl (dI hC hp h4a (aH h4b hb))) rfl ?_;rintro _ w4 ⟨hp1,hb4⟩;replace a := a.trans (hb4.sub b);clear hp;have hp := hp1;clear hp1;refine .done (.sr (.m2 rfl ?_));obtain ⟨s5,h5a,h5b⟩ := aI h4b;refine Rg.wd trivial (aC Tryz.call132 rfl (gH hC hD hp h5a (aH h5b hb))) rfl ?_;rintro _ w5 ⟨hp1,hb5⟩;replace a := a.trans (hb5.sub b);clear hp;have hp := hp1;clear hp1;refine .done (Wp.region (.m2 rfl (Rg.wd trivial (aC Tryz.call130 rfl (dI hC hp h5b hb)) rfl ?_)));rintro _ w6 ⟨hp1,hb6⟩;replace a := a.trans (hb6.sub b);clear hp;have hp := hp1;clear hp1;refine .done ?_;exact ⟨[],trivial,(fun h => by cases h),hp.sub b c,a⟩
theorem Av (hC : Cx w0 tv aG) (hD : ∀ m,m < n → DN w0 tv aG m) (hp : Ps w0 tv aG F w bP below k s) (hr : run body n (body .returnS) s = some r) (hb : r.adds ≤ fR) :
  Cl Tryz.prog 226 #[.pointer (some ⟨bP,0,none⟩)] w (fun u w' => (Nm.returnS = Nm.statement → u = .bool r.flag) ∧ Ps w0 tv aG F w' bP below k r ∧ Bw F w w') := by
 have a := Bw.refl F w;have b : ∀ z,F z → F z := fun z h => h;have e := hp.base;have hr : run body n (.seq .bump (.seq (.cond (cE [⟨#[59]⟩]) (.leaf 0) Cmd.expr) (Cmd.exp ⟨#[59]⟩))) s = some r := hr;refine Cl.enter Tryz.func226 rfl Tryz.ntmps226 rfl rfl (.sr (.m2 rfl ?_));obtain ⟨s1,h1a,h1b⟩ := aI hr;refine Rg.wd trivial (aC Tryz.call80 rfl (cJ hC hp h1a (aH h1b hb))) rfl ?_;rintro _ w1 ⟨hp1,hb1⟩;replace a := a.trans (hb1.sub b);clear hp;have hp := hp1;clear hp1;refine .done ?_;obtain ⟨s2,h2a,h2b⟩ := aI h1b;refine .seq ?_
 cases d : (aV [⟨#[59]⟩] (aO s1.rem)) with
 | true =>
  have hq2 := aX h2a d;refine .sr (.m2 rfl (Rg.wd trivial (aD (aT _) rfl) rfl ?_));rintro _ w2 ⟨bt5,rfl,qt5,hx2,c⟩;replace a := bS a hp.und b hx2;replace hp := hp.extw hx2;refine Rg.wd trivial (aC Tryz.call73 rfl (bD hC hp (texts := [⟨#[59]⟩]) c (by decide))) rfl ?_;rintro _ w3 ⟨rfl,hx3⟩;replace a := bS a hp.und b hx3;replace hp := hp.extw hx3
  try replace c := c.ext hx3
  rw [show (aV [⟨#[59]⟩] (aO s1.rem)) = true from d];refine .done (.condT rfl (Wp.region (.m2 rfl (Rg.wd trivial (aC Tryz.call157 rfl (jV hp hq2 (aH h2b hb))) rfl ?_))));rintro _ w4 ⟨hp1,hb4⟩;replace a := a.trans (hb4.sub b);clear hp;have hp := hp1;clear hp1;refine .done (Wp.region (.m2 rfl (Rg.wd trivial (aC Tryz.call130 rfl (dI hC hp h2b hb)) rfl ?_)));rintro _ w5 ⟨hp1,hb5⟩;replace a := a.trans (hb5.sub b);clear hp;have hp := hp1;clear hp1;refine .done ?_;exact ⟨[],trivial,(fun h => by cases h),hp.sub b e,a⟩
 | false =>
  have hq2 := aU h2a d;refine .sr (.m2 rfl (Rg.wd trivial (aD (aT _) rfl) rfl ?_));rintro _ w2 ⟨bt5,rfl,qt5,hx2,c⟩;replace a := bS a hp.und b hx2;replace hp := hp.extw hx2;refine Rg.wd trivial (aC Tryz.call73 rfl (bD hC hp (texts := [⟨#[59]⟩]) c (by decide))) rfl ?_;rintro _ w3 ⟨rfl,hx3⟩;replace a := bS a hp.und b hx3;replace hp := hp.extw hx3
  try replace c := c.ext hx3
  rw [show (aV [⟨#[59]⟩] (aO s1.rem)) = false from d];refine .done (.condF rfl (Wp.region (.m2 rfl (Rg.wd trivial (aC Tryz.call132 rfl (gH hC hD hp hq2 (aH h2b hb))) rfl ?_))));rintro _ w4 ⟨hp1,hb4⟩;replace a := a.trans (hb4.sub b);clear hp;have hp := hp1;clear hp1;refine .done (Wp.region (.m2 rfl (Rg.wd trivial (aC Tryz.call130 rfl (dI hC hp h2b hb)) rfl ?_)));rintro _ w5 ⟨hp1,hb5⟩;replace a := a.trans (hb5.sub b);clear hp;have hp := hp1;clear hp1;refine .done ?_;exact ⟨[],trivial,(fun h => by cases h),hp.sub b e,a⟩
theorem vD (hC : Cx w0 tv aG) (hD : ∀ m,m < n → DN w0 tv aG m) (hp : Ps w0 tv aG F w bP below k s) (hr : run body n (body .arguments) s = some r) (hb : r.adds ≤ fR) :
  Cl Tryz.prog 250 #[.pointer (some ⟨bP,0,none⟩)] w (fun u w' => (Nm.arguments = Nm.statement → u = .bool r.flag) ∧ Ps w0 tv aG F w' bP below k r ∧ Bw F w w') := by
 have a := Bw.refl F w;have b : ∀ z,F z → F z := fun z h => h;have c := hp.base;have hr : run body n (.seq .bump (Cmd.list ⟨#[41]⟩ Cmd.expr)) s = some r := hr;refine Cl.enter Tryz.func250 rfl Tryz.ntmps250 rfl rfl (.sr (.m2 rfl ?_));obtain ⟨s1,h1a,h1b⟩ := aI hr;refine Rg.wd trivial (aC Tryz.call80 rfl (cJ hC hp h1a (aH h1b hb))) rfl ?_;rintro _ w1 ⟨hp1,hb1⟩;replace a := a.trans (hb1.sub b);clear hp;have hp := hp1;clear hp1;refine .done (Wp.region (.m2 rfl (.m2 rfl (.t2 (aM (us := [.pointer (some ⟨bP,0,none⟩)]) (vs := []) rfl rfl) (Rg.wd trivial (aC Tryz.call159 rfl (jJ hC hp (C5 hC hD) h1b hb)) rfl ?_)))));rintro _ w2 ⟨hp1,hb2⟩;replace a := a.trans (hb2.sub b);clear hp;have hp := hp1;clear hp1;refine .done ?_;exact ⟨[],trivial,(fun h => by cases h),hp.sub b c,a⟩
theorem E5 (hC : Cx w0 tv aG) (hD : ∀ m,m < n → DN w0 tv aG m) {b0 : Nat} (a : Var w b0 [.pointer (some ⟨bP,0,none⟩)] 80) (b : F b0) : Clo w0 tv aG n F bP 225 [] [.pointer (some ⟨b0,0,none⟩)] w (.seq .bump (.seq Cmd.expr (.call .block))) := by
 refine ⟨Tryz.call225,fun w1 hw1 below k s r hp hr hb => ?_⟩;replace a := aE a hw1 b
 show Cl Tryz.prog 225 #[.pointer (some ⟨b0,0,none⟩)] w1 _
 have c := Bw.refl F w1;have d : ∀ z,F z → F z := fun z h => h;have e := hp.base;refine Cl.enter Tryz.func225 rfl Tryz.ntmps225 rfl rfl (.sr (.t2 (aB aL rfl (a.g 0 rfl)) ?_));obtain ⟨s1,h1a,h1b⟩ := aI hr;refine Rg.wd trivial (aC Tryz.call80 rfl (cJ hC hp h1a (aH h1b hb))) rfl ?_;rintro _ w1 ⟨hp1,hb1⟩;replace a := aE a hb1 b;replace c := c.trans (hb1.sub d);clear hp;have hp := hp1;clear hp1;refine .done (.sr (.t2 (aB aL rfl (a.g 0 rfl)) ?_));obtain ⟨s2,h2a,h2b⟩ := aI h1b;refine Rg.wd trivial (aC Tryz.call132 rfl (gH hC hD hp h2a (aH h2b hb))) rfl ?_;rintro _ w2 ⟨hp1,hb2⟩;replace a := aE a hb2 b;replace c := c.trans (hb2.sub d);clear hp;have hp := hp1;clear hp1;refine .done (Wp.region (.t2 (aB aL rfl (a.g 0 rfl)) (Rg.wd trivial (aC Tryz.call158 rfl (bG hD hp h2b hb)) rfl ?_)));rintro _ w3 ⟨hst,hp1,hb3⟩;replace a := aE a hb3 b;replace c := c.trans (hb3.sub d);clear hp;have hp := hp1;clear hp1;refine .done ?_;exact ⟨[],trivial,hp.sub d e,c⟩
theorem zB (hC : Cx w0 tv aG) (hD : ∀ m,m < n → DN w0 tv aG m) {b0 : Nat} (a : Var w b0 [.pointer (some ⟨bP,0,none⟩)] 80) (b : F b0) : Clo w0 tv aG n F bP 228 [] [.pointer (some ⟨b0,0,none⟩)] w (.seq .bump (.seq Cmd.expr (Cmd.exp ⟨#[59]⟩))) := by
 refine ⟨Tryz.call228,fun w1 hw1 below k s r hp hr hb => ?_⟩;replace a := aE a hw1 b
 show Cl Tryz.prog 228 #[.pointer (some ⟨b0,0,none⟩)] w1 _
 have c := Bw.refl F w1;have d : ∀ z,F z → F z := fun z h => h;have e := hp.base;refine Cl.enter Tryz.func228 rfl Tryz.ntmps228 rfl rfl (.sr (.t2 (aB aL rfl (a.g 0 rfl)) ?_));obtain ⟨s1,h1a,h1b⟩ := aI hr;refine Rg.wd trivial (aC Tryz.call80 rfl (cJ hC hp h1a (aH h1b hb))) rfl ?_;rintro _ w1 ⟨hp1,hb1⟩;replace a := aE a hb1 b;replace c := c.trans (hb1.sub d);clear hp;have hp := hp1;clear hp1;refine .done (.sr (.t2 (aB aL rfl (a.g 0 rfl)) ?_));obtain ⟨s2,h2a,h2b⟩ := aI h1b;refine Rg.wd trivial (aC Tryz.call132 rfl (gH hC hD hp h2a (aH h2b hb))) rfl ?_;rintro _ w2 ⟨hp1,hb2⟩;replace a := aE a hb2 b;replace c := c.trans (hb2.sub d);clear hp;have hp := hp1;clear hp1;refine .done (Wp.region (.t2 (aB aL rfl (a.g 0 rfl)) (Rg.wd trivial (aC Tryz.call130 rfl (dI hC hp h2b hb)) rfl ?_)));rintro _ w3 ⟨hp1,hb3⟩;replace a := aE a hb3 b;replace c := c.trans (hb3.sub d);clear hp;have hp := hp1;clear hp1;refine .done ?_;exact ⟨[],trivial,hp.sub d e,c⟩
end
section
variable {w0 : World} {tv : Value} {aG : List Tok} {F : Fs} {w w' : World} {bP : Nat} {below : List (Int × List Tr)} {k : Int} {s r : S} {n : Nat}
theorem E6 (hC : Cx w0 tv aG) (hD : ∀ m,m < n → DN w0 tv aG m) : Clo w0 tv aG n F bP 272 [] [] w .skip := by
 refine ⟨Tryz.call272,fun w1 hw1 below k s r hp hr hb => ?_⟩;obtain rfl := cI hr;refine Cl.enter Tryz.func272 rfl Tryz.ntmps272 rfl rfl (Wp.skip ?_);exact ⟨[],trivial,hp,Bw.refl _ _⟩
theorem E7 (hC : Cx w0 tv aG) (hD : ∀ m,m < n → DN w0 tv aG m) {b0 : Nat} (a : Var w b0 [.pointer (some ⟨bP,0,none⟩)] 80) (b : F b0) : Clo w0 tv aG n F bP 231 [] [.pointer (some ⟨b0,0,none⟩)] w (.seq .bump (.call .unary)) := by
 refine ⟨Tryz.call231,fun w1 hw1 below k s r hp hr hb => ?_⟩;replace a := aE a hw1 b
 show Cl Tryz.prog 231 #[.pointer (some ⟨b0,0,none⟩)] w1 _
 have c := Bw.refl F w1;have d : ∀ z,F z → F z := fun z h => h;have e := hp.base;refine Cl.enter Tryz.func231 rfl Tryz.ntmps231 rfl rfl (.sr (.t2 (aB aL rfl (a.g 0 rfl)) ?_));obtain ⟨s1,h1a,h1b⟩ := aI hr;refine Rg.wd trivial (aC Tryz.call80 rfl (cJ hC hp h1a (aH h1b hb))) rfl ?_;rintro _ w1 ⟨hp1,hb1⟩;replace a := aE a hb1 b;replace c := c.trans (hb1.sub d);clear hp;have hp := hp1;clear hp1;refine .done (Wp.region (.t2 (aB aL rfl (a.g 0 rfl)) (Rg.wd trivial (aC Tryz.call198 rfl (bG hD hp h1b hb)) rfl ?_)));rintro _ w2 ⟨hst,hp1,hb2⟩;replace a := aE a hb2 b;replace c := c.trans (hb2.sub d);clear hp;have hp := hp1;clear hp1;refine .done ?_;exact ⟨[],trivial,hp.sub d e,c⟩
theorem E8 (hC : Cx w0 tv aG) (hD : ∀ m,m < n → DN w0 tv aG m) {b0 : Nat} (a : Var w b0 [.pointer (some ⟨bP,0,none⟩)] 80) (d : F b0) : Clo w0 tv aG n F bP 232 [] [.pointer (some ⟨b0,0,none⟩)] w (.seq .bump (.seq (Cmd.acc ⟨#[109,117,116]⟩) (.call .unary))) := by
 refine ⟨Tryz.call232,fun w1 hw1 below k s r hp hr hb => ?_⟩;replace a := aE a hw1 d
 show Cl Tryz.prog 232 #[.pointer (some ⟨b0,0,none⟩)] w1 _
 have b := Bw.refl F w1;have c : ∀ z,F z → F z := fun z h => h;have f := hp.base;refine Cl.enter Tryz.func232 rfl Tryz.ntmps232 rfl rfl (.sr (.t2 (aB aL rfl (a.g 0 rfl)) ?_));obtain ⟨s1,h1a,h1b⟩ := aI hr;refine Rg.wd trivial (aC Tryz.call80 rfl (cJ hC hp h1a (aH h1b hb))) rfl ?_;rintro _ w1 ⟨hp1,hb1⟩;replace a := aE a hb1 d;replace b := b.trans (hb1.sub c);clear hp;have hp := hp1;clear hp1;refine .done ?_;obtain ⟨s2,h2a,h2b⟩ := aI h1b
 cases e : (aV [⟨#[109,117,116]⟩] (aO s1.rem)) with
 | true =>
  have hq2 := aX h2a e;refine .sr (.t2 (aB aL rfl (a.g 0 rfl)) (Rg.wd trivial (aD (aT _) rfl) rfl ?_));rintro _ w2 ⟨bt4,rfl,qt4,hx2,i⟩;replace b := bS b hp.und c hx2;replace hp := hp.extw hx2;replace a := a.ext hx2;obtain rfl := cN hq2;refine Rg.wd trivial (aC Tryz.call79 rfl (gT hC hp (texts := [⟨#[109,117,116]⟩]) i (by decide) e (aH h2b hb))) rfl ?_;rintro _ w3 ⟨rfl,hp1,hb3⟩;replace a := aE a hb3 d;replace b := b.trans (hb3.sub c);clear hp;have hp := hp1;clear hp1;refine .done (Wp.region (.t2 (aB aL rfl (a.g 0 rfl)) (Rg.wd trivial (aC Tryz.call198 rfl (bG hD hp h2b hb)) rfl ?_)));rintro _ w4 ⟨hst,hp1,hb4⟩;replace a := aE a hb4 d;replace b := b.trans (hb4.sub c);clear hp;have hp := hp1;clear hp1;refine .done ?_;exact ⟨[],trivial,hp.sub c f,b⟩
 | false =>
  have hq2 := aU h2a e;obtain rfl := cI hq2;refine .sr (.t2 (aB aL rfl (a.g 0 rfl)) (Rg.wd trivial (aD (aT _) rfl) rfl ?_));rintro _ w2 ⟨bt4,rfl,qt4,hx2,i⟩;replace b := bS b hp.und c hx2;replace hp := hp.extw hx2;replace a := a.ext hx2;refine Rg.wd trivial (aC Tryz.call79 rfl (gU hC hp (texts := [⟨#[109,117,116]⟩]) i (by decide) e)) rfl ?_;rintro _ w3 ⟨rfl,hp1,hb3⟩;replace a := aE a hb3 d;replace b := b.trans (hb3.sub c);clear hp;have hp := hp1;clear hp1;refine .done (Wp.region (.t2 (aB aL rfl (a.g 0 rfl)) (Rg.wd trivial (aC Tryz.call198 rfl (bG hD hp h2b hb)) rfl ?_)));rintro _ w4 ⟨hst,hp1,hb4⟩;replace a := aE a hb4 d;replace b := b.trans (hb4.sub c);clear hp;have hp := hp1;clear hp1;refine .done ?_;exact ⟨[],trivial,hp.sub c f,b⟩
theorem E9 (hC : Cx w0 tv aG) (hD : ∀ m,m < n → DN w0 tv aG m) (hp : Ps w0 tv aG F w bP below k s) (hr : run body n (body .unary) s = some r) (hb : r.adds ≤ fR) :
  Cl Tryz.prog 198 #[.pointer (some ⟨bP,0,none⟩)] w (fun u w' => (Nm.unary = Nm.statement → u = .bool r.flag) ∧ Ps w0 tv aG F w' bP below k r ∧ Bw F w w') := by
 have c := Bw.refl F w;have d : ∀ z,F z → F z := fun z h => h;have j := hp.base;have hr : run body n (.cond (cE [⟨#[45]⟩,⟨#[33]⟩,⟨#[42]⟩]) (.node 40 (.seq .bump (.call .unary))) (.cond (cE [⟨#[38]⟩]) (.node 41 (.seq .bump (.seq (Cmd.acc ⟨#[109,117,116]⟩) (.call .unary)))) (.seq (.call .primary) (.call .postE)))) s = some r := hr;refine Cl.enter Tryz.func198 rfl Tryz.ntmps198 rfl rfl (.sr (Rg.wd trivial (aW rfl rfl) rfl ?_));rintro _ w1 ⟨i,rfl,p,hx1,a⟩;replace c := bS c hp.und d hx1;obtain ⟨q,hp1,b,hs1⟩ := hp.box hx1 p a.lt;clear hp;have hp := hp1;clear hp1;replace d := fun z hz => hs1 z (d z hz);refine .done (Wp.block ?_)
 cases l : (aV [⟨#[45]⟩,⟨#[33]⟩,⟨#[42]⟩] (aO s.rem)) with
 | true =>
  have hq2 := aX hr l;refine .sr (.t2 (aB aL rfl (a.g 0 rfl)) (Rg.wd trivial (aD (pP _ _ _) rfl) rfl ?_));rintro _ w2 ⟨bt8,rfl,qt8,hx2,e⟩;replace c := bS c hp.und d hx2;replace hp := hp.extw hx2;replace a := a.ext hx2;refine Rg.wd trivial (aC Tryz.call73 rfl (bD hC hp (texts := [⟨#[45]⟩,⟨#[33]⟩,⟨#[42]⟩]) e (by decide))) rfl ?_;rintro _ w3 ⟨rfl,hx3⟩;replace c := bS c hp.und d hx3;replace hp := hp.extw hx3;replace a := a.ext hx3
  try replace e := e.ext hx3
  rw [show (aV [⟨#[45]⟩,⟨#[33]⟩,⟨#[42]⟩] (aO s.rem)) = true from l];refine .a2 rfl (.done (.condT rfl (Wp.region (.t2 (aB aL rfl (a.g 0 rfl)) (.t2 (aM (us := []) (vs := [.pointer (some ⟨i,0,none⟩)]) rfl rfl) (Rg.wd trivial (aC Tryz.call77 rfl (bZ hp (E7 hC hD a b) hq2 hb)) rfl ?_))))));rintro _ w4 ⟨hp1,hb4⟩;replace a := aE a hb4 b;replace c := c.trans (hb4.sub d);clear hp;have hp := hp1;clear hp1;refine .done ?_;exact ⟨[],trivial,(fun h => by cases h),hp.sub d j,c⟩
 | false =>
  have hq2 := aU hr l;refine .sr (.t2 (aB aL rfl (a.g 0 rfl)) (Rg.wd trivial (aD (pP _ _ _) rfl) rfl ?_));rintro _ w2 ⟨bt8,rfl,qt8,hx2,e⟩;replace c := bS c hp.und d hx2;replace hp := hp.extw hx2;replace a := a.ext hx2;refine Rg.wd trivial (aC Tryz.call73 rfl (bD hC hp (texts := [⟨#[45]⟩,⟨#[33]⟩,⟨#[42]⟩]) e (by decide))) rfl ?_;rintro _ w3 ⟨rfl,hx3⟩;replace c := bS c hp.und d hx3;replace hp := hp.extw hx3;replace a := a.ext hx3
  try replace e := e.ext hx3
  rw [show (aV [⟨#[45]⟩,⟨#[33]⟩,⟨#[42]⟩] (aO s.rem)) = false from l];refine .a2 rfl (.done (.condF rfl ?_))
  cases o : (aV [⟨#[38]⟩] (aO s.rem)) with
  | true =>
   have hq4 := aX hq2 o;refine .sr (.t2 (aB aL rfl (a.g 0 rfl)) (Rg.wd trivial (aD (aT _) rfl) rfl ?_));rintro _ w4 ⟨bt15,rfl,qt15,hx4,f⟩;replace c := bS c hp.und d hx4;replace hp := hp.extw hx4;replace a := a.ext hx4
   try replace e := e.ext hx4
   refine Rg.wd trivial (aC Tryz.call73 rfl (bD hC hp (texts := [⟨#[38]⟩]) f (by decide))) rfl ?_;rintro _ w5 ⟨rfl,hx5⟩;replace c := bS c hp.und d hx5;replace hp := hp.extw hx5;replace a := a.ext hx5
   try replace e := e.ext hx5
   try replace f := f.ext hx5
   rw [show (aV [⟨#[38]⟩] (aO s.rem)) = true from o];refine .a2 rfl (.done (.condT rfl (Wp.region (.t2 (aB aL rfl (a.g 0 rfl)) (.t2 (aM (us := []) (vs := [.pointer (some ⟨i,0,none⟩)]) rfl rfl) (Rg.wd trivial (aC Tryz.call77 rfl (bZ hp (E8 hC hD a b) hq4 hb)) rfl ?_))))));rintro _ w6 ⟨hp1,hb6⟩;replace a := aE a hb6 b;replace c := c.trans (hb6.sub d);clear hp;have hp := hp1;clear hp1;refine .done ?_;exact ⟨[],trivial,(fun h => by cases h),hp.sub d j,c⟩
  | false =>
   have hq4 := aU hq2 o;refine .sr (.t2 (aB aL rfl (a.g 0 rfl)) (Rg.wd trivial (aD (aT _) rfl) rfl ?_));rintro _ w4 ⟨bt15,rfl,qt15,hx4,f⟩;replace c := bS c hp.und d hx4;replace hp := hp.extw hx4;replace a := a.ext hx4
   try replace e := e.ext hx4
   refine Rg.wd trivial (aC Tryz.call73 rfl (bD hC hp (texts := [⟨#[38]⟩]) f (by decide))) rfl ?_;rintro _ w5 ⟨rfl,hx5⟩;replace c := bS c hp.und d hx5;replace hp := hp.extw hx5;replace a := a.ext hx5
   try replace e := e.ext hx5
   try replace f := f.ext hx5
   rw [show (aV [⟨#[38]⟩] (aO s.rem)) = false from o];refine .a2 rfl (.done (.condF rfl (.sr (.t2 (aB aL rfl (a.g 0 rfl)) ?_))));obtain ⟨s1,h1a,h1b⟩ := aI hq4;refine Rg.wd trivial (aC Tryz.call227 rfl (bG hD hp h1a (aH h1b hb))) rfl ?_;rintro _ w6 ⟨hst,hp1,hb6⟩;replace a := aE a hb6 b;replace c := c.trans (hb6.sub d);clear hp;have hp := hp1;clear hp1;refine .done (Wp.region (.t2 (aB aL rfl (a.g 0 rfl)) (Rg.wd trivial (aC Tryz.call233 rfl (bG hD hp h1b hb)) rfl ?_)));rintro _ w7 ⟨hst,hp1,hb7⟩;replace a := aE a hb7 b;replace c := c.trans (hb7.sub d);clear hp;have hp := hp1;clear hp1;refine .done ?_;exact ⟨[],trivial,(fun h => by cases h),hp.sub d j,c⟩
theorem Fa (hC : Cx w0 tv aG) (hD : ∀ m,m < n → DN w0 tv aG m) {b0 : Nat} (a : Var w b0 [.pointer (some ⟨bP,0,none⟩)] 80) (e : F b0) : Clo w0 tv aG n F bP 266 [] [.pointer (some ⟨b0,0,none⟩)] w (.cond (cE [⟨#[105,102]⟩]) (.call .ifExpr) (.call .block)) := by
 refine ⟨Tryz.call266,fun w1 hw1 below k s r hp hr hb => ?_⟩;replace a := aE a hw1 e
 show Cl Tryz.prog 266 #[.pointer (some ⟨b0,0,none⟩)] w1 _
 have b := Bw.refl F w1;have c : ∀ z,F z → F z := fun z h => h;have i := hp.base;refine Cl.enter Tryz.func266 rfl Tryz.ntmps266 rfl rfl ?_
 cases f : (aV [⟨#[105,102]⟩] (aO s.rem)) with
 | true =>
  have hq2 := aX hr f;refine .sr (.t2 (aB aL rfl (a.g 0 rfl)) (Rg.wd trivial (aD (aT _) rfl) rfl ?_));rintro _ w1 ⟨bt2,rfl,qt2,hx1,d⟩;replace b := bS b hp.und c hx1;replace hp := hp.extw hx1;replace a := a.ext hx1;refine Rg.wd trivial (aC Tryz.call73 rfl (bD hC hp (texts := [⟨#[105,102]⟩]) d (by decide))) rfl ?_;rintro _ w2 ⟨rfl,hx2⟩;replace b := bS b hp.und c hx2;replace hp := hp.extw hx2;replace a := a.ext hx2
  try replace d := d.ext hx2
  rw [show (aV [⟨#[105,102]⟩] (aO s.rem)) = true from f];refine .done (.condT rfl (Wp.region (.t2 (aB aL rfl (a.g 0 rfl)) (Rg.wd trivial (aC Tryz.call252 rfl (bG hD hp hq2 hb)) rfl ?_))));rintro _ w3 ⟨hst,hp1,hb3⟩;replace a := aE a hb3 e;replace b := b.trans (hb3.sub c);clear hp;have hp := hp1;clear hp1;refine .done ?_;exact ⟨[],trivial,hp.sub c i,b⟩
 | false =>
  have hq2 := aU hr f;refine .sr (.t2 (aB aL rfl (a.g 0 rfl)) (Rg.wd trivial (aD (aT _) rfl) rfl ?_));rintro _ w1 ⟨bt2,rfl,qt2,hx1,d⟩;replace b := bS b hp.und c hx1;replace hp := hp.extw hx1;replace a := a.ext hx1;refine Rg.wd trivial (aC Tryz.call73 rfl (bD hC hp (texts := [⟨#[105,102]⟩]) d (by decide))) rfl ?_;rintro _ w2 ⟨rfl,hx2⟩;replace b := bS b hp.und c hx2;replace hp := hp.extw hx2;replace a := a.ext hx2
  try replace d := d.ext hx2
  rw [show (aV [⟨#[105,102]⟩] (aO s.rem)) = false from f];refine .done (.condF rfl (Wp.region (.t2 (aB aL rfl (a.g 0 rfl)) (Rg.wd trivial (aC Tryz.call158 rfl (bG hD hp hq2 hb)) rfl ?_))));rintro _ w3 ⟨hst,hp1,hb3⟩;replace a := aE a hb3 e;replace b := b.trans (hb3.sub c);clear hp;have hp := hp1;clear hp1;refine .done ?_;exact ⟨[],trivial,hp.sub c i,b⟩
theorem Fb (hC : Cx w0 tv aG) (hD : ∀ m,m < n → DN w0 tv aG m) {b0 : Nat} (a : Var w b0 [.pointer (some ⟨bP,0,none⟩)] 80) (b : F b0) : Clo w0 tv aG n F bP 265 [] [.pointer (some ⟨b0,0,none⟩)] w (.seq .bump (.seq Cmd.expr (.seq (.call .block) (Cmd.opt ⟨#[101,108,115,101]⟩ (.cond (cE [⟨#[105,102]⟩]) (.call .ifExpr) (.call .block)))))) := by
 refine ⟨Tryz.call265,fun w1 hw1 below k s r hp hr hb => ?_⟩;replace a := aE a hw1 b
 show Cl Tryz.prog 265 #[.pointer (some ⟨b0,0,none⟩)] w1 _
 have c := Bw.refl F w1;have d : ∀ z,F z → F z := fun z h => h;have e := hp.base;refine Cl.enter Tryz.func265 rfl Tryz.ntmps265 rfl rfl (.sr (.t2 (aB aL rfl (a.g 0 rfl)) ?_));obtain ⟨s1,h1a,h1b⟩ := aI hr;refine Rg.wd trivial (aC Tryz.call80 rfl (cJ hC hp h1a (aH h1b hb))) rfl ?_;rintro _ w1 ⟨hp1,hb1⟩;replace a := aE a hb1 b;replace c := c.trans (hb1.sub d);clear hp;have hp := hp1;clear hp1;refine .done (.sr (.t2 (aB aL rfl (a.g 0 rfl)) ?_));obtain ⟨s2,h2a,h2b⟩ := aI h1b;refine Rg.wd trivial (aC Tryz.call132 rfl (gH hC hD hp h2a (aH h2b hb))) rfl ?_;rintro _ w2 ⟨hp1,hb2⟩;replace a := aE a hb2 b;replace c := c.trans (hb2.sub d);clear hp;have hp := hp1;clear hp1;refine .done (.sr (.t2 (aB aL rfl (a.g 0 rfl)) ?_));obtain ⟨s3,h3a,h3b⟩ := aI h2b;refine Rg.wd trivial (aC Tryz.call158 rfl (bG hD hp h3a (aH h3b hb))) rfl ?_;rintro _ w3 ⟨hst,hp1,hb3⟩;replace a := aE a hb3 b;replace c := c.trans (hb3.sub d);clear hp;have hp := hp1;clear hp1;refine .done (Wp.region (.t2 (aB aL rfl (a.g 0 rfl)) (.t2 (aM (us := []) (vs := [.pointer (some ⟨b0,0,none⟩)]) rfl rfl) (Rg.wd trivial (aC Tryz.call156 rfl (pS hC hp (Fa hC hD a b) h3b hb)) rfl ?_))));rintro _ w4 ⟨hp1,hb4⟩;replace a := aE a hb4 b;replace c := c.trans (hb4.sub d);clear hp;have hp := hp1;clear hp1;refine .done ?_;exact ⟨[],trivial,hp.sub d e,c⟩
theorem C6 (hC : Cx w0 tv aG) (hD : ∀ m,m < n → DN w0 tv aG m) (hp : Ps w0 tv aG F w bP below k s) (hr : run body n (body .ifExpr) s = some r) (hb : r.adds ≤ fR) :
  Cl Tryz.prog 252 #[.pointer (some ⟨bP,0,none⟩)] w (fun u w' => (Nm.ifExpr = Nm.statement → u = .bool r.flag) ∧ Ps w0 tv aG F w' bP below k r ∧ Bw F w w') := by
 have e := Bw.refl F w;have c : ∀ z,F z → F z := fun z h => h;have i := hp.base;have hr : run body n (.node 37 (.seq .bump (.seq Cmd.expr (.seq (.call .block) (Cmd.opt ⟨#[101,108,115,101]⟩ (.cond (cE [⟨#[105,102]⟩]) (.call .ifExpr) (.call .block))))))) s = some r := hr;refine Cl.enter Tryz.func252 rfl Tryz.ntmps252 rfl rfl (.sr (Rg.wd trivial (aW rfl rfl) rfl ?_));rintro _ w1 ⟨f,rfl,d,hx1,a⟩;replace e := bS e hp.und c hx1;obtain ⟨j,hp1,b,hs1⟩ := hp.box hx1 d a.lt;clear hp;have hp := hp1;clear hp1;replace c := fun z hz => hs1 z (c z hz);refine .done (Wp.region (.t2 (aB aL rfl (a.g 0 rfl)) (.t2 (aM (us := []) (vs := [.pointer (some ⟨f,0,none⟩)]) rfl rfl) (Rg.wd trivial (aC Tryz.call77 rfl (bZ hp (Fb hC hD a b) hr hb)) rfl ?_))));rintro _ w2 ⟨hp1,hb2⟩;replace a := aE a hb2 b;replace e := e.trans (hb2.sub c);clear hp;have hp := hp1;clear hp1;refine .done ?_;exact ⟨[],trivial,(fun h => by cases h),hp.sub c i,e⟩
theorem Fc (hC : Cx w0 tv aG) (hD : ∀ m,m < n → DN w0 tv aG m) {b0 : Nat} (a : Var w b0 [.pointer (some ⟨bP,0,none⟩)] 80) (b : F b0) : Clo w0 tv aG n F bP 269 [] [.pointer (some ⟨b0,0,none⟩)] w (.seq (.call .pattern) (.seq (Cmd.exp ⟨#[61,62]⟩) Cmd.expr)) := by
 refine ⟨Tryz.call269,fun w1 hw1 below k s r hp hr hb => ?_⟩;replace a := aE a hw1 b
 show Cl Tryz.prog 269 #[.pointer (some ⟨b0,0,none⟩)] w1 _
 have c := Bw.refl F w1;have d : ∀ z,F z → F z := fun z h => h;have e := hp.base;refine Cl.enter Tryz.func269 rfl Tryz.ntmps269 rfl rfl (.sr (.t2 (aB aL rfl (a.g 0 rfl)) ?_));obtain ⟨s1,h1a,h1b⟩ := aI hr;refine Rg.wd trivial (aC Tryz.call248 rfl (bG hD hp h1a (aH h1b hb))) rfl ?_;rintro _ w1 ⟨hst,hp1,hb1⟩;replace a := aE a hb1 b;replace c := c.trans (hb1.sub d);clear hp;have hp := hp1;clear hp1;refine .done (.sr (.t2 (aB aL rfl (a.g 0 rfl)) ?_));obtain ⟨s2,h2a,h2b⟩ := aI h1b;refine Rg.wd trivial (aC Tryz.call130 rfl (dI hC hp h2a (aH h2b hb))) rfl ?_;rintro _ w2 ⟨hp1,hb2⟩;replace a := aE a hb2 b;replace c := c.trans (hb2.sub d);clear hp;have hp := hp1;clear hp1;refine .done (Wp.region (.t2 (aB aL rfl (a.g 0 rfl)) (Rg.wd trivial (aC Tryz.call132 rfl (gH hC hD hp h2b hb)) rfl ?_)));rintro _ w3 ⟨hp1,hb3⟩;replace a := aE a hb3 b;replace c := c.trans (hb3.sub d);clear hp;have hp := hp1;clear hp1;refine .done ?_;exact ⟨[],trivial,hp.sub d e,c⟩
theorem Fd (hC : Cx w0 tv aG) (hD : ∀ m,m < n → DN w0 tv aG m) {b0 : Nat} (a : Var w b0 [.pointer (some ⟨bP,0,none⟩)] 80) (d : F b0) : Clo w0 tv aG n F bP 267 [] [.pointer (some ⟨b0,0,none⟩)] w (.cond (fun t _ _ _ => fT t) (.node 36 (.seq (.call .pattern) (.seq (Cmd.exp ⟨#[61,62]⟩) Cmd.expr))) .skip) := by
 refine ⟨Tryz.call267,fun w1 hw1 below k s r hp hr hb => ?_⟩;replace a := aE a hw1 d
 show Cl Tryz.prog 267 #[.pointer (some ⟨b0,0,none⟩)] w1 _
 have b := Bw.refl F w1;have c : ∀ z,F z → F z := fun z h => h;have f := hp.base;refine Cl.enter Tryz.func267 rfl Tryz.ntmps267 rfl rfl ?_
 cases e : (fT (aO s.rem)) with
 | true =>
  have hq2 := aX hr (show S.test _ _ = true by simp only [S.test,cE,cB,bne,e]; (try rfl));refine .sr (.t2 (aB aL rfl (a.g 0 rfl)) (Rg.wd trivial (aC Tryz.call268 rfl (nB hC hp)) rfl ?_));rintro _ w1 ⟨rfl,hx1⟩;replace b := bS b hp.und c hx1;replace hp := hp.extw hx1;replace a := a.ext hx1;rw [show (fT (aO s.rem)) = true from e];refine .done (.condT rfl (Wp.region (.t2 (aB aL rfl (a.g 0 rfl)) (.t2 (aM (us := []) (vs := [.pointer (some ⟨b0,0,none⟩)]) rfl rfl) (Rg.wd trivial (aC Tryz.call77 rfl (bZ hp (Fc hC hD a d) hq2 hb)) rfl ?_)))));rintro _ w2 ⟨hp1,hb2⟩;replace a := aE a hb2 d;replace b := b.trans (hb2.sub c);clear hp;have hp := hp1;clear hp1;refine .done ?_;exact ⟨[],trivial,hp.sub c f,b⟩
 | false =>
  have hq2 := aU hr (show S.test _ _ = false by simp only [S.test,cE,cB,bne,e]; (try rfl));obtain rfl := cI hq2;refine .sr (.t2 (aB aL rfl (a.g 0 rfl)) (Rg.wd trivial (aC Tryz.call268 rfl (nB hC hp)) rfl ?_));rintro _ w1 ⟨rfl,hx1⟩;replace b := bS b hp.und c hx1;replace hp := hp.extw hx1;replace a := a.ext hx1;rw [show (fT (aO r.rem)) = false from e];refine .done (.condF rfl (Wp.skip ?_));exact ⟨[],trivial,hp.sub c f,b⟩
theorem C7 (hC : Cx w0 tv aG) (hD : ∀ m,m < n → DN w0 tv aG m) (hp : Ps w0 tv aG F w bP below k s) (hr : run body n (body .matchE) s = some r) (hb : r.adds ≤ fR) :
  Cl Tryz.prog 253 #[.pointer (some ⟨bP,0,none⟩)] w (fun u w' => (Nm.matchE = Nm.statement → u = .bool r.flag) ∧ Ps w0 tv aG F w' bP below k r ∧ Bw F w w') := by
 have d := Bw.refl F w;have c : ∀ z,F z → F z := fun z h => h;have i := hp.base;have hr : run body n (.seq .bump (.seq Cmd.expr (.seq (Cmd.exp ⟨#[123]⟩) (Cmd.list ⟨#[125]⟩ (.cond (fun t _ _ _ => fT t) (.node 36 (.seq (.call .pattern) (.seq (Cmd.exp ⟨#[61,62]⟩) Cmd.expr))) .skip))))) s = some r := hr;refine Cl.enter Tryz.func253 rfl Tryz.ntmps253 rfl rfl (.sr (Rg.wd trivial (aW rfl rfl) rfl ?_));rintro _ w1 ⟨f,rfl,e,hx1,a⟩;replace d := bS d hp.und c hx1;obtain ⟨j,hp1,b,hs1⟩ := hp.box hx1 e a.lt;clear hp;have hp := hp1;clear hp1;replace c := fun z hz => hs1 z (c z hz);refine .done (.sr (.t2 (aB aL rfl (a.g 0 rfl)) ?_));obtain ⟨s1,h1a,h1b⟩ := aI hr;refine Rg.wd trivial (aC Tryz.call80 rfl (cJ hC hp h1a (aH h1b hb))) rfl ?_;rintro _ w2 ⟨hp1,hb2⟩;replace a := aE a hb2 b;replace d := d.trans (hb2.sub c);clear hp;have hp := hp1;clear hp1;refine .done (.sr (.t2 (aB aL rfl (a.g 0 rfl)) ?_));obtain ⟨s2,h2a,h2b⟩ := aI h1b;refine Rg.wd trivial (aC Tryz.call132 rfl (gH hC hD hp h2a (aH h2b hb))) rfl ?_;rintro _ w3 ⟨hp1,hb3⟩;replace a := aE a hb3 b;replace d := d.trans (hb3.sub c);clear hp;have hp := hp1;clear hp1;refine .done (.sr (.t2 (aB aL rfl (a.g 0 rfl)) ?_));obtain ⟨s3,h3a,h3b⟩ := aI h2b;refine Rg.wd trivial (aC Tryz.call130 rfl (dI hC hp h3a (aH h3b hb))) rfl ?_;rintro _ w4 ⟨hp1,hb4⟩;replace a := aE a hb4 b;replace d := d.trans (hb4.sub c);clear hp;have hp := hp1;clear hp1;refine .done (Wp.region (.t2 (aB aL rfl (a.g 0 rfl)) (.t2 (aM (us := []) (vs := [.pointer (some ⟨f,0,none⟩)]) rfl rfl) (Rg.wd trivial (aC Tryz.call159 rfl (jJ hC hp (Fd hC hD a b) h3b hb)) rfl ?_))));rintro _ w5 ⟨hp1,hb5⟩;replace a := aE a hb5 b;replace d := d.trans (hb5.sub c);clear hp;have hp := hp1;clear hp1;refine .done ?_;exact ⟨[],trivial,(fun h => by cases h),hp.sub c i,d⟩
theorem Fe (hC : Cx w0 tv aG) (hD : ∀ m,m < n → DN w0 tv aG m) {b0 : Nat} (a : Var w b0 [.pointer (some ⟨bP,0,none⟩)] 80) (b : F b0) : Clo w0 tv aG n F bP 271 [] [.pointer (some ⟨b0,0,none⟩)] w (.seq .bump (.seq (Cmd.exp ⟨#[58]⟩) Cmd.expr)) := by
 refine ⟨Tryz.call271,fun w1 hw1 below k s r hp hr hb => ?_⟩;replace a := aE a hw1 b
 show Cl Tryz.prog 271 #[.pointer (some ⟨b0,0,none⟩)] w1 _
 have c := Bw.refl F w1;have d : ∀ z,F z → F z := fun z h => h;have e := hp.base;refine Cl.enter Tryz.func271 rfl Tryz.ntmps271 rfl rfl (.sr (.t2 (aB aL rfl (a.g 0 rfl)) ?_));obtain ⟨s1,h1a,h1b⟩ := aI hr;refine Rg.wd trivial (aC Tryz.call80 rfl (cJ hC hp h1a (aH h1b hb))) rfl ?_;rintro _ w1 ⟨hp1,hb1⟩;replace a := aE a hb1 b;replace c := c.trans (hb1.sub d);clear hp;have hp := hp1;clear hp1;refine .done (.sr (.t2 (aB aL rfl (a.g 0 rfl)) ?_));obtain ⟨s2,h2a,h2b⟩ := aI h1b;refine Rg.wd trivial (aC Tryz.call130 rfl (dI hC hp h2a (aH h2b hb))) rfl ?_;rintro _ w2 ⟨hp1,hb2⟩;replace a := aE a hb2 b;replace c := c.trans (hb2.sub d);clear hp;have hp := hp1;clear hp1;refine .done (Wp.region (.t2 (aB aL rfl (a.g 0 rfl)) (Rg.wd trivial (aC Tryz.call132 rfl (gH hC hD hp h2b hb)) rfl ?_)));rintro _ w3 ⟨hp1,hb3⟩;replace a := aE a hb3 b;replace c := c.trans (hb3.sub d);clear hp;have hp := hp1;clear hp1;refine .done ?_;exact ⟨[],trivial,hp.sub d e,c⟩
theorem Ff (hC : Cx w0 tv aG) (hD : ∀ m,m < n → DN w0 tv aG m) {b0 : Nat} (a : Var w b0 [.pointer (some ⟨bP,0,none⟩)] 80) (d : F b0) : Clo w0 tv aG n F bP 270 [] [.pointer (some ⟨b0,0,none⟩)] w (.cond cB (.node 34 (.seq .bump (.seq (Cmd.exp ⟨#[58]⟩) Cmd.expr))) .skip) := by
 refine ⟨Tryz.call270,fun w1 hw1 below k s r hp hr hb => ?_⟩;replace a := aE a hw1 d
 show Cl Tryz.prog 270 #[.pointer (some ⟨b0,0,none⟩)] w1 _
 have b := Bw.refl F w1;have c : ∀ z,F z → F z := fun z h => h;have f := hp.base;refine Cl.enter Tryz.func270 rfl Tryz.ntmps270 rfl rfl ?_
 cases e : ((aO s.rem).1 == 103) with
 | true =>
  have hq2 := aX hr e;refine .sr (.t2 (aB aL rfl (a.g 0 rfl)) (Rg.wd trivial (aC Tryz.call161 rfl (bT hC hp)) rfl ?_));rintro _ w1 ⟨rfl,hx1⟩;replace b := bS b hp.und c hx1;replace hp := hp.extw hx1;replace a := a.ext hx1;rw [show ((aO s.rem).1 == 103) = true from e];refine .done (.condT rfl (Wp.region (.t2 (aB aL rfl (a.g 0 rfl)) (.t2 (aM (us := []) (vs := [.pointer (some ⟨b0,0,none⟩)]) rfl rfl) (Rg.wd trivial (aC Tryz.call77 rfl (bZ hp (Fe hC hD a d) hq2 hb)) rfl ?_)))));rintro _ w2 ⟨hp1,hb2⟩;replace a := aE a hb2 d;replace b := b.trans (hb2.sub c);clear hp;have hp := hp1;clear hp1;refine .done ?_;exact ⟨[],trivial,hp.sub c f,b⟩
 | false =>
  have hq2 := aU hr e;obtain rfl := cI hq2;refine .sr (.t2 (aB aL rfl (a.g 0 rfl)) (Rg.wd trivial (aC Tryz.call161 rfl (bT hC hp)) rfl ?_));rintro _ w1 ⟨rfl,hx1⟩;replace b := bS b hp.und c hx1;replace hp := hp.extw hx1;replace a := a.ext hx1;rw [show ((aO r.rem).1 == 103) = false from e];refine .done (.condF rfl (Wp.skip ?_));exact ⟨[],trivial,hp.sub c f,b⟩
theorem vE (hC : Cx w0 tv aG) (hD : ∀ m,m < n → DN w0 tv aG m) (hp : Ps w0 tv aG F w bP below k s) (hr : run body n (body .structLit) s = some r) (hb : r.adds ≤ fR) :
  Cl Tryz.prog 254 #[.pointer (some ⟨bP,0,none⟩)] w (fun u w' => (Nm.structLit = Nm.statement → u = .bool r.flag) ∧ Ps w0 tv aG F w' bP below k r ∧ Bw F w w') := by
 have d := Bw.refl F w;have c : ∀ z,F z → F z := fun z h => h;have i := hp.base;have hr : run body n (.seq .bump (.seq (.call (.path false)) (.seq (Cmd.exp ⟨#[123]⟩) (Cmd.list ⟨#[125]⟩ (.cond cB (.node 34 (.seq .bump (.seq (Cmd.exp ⟨#[58]⟩) Cmd.expr))) .skip))))) s = some r := hr;refine Cl.enter Tryz.func254 rfl Tryz.ntmps254 rfl rfl (.sr (Rg.wd trivial (aW rfl rfl) rfl ?_));rintro _ w1 ⟨f,rfl,e,hx1,a⟩;replace d := bS d hp.und c hx1;obtain ⟨j,hp1,b,hs1⟩ := hp.box hx1 e a.lt;clear hp;have hp := hp1;clear hp1;replace c := fun z hz => hs1 z (c z hz);refine .done (.sr (.t2 (aB aL rfl (a.g 0 rfl)) ?_));obtain ⟨s1,h1a,h1b⟩ := aI hr;refine Rg.wd trivial (aC Tryz.call80 rfl (cJ hC hp h1a (aH h1b hb))) rfl ?_;rintro _ w2 ⟨hp1,hb2⟩;replace a := aE a hb2 b;replace d := d.trans (hb2.sub c);clear hp;have hp := hp1;clear hp1;refine .done (.sr (.t2 (aB aL rfl (a.g 0 rfl)) ?_));obtain ⟨s2,h2a,h2b⟩ := aI h1b;refine Rg.wd trivial (aC Tryz.call170 rfl (bG hD hp h2a (aH h2b hb))) rfl ?_;rintro _ w3 ⟨hst,hp1,hb3⟩;replace a := aE a hb3 b;replace d := d.trans (hb3.sub c);clear hp;have hp := hp1;clear hp1;refine .done (.sr (.t2 (aB aL rfl (a.g 0 rfl)) ?_));obtain ⟨s3,h3a,h3b⟩ := aI h2b;refine Rg.wd trivial (aC Tryz.call130 rfl (dI hC hp h3a (aH h3b hb))) rfl ?_;rintro _ w4 ⟨hp1,hb4⟩;replace a := aE a hb4 b;replace d := d.trans (hb4.sub c);clear hp;have hp := hp1;clear hp1;refine .done (Wp.region (.t2 (aB aL rfl (a.g 0 rfl)) (.t2 (aM (us := []) (vs := [.pointer (some ⟨f,0,none⟩)]) rfl rfl) (Rg.wd trivial (aC Tryz.call159 rfl (jJ hC hp (Ff hC hD a b) h3b hb)) rfl ?_))));rintro _ w5 ⟨hp1,hb5⟩;replace a := aE a hb5 b;replace d := d.trans (hb5.sub c);clear hp;have hp := hp1;clear hp1;refine .done ?_;exact ⟨[],trivial,(fun h => by cases h),hp.sub c i,d⟩
theorem C8 (hC : Cx w0 tv aG) (hD : ∀ m,m < n → DN w0 tv aG m) (hp : Ps w0 tv aG F w bP below k s) (hr : run body n (body .lambda) s = some r) (hb : r.adds ≤ fR) :
  Cl Tryz.prog 255 #[.pointer (some ⟨bP,0,none⟩)] w (fun u w' => (Nm.lambda = Nm.statement → u = .bool r.flag) ∧ Ps w0 tv aG F w' bP below k r ∧ Bw F w w') := by
 have a := Bw.refl F w;have b : ∀ z,F z → F z := fun z h => h;have e := hp.base;have hr : run body n (.seq (.cond (cE [⟨#[124,124]⟩]) (.seq .bump (.node 12 .skip)) (.seq .bump (.call (.params ⟨#[124]⟩)))) Cmd.expr) s = some r := hr;refine Cl.enter Tryz.func255 rfl Tryz.ntmps255 rfl rfl (.seq ?_)
 cases d : (aV [⟨#[124,124]⟩] (aO s.rem)) with
 | true =>
  obtain ⟨s1,h1a,h1b⟩ := aI hr;have hq2 := aX h1a d;refine .sr (.m2 rfl (Rg.wd trivial (aD (aT _) rfl) rfl ?_));rintro _ w1 ⟨bt3,rfl,qt3,hx1,c⟩;replace a := bS a hp.und b hx1;replace hp := hp.extw hx1;refine Rg.wd trivial (aC Tryz.call73 rfl (bD hC hp (texts := [⟨#[124,124]⟩]) c (by decide))) rfl ?_;rintro _ w2 ⟨rfl,hx2⟩;replace a := bS a hp.und b hx2;replace hp := hp.extw hx2
  try replace c := c.ext hx2
  rw [show (aV [⟨#[124,124]⟩] (aO s.rem)) = true from d];refine .done (.condT rfl (.sr (.m2 rfl ?_)));obtain ⟨s2,h2a,h2b⟩ := aI hq2;refine Rg.wd trivial (aC Tryz.call80 rfl (cJ hC hp h2a (aH h2b (aH h1b hb)))) rfl ?_;rintro _ w3 ⟨hp1,hb3⟩;replace a := a.trans (hb3.sub b);clear hp;have hp := hp1;clear hp1;refine .done (Wp.region (.m2 rfl (Rg.wd trivial (aC Tryz.call77 rfl (bZ hp (E6 hC hD) h2b (aH h1b hb))) rfl ?_)));rintro _ w4 ⟨hp1,hb4⟩;replace a := a.trans (hb4.sub b);clear hp;have hp := hp1;clear hp1;refine .done (Wp.region (.m2 rfl (Rg.wd trivial (aC Tryz.call132 rfl (gH hC hD hp h1b hb)) rfl ?_)));rintro _ w5 ⟨hp1,hb5⟩;replace a := a.trans (hb5.sub b);clear hp;have hp := hp1;clear hp1;refine .done ?_;exact ⟨[],trivial,(fun h => by cases h),hp.sub b e,a⟩
 | false =>
  obtain ⟨s1,h1a,h1b⟩ := aI hr;have hq2 := aU h1a d;refine .sr (.m2 rfl (Rg.wd trivial (aD (aT _) rfl) rfl ?_));rintro _ w1 ⟨bt3,rfl,qt3,hx1,c⟩;replace a := bS a hp.und b hx1;replace hp := hp.extw hx1;refine Rg.wd trivial (aC Tryz.call73 rfl (bD hC hp (texts := [⟨#[124,124]⟩]) c (by decide))) rfl ?_;rintro _ w2 ⟨rfl,hx2⟩;replace a := bS a hp.und b hx2;replace hp := hp.extw hx2
  try replace c := c.ext hx2
  rw [show (aV [⟨#[124,124]⟩] (aO s.rem)) = false from d];refine .done (.condF rfl (.sr (.m2 rfl ?_)));obtain ⟨s2,h2a,h2b⟩ := aI hq2;refine Rg.wd trivial (aC Tryz.call80 rfl (cJ hC hp h2a (aH h2b (aH h1b hb)))) rfl ?_;rintro _ w3 ⟨hp1,hb3⟩;replace a := a.trans (hb3.sub b);clear hp;have hp := hp1;clear hp1;refine .done (Wp.region (.m2 rfl (Rg.wd trivial (aC Tryz.call133 rfl (bG hD hp h2b (aH h1b hb))) rfl ?_)));rintro _ w4 ⟨hst,hp1,hb4⟩;replace a := a.trans (hb4.sub b);clear hp;have hp := hp1;clear hp1;refine .done (Wp.region (.m2 rfl (Rg.wd trivial (aC Tryz.call132 rfl (gH hC hD hp h1b hb)) rfl ?_)));rintro _ w5 ⟨hp1,hb5⟩;replace a := a.trans (hb5.sub b);clear hp;have hp := hp1;clear hp1;refine .done ?_;exact ⟨[],trivial,(fun h => by cases h),hp.sub b e,a⟩
theorem Fg (hC : Cx w0 tv aG) (hD : ∀ m,m < n → DN w0 tv aG m) {b0 : Nat} (a : Var w b0 [.pointer (some ⟨bP,0,none⟩)] 80) (d : F b0) : Clo w0 tv aG n F bP 188 [] [.pointer (some ⟨b0,0,none⟩)] w (.cond (cE [⟨#[60]⟩]) (.seq .bump (Cmd.list ⟨#[62]⟩ (.call .typeParam))) .skip) := by
 refine ⟨Tryz.call188,fun w1 hw1 below k s r hp hr hb => ?_⟩;replace a := aE a hw1 d
 show Cl Tryz.prog 188 #[.pointer (some ⟨b0,0,none⟩)] w1 _
 have b := Bw.refl F w1;have c : ∀ z,F z → F z := fun z h => h;have f := hp.base;refine Cl.enter Tryz.func188 rfl Tryz.ntmps188 rfl rfl ?_
 cases e : (aV [⟨#[60]⟩] (aO s.rem)) with
 | true =>
  have hq2 := aX hr e;refine .sr (.t2 (aB aL rfl (a.g 0 rfl)) (Rg.wd trivial (aD (aT _) rfl) rfl ?_));rintro _ w1 ⟨bt2,rfl,qt2,hx1,i⟩;replace b := bS b hp.und c hx1;replace hp := hp.extw hx1;replace a := a.ext hx1;obtain ⟨s1,h1a,h1b⟩ := aI hq2;obtain rfl := cN h1a;refine Rg.wd trivial (aC Tryz.call79 rfl (gT hC hp (texts := [⟨#[60]⟩]) i (by decide) e (aH h1b hb))) rfl ?_;rintro _ w2 ⟨rfl,hp1,hb2⟩;replace a := aE a hb2 d;replace b := b.trans (hb2.sub c);clear hp;have hp := hp1;clear hp1;refine .done (.condT rfl (Wp.region (.t2 (aB aL rfl (a.g 0 rfl)) (.t2 (aB aL rfl (a.g 0 rfl)) (.t2 (aM (us := [.pointer (some ⟨bP,0,none⟩)]) (vs := []) rfl rfl) (Rg.wd trivial (aC Tryz.call159 rfl (jJ hC hp (dL Tryz.call189 hD (.typeParam)) h1b hb)) rfl ?_))))));rintro _ w3 ⟨hp1,hb3⟩;replace a := aE a hb3 d;replace b := b.trans (hb3.sub c);clear hp;have hp := hp1;clear hp1;refine .done ?_;exact ⟨[],trivial,hp.sub c f,b⟩
 | false =>
  have hq2 := aU hr e;obtain rfl := cI hq2;refine .sr (.t2 (aB aL rfl (a.g 0 rfl)) (Rg.wd trivial (aD (aT _) rfl) rfl ?_));rintro _ w1 ⟨bt2,rfl,qt2,hx1,i⟩;replace b := bS b hp.und c hx1;replace hp := hp.extw hx1;replace a := a.ext hx1;refine Rg.wd trivial (aC Tryz.call79 rfl (gU hC hp (texts := [⟨#[60]⟩]) i (by decide) e)) rfl ?_;rintro _ w2 ⟨rfl,hp1,hb2⟩;replace a := aE a hb2 d;replace b := b.trans (hb2.sub c);clear hp;have hp := hp1;clear hp1;refine .done (.condF rfl (Wp.skip ?_));exact ⟨[],trivial,hp.sub c f,b⟩
theorem sY (hC : Cx w0 tv aG) (hD : ∀ m,m < n → DN w0 tv aG m) (hp : Ps w0 tv aG F w bP below k s) (hr : run body n (body .typeParams) s = some r) (hb : r.adds ≤ fR) :
  Cl Tryz.prog 155 #[.pointer (some ⟨bP,0,none⟩)] w (fun u w' => (Nm.typeParams = Nm.statement → u = .bool r.flag) ∧ Ps w0 tv aG F w' bP below k r ∧ Bw F w w') := by
 have e := Bw.refl F w;have c : ∀ z,F z → F z := fun z h => h;have i := hp.base;have hr : run body n (.node 10 (.cond (cE [⟨#[60]⟩]) (.seq .bump (Cmd.list ⟨#[62]⟩ (.call .typeParam))) .skip)) s = some r := hr;refine Cl.enter Tryz.func155 rfl Tryz.ntmps155 rfl rfl (.sr (Rg.wd trivial (aW rfl rfl) rfl ?_));rintro _ w1 ⟨f,rfl,d,hx1,a⟩;replace e := bS e hp.und c hx1;obtain ⟨j,hp1,b,hs1⟩ := hp.box hx1 d a.lt;clear hp;have hp := hp1;clear hp1;replace c := fun z hz => hs1 z (c z hz);refine .done (Wp.region (.t2 (aB aL rfl (a.g 0 rfl)) (.t2 (aM (us := []) (vs := [.pointer (some ⟨f,0,none⟩)]) rfl rfl) (Rg.wd trivial (aC Tryz.call77 rfl (bZ hp (Fg hC hD a b) hr hb)) rfl ?_))));rintro _ w2 ⟨hp1,hb2⟩;replace a := aE a hb2 b;replace e := e.trans (hb2.sub c);clear hp;have hp := hp1;clear hp1;refine .done ?_;exact ⟨[],trivial,(fun h => by cases h),hp.sub c i,e⟩
theorem Fh (hC : Cx w0 tv aG) (hD : ∀ m,m < n → DN w0 tv aG m) {b0 : Nat} (a : Var w b0 [.pointer (some ⟨bP,0,none⟩)] 80) (d : F b0) : Clo w0 tv aG n F bP 223 [] [.pointer (some ⟨b0,0,none⟩)] w (.seq .bump (.cond (cE [⟨#[58]⟩]) (.seq .bump (.seq (.call (.path true)) (.loop (cE [⟨#[43]⟩]) (.seq .bump (.call (.path true)))))) .skip)) := by
 refine ⟨Tryz.call223,fun w1 hw1 below k s r hp hr hb => ?_⟩;replace a := aE a hw1 d
 show Cl Tryz.prog 223 #[.pointer (some ⟨b0,0,none⟩)] w1 _
 have b := Bw.refl F w1;have c : ∀ z,F z → F z := fun z h => h;have j := hp.base;refine Cl.enter Tryz.func223 rfl Tryz.ntmps223 rfl rfl (.sr (.t2 (aB aL rfl (a.g 0 rfl)) ?_));obtain ⟨s1,h1a,h1b⟩ := aI hr;refine Rg.wd trivial (aC Tryz.call80 rfl (cJ hC hp h1a (aH h1b hb))) rfl ?_;rintro _ w1 ⟨hp1,hb1⟩;replace a := aE a hb1 d;replace b := b.trans (hb1.sub c);clear hp;have hp := hp1;clear hp1;refine .done ?_
 cases e : (aV [⟨#[58]⟩] (aO s1.rem)) with
 | true =>
  have hq2 := aX h1b e;refine .sr (.t2 (aB aL rfl (a.g 0 rfl)) (Rg.wd trivial (aD (aT _) rfl) rfl ?_));rintro _ w2 ⟨bt4,rfl,qt4,hx2,l⟩;replace b := bS b hp.und c hx2;replace hp := hp.extw hx2;replace a := a.ext hx2;obtain ⟨s2,h2a,h2b⟩ := aI hq2;obtain rfl := cN h2a;refine Rg.wd trivial (aC Tryz.call79 rfl (gT hC hp (texts := [⟨#[58]⟩]) l (by decide) e (aH h2b hb))) rfl ?_;rintro _ w3 ⟨rfl,hp1,hb3⟩;replace a := aE a hb3 d;replace b := b.trans (hb3.sub c);clear hp;have hp := hp1;clear hp1;refine .done (.condT rfl (.sr (.t2 (aB aL rfl (a.g 0 rfl)) ?_)));obtain ⟨s3,h3a,h3b⟩ := aI h2b;refine Rg.wd trivial (aC Tryz.call170 rfl (bG hD hp h3a (aH h3b hb))) rfl ?_;rintro _ w4 ⟨hst,hp1,hb4⟩;replace a := aE a hb4 d;replace b := b.trans (hb4.sub c);clear hp;have hp := hp1;clear hp1;refine .done (Wp.block ?_);refine Wp.loop (ι := S × Nat) (fun _ => [(0,.pointer (some ⟨b0,0,none⟩))])
   (fun i w' => Ps w0 tv aG F w' bP below k i.1 ∧ Bw F w4 w' ∧ run body i.2 (.loop (cE [⟨#[43]⟩]) (.seq .bump (.call (.path true)))) i.1 = some r ∧ i.2 ≤ n) (fun i => i.2) (s3,n) (by repeat (first | exact .nil | refine .cons rfl ?_)) ⟨hp,Bw.refl _ _,h3b,Nat.le_refl _⟩ ?_
  clear hp;rintro ⟨s',m⟩ wl ⟨hp,hbl,hrun,hmn⟩;simp only at hp hrun hmn;replace b := b.trans (hbl.sub c);replace a := aE a hbl d;refine .seq ?_
  cases f : (aV [⟨#[43]⟩] (aO s'.rem)) with
  | true =>
   obtain ⟨m1,s2,rfl,hbody,hrest⟩ := dP hrun f;replace hbody := dT hmn hbody;refine .sr (.t2 (aB aL rfl (a.g 0 rfl)) (Rg.wd trivial (aD (aT _) rfl) rfl ?_));rintro _ w5 ⟨bt9,rfl,qt9,hx5,o⟩;replace hbl := hbl.trans (Bw.of hx5 hp.und);replace b := bS b hp.und c hx5;replace hp := hp.extw hx5;replace a := a.ext hx5;obtain ⟨s4,h4a,h4b⟩ := aI hbody;obtain rfl := cN h4a;refine Rg.wd trivial (aC Tryz.call79 rfl (gT hC hp (texts := [⟨#[43]⟩]) o (by decide) f (aH h4b (aH hrest hb)))) rfl ?_;rintro _ w6 ⟨rfl,hp1,hb6⟩;replace hbl := hbl.trans hb6;replace a := aE a hb6 d;replace b := b.trans (hb6.sub c);clear hp;have hp := hp1;clear hp1;refine .done (.condT rfl (Wp.skip (Wp.block (Wp.region (.t2 (aB aL rfl (a.g 0 rfl)) (Rg.wd trivial (aC Tryz.call170 rfl (bG hD hp h4b (aH hrest hb))) rfl ?_))))));rintro _ w7 ⟨hst,hp1,hb7⟩;replace hbl := hbl.trans hb7;replace a := aE a hb7 d;replace b := b.trans (hb7.sub c);clear hp;have hp := hp1;clear hp1;refine .done ?_;exact ⟨(s2,m1),by repeat (first | exact .nil | refine .cons rfl ?_),⟨hp,hbl,hrest,by simp only; omega⟩,by simp only; omega⟩
  | false =>
   obtain rfl := cL hrun f;refine .sr (.t2 (aB aL rfl (a.g 0 rfl)) (Rg.wd trivial (aD (aT _) rfl) rfl ?_));rintro _ w5 ⟨bt9,rfl,qt9,hx5,o⟩;replace b := bS b hp.und c hx5;replace hp := hp.extw hx5;replace a := a.ext hx5;refine Rg.wd trivial (aC Tryz.call79 rfl (gU hC hp (texts := [⟨#[43]⟩]) o (by decide) f)) rfl ?_;rintro _ w6 ⟨rfl,hp1,hb6⟩;replace a := aE a hb6 d;replace b := b.trans (hb6.sub c);clear hp;have hp := hp1;clear hp1;refine .done (.condF rfl (Wp.exit ?_));exact ⟨[],trivial,hp.sub c j,b⟩
 | false =>
  have hq2 := aU h1b e;obtain rfl := cI hq2;refine .sr (.t2 (aB aL rfl (a.g 0 rfl)) (Rg.wd trivial (aD (aT _) rfl) rfl ?_));rintro _ w2 ⟨bt4,rfl,qt4,hx2,l⟩;replace b := bS b hp.und c hx2;replace hp := hp.extw hx2;replace a := a.ext hx2;refine Rg.wd trivial (aC Tryz.call79 rfl (gU hC hp (texts := [⟨#[58]⟩]) l (by decide) e)) rfl ?_;rintro _ w3 ⟨rfl,hp1,hb3⟩;replace a := aE a hb3 d;replace b := b.trans (hb3.sub c);clear hp;have hp := hp1;clear hp1;refine .done (.condF rfl (Wp.skip ?_));exact ⟨[],trivial,hp.sub c j,b⟩
theorem vF (hC : Cx w0 tv aG) (hD : ∀ m,m < n → DN w0 tv aG m) (hp : Ps w0 tv aG F w bP below k s) (hr : run body n (body .typeParam) s = some r) (hb : r.adds ≤ fR) :
  Cl Tryz.prog 189 #[.pointer (some ⟨bP,0,none⟩)] w (fun u w' => (Nm.typeParam = Nm.statement → u = .bool r.flag) ∧ Ps w0 tv aG F w' bP below k r ∧ Bw F w w') := by
 have d := Bw.refl F w;have b : ∀ z,F z → F z := fun z h => h;have i := hp.base;have hr : run body n (.cond cB (.node 11 (.seq .bump (.cond (cE [⟨#[58]⟩]) (.seq .bump (.seq (.call (.path true)) (.loop (cE [⟨#[43]⟩]) (.seq .bump (.call (.path true)))))) .skip))) .skip) s = some r := hr;refine Cl.enter Tryz.func189 rfl Tryz.ntmps189 rfl rfl (.sr (Rg.wd trivial (aW rfl rfl) rfl ?_));rintro _ w1 ⟨j,rfl,f,hx1,a⟩;replace d := bS d hp.und b hx1;obtain ⟨l,hp1,c,hs1⟩ := hp.box hx1 f a.lt;clear hp;have hp := hp1;clear hp1;replace b := fun z hz => hs1 z (b z hz);refine .done (.seq ?_)
 cases e : ((aO s.rem).1 == 103) with
 | true =>
  have hq2 := aX hr e;refine .sr (.t2 (aB aL rfl (a.g 0 rfl)) (Rg.wd trivial (aC Tryz.call161 rfl (bT hC hp)) rfl ?_));rintro _ w2 ⟨rfl,hx2⟩;replace d := bS d hp.und b hx2;replace hp := hp.extw hx2;replace a := a.ext hx2;rw [show ((aO s.rem).1 == 103) = true from e];refine .t2 (bJ rfl) (.done (.condF rfl (Wp.skip (Wp.region (.t2 (aB aL rfl (a.g 0 rfl)) (.t2 (aM (us := []) (vs := [.pointer (some ⟨j,0,none⟩)]) rfl rfl) (Rg.wd trivial (aC Tryz.call77 rfl (bZ hp (Fh hC hD a c) hq2 hb)) rfl ?_)))))));rintro _ w3 ⟨hp1,hb3⟩;replace a := aE a hb3 c;replace d := d.trans (hb3.sub b);clear hp;have hp := hp1;clear hp1;refine .done ?_;exact ⟨[],trivial,(fun h => by cases h),hp.sub b i,d⟩
 | false =>
  have hq2 := aU hr e;obtain rfl := cI hq2;refine .sr (.t2 (aB aL rfl (a.g 0 rfl)) (Rg.wd trivial (aC Tryz.call161 rfl (bT hC hp)) rfl ?_));rintro _ w2 ⟨rfl,hx2⟩;replace d := bS d hp.und b hx2;replace hp := hp.extw hx2;replace a := a.ext hx2;rw [show ((aO r.rem).1 == 103) = false from e];refine .t2 (bJ rfl) (.done (.condT rfl (Wp.ret ?_)));exact ⟨[],trivial,(fun h => by cases h),hp.sub b i,d⟩
theorem Fi (hC : Cx w0 tv aG) (hD : ∀ m,m < n → DN w0 tv aG m) {b0 : Nat} (a : Var w b0 [.pointer (some ⟨bP,0,none⟩)] 80) (b : F b0) : Clo w0 tv aG n F bP 175 [] [.pointer (some ⟨b0,0,none⟩)] w (.seq .bump (Cmd.opt ⟨#[58]⟩ (.call .typeExpr))) := by
 refine ⟨Tryz.call175,fun w1 hw1 below k s r hp hr hb => ?_⟩;replace a := aE a hw1 b
 show Cl Tryz.prog 175 #[.pointer (some ⟨b0,0,none⟩)] w1 _
 have c := Bw.refl F w1;have d : ∀ z,F z → F z := fun z h => h;have e := hp.base;refine Cl.enter Tryz.func175 rfl Tryz.ntmps175 rfl rfl (.sr (.t2 (aB aL rfl (a.g 0 rfl)) ?_));obtain ⟨s1,h1a,h1b⟩ := aI hr;refine Rg.wd trivial (aC Tryz.call80 rfl (cJ hC hp h1a (aH h1b hb))) rfl ?_;rintro _ w1 ⟨hp1,hb1⟩;replace a := aE a hb1 b;replace c := c.trans (hb1.sub d);clear hp;have hp := hp1;clear hp1;refine .done (Wp.region (.t2 (aB aL rfl (a.g 0 rfl)) (.t2 (aB aL rfl (a.g 0 rfl)) (.t2 (aM (us := [.pointer (some ⟨bP,0,none⟩)]) (vs := []) rfl rfl) (Rg.wd trivial (aC Tryz.call156 rfl (pS hC hp (dL Tryz.call131 hD (.typeExpr)) h1b hb)) rfl ?_)))));rintro _ w2 ⟨hp1,hb2⟩;replace a := aE a hb2 b;replace c := c.trans (hb2.sub d);clear hp;have hp := hp1;clear hp1;refine .done ?_;exact ⟨[],trivial,hp.sub d e,c⟩
theorem Fj (hC : Cx w0 tv aG) (hD : ∀ m,m < n → DN w0 tv aG m) {b0 : Nat} (a : Var w b0 [.pointer (some ⟨bP,0,none⟩)] 80) (d : F b0) : Clo w0 tv aG n F bP 174 [] [.pointer (some ⟨b0,0,none⟩)] w (.cond cB (.node 13 (.seq .bump (Cmd.opt ⟨#[58]⟩ (.call .typeExpr)))) .skip) := by
 refine ⟨Tryz.call174,fun w1 hw1 below k s r hp hr hb => ?_⟩;replace a := aE a hw1 d
 show Cl Tryz.prog 174 #[.pointer (some ⟨b0,0,none⟩)] w1 _
 have b := Bw.refl F w1;have c : ∀ z,F z → F z := fun z h => h;have f := hp.base;refine Cl.enter Tryz.func174 rfl Tryz.ntmps174 rfl rfl ?_
 cases e : ((aO s.rem).1 == 103) with
 | true =>
  have hq2 := aX hr e;refine .sr (.t2 (aB aL rfl (a.g 0 rfl)) (Rg.wd trivial (aC Tryz.call161 rfl (bT hC hp)) rfl ?_));rintro _ w1 ⟨rfl,hx1⟩;replace b := bS b hp.und c hx1;replace hp := hp.extw hx1;replace a := a.ext hx1;rw [show ((aO s.rem).1 == 103) = true from e];refine .done (.condT rfl (Wp.region (.t2 (aB aL rfl (a.g 0 rfl)) (.t2 (aM (us := []) (vs := [.pointer (some ⟨b0,0,none⟩)]) rfl rfl) (Rg.wd trivial (aC Tryz.call77 rfl (bZ hp (Fi hC hD a d) hq2 hb)) rfl ?_)))));rintro _ w2 ⟨hp1,hb2⟩;replace a := aE a hb2 d;replace b := b.trans (hb2.sub c);clear hp;have hp := hp1;clear hp1;refine .done ?_;exact ⟨[],trivial,hp.sub c f,b⟩
 | false =>
  have hq2 := aU hr e;obtain rfl := cI hq2;refine .sr (.t2 (aB aL rfl (a.g 0 rfl)) (Rg.wd trivial (aC Tryz.call161 rfl (bT hC hp)) rfl ?_));rintro _ w1 ⟨rfl,hx1⟩;replace b := bS b hp.und c hx1;replace hp := hp.extw hx1;replace a := a.ext hx1;rw [show ((aO r.rem).1 == 103) = false from e];refine .done (.condF rfl (Wp.skip ?_));exact ⟨[],trivial,hp.sub c f,b⟩
theorem Fl {cl : ByteArray} (hC : Cx w0 tv aG) (hD : ∀ m,m < n → DN w0 tv aG m) {b0 : Nat} (a : Var w b0 [.pointer (some ⟨bP,0,none⟩)] 80) (c : F b0) {b1 : Nat} (b : Var w b1 [.string cl] 9) (d : F b1) : Clo w0 tv aG n F bP 173 [] [.pointer (some ⟨b0,0,none⟩),.pointer (some ⟨b1,0,none⟩)] w (Cmd.list cl (.cond cB (.node 13 (.seq .bump (Cmd.opt ⟨#[58]⟩ (.call .typeExpr)))) .skip)) := by
 refine ⟨Tryz.call173,fun w1 hw1 below k s r hp hr hb => ?_⟩;replace a := aE a hw1 c;replace b := aE b hw1 d
 show Cl Tryz.prog 173 #[.pointer (some ⟨b0,0,none⟩),.pointer (some ⟨b1,0,none⟩)] w1 _
 have f := Bw.refl F w1;have e : ∀ z,F z → F z := fun z h => h;have i := hp.base;refine Cl.enter Tryz.func173 rfl Tryz.ntmps173 rfl rfl (Wp.region (.t2 (aB aL rfl (a.g 0 rfl)) (.t2 (aB hY rfl (b.g 0 rfl)) (.t2 (aM (us := []) (vs := [.pointer (some ⟨b0,0,none⟩)]) rfl rfl) (Rg.wd trivial (aC Tryz.call159 rfl (jJ hC hp (Fj hC hD a c) hr hb)) rfl ?_)))));rintro _ w1 ⟨hp1,hb1⟩;replace a := aE a hb1 c;replace b := aE b hb1 d;replace f := f.trans (hb1.sub e);clear hp;have hp := hp1;clear hp1;refine .done ?_;exact ⟨[],trivial,hp.sub e i,f⟩
theorem C9 {cl : ByteArray} (hC : Cx w0 tv aG) (hD : ∀ m,m < n → DN w0 tv aG m) (hp : Ps w0 tv aG F w bP below k s) (hr : run body n (body (.params cl)) s = some r) (hb : r.adds ≤ fR) :
  Cl Tryz.prog 133 #[.pointer (some ⟨bP,0,none⟩),.string cl] w (fun u w' => ((Nm.params cl) = Nm.statement → u = .bool r.flag) ∧ Ps w0 tv aG F w' bP below k r ∧ Bw F w w') := by
 have f := Bw.refl F w;have d : ∀ z,F z → F z := fun z h => h;have p := hp.base;have hr : run body n (.node 12 (Cmd.list cl (.cond cB (.node 13 (.seq .bump (Cmd.opt ⟨#[58]⟩ (.call .typeExpr)))) .skip))) s = some r := hr;refine Cl.enter Tryz.func133 rfl Tryz.ntmps133 rfl rfl (.sr (Rg.wd trivial (aW rfl rfl) rfl ?_));rintro _ w1 ⟨l,rfl,i,hx1,a⟩;replace f := bS f hp.und d hx1;obtain ⟨q,hp1,b,hs1⟩ := hp.box hx1 i a.lt;clear hp;have hp := hp1;clear hp1;replace d := fun z hz => hs1 z (d z hz);refine Rg.wd trivial (aW rfl rfl) rfl ?_;rintro _ w2 ⟨o,rfl,j,hx2,c⟩;replace f := bS f hp.und d hx2;obtain ⟨t,hp1,e,hs2⟩ := hp.box hx2 j c.lt;clear hp;have hp := hp1;clear hp1;replace d := fun z hz => hs2 z (d z hz);replace a := a.ext hx2;replace b := hs2 _ b;refine .done (Wp.region (.t2 (aB aL rfl (a.g 0 rfl)) (.t2 (aM (us := []) (vs := [.pointer (some ⟨l,0,none⟩),.pointer (some ⟨o,0,none⟩)]) rfl rfl) (Rg.wd trivial (aC Tryz.call77 rfl (bZ hp (Fl hC hD a b c e) hr hb)) rfl ?_))));rintro _ w3 ⟨hp1,hb3⟩;replace a := aE a hb3 b;replace c := aE c hb3 e;replace f := f.trans (hb3.sub d);clear hp;have hp := hp1;clear hp1;refine .done ?_;exact ⟨[],trivial,(fun h => by cases h),hp.sub d p,f⟩
theorem Fm (hC : Cx w0 tv aG) (hD : ∀ m,m < n → DN w0 tv aG m) {b0 : Nat} (a : Var w b0 [.pointer (some ⟨bP,0,none⟩)] 80) (d : F b0) : Clo w0 tv aG n F bP 168 [] [.pointer (some ⟨b0,0,none⟩)] w (.seq .bump (.seq (Cmd.acc ⟨#[109,117,116]⟩) (.call .typeExpr))) := by
 refine ⟨Tryz.call168,fun w1 hw1 below k s r hp hr hb => ?_⟩;replace a := aE a hw1 d
 show Cl Tryz.prog 168 #[.pointer (some ⟨b0,0,none⟩)] w1 _
 have b := Bw.refl F w1;have c : ∀ z,F z → F z := fun z h => h;have f := hp.base;refine Cl.enter Tryz.func168 rfl Tryz.ntmps168 rfl rfl (.sr (.t2 (aB aL rfl (a.g 0 rfl)) ?_));obtain ⟨s1,h1a,h1b⟩ := aI hr;refine Rg.wd trivial (aC Tryz.call80 rfl (cJ hC hp h1a (aH h1b hb))) rfl ?_;rintro _ w1 ⟨hp1,hb1⟩;replace a := aE a hb1 d;replace b := b.trans (hb1.sub c);clear hp;have hp := hp1;clear hp1;refine .done ?_;obtain ⟨s2,h2a,h2b⟩ := aI h1b
 cases e : (aV [⟨#[109,117,116]⟩] (aO s1.rem)) with
 | true =>
  have hq2 := aX h2a e;refine .sr (.t2 (aB aL rfl (a.g 0 rfl)) (Rg.wd trivial (aD (aT _) rfl) rfl ?_));rintro _ w2 ⟨bt4,rfl,qt4,hx2,i⟩;replace b := bS b hp.und c hx2;replace hp := hp.extw hx2;replace a := a.ext hx2;obtain rfl := cN hq2;refine Rg.wd trivial (aC Tryz.call79 rfl (gT hC hp (texts := [⟨#[109,117,116]⟩]) i (by decide) e (aH h2b hb))) rfl ?_;rintro _ w3 ⟨rfl,hp1,hb3⟩;replace a := aE a hb3 d;replace b := b.trans (hb3.sub c);clear hp;have hp := hp1;clear hp1;refine .done (Wp.region (.t2 (aB aL rfl (a.g 0 rfl)) (Rg.wd trivial (aC Tryz.call131 rfl (bG hD hp h2b hb)) rfl ?_)));rintro _ w4 ⟨hst,hp1,hb4⟩;replace a := aE a hb4 d;replace b := b.trans (hb4.sub c);clear hp;have hp := hp1;clear hp1;refine .done ?_;exact ⟨[],trivial,hp.sub c f,b⟩
 | false =>
  have hq2 := aU h2a e;obtain rfl := cI hq2;refine .sr (.t2 (aB aL rfl (a.g 0 rfl)) (Rg.wd trivial (aD (aT _) rfl) rfl ?_));rintro _ w2 ⟨bt4,rfl,qt4,hx2,i⟩;replace b := bS b hp.und c hx2;replace hp := hp.extw hx2;replace a := a.ext hx2;refine Rg.wd trivial (aC Tryz.call79 rfl (gU hC hp (texts := [⟨#[109,117,116]⟩]) i (by decide) e)) rfl ?_;rintro _ w3 ⟨rfl,hp1,hb3⟩;replace a := aE a hb3 d;replace b := b.trans (hb3.sub c);clear hp;have hp := hp1;clear hp1;refine .done (Wp.region (.t2 (aB aL rfl (a.g 0 rfl)) (Rg.wd trivial (aC Tryz.call131 rfl (bG hD hp h2b hb)) rfl ?_)));rintro _ w4 ⟨hst,hp1,hb4⟩;replace a := aE a hb4 d;replace b := b.trans (hb4.sub c);clear hp;have hp := hp1;clear hp1;refine .done ?_;exact ⟨[],trivial,hp.sub c f,b⟩
theorem Fn (hC : Cx w0 tv aG) (hD : ∀ m,m < n → DN w0 tv aG m) {b0 : Nat} (a : Var w b0 [.pointer (some ⟨bP,0,none⟩)] 80) (b : F b0) : Clo w0 tv aG n F bP 169 [] [.pointer (some ⟨b0,0,none⟩)] w (.seq .bump (.seq (Cmd.exp ⟨#[40]⟩) (.seq (Cmd.list ⟨#[41]⟩ (.call .typeExpr)) (Cmd.opt ⟨#[45,62]⟩ (.call .typeExpr))))) := by
 refine ⟨Tryz.call169,fun w1 hw1 below k s r hp hr hb => ?_⟩;replace a := aE a hw1 b
 show Cl Tryz.prog 169 #[.pointer (some ⟨b0,0,none⟩)] w1 _
 have c := Bw.refl F w1;have d : ∀ z,F z → F z := fun z h => h;have e := hp.base;refine Cl.enter Tryz.func169 rfl Tryz.ntmps169 rfl rfl (.sr (.t2 (aB aL rfl (a.g 0 rfl)) ?_));obtain ⟨s1,h1a,h1b⟩ := aI hr;refine Rg.wd trivial (aC Tryz.call80 rfl (cJ hC hp h1a (aH h1b hb))) rfl ?_;rintro _ w1 ⟨hp1,hb1⟩;replace a := aE a hb1 b;replace c := c.trans (hb1.sub d);clear hp;have hp := hp1;clear hp1;refine .done (.sr (.t2 (aB aL rfl (a.g 0 rfl)) ?_));obtain ⟨s2,h2a,h2b⟩ := aI h1b;refine Rg.wd trivial (aC Tryz.call130 rfl (dI hC hp h2a (aH h2b hb))) rfl ?_;rintro _ w2 ⟨hp1,hb2⟩;replace a := aE a hb2 b;replace c := c.trans (hb2.sub d);clear hp;have hp := hp1;clear hp1;refine .done (.sr (.t2 (aB aL rfl (a.g 0 rfl)) (.t2 (aB aL rfl (a.g 0 rfl)) (.t2 (aM (us := [.pointer (some ⟨bP,0,none⟩)]) (vs := []) rfl rfl) ?_))));obtain ⟨s3,h3a,h3b⟩ := aI h2b;refine Rg.wd trivial (aC Tryz.call159 rfl (jJ hC hp (dL Tryz.call131 hD (.typeExpr)) h3a (aH h3b hb))) rfl ?_;rintro _ w3 ⟨hp1,hb3⟩;replace a := aE a hb3 b;replace c := c.trans (hb3.sub d);clear hp;have hp := hp1;clear hp1;refine .done (Wp.region (.t2 (aB aL rfl (a.g 0 rfl)) (.t2 (aB aL rfl (a.g 0 rfl)) (.t2 (aM (us := [.pointer (some ⟨bP,0,none⟩)]) (vs := []) rfl rfl) (Rg.wd trivial (aC Tryz.call156 rfl (pS hC hp (dL Tryz.call131 hD (.typeExpr)) h3b hb)) rfl ?_)))));rintro _ w4 ⟨hp1,hb4⟩;replace a := aE a hb4 b;replace c := c.trans (hb4.sub d);clear hp;have hp := hp1;clear hp1;refine .done ?_;exact ⟨[],trivial,hp.sub d e,c⟩
theorem xK (hC : Cx w0 tv aG) (hD : ∀ m,m < n → DN w0 tv aG m) (hp : Ps w0 tv aG F w bP below k s) (hr : run body n (body .typeExpr) s = some r) (hb : r.adds ≤ fR) :
  Cl Tryz.prog 131 #[.pointer (some ⟨bP,0,none⟩)] w (fun u w' => (Nm.typeExpr = Nm.statement → u = .bool r.flag) ∧ Ps w0 tv aG F w' bP below k r ∧ Bw F w w') := by
 have b := Bw.refl F w;have c : ∀ z,F z → F z := fun z h => h;have i := hp.base;have hr : run body n (.cond (cE [⟨#[38]⟩]) (.node 19 (.seq .bump (.seq (Cmd.acc ⟨#[109,117,116]⟩) (.call .typeExpr)))) (.cond (cE [⟨#[102,110]⟩]) (.node 20 (.seq .bump (.seq (Cmd.exp ⟨#[40]⟩) (.seq (Cmd.list ⟨#[41]⟩ (.call .typeExpr)) (Cmd.opt ⟨#[45,62]⟩ (.call .typeExpr)))))) (.cond cB (.call (.path true)) (.leaf 46)))) s = some r := hr;refine Cl.enter Tryz.func131 rfl Tryz.ntmps131 rfl rfl (.sr (Rg.wd trivial (aW rfl rfl) rfl ?_));rintro _ w1 ⟨j,rfl,q,hx1,a⟩;replace b := bS b hp.und c hx1;obtain ⟨t,hp1,d,hs1⟩ := hp.box hx1 q a.lt;clear hp;have hp := hp1;clear hp1;replace c := fun z hz => hs1 z (c z hz);refine .done (Wp.block ?_)
 cases l : (aV [⟨#[38]⟩] (aO s.rem)) with
 | true =>
  have hq2 := aX hr l;refine .sr (.t2 (aB aL rfl (a.g 0 rfl)) (Rg.wd trivial (aD (aT _) rfl) rfl ?_));rintro _ w2 ⟨bt6,rfl,qt6,hx2,e⟩;replace b := bS b hp.und c hx2;replace hp := hp.extw hx2;replace a := a.ext hx2;refine Rg.wd trivial (aC Tryz.call73 rfl (bD hC hp (texts := [⟨#[38]⟩]) e (by decide))) rfl ?_;rintro _ w3 ⟨rfl,hx3⟩;replace b := bS b hp.und c hx3;replace hp := hp.extw hx3;replace a := a.ext hx3
  try replace e := e.ext hx3
  rw [show (aV [⟨#[38]⟩] (aO s.rem)) = true from l];refine .a2 rfl (.done (.condT rfl (Wp.region (.t2 (aB aL rfl (a.g 0 rfl)) (.t2 (aM (us := []) (vs := [.pointer (some ⟨j,0,none⟩)]) rfl rfl) (Rg.wd trivial (aC Tryz.call77 rfl (bZ hp (Fm hC hD a d) hq2 hb)) rfl ?_))))));rintro _ w4 ⟨hp1,hb4⟩;replace a := aE a hb4 d;replace b := b.trans (hb4.sub c);clear hp;have hp := hp1;clear hp1;refine .done ?_;exact ⟨[],trivial,(fun h => by cases h),hp.sub c i,b⟩
 | false =>
  have hq2 := aU hr l;refine .sr (.t2 (aB aL rfl (a.g 0 rfl)) (Rg.wd trivial (aD (aT _) rfl) rfl ?_));rintro _ w2 ⟨bt6,rfl,qt6,hx2,e⟩;replace b := bS b hp.und c hx2;replace hp := hp.extw hx2;replace a := a.ext hx2;refine Rg.wd trivial (aC Tryz.call73 rfl (bD hC hp (texts := [⟨#[38]⟩]) e (by decide))) rfl ?_;rintro _ w3 ⟨rfl,hx3⟩;replace b := bS b hp.und c hx3;replace hp := hp.extw hx3;replace a := a.ext hx3
  try replace e := e.ext hx3
  rw [show (aV [⟨#[38]⟩] (aO s.rem)) = false from l];refine .a2 rfl (.done (.condF rfl ?_))
  cases o : (aV [⟨#[102,110]⟩] (aO s.rem)) with
  | true =>
   have hq4 := aX hq2 o;refine .sr (.t2 (aB aL rfl (a.g 0 rfl)) (Rg.wd trivial (aD (aT _) rfl) rfl ?_));rintro _ w4 ⟨bt13,rfl,qt13,hx4,f⟩;replace b := bS b hp.und c hx4;replace hp := hp.extw hx4;replace a := a.ext hx4
   try replace e := e.ext hx4
   refine Rg.wd trivial (aC Tryz.call73 rfl (bD hC hp (texts := [⟨#[102,110]⟩]) f (by decide))) rfl ?_;rintro _ w5 ⟨rfl,hx5⟩;replace b := bS b hp.und c hx5;replace hp := hp.extw hx5;replace a := a.ext hx5
   try replace e := e.ext hx5
   try replace f := f.ext hx5
   rw [show (aV [⟨#[102,110]⟩] (aO s.rem)) = true from o];refine .a2 rfl (.done (.condT rfl (Wp.region (.t2 (aB aL rfl (a.g 0 rfl)) (.t2 (aM (us := []) (vs := [.pointer (some ⟨j,0,none⟩)]) rfl rfl) (Rg.wd trivial (aC Tryz.call77 rfl (bZ hp (Fn hC hD a d) hq4 hb)) rfl ?_))))));rintro _ w6 ⟨hp1,hb6⟩;replace a := aE a hb6 d;replace b := b.trans (hb6.sub c);clear hp;have hp := hp1;clear hp1;refine .done ?_;exact ⟨[],trivial,(fun h => by cases h),hp.sub c i,b⟩
  | false =>
   have hq4 := aU hq2 o;refine .sr (.t2 (aB aL rfl (a.g 0 rfl)) (Rg.wd trivial (aD (aT _) rfl) rfl ?_));rintro _ w4 ⟨bt13,rfl,qt13,hx4,f⟩;replace b := bS b hp.und c hx4;replace hp := hp.extw hx4;replace a := a.ext hx4
   try replace e := e.ext hx4
   refine Rg.wd trivial (aC Tryz.call73 rfl (bD hC hp (texts := [⟨#[102,110]⟩]) f (by decide))) rfl ?_;rintro _ w5 ⟨rfl,hx5⟩;replace b := bS b hp.und c hx5;replace hp := hp.extw hx5;replace a := a.ext hx5
   try replace e := e.ext hx5
   try replace f := f.ext hx5
   rw [show (aV [⟨#[102,110]⟩] (aO s.rem)) = false from o];refine .a2 rfl (.done (.condF rfl ?_))
   cases p : ((aO s.rem).1 == 103) with
   | true =>
    have hq6 := aX hq4 p;refine .sr (.t2 (aB aL rfl (a.g 0 rfl)) (Rg.wd trivial (aC Tryz.call161 rfl (bT hC hp)) rfl ?_));rintro _ w6 ⟨rfl,hx6⟩;replace b := bS b hp.und c hx6;replace hp := hp.extw hx6;replace a := a.ext hx6
    try replace e := e.ext hx6
    try replace f := f.ext hx6
    rw [show ((aO s.rem).1 == 103) = true from p];refine .a2 rfl (.done (.condT rfl (Wp.region (.t2 (aB aL rfl (a.g 0 rfl)) (Rg.wd trivial (aC Tryz.call170 rfl (bG hD hp hq6 hb)) rfl ?_)))));rintro _ w7 ⟨hst,hp1,hb7⟩;replace a := aE a hb7 d;replace b := b.trans (hb7.sub c);clear hp;have hp := hp1;clear hp1;refine .done ?_;exact ⟨[],trivial,(fun h => by cases h),hp.sub c i,b⟩
   | false =>
    have hq6 := aU hq4 p;refine .sr (.t2 (aB aL rfl (a.g 0 rfl)) (Rg.wd trivial (aC Tryz.call161 rfl (bT hC hp)) rfl ?_));rintro _ w6 ⟨rfl,hx6⟩;replace b := bS b hp.und c hx6;replace hp := hp.extw hx6;replace a := a.ext hx6
    try replace e := e.ext hx6
    try replace f := f.ext hx6
    rw [show ((aO s.rem).1 == 103) = false from p];refine .a2 rfl (.done (.condF rfl (Wp.region (.t2 (aB aL rfl (a.g 0 rfl)) (Rg.wd trivial (aC Tryz.call171 rfl (mO hp hq6 hb)) rfl ?_)))));rintro _ w7 ⟨hp1,hb7⟩;replace a := aE a hb7 d;replace b := b.trans (hb7.sub c);clear hp;have hp := hp1;clear hp1;refine .done ?_;exact ⟨[],trivial,(fun h => by cases h),hp.sub c i,b⟩
theorem Fo (hC : Cx w0 tv aG) (hD : ∀ m,m < n → DN w0 tv aG m) {b0 : Nat} (a : Var w b0 [.pointer (some ⟨bP,0,none⟩)] 80) (b : F b0) : Clo w0 tv aG n F bP 257 [] [.pointer (some ⟨b0,0,none⟩)] w (.seq .bump (.seq .bump (.call .arguments))) := by
 refine ⟨Tryz.call257,fun w1 hw1 below k s r hp hr hb => ?_⟩;replace a := aE a hw1 b
 show Cl Tryz.prog 257 #[.pointer (some ⟨b0,0,none⟩)] w1 _
 have c := Bw.refl F w1;have d : ∀ z,F z → F z := fun z h => h;have e := hp.base;refine Cl.enter Tryz.func257 rfl Tryz.ntmps257 rfl rfl (.sr (.t2 (aB aL rfl (a.g 0 rfl)) ?_));obtain ⟨s1,h1a,h1b⟩ := aI hr;refine Rg.wd trivial (aC Tryz.call80 rfl (cJ hC hp h1a (aH h1b hb))) rfl ?_;rintro _ w1 ⟨hp1,hb1⟩;replace a := aE a hb1 b;replace c := c.trans (hb1.sub d);clear hp;have hp := hp1;clear hp1;refine .done (.sr (.t2 (aB aL rfl (a.g 0 rfl)) ?_));obtain ⟨s2,h2a,h2b⟩ := aI h1b;refine Rg.wd trivial (aC Tryz.call80 rfl (cJ hC hp h2a (aH h2b hb))) rfl ?_;rintro _ w2 ⟨hp1,hb2⟩;replace a := aE a hb2 b;replace c := c.trans (hb2.sub d);clear hp;have hp := hp1;clear hp1;refine .done (Wp.region (.t2 (aB aL rfl (a.g 0 rfl)) (Rg.wd trivial (aC Tryz.call250 rfl (bG hD hp h2b hb)) rfl ?_)));rintro _ w3 ⟨hst,hp1,hb3⟩;replace a := aE a hb3 b;replace c := c.trans (hb3.sub d);clear hp;have hp := hp1;clear hp1;refine .done ?_;exact ⟨[],trivial,hp.sub d e,c⟩
theorem zC (hC : Cx w0 tv aG) (hD : ∀ m,m < n → DN w0 tv aG m) {b0 : Nat} (a : Var w b0 [.pointer (some ⟨bP,0,none⟩)] 80) (b : F b0) : Clo w0 tv aG n F bP 258 [] [.pointer (some ⟨b0,0,none⟩)] w (.seq .bump Cmd.expIdent) := by
 refine ⟨Tryz.call258,fun w1 hw1 below k s r hp hr hb => ?_⟩;replace a := aE a hw1 b
 show Cl Tryz.prog 258 #[.pointer (some ⟨b0,0,none⟩)] w1 _
 have c := Bw.refl F w1;have d : ∀ z,F z → F z := fun z h => h;have e := hp.base;refine Cl.enter Tryz.func258 rfl Tryz.ntmps258 rfl rfl (.sr (.t2 (aB aL rfl (a.g 0 rfl)) ?_));obtain ⟨s1,h1a,h1b⟩ := aI hr;refine Rg.wd trivial (aC Tryz.call80 rfl (cJ hC hp h1a (aH h1b hb))) rfl ?_;rintro _ w1 ⟨hp1,hb1⟩;replace a := aE a hb1 b;replace c := c.trans (hb1.sub d);clear hp;have hp := hp1;clear hp1;refine .done (Wp.region (.t2 (aB aL rfl (a.g 0 rfl)) (Rg.wd trivial (aC Tryz.call127 rfl (dH hC hp h1b hb)) rfl ?_)));rintro _ w2 ⟨hp1,hb2⟩;replace a := aE a hb2 b;replace c := c.trans (hb2.sub d);clear hp;have hp := hp1;clear hp1;refine .done ?_;exact ⟨[],trivial,hp.sub d e,c⟩
theorem Fp (hC : Cx w0 tv aG) (hD : ∀ m,m < n → DN w0 tv aG m) {b0 : Nat} (a : Var w b0 [.pointer (some ⟨bP,0,none⟩)] 80) (b : F b0) : Clo w0 tv aG n F bP 263 [] [.pointer (some ⟨b0,0,none⟩)] w (.seq .bump Cmd.expIdent) := by
 refine ⟨Tryz.call263,fun w1 hw1 below k s r hp hr hb => ?_⟩;replace a := aE a hw1 b
 show Cl Tryz.prog 263 #[.pointer (some ⟨b0,0,none⟩)] w1 _
 have c := Bw.refl F w1;have d : ∀ z,F z → F z := fun z h => h;have e := hp.base;refine Cl.enter Tryz.func263 rfl Tryz.ntmps263 rfl rfl (.sr (.t2 (aB aL rfl (a.g 0 rfl)) ?_));obtain ⟨s1,h1a,h1b⟩ := aI hr;refine Rg.wd trivial (aC Tryz.call80 rfl (cJ hC hp h1a (aH h1b hb))) rfl ?_;rintro _ w1 ⟨hp1,hb1⟩;replace a := aE a hb1 b;replace c := c.trans (hb1.sub d);clear hp;have hp := hp1;clear hp1;refine .done (Wp.region (.t2 (aB aL rfl (a.g 0 rfl)) (Rg.wd trivial (aC Tryz.call127 rfl (dH hC hp h1b hb)) rfl ?_)));rintro _ w2 ⟨hp1,hb2⟩;replace a := aE a hb2 b;replace c := c.trans (hb2.sub d);clear hp;have hp := hp1;clear hp1;refine .done ?_;exact ⟨[],trivial,hp.sub d e,c⟩
theorem Fq (hC : Cx w0 tv aG) (hD : ∀ m,m < n → DN w0 tv aG m) {b0 : Nat} (a : Var w b0 [.pointer (some ⟨bP,0,none⟩)] 80) (d : F b0) : Clo w0 tv aG n F bP 264 [] [.pointer (some ⟨b0,0,none⟩)] w (.seq (.call (.path false)) (.cond (cE [⟨#[40]⟩]) (.seq .bump (Cmd.list ⟨#[41]⟩ (.call .pattern))) .skip)) := by
 refine ⟨Tryz.call264,fun w1 hw1 below k s r hp hr hb => ?_⟩;replace a := aE a hw1 d
 show Cl Tryz.prog 264 #[.pointer (some ⟨b0,0,none⟩)] w1 _
 have b := Bw.refl F w1;have c : ∀ z,F z → F z := fun z h => h;have f := hp.base;refine Cl.enter Tryz.func264 rfl Tryz.ntmps264 rfl rfl (.sr (.t2 (aB aL rfl (a.g 0 rfl)) ?_));obtain ⟨s1,h1a,h1b⟩ := aI hr;refine Rg.wd trivial (aC Tryz.call170 rfl (bG hD hp h1a (aH h1b hb))) rfl ?_;rintro _ w1 ⟨hst,hp1,hb1⟩;replace a := aE a hb1 d;replace b := b.trans (hb1.sub c);clear hp;have hp := hp1;clear hp1;refine .done ?_
 cases e : (aV [⟨#[40]⟩] (aO s1.rem)) with
 | true =>
  have hq2 := aX h1b e;refine .sr (.t2 (aB aL rfl (a.g 0 rfl)) (Rg.wd trivial (aD (aT _) rfl) rfl ?_));rintro _ w2 ⟨bt4,rfl,qt4,hx2,i⟩;replace b := bS b hp.und c hx2;replace hp := hp.extw hx2;replace a := a.ext hx2;obtain ⟨s2,h2a,h2b⟩ := aI hq2;obtain rfl := cN h2a;refine Rg.wd trivial (aC Tryz.call79 rfl (gT hC hp (texts := [⟨#[40]⟩]) i (by decide) e (aH h2b hb))) rfl ?_;rintro _ w3 ⟨rfl,hp1,hb3⟩;replace a := aE a hb3 d;replace b := b.trans (hb3.sub c);clear hp;have hp := hp1;clear hp1;refine .done (.condT rfl (Wp.region (.t2 (aB aL rfl (a.g 0 rfl)) (.t2 (aB aL rfl (a.g 0 rfl)) (.t2 (aM (us := [.pointer (some ⟨bP,0,none⟩)]) (vs := []) rfl rfl) (Rg.wd trivial (aC Tryz.call159 rfl (jJ hC hp (dL Tryz.call248 hD (.pattern)) h2b hb)) rfl ?_))))));rintro _ w4 ⟨hp1,hb4⟩;replace a := aE a hb4 d;replace b := b.trans (hb4.sub c);clear hp;have hp := hp1;clear hp1;refine .done ?_;exact ⟨[],trivial,hp.sub c f,b⟩
 | false =>
  have hq2 := aU h1b e;obtain rfl := cI hq2;refine .sr (.t2 (aB aL rfl (a.g 0 rfl)) (Rg.wd trivial (aD (aT _) rfl) rfl ?_));rintro _ w2 ⟨bt4,rfl,qt4,hx2,i⟩;replace b := bS b hp.und c hx2;replace hp := hp.extw hx2;replace a := a.ext hx2;refine Rg.wd trivial (aC Tryz.call79 rfl (gU hC hp (texts := [⟨#[40]⟩]) i (by decide) e)) rfl ?_;rintro _ w3 ⟨rfl,hp1,hb3⟩;replace a := aE a hb3 d;replace b := b.trans (hb3.sub c);clear hp;have hp := hp1;clear hp1;refine .done (.condF rfl (Wp.skip ?_));exact ⟨[],trivial,hp.sub c f,b⟩
theorem Ft (hC : Cx w0 tv aG) (hD : ∀ m,m < n → DN w0 tv aG m) {b0 : Nat} (a : Var w b0 [.pointer (some ⟨bP,0,none⟩)] 80) (b : F b0) : Clo w0 tv aG n F bP 249 [] [.pointer (some ⟨b0,0,none⟩)] w (.seq .bump (.call .arguments)) := by
 refine ⟨Tryz.call249,fun w1 hw1 below k s r hp hr hb => ?_⟩;replace a := aE a hw1 b
 show Cl Tryz.prog 249 #[.pointer (some ⟨b0,0,none⟩)] w1 _
 have c := Bw.refl F w1;have d : ∀ z,F z → F z := fun z h => h;have e := hp.base;refine Cl.enter Tryz.func249 rfl Tryz.ntmps249 rfl rfl (.sr (.t2 (aB aL rfl (a.g 0 rfl)) ?_));obtain ⟨s1,h1a,h1b⟩ := aI hr;refine Rg.wd trivial (aC Tryz.call80 rfl (cJ hC hp h1a (aH h1b hb))) rfl ?_;rintro _ w1 ⟨hp1,hb1⟩;replace a := aE a hb1 b;replace c := c.trans (hb1.sub d);clear hp;have hp := hp1;clear hp1;refine .done (Wp.region (.t2 (aB aL rfl (a.g 0 rfl)) (Rg.wd trivial (aC Tryz.call250 rfl (bG hD hp h1b hb)) rfl ?_)));rintro _ w2 ⟨hst,hp1,hb2⟩;replace a := aE a hb2 b;replace c := c.trans (hb2.sub d);clear hp;have hp := hp1;clear hp1;refine .done ?_;exact ⟨[],trivial,hp.sub d e,c⟩
theorem Fu (hC : Cx w0 tv aG) (hD : ∀ m,m < n → DN w0 tv aG m) {b0 : Nat} (a : Var w b0 [.pointer (some ⟨bP,0,none⟩)] 80) (b : F b0) : Clo w0 tv aG n F bP 251 [] [.pointer (some ⟨b0,0,none⟩)] w (.seq .bump (.seq Cmd.expr (Cmd.exp ⟨#[41]⟩))) := by
 refine ⟨Tryz.call251,fun w1 hw1 below k s r hp hr hb => ?_⟩;replace a := aE a hw1 b
 show Cl Tryz.prog 251 #[.pointer (some ⟨b0,0,none⟩)] w1 _
 have c := Bw.refl F w1;have d : ∀ z,F z → F z := fun z h => h;have e := hp.base;refine Cl.enter Tryz.func251 rfl Tryz.ntmps251 rfl rfl (.sr (.t2 (aB aL rfl (a.g 0 rfl)) ?_));obtain ⟨s1,h1a,h1b⟩ := aI hr;refine Rg.wd trivial (aC Tryz.call80 rfl (cJ hC hp h1a (aH h1b hb))) rfl ?_;rintro _ w1 ⟨hp1,hb1⟩;replace a := aE a hb1 b;replace c := c.trans (hb1.sub d);clear hp;have hp := hp1;clear hp1;refine .done (.sr (.t2 (aB aL rfl (a.g 0 rfl)) ?_));obtain ⟨s2,h2a,h2b⟩ := aI h1b;refine Rg.wd trivial (aC Tryz.call132 rfl (gH hC hD hp h2a (aH h2b hb))) rfl ?_;rintro _ w2 ⟨hp1,hb2⟩;replace a := aE a hb2 b;replace c := c.trans (hb2.sub d);clear hp;have hp := hp1;clear hp1;refine .done (Wp.region (.t2 (aB aL rfl (a.g 0 rfl)) (Rg.wd trivial (aC Tryz.call130 rfl (dI hC hp h2b hb)) rfl ?_)));rintro _ w3 ⟨hp1,hb3⟩;replace a := aE a hb3 b;replace c := c.trans (hb3.sub d);clear hp;have hp := hp1;clear hp1;refine .done ?_;exact ⟨[],trivial,hp.sub d e,c⟩
end
end Go.Proofs.YtlndmiegodcfjaaGreatDoor.Par
