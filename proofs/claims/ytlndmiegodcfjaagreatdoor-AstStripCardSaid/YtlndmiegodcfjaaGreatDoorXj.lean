/- The helpers of the parser's laws: ast.Equal, source, Mod. Printed by r7/Ce.py. -/
import Derived.Test.YtlndmiegodcfjaaGreatDoorXi
import Derived.Test.YtlndmiegodcfjaaGreatDoorXd
import Derived.Test.YtlndmiegodcfjaaGreatDoorXg
import Derived.Deep.Strs
set_option linter.unusedVariables false
set_option linter.unusedSimpArgs false
namespace Go.Proofs.YtlndmiegodcfjaaGreatDoor.Par
set_option maxRecDepth 20000
open Go.Gx Go.RowKit Go.Lib
open Lexi (Asc aG Ah xS Ij)
open Ast
mutual
def eR : An → An
 | .mk h ks => .mk ⟨h.kind,h.value,h.text,0,0,0⟩ (eD ks)
def eD : List An → List An
 | [] => []
 | a :: l => eR a :: eD l
end
mutual
def anc : An → Nat
 | .mk _ ks => cY ks + 1
def cY : List An → Nat
 | [] => 0
 | a :: l => anc a + cY l
end
theorem fH (l : List An) : eD l = l.map eR := by
 induction l with
 | nil => rfl
 | cons a l ih => simp [eD,ih]
theorem kB (l : List An) : l.length ≤ cY l := by
 induction l with
 | nil => exact Nat.le_refl _
 | cons a l ih => cases a; simp only [cY,anc,List.length_cons]; omega
theorem jC {l : List An} {a : An} (h : a ∈ l) : anc a ≤ cY l := by
 induction l with
 | nil => cases h
 | cons b l ih =>
  rcases List.mem_cons.1 h with rfl | h
  ·simp only [cY]; omega
  ·have := ih h; simp only [cY]; omega
theorem nI (a b : List An) : cY (a ++ b) = cY a + cY b := by
 induction a with
 | nil => simp [cY]
 | cons x a ih => simp only [List.cons_append,cY,ih]; omega
theorem Gn (src : ByteArray) (h : Hd) (ns : List An) (ds : List Dg) : anc (A4 src h ns ds).1 ≤ cY ns + 1 := by
 unfold A4
 split
 ·split
  ·simp only [anc,cY]; omega
  ·simp only [anc,cY]; omega
 split
 ·simp only [anc,cY]; omega
 ·simp only [anc]; omega
mutual
theorem zM (src : ByteArray) : ∀ (t : Tr) (off : Int) (ds : List Dg),anc (iR src t off ds).1 ≤ t.cnt
 | .mk k x ks,off,ds => by
  rw [iR,Tr.cnt];have h1 := Gn src (xU (fC src ks (tI k off) [] off ds).1) (fC src ks (tI k off) [] off ds).2.1 (fC src ks (tI k off) [] off ds).2.2.2;have h2 := qH src ks (tI k off) [] off ds;simp only [cY] at h2
  show anc (A4 _ _ _ _).1 ≤ _
  omega
theorem qH (src : ByteArray) : ∀ (l : List Tr) (h : Hd) (ns : List An) (off : Int) (ds : List Dg),cY (fC src l h ns off ds).2.1 ≤ cY ns + fO l
 | [],h,ns,off,ds => by rw [fC]; simp [fO]
 | t :: l,h,ns,off,ds => by
  rw [fC,fO]
  split
  ·have := qH src l (kQ h off ds (kd t) (tx t)).1 ns (kQ h off ds (kd t) (tx t)).2.1 (kQ h off ds (kd t) (tx t)).2.2
   simp only;omega
  ·have h1 := zM src t off ds
   have h2 := qH src l (ext h (iR src t off ds).1.hd.st (iR src t off ds).1.hd.en) (ns ++ [(iR src t off ds).1]) (iR src t off ds).2.1 (iR src t off ds).2.2;rw [nI] at h2;simp only [cY] at h2;simp only;omega
end
theorem Bc (s : ByteArray) (t : Tr) : anc (fT s t) ≤ t.cnt := by
 have := zM s t 0 [];unfold fT
 cases h : (iR s t 0 []).1 with
 | mk a ks => rw [h] at this; exact this
theorem iB (l : List Mn) (k : Nat) (h : k < l.length) : (dA l)[k]'(by rw [cW]; exact h) = l[k].er := by simp [fK]
theorem D1 : ∀ (n : Nat) (g h : Mn),anc g.er ≤ n → anc g.er ≤ 1000000 → ∀ (w : World),NoL w g → NoL w h → Cl Tryz.prog 17 #[.agg g.cells.toArray,.agg h.cells.toArray] w (fun u w' => (∃ b,u = .bool b ∧ (b = true ↔ eR g.er = eR h.er)) ∧ Ext w w') := by
 intro n
 induction n with
 | zero =>
  intro g h hn
  cases g
  simp [Mn.er,anc] at hn
 | succ n ih =>
  intro g h hn hc w hg hh;obtain ⟨a,c1,l1⟩ := g;obtain ⟨b,c2,l2⟩ := h
  cases hg with
  | mk hs1 h1 hb1 hk1 =>
   cases hh with
   | mk hs2 h2 hb2 hk2 =>
    simp only [Mn.er,anc] at hn hc;have hlenk := kB (dA l1);rw [cW] at hlenk;have hx := Ext.refl w;have o1 := Hd.one a h1;have o2 := Hd.one b h2
    by_cases e1 : a.kind = b.kind
    ·by_cases e2 : a.value = b.value
     ·by_cases e3 : a.text = b.text
      ·by_cases e4 : l1.length = l2.length
       ·skip
        refine Cl.enter Tryz.func17 rfl Tryz.ntmps17 rfl rfl ?_;have hs10 := hs1;have hs20 := hs2;refine .sr (Rg.wd trivial (aO (cs := a.cells c1) rfl rfl) rfl ?_);rintro _ w1 ⟨b2,rfl,q2,hx1,hv2⟩;replace hx := hx.ext hx1;refine Rg.wd trivial (aO (cs := b.cells c2) rfl rfl) rfl ?_;rintro _ w2 ⟨b3,rfl,q3,hx2,hv3⟩;replace hx := hx.ext hx2;replace hv2 := hv2.ext hx2;refine .a2 rfl (.done (.seq (.sr (.t2 (aA aW rfl) (.t2 (aB bA rfl (hv2.g 0 rfl)) (.t2 (aA aW rfl) (.t2 (aB bA rfl (hv3.g 0 rfl)) (.t2 (bO rfl rfl e1) (.m2 rfl ?_)))))))))
        first | refine .gd (aA cJ rfl) rfl ?_ | refine .so rfl rfl ?_
        refine .g2 (aB bA rfl (hv2.g 1 rfl)) ?_
        first | refine .gd (aA cJ rfl) rfl ?_ | refine .so rfl rfl ?_
        refine .g2 (aB bA rfl (hv3.g 1 rfl)) (.g2 (bO rfl rfl e2) (.t2 (aJ rfl rfl) (.m2 rfl ?_)))
        first | refine .gd (aA cV rfl) rfl ?_ | refine .so rfl rfl ?_
        refine .g2 (aB fV rfl (hv2.g 2 rfl)) ?_
        first | refine .gd (aA cV rfl) rfl ?_ | refine .so rfl rfl ?_
        refine .g2 (aB fV rfl (hv3.g 2 rfl)) (.g2 (iE rfl rfl e3) (.t2 (aJ rfl rfl) (.m2 rfl ?_)))
        first | refine .gd (aA bZ rfl) rfl ?_ | refine .so rfl rfl ?_
        refine .g2 (aB eG rfl (hv2.g 6 rfl)) ?_
        first | refine .gd (cM hs10 Tryz.underlying24 rfl) rfl ?_ | refine .so rfl rfl ?_
        first | refine .gd (aA bZ rfl) rfl ?_ | refine .so rfl rfl ?_
        refine .g2 (aB eG rfl (hv3.g 6 rfl)) ?_
        first | refine .gd (cM hs20 Tryz.underlying24 rfl) rfl ?_ | refine .so rfl rfl ?_
        refine .g2 (bO rfl rfl (by omega)) ?_;refine .t2 (aJ rfl rfl) (.done (.condF rfl (Wp.skip (.seq (.sr (.t2 (aA bZ rfl) (.t2 (aB eG rfl (hv2.g 6 rfl)) (.t2 (cM hs10 Tryz.underlying24 rfl) (.m2 rfl (.done (Wp.block ?_)))))))))));refine Wp.loop (ι := Nat) (fun k => [(2,.pointer (some ⟨b2,0,none⟩)),(3,.pointer (some ⟨b3,0,none⟩)),(36,.int .i64 l1.length),(37,.int .i64 k)])
         (fun k w' => k ≤ l1.length ∧ (eD (dA l1)).take k = (eD (dA l2)).take k ∧ Ext w w' ∧ Var w' b2 (a.cells c1) 26 ∧ Var w' b3 (b.cells c2) 26) (fun k => l1.length - k) 0 (by repeat (first | exact .nil | refine .cons rfl ?_)) ⟨Nat.zero_le _,rfl,hx,hv2,hv3⟩ ?_
        clear hx hv2 hv3;rintro k w9 ⟨hk,he,hx,hv2,hv3⟩;have hcl1 : (eD (dA l1)).length = l1.length := by simp [fH,cW]
        have hcl2 : (eD (dA l2)).length = l2.length := by simp [fH,cW]
        by_cases hlt : k < l1.length
        ·have hlt2 : k < l2.length := by omega
         have hem : (eD (dA l1))[k]'(by omega) = eR l1[k].er := by simp [fH,fK]
         have hem2 : (eD (dA l2))[k]'(by omega) = eR l2[k].er := by simp [fH,fK]
         have hcm : anc l1[k].er ≤ cY (dA l1) := jC (by rw [← iB l1 k hlt]; exact List.getElem_mem _)
         by_cases heq : eR l1[k].er = eR l2[k].er
         ·skip
          refine .sr ?_
          first | refine .tq (bL rfl rfl (by omega)) rfl ?_ | refine .tq (bM rfl rfl (by omega)) rfl ?_ | refine .tq (cR rfl rfl) rfl ?_
          refine .done (.seq (.condT rfl (Wp.skip (.seq (Wp.block (.sr (.m2 rfl (.a2 rfl (.done ?_)))))))));refine Wp.seq (Wp.draw [0,1,2,3,4,5,6,7,8,9,10,11] [] mixed (by kernel_rfl) (by kernel_rfl) ?_);intro w21 hx21 _;replace hx := hx.ext hx21;replace hv2 := hv2.ext hx21;replace hv3 := hv3.ext hx21;refine .t2 (aA bZ rfl) (.t2 (aB eG rfl (hv2.g 6 rfl)) (.m2 rfl ?_));refine Rg.ix hs10 trivial rfl rfl Tryz.underlying24 bF (by omega) rfl ?_;intro bt43 ot43 ht43;replace ht43 := ht43.ext hx;rw [Int.toNat_natCast,cN Mn.len l1 k hlt] at ht43;refine .t2 (aY rfl ht43 (by rw [Mn.len]; exact bF)) ?_;refine .t2 (aA bZ rfl) (.t2 (aB eG rfl (hv3.g 6 rfl)) (.m2 rfl ?_));refine Rg.ix hs20 trivial rfl rfl Tryz.underlying24 bF (by omega) rfl ?_;intro bt48 ot48 ht48;replace ht48 := ht48.ext hx;rw [Int.toNat_natCast,cN Mn.len l2 k hlt2] at ht48;refine .t2 (aY rfl ht48 (by rw [Mn.len]; exact bF)) ?_;refine Rg.wdB trivial rfl (aC Tryz.call17 rfl (ih l1[k] l2[k] (by omega) (by omega) _ (NoL.ext (hk1 _ (List.getElem_mem hlt)) hx) (NoL.ext (hk2 _ (List.getElem_mem hlt2)) hx))) rfl (fun _ _ h => h.2) ?_;rintro _ w22 ⟨⟨bb,rfl,hbb⟩,hx22⟩;replace hx := hx.ext hx22;replace hv2 := hv2.ext hx22;replace hv3 := hv3.ext hx22;replace ht43 := ht43.ext hx22;replace ht48 := ht48.ext hx22;obtain rfl : bb = true := by
           exact hbb.2 heq
          refine .t2 (bI rfl) (.done (.condF rfl (Wp.skip (Wp.region ?_))))
          first | refine .tq (bC rfl rfl (by omega)) rfl ?_ | refine .tq (bX rfl rfl) rfl ?_
          refine .m2 rfl (.done ?_);exact ⟨k + 1,by repeat (first | exact .nil | refine .cons rfl ?_),⟨hlt,by rw [List.take_succ_eq_append_getElem (by omega),List.take_succ_eq_append_getElem (by omega),he,hem,hem2,heq],hx,hv2,hv3⟩,by omega⟩
         ·skip
          refine .sr ?_
          first | refine .tq (bL rfl rfl (by omega)) rfl ?_ | refine .tq (bM rfl rfl (by omega)) rfl ?_ | refine .tq (cR rfl rfl) rfl ?_
          refine .done (.seq (.condT rfl (Wp.skip (.seq (Wp.block (.sr (.m2 rfl (.a2 rfl (.done ?_)))))))));refine Wp.seq (Wp.draw [0,1,2,3,4,5,6,7,8,9,10,11] [] mixed (by kernel_rfl) (by kernel_rfl) ?_);intro w21 hx21 _;replace hx := hx.ext hx21;replace hv2 := hv2.ext hx21;replace hv3 := hv3.ext hx21;refine .t2 (aA bZ rfl) (.t2 (aB eG rfl (hv2.g 6 rfl)) (.m2 rfl ?_));refine Rg.ix hs10 trivial rfl rfl Tryz.underlying24 bF (by omega) rfl ?_;intro bt43 ot43 ht43;replace ht43 := ht43.ext hx;rw [Int.toNat_natCast,cN Mn.len l1 k hlt] at ht43;refine .t2 (aY rfl ht43 (by rw [Mn.len]; exact bF)) ?_;refine .t2 (aA bZ rfl) (.t2 (aB eG rfl (hv3.g 6 rfl)) (.m2 rfl ?_));refine Rg.ix hs20 trivial rfl rfl Tryz.underlying24 bF (by omega) rfl ?_;intro bt48 ot48 ht48;replace ht48 := ht48.ext hx;rw [Int.toNat_natCast,cN Mn.len l2 k hlt2] at ht48;refine .t2 (aY rfl ht48 (by rw [Mn.len]; exact bF)) ?_;refine Rg.wdB trivial rfl (aC Tryz.call17 rfl (ih l1[k] l2[k] (by omega) (by omega) _ (NoL.ext (hk1 _ (List.getElem_mem hlt)) hx) (NoL.ext (hk2 _ (List.getElem_mem hlt2)) hx))) rfl (fun _ _ h => h.2) ?_;rintro _ w22 ⟨⟨bb,rfl,hbb⟩,hx22⟩;replace hx := hx.ext hx22;replace hv2 := hv2.ext hx22;replace hv3 := hv3.ext hx22;replace ht43 := ht43.ext hx22;replace ht48 := ht48.ext hx22;obtain rfl : bb = false := by
           cases bb
           ·rfl
           ·exact absurd (hbb.1 rfl) heq
          refine .t2 (bI rfl) (.done (.condT rfl (.sr (.a2 rfl (.done (Wp.ret ?_))))));refine ⟨[_],⟨rfl,trivial⟩,⟨false,rfl,⟨fun e => by (cases e),fun e => ?_⟩⟩,hx⟩;simp only [Mn.er,eR,An.mk.injEq] at e;exact absurd (by rw [← hem,← hem2]; simp only [e.2]) heq
        ·skip
         refine .sr ?_
         first | refine .tq (bL rfl rfl (by omega)) rfl ?_ | refine .tq (bM rfl rfl (by omega)) rfl ?_ | refine .tq (cR rfl rfl) rfl ?_
         refine .done (.seq (.condF rfl (Wp.exit (.sr (.a2 rfl (.done (Wp.ret ?_)))))));refine ⟨[_],⟨rfl,trivial⟩,⟨true,rfl,⟨fun _ => ?_,fun _ => rfl⟩⟩,hx⟩;rw [show k = (eD (dA l1)).length from by omega,List.take_length,show (eD (dA l1)).length = (eD (dA l2)).length from by omega,List.take_length] at he;simp only [Mn.er,eR,e1,e2,e3,he]
       ·skip
        refine Cl.enter Tryz.func17 rfl Tryz.ntmps17 rfl rfl ?_;have hs10 := hs1;have hs20 := hs2;refine .sr (Rg.wd trivial (aO (cs := a.cells c1) rfl rfl) rfl ?_);rintro _ w1 ⟨b2,rfl,q2,hx1,hv2⟩;replace hx := hx.ext hx1;refine Rg.wd trivial (aO (cs := b.cells c2) rfl rfl) rfl ?_;rintro _ w2 ⟨b3,rfl,q3,hx2,hv3⟩;replace hx := hx.ext hx2;replace hv2 := hv2.ext hx2;refine .a2 rfl (.done (.seq (.sr (.t2 (aA aW rfl) (.t2 (aB bA rfl (hv2.g 0 rfl)) (.t2 (aA aW rfl) (.t2 (aB bA rfl (hv3.g 0 rfl)) (.t2 (bO rfl rfl e1) (.m2 rfl ?_)))))))))
        first | refine .gd (aA cJ rfl) rfl ?_ | refine .so rfl rfl ?_
        refine .g2 (aB bA rfl (hv2.g 1 rfl)) ?_
        first | refine .gd (aA cJ rfl) rfl ?_ | refine .so rfl rfl ?_
        refine .g2 (aB bA rfl (hv3.g 1 rfl)) (.g2 (bO rfl rfl e2) (.t2 (aJ rfl rfl) (.m2 rfl ?_)))
        first | refine .gd (aA cV rfl) rfl ?_ | refine .so rfl rfl ?_
        refine .g2 (aB fV rfl (hv2.g 2 rfl)) ?_
        first | refine .gd (aA cV rfl) rfl ?_ | refine .so rfl rfl ?_
        refine .g2 (aB fV rfl (hv3.g 2 rfl)) (.g2 (iE rfl rfl e3) (.t2 (aJ rfl rfl) (.m2 rfl ?_)))
        first | refine .gd (aA bZ rfl) rfl ?_ | refine .so rfl rfl ?_
        refine .g2 (aB eG rfl (hv2.g 6 rfl)) ?_
        first | refine .gd (cM hs10 Tryz.underlying24 rfl) rfl ?_ | refine .so rfl rfl ?_
        first | refine .gd (aA bZ rfl) rfl ?_ | refine .so rfl rfl ?_
        refine .g2 (aB eG rfl (hv3.g 6 rfl)) ?_
        first | refine .gd (cM hs20 Tryz.underlying24 rfl) rfl ?_ | refine .so rfl rfl ?_
        refine .g2 (cU rfl rfl (by omega)) ?_;refine .t2 (aJ rfl rfl) (.done (.condT rfl (.sr (.a2 rfl (.done (Wp.ret ?_))))));refine ⟨[_],⟨rfl,trivial⟩,⟨false,rfl,⟨fun e => by (cases e),fun e => ?_⟩⟩,hx⟩;simp only [Mn.er,eR,An.mk.injEq,Hd.mk.injEq] at e;exact absurd (by have := congrArg List.length e.2; simpa [fH,cW] using this) e4
      ·skip
       refine Cl.enter Tryz.func17 rfl Tryz.ntmps17 rfl rfl (.sr (Rg.wd trivial (aO (cs := a.cells c1) rfl rfl) rfl ?_));rintro _ w1 ⟨b2,rfl,q2,hx1,hv2⟩;replace hx := hx.ext hx1;refine Rg.wd trivial (aO (cs := b.cells c2) rfl rfl) rfl ?_;rintro _ w2 ⟨b3,rfl,q3,hx2,hv3⟩;replace hx := hx.ext hx2;replace hv2 := hv2.ext hx2;refine .a2 rfl (.done (.seq (.sr (.t2 (aA aW rfl) (.t2 (aB bA rfl (hv2.g 0 rfl)) (.t2 (aA aW rfl) (.t2 (aB bA rfl (hv3.g 0 rfl)) (.t2 (bO rfl rfl e1) (.m2 rfl ?_)))))))))
       first | refine .gd (aA cJ rfl) rfl ?_ | refine .so rfl rfl ?_
       refine .g2 (aB bA rfl (hv2.g 1 rfl)) ?_
       first | refine .gd (aA cJ rfl) rfl ?_ | refine .so rfl rfl ?_
       refine .g2 (aB bA rfl (hv3.g 1 rfl)) (.g2 (bO rfl rfl e2) (.t2 (aJ rfl rfl) (.m2 rfl ?_)))
       first | refine .gd (aA cV rfl) rfl ?_ | refine .so rfl rfl ?_
       refine .g2 (aB fV rfl (hv2.g 2 rfl)) ?_
       first | refine .gd (aA cV rfl) rfl ?_ | refine .so rfl rfl ?_
       refine .g2 (aB fV rfl (hv3.g 2 rfl)) (.g2 (nH rfl rfl e3) (.t2 (aJ rfl rfl) (.m2 rfl (.so rfl rfl (.so rfl rfl (.so rfl rfl (.so rfl rfl (.so rfl rfl (.so rfl rfl (.so rfl rfl (.t2 (aH rfl rfl) (.done ?_))))))))))));refine .condT rfl (.sr (.a2 rfl (.done (Wp.ret ?_))));refine ⟨[_],⟨rfl,trivial⟩,⟨false,rfl,⟨fun e => by (cases e),fun e => ?_⟩⟩,hx⟩;simp only [Mn.er,eR,An.mk.injEq,Hd.mk.injEq] at e;exact absurd e.1.2.2.1 e3
     ·skip
      refine Cl.enter Tryz.func17 rfl Tryz.ntmps17 rfl rfl (.sr (Rg.wd trivial (aO (cs := a.cells c1) rfl rfl) rfl ?_));rintro _ w1 ⟨b2,rfl,q2,hx1,hv2⟩;replace hx := hx.ext hx1;refine Rg.wd trivial (aO (cs := b.cells c2) rfl rfl) rfl ?_;rintro _ w2 ⟨b3,rfl,q3,hx2,hv3⟩;replace hx := hx.ext hx2;replace hv2 := hv2.ext hx2;refine .a2 rfl (.done (.seq (.sr (.t2 (aA aW rfl) (.t2 (aB bA rfl (hv2.g 0 rfl)) (.t2 (aA aW rfl) (.t2 (aB bA rfl (hv3.g 0 rfl)) (.t2 (bO rfl rfl e1) (.m2 rfl ?_)))))))))
      first | refine .gd (aA cJ rfl) rfl ?_ | refine .so rfl rfl ?_
      refine .g2 (aB bA rfl (hv2.g 1 rfl)) ?_
      first | refine .gd (aA cJ rfl) rfl ?_ | refine .so rfl rfl ?_
      refine .g2 (aB bA rfl (hv3.g 1 rfl)) (.g2 (cU rfl rfl e2) (.t2 (aJ rfl rfl) (.m2 rfl (.so rfl rfl (.so rfl rfl (.so rfl rfl (.so rfl rfl (.so rfl rfl (.t2 (aH rfl rfl) (.m2 rfl (.so rfl rfl (.so rfl rfl ?_))))))))))));refine .so rfl rfl (.so rfl rfl (.so rfl rfl (.so rfl rfl (.so rfl rfl (.t2 (aH rfl rfl) (.done (.condT rfl (.sr (.a2 rfl (.done (Wp.ret ?_)))))))))));refine ⟨[_],⟨rfl,trivial⟩,⟨false,rfl,⟨fun e => by (cases e),fun e => ?_⟩⟩,hx⟩;simp only [Mn.er,eR,An.mk.injEq,Hd.mk.injEq] at e;exact absurd e.1.2.1 e2
    ·skip
     refine Cl.enter Tryz.func17 rfl Tryz.ntmps17 rfl rfl (.sr (Rg.wd trivial (aO (cs := a.cells c1) rfl rfl) rfl ?_));rintro _ w1 ⟨b2,rfl,q2,hx1,hv2⟩;replace hx := hx.ext hx1;refine Rg.wd trivial (aO (cs := b.cells c2) rfl rfl) rfl ?_;rintro _ w2 ⟨b3,rfl,q3,hx2,hv3⟩;replace hx := hx.ext hx2;replace hv2 := hv2.ext hx2;refine .a2 rfl (.done (.seq (.sr (.t2 (aA aW rfl) (.t2 (aB bA rfl (hv2.g 0 rfl)) (.t2 (aA aW rfl) (.t2 (aB bA rfl (hv3.g 0 rfl)) (.t2 (cU rfl rfl e1) (.m2 rfl (.so rfl rfl (.so rfl rfl (.so rfl rfl ?_))))))))))));refine .so rfl rfl (.so rfl rfl (.t2 (aH rfl rfl) (.m2 rfl (.so rfl rfl (.so rfl rfl (.so rfl rfl (.so rfl rfl (.so rfl rfl (.t2 (aH rfl rfl) (.m2 rfl (.so rfl rfl (.so rfl rfl ?_))))))))))));refine .so rfl rfl (.so rfl rfl (.so rfl rfl (.so rfl rfl (.so rfl rfl (.t2 (aH rfl rfl) (.done (.condT rfl (.sr (.a2 rfl (.done (Wp.ret ?_)))))))))));refine ⟨[_],⟨rfl,trivial⟩,⟨false,rfl,⟨fun e => by (cases e),fun e => ?_⟩⟩,hx⟩;simp only [Mn.er,eR,An.mk.injEq,Hd.mk.injEq] at e;exact absurd e.1.1 e1
end Go.Proofs.YtlndmiegodcfjaaGreatDoor.Par
namespace Go.Proofs.YtlndmiegodcfjaaGreatDoor.Ast
def Mn.kids : Mn → List Mn
 | .mk _ _ k => k
end Go.Proofs.YtlndmiegodcfjaaGreatDoor.Ast
namespace Go.Proofs.YtlndmiegodcfjaaGreatDoor.Prn
open Go.Gx Go.RowKit Go.Lib
open Par Ast
structure CoV (ty e sz : Nat) {α : Type} (f : α → List Value) (pre : List Value) (F : Fs) (w : World) (b : Nat) (acc : List α) (dv : Value) : Prop where
 und : Und F w.heap.size
 var : Var w b (pre ++ [dv]) ty
 row : w.ownsRow 0 e sz dv acc.length (aR f acc)
 nb : ¬ F b
 nd : ∀ z,dv.ownBlock = some z → ¬ F z
 ne : e ≠ ty
 fl : ∀ a,(f a).length = sz
section
variable {ty e sz : Nat} {α : Type} {f : α → List Value} {pre : List Value} {F G : Fs} {w w' : World} {b k : Nat} {acc ds : List α} {dv v' : Value}
theorem CoV.ext (h : CoV ty e sz f pre F w b acc dv) (x : Ext w w') : CoV ty e sz f pre F w' b acc dv :=
 ⟨fun z hz => Nat.lt_of_lt_of_le (h.und z hz) x.le,h.var.ext x,eJ h.row x,h.nb,h.nd,h.ne,h.fl⟩
theorem CoV.sub (h : CoV ty e sz f pre G w b acc dv) (hs : ∀ z,F z → G z) : CoV ty e sz f pre F w b acc dv :=
 ⟨fun z hz => h.und z (hs z hz),h.var,h.row,fun hb => h.nb (hs _ hb),fun z hz hf => h.nd z hz (hs _ hf),h.ne,h.fl⟩
theorem CoV.add (h : CoV ty e sz f pre F w b acc dv) (x : Ext w w') (hk : w.heap.size ≤ k) (hk' : k < w'.heap.size) : CoV ty e sz f pre (fun z => F z ∨ z = k) w' b acc dv := by
 have hb := h.var.lt;refine ⟨fun z hz => ?_,h.var.ext x,eJ h.row x,fun hz => ?_,fun z hz hf => ?_,h.ne,h.fl⟩
 ·rcases hz with hz | rfl
  ·exact Nat.lt_of_lt_of_le (h.und z hz) x.le
  ·exact hk'
 ·rcases hz with hz | rfl
  ·exact h.nb hz
  ·omega
 ·rcases hf with hf | rfl
  ·exact h.nd z hz hf
  ·have := iM h.row hz
   omega
theorem CoV.app (h : CoV ty e sz f pre F w b acc dv) (hap : AppR w e sz acc.length ds.length dv (aR f acc ++ aR f ds) v' w') :
  ∃ gk capk spk,v' = .slice (some ⟨gk,0,none⟩) (acc.length + ds.length) capk ∧ acc.length + ds.length ≤ capk ∧ capk ≤ maxLen ∧ spk.length = (capk - (acc.length + ds.length)) * sz ∧ Var w' gk (aR f (acc ++ ds) ++ spk) e ∧ Var w' b (pre ++ [dv]) ty ∧ Bw F w w' ∧ ¬ F gk := by
 obtain ⟨gk,capk,spk,rfl,h1,h2,h3,h4,h5⟩ := hap;rw [← fE] at h4;have hfr : ¬ F gk := by
  rcases h5 with ⟨⟨c,e⟩,_⟩ | ⟨e,_⟩
  ·exact h.nd gk (by rw [e]; rfl)
  ·exact fun hf => by have := h.und gk hf; omega
 have hb := h.var.lt;refine ⟨gk,capk,spk,rfl,h1,h2,h3,h4,?_,?_,hfr⟩
 ·rcases h5 with ⟨⟨c,e⟩,hu⟩ | ⟨_,hx⟩
  ·refine h.var.upd hu fun e2 => ?_
   subst e2;exact fX h.row h.var (Ne.symm h.ne) (by rw [e]; simp [Value.ownBlock])
  ·exact h.var.ext hx
 ·rcases h5 with ⟨⟨c,e⟩,hu⟩ | ⟨_,hx⟩
  ·exact Bw.upd hu hfr
  ·exact Bw.of hx h.und
theorem CoV.push {gk capk : Nat} {spk : List Value} (h : CoV ty e sz f pre F w b ds dv) (hB : Bw F w w') (hv : Var w' b (pre ++ [.slice (some ⟨gk,0,none⟩) acc.length capk]) ty) (h1 : acc.length ≤ capk) (h2 : capk ≤ maxLen) (h3 : spk.length = (capk - acc.length) * sz) (hk : Var w' gk (aR f acc ++ spk) e) (hfr : ¬ F gk) :
  CoV ty e sz f pre F w' b acc (.slice (some ⟨gk,0,none⟩) acc.length capk) :=
 ⟨fun z hz => Nat.lt_of_lt_of_le (h.und z hz) hB.size,hv,bN (Nat.zero_le _) (bB h.fl _) h1 h2 h3 hk,h.nb,fun z hz => by cases hz; exact hfr,h.ne,h.fl⟩
end
section
variable {n : Nat} {L : Env} {w : World} {d : Option Tmp} {ty : TypeId} {pos : String} {af : Array Edge} {g : Option (Nat × Bool)}
def D2 (a b : Int) : Int := IntKind.i64.wrap ((BitVec.ofInt 64 a &&& BitVec.ofInt 64 b).toNat : Nat)
theorem D3 {t t' : TypeId} {x y : Operand} {u v : Int} (hx : cD L x = some (.int .i64 u)) (hy : cD L y = some (.int .i64 v)) : Tm Tryz.prog n ⟨d,.binOp .and t x y t',ty,pos,af,g⟩ L w (.int .i64 (D2 u v)) := fun a ha w' _ => by
 simp only [execOp,eqGuard,binOp,Op.intBits,ha.eval hx,ha.eval hy];rfl
end
def zHd : Hd := ⟨0,0,.empty,0,0,0⟩
def Iy : Mn := .mk zHd (.slice none 0 0) []
theorem Jf (w : World) : (Instr.build 26 [].toArray).run Tryz.prog w = .ok (.agg Iy.cells.toArray) w := by kernel_rfl
theorem aAd (F : Fs) (w : World) : NOk F w Iy := .mk (pC _ _) rfl (fun z hz => by cases hz) fun g hg => by cases hg
abbrev BA := ByteArray
def tP (s : BA) : List Value := [.string s]
theorem nJ (s : BA) : (tP s).length = 1 := rfl
def oT (n : Int) : BA := ⟨#[(48 + n.toNat).toUInt8]⟩
def gU (s : BA) : List (List BA) → List BA
 | [] => []
 | [t] => t
 | t :: u :: l => t ++ s :: gU s (u :: l)
def Jg : BA := ⟨#[102,110]⟩
def It : BA := ⟨#[112,117,98]⟩
def D4 (k : Int) : Bool := k == 27 || k == 28 || k == 29 || k == 17 || k == 30 || k == 31 || k == 32 || k == 42
def Bk (k : Int) (t : List BA) : List BA := if D4 k then t else ⟨#[40]⟩ :: t ++ [⟨#[41]⟩]
def kd0 : List An → Int
 | [] => 0
 | a :: _ => a.hd.kind
mutual
def kC : An → List BA
 | .mk h ks => if h.kind = 1 then gU .empty (kS ks) else if h.kind = 21 then ⟨#[123]⟩ :: gU .empty (kS ks) ++ [⟨#[125]⟩]
  else if h.kind = 27 then [oT h.value] else if h.kind = 3 then [if D2 h.value 1 = 1 then It else .empty,Jg,h.text,⟨#[40]⟩,⟨#[41]⟩] ++ ((kS ks).getD 3 [])
  else if h.kind = 39 then Bk (kd0 ks) ((kS ks).getD 0 []) ++ [h.text] ++ Bk (kd0 (ks.drop 1)) ((kS ks).getD 1 []) else []
def kS : List An → List (List BA)
 | [] => []
 | a :: l => kC a :: kS l
end
theorem tQ (l : List An) : kS l = l.map kC := by
 induction l with
 | nil => rw [kS]; rfl
 | cons a l ih => rw [kS,ih]; rfl
def okF : List An → Bool
 | [.mk h1 k1,.mk h2 k2,.mk h3 _,d] => h1.kind == 10 && k1.isEmpty && h2.kind == 12 && k2.isEmpty && h3.kind == 0 && d.hd.kind != 0
 | _ => false
mutual
def tR : An → Bool
 | .mk h ks => (h.kind == 27 && decide (0 ≤ h.value) && decide (h.value < 10)) || ((h.kind == 1 || h.kind == 21) && zN 0 ks) || (h.kind == 39 && ks.length == 2 && zN 0 ks) || (h.kind == 3 && okF ks && zN 3 ks)
def zN : Nat → List An → Bool
 | _,[] => true
 | 0,a :: l => tR a && zN 0 l
 | n + 1,_ :: l => zN n l
end
theorem Gp (l : List An) : zN 0 l = true ↔ ∀ a ∈ l,tR a = true := by
 induction l with
 | nil => simp [zN]
 | cons a l ih => rw [zN,Bool.and_eq_true,ih]; simp
def gV (l : List BA) : BA := l.foldl (fun b t => if t ≠ .empty ∧ 0 < b.size then b ++ ⟨#[32]⟩ ++ t else b ++ t) .empty
mutual
def Gq : An → An → Bool
 | .mk h ks,.mk h' ks' => h.kind == h'.kind && h.value == h'.value && decide (h.text = h'.text) && Be ks ks'
def Be : List An → List An → Bool
 | [],[] => true
 | a :: l,b :: m => Gq a b && Be l m
 | [],_ :: _ => false
 | _ :: _,[] => false
end
mutual
theorem sD : ∀ (a b : An),Gq a b = true → eR a = eR b
 | .mk h ks,.mk h' ks',e => by
  rw [Gq] at e;simp only [Bool.and_eq_true,beq_iff_eq,decide_eq_true_eq] at e;obtain ⟨⟨⟨e1,e2⟩,e3⟩,e4⟩ := e;rw [eR,eR,e1,e2,e3,sE ks ks' e4]
theorem sE : ∀ (l m : List An),Be l m = true → eD l = eD m
 | [],[],_ => rfl
 | a :: l,b :: m,e => by
  rw [Be,Bool.and_eq_true] at e;rw [eD,eD,sD a b e.1,sE l m e.2]
 | [],_ :: _,e => by rw [Be] at e; cases e
 | _ :: _,[],e => by rw [Be] at e; cases e
end
end Go.Proofs.YtlndmiegodcfjaaGreatDoor.Prn
namespace Go.Proofs.YtlndmiegodcfjaaGreatDoor.Prn
open Par Ast
def qO (o : Int) (a : An) : Prop := a.hd.st ≤ o ∧ o < a.hd.en
instance (o : Int) (a : An) : Decidable (qO o a) := inferInstanceAs (Decidable (_ ∧ _))
mutual
def gM (o : Int) : An → List Nat
 | .mk _ ks => nK o 0 ks
def nK (o : Int) (i : Nat) : List An → List Nat
 | [] => []
 | a :: l => if qO o a then i :: gM o a else nK o (i + 1) l
end
theorem qI (o : Int) : ∀ (l : List An) (i : Nat),(nK o i l = [] ∧ ∀ a ∈ l,¬ qO o a) ∨ ∃ j,∃ h : j < l.length,nK o i l = (i + j) :: gM o l[j] ∧ qO o l[j] ∧ ∀ k (hk : k < l.length),k < j → ¬ qO o l[k]
 | [],i => .inl ⟨by rw [nK],fun a h => by cases h⟩
 | a :: l,i => by
  rw [nK]
  by_cases hc : qO o a
  ·rw [if_pos hc]
   exact .inr ⟨0,Nat.succ_pos _,rfl,hc,fun k _ hk => absurd hk (Nat.not_lt_zero _)⟩
  ·rw [if_neg hc]
   rcases qI o l (i + 1) with ⟨h1,h2⟩ | ⟨j,h,h1,h2,h3⟩
   ·refine .inl ⟨h1,fun b hb => ?_⟩
    rcases List.mem_cons.1 hb with rfl | hb
    ·exact hc
    ·exact h2 b hb
   ·refine .inr ⟨j + 1,by simpa using h,by rw [h1]; simp; omega,h2,fun k hk hkj => ?_⟩
    cases k with
    | zero => exact hc
    | succ k => exact h3 k (by simpa using hk) (by omega)
theorem Bf (o : Int) (h : Hd) (ks : List An) : (gM o (.mk h ks) = [] ∧ ∀ a ∈ ks,¬ qO o a) ∨ ∃ j,∃ h1 : j < ks.length,gM o (.mk h ks) = j :: gM o ks[j] ∧ qO o ks[j] ∧ ∀ k (hk : k < ks.length),k < j → ¬ qO o ks[k] := by
 rw [gM];have := qI o ks 0
 simpa using this
mutual
theorem oF (o : Int) : ∀ a : An,(gM o a).length + 1 ≤ anc a
 | .mk h ks => by rw [gM,anc]; have := sF o 0 ks; omega
theorem sF (o : Int) (i : Nat) : ∀ l : List An,(nK o i l).length ≤ cY l
 | [] => by rw [nK,cY]; exact Nat.le_refl _
 | a :: l => by
  rw [nK,cY]
  split
  ·have := oF o a; simp only [List.length_cons]; omega
  ·have := sF o (i + 1) l; omega
end
mutual
def fU : An → An
 | .mk h ks => .mk ⟨h.kind,h.value,h.text,0,0,-1⟩ (dT ks)
def dT : List An → List An
 | [] => []
 | a :: l => fU a :: dT l
end
theorem jD (l : List An) : dT l = l.map fU := by
 induction l with
 | nil => rw [dT]; rfl
 | cons a l ih => rw [dT,ih]; rfl
mutual
theorem kL : ∀ a : An,eR (fU a) = eR a
 | .mk h ks => by rw [fU,eR,eR,oU ks]
theorem oU : ∀ l : List An,eD (dT l) = eD l
 | [] => by rw [dT]
 | a :: l => by rw [dT,eD,eD,kL a,oU l]
end
mutual
theorem oV : ∀ a : An,fU (fU a) = fU a
 | .mk h ks => by rw [fU,fU,mA ks]
theorem mA : ∀ l : List An,dT (dT l) = dT l
 | [] => by rw [dT,dT]
 | a :: l => by rw [dT,dT,oV a,mA l]
end
mutual
theorem mN : ∀ a : An,fU (eR a) = fU a
 | .mk h ks => by rw [eR,fU,fU,nL ks]
theorem nL : ∀ l : List An,dT (eD l) = dT l
 | [] => by rw [eD]
 | a :: l => by rw [eD,dT,dT,mN a,nL l]
end
theorem D5 (a b : An) : eR a = eR b ↔ fU a = fU b :=
 ⟨fun h => by rw [← mN a,← mN b,h],fun h => by rw [← kL a,← kL b,h]⟩
def kR : BA := ⟨#[102,110,32,102,40,41,123,49,42,40,50,43,51,41,125]⟩
def nM : BA := ⟨#[102,110,32,102,32,40,32,41,32,123,32,49,32,42,32,40,32,50,32,43,32,51,32,41,32,125]⟩
theorem Gr : ((run body 60 zT ⟨Lexi.aG kR,[],false,0⟩).bind fun r => (run body 60 zT ⟨Lexi.aG nM,[],false,0⟩).map fun q =>
  (iR kR (.mk 1 gA r.kids) 0 []).2.2.isEmpty && tR (fT kR (.mk 1 gA r.kids)) && decide (gV (kC (fT kR (.mk 1 gA r.kids))) = nM) && decide (anc (fT kR (.mk 1 gA r.kids)) ≤ 30) && (iR nM (.mk 1 gA q.kids) 0 []).2.2.isEmpty && Gq (fT nM (.mk 1 gA q.kids)) (fT kR (.mk 1 gA r.kids))) = some true := by decide +kernel
theorem D6 {t u : Tr} (h : fS kR t) (g : fS nM u) : (iR kR t 0 []).2.2 = [] ∧ tR (fT kR t) = true ∧ gV (kC (fT kR t)) = nM ∧ anc (fT kR t) ≤ 30 ∧ (iR nM u 0 []).2.2 = [] ∧ eR (fT nM u) = eR (fT kR t) := by
 have e := Gr;rw [Option.bind_eq_some_iff] at e;obtain ⟨r,e1,e2⟩ := e;rw [Option.map_eq_some_iff] at e2;obtain ⟨q,e3,e4⟩ := e2;obtain rfl := h.unique ⟨_,r,e1,rfl⟩;obtain rfl := g.unique ⟨_,q,e3,rfl⟩;simp only [Bool.and_eq_true,decide_eq_true_eq,List.isEmpty_iff] at e4;obtain ⟨⟨⟨⟨⟨a,b⟩,c⟩,d⟩,e⟩,f⟩ := e4;exact ⟨a,b,c,d,e,sD _ _ f⟩
end Go.Proofs.YtlndmiegodcfjaaGreatDoor.Prn
namespace Go.Proofs.YtlndmiegodcfjaaGreatDoor.Prn
set_option maxRecDepth 20000
open Go.Gx Go.RowKit Go.Lib
open Lexi (Asc)
open Par Ast
def Pn (F : Fs) (w : World) (b : Nat) (T : List BA) : Prop := ∃ dv,CoV 76 9 1 tP [] F w b T dv
theorem Pn.ext {F : Fs} {w w' : World} {b : Nat} {T : List BA} (h : Pn F w b T) (x : Ext w w') : Pn F w' b T := ⟨_,h.choose_spec.ext x⟩
theorem Pn.und {F : Fs} {w : World} {b : Nat} {T : List BA} (h : Pn F w b T) : Und F w.heap.size := h.choose_spec.und
theorem Pn.sub {F G : Fs} {w : World} {b : Nat} {T : List BA} (h : Pn G w b T) (hs : ∀ z,F z → G z) : Pn F w b T := ⟨_,h.choose_spec.sub hs⟩
theorem Pn.add {F : Fs} {w w' : World} {b k : Nat} {T : List BA} (h : Pn F w b T) (x : Ext w w') (hk : w.heap.size ≤ k) (hk' : k < w'.heap.size) : Pn (fun z => F z ∨ z = k) w' b T := ⟨_,h.choose_spec.add x hk hk'⟩
theorem D7 (T : List BA) : ∀ u ∈ aR tP T,u.oneCell' = true := nV (fun a u hu => by rw [List.mem_singleton.1 hu]; rfl) T
theorem mO {F : Fs} {w : World} {b : Nat} {T ts : List BA} {v : Value} (h : Pn F w b T) (hs : SlC w v 1 ts.length (aR tP ts)) (hk : 0 < ts.length) (hl : T.length + ts.length ≤ 1000000) :
  Cl Tryz.prog 109 #[.pointer (some ⟨b,0,none⟩),v] w (fun _ w' => Pn F w' b (T ++ ts) ∧ Bw F w w') := by
 obtain ⟨dv,D⟩ := h;obtain ⟨i9,hi9,hz9,hsi9,hby9⟩ := aAc;refine Cl.enter Tryz.func109 rfl Tryz.ntmps109 rfl rfl (Wp.region (.m2 rfl (.m2 rfl (.t2 (aF rfl) (.t2 (aA wX rfl) (.t2 (aB mV rfl (D.var.g 0 rfl)) (.m2 rfl ?_)))))));refine Rg.wd trivial (fY Tryz.underlying74 hi9 hz9 hsi9 hby9 rfl rfl rfl D.row hs (D7 ts) hk (by unfold maxLen; omega) (by omega)) rfl ?_;rintro v2 wP hap;obtain ⟨gk,capk,spk,rfl,g1,g2,g3,hvk,hvP,hBP,hfr⟩ := D.app hap;have hne : gk ≠ b := Var.ne hvk hvP (by decide);refine .t2 (aF rfl) (.t2 (aA wX rfl) (Rg.wn trivial (cE hvP mV rfl rfl rfl rfl rfl) ?_));rintro _ wS ⟨huS,hvS⟩;have hBS := hBP.trans (Bw.upd huS D.nb);have hC := CoV.push (acc := T ++ ts) (capk := capk) (spk := spk) D hBS (by simpa using hvS) (by simpa using g1) g2 (by simpa using g3) (hvk.upd huS hne) hfr;refine .done ?_;exact ⟨[],trivial,⟨_,hC⟩,hBS⟩
theorem jE {F : Fs} {w : World} {g : Mn} {i : Nat} (hg : NOk F w g) (hU : Und F w.heap.size) (hn : anc g.er ≤ 1000000) :
  Cl Tryz.prog 112 #[.agg g.cells.toArray,.int .i64 i] w (fun u w' => (∃ x : Mn,u = .agg x.cells.toArray ∧ NOk F w' x ∧ x = g.kids.getD i Iy) ∧ Ext w w') := by
 have hx := Ext.refl w;have hog := hg.oneL;obtain ⟨h,cv,kids⟩ := g;obtain ⟨hs,hone,hbk,hkk⟩ : SlC w cv 7 kids.length (aR Mn.cells kids) ∧ cv.oneCell' = true ∧ gK F cv ∧ ∀ g ∈ kids,NOk F w g := by cases hg with | mk a b c d => exact ⟨a,b,c,d⟩
 have hkl := kB (dA kids);rw [cW] at hkl;simp only [Mn.er,anc] at hn;have hsx := hs;refine Cl.enter Tryz.func112 rfl Tryz.ntmps112 rfl rfl (.sr (Rg.wd trivial (aO (cs := (Mn.mk h cv kids).cells) rfl rfl) rfl ?_));rintro _ w1 ⟨b2,rfl,q2,hx1,hv2⟩;replace hx := hx.ext hx1;replace hsx := hsx.ext hx1;have lt2 := hv2.lt;have le2 := hx.le;refine Rg.wd trivial (cH Tryz.zeroValue26 rfl) rfl ?_;rintro _ w2 ⟨b4,rfl,q4,hx2,hv4⟩;replace hx := hx.ext hx2;replace hsx := hsx.ext hx2;replace hv2 := hv2.ext hx2;have g4 : w.heap.size ≤ b4 := by omega
 refine .done (.seq ?_)
 by_cases hlt : i < kids.length
 ·skip
  refine .sr (.m2 rfl (.t2 (aA bZ rfl) (.t2 (aB eG rfl (hv2.g 6 rfl)) (.t2 (cM hsx Tryz.underlying24 rfl) ?_))));refine .t2 (eN rfl rfl (by omega)) ?_;refine .done (.condF rfl (Wp.skip ?_));have hgi := (hkk _ (List.getElem_mem hlt));have hogi := hgi.oneL;refine .sr (.t2 (aA bZ rfl) (.t2 (aB eG rfl (hv2.g 6 rfl)) (.m2 rfl ?_)));refine Rg.ix hsx trivial rfl rfl Tryz.underlying24 bF (by omega) rfl ?_;intro bt14 ot14 ht14;rw [Int.toNat_natCast,cN Mn.len kids i hlt] at ht14;refine .t2 (aY rfl ht14 (by rw [Mn.len]; exact bF)) ?_;refine Rg.wn trivial (bY (cs := kids[i].cells) hv4 rfl rfl rfl (by rw [Mn.len]; exact bF) (by rw [Mn.len]; rfl) hogi) ?_;rintro _ w3 ⟨hu4,hv4x⟩;have hxe := hx.upd hu4 g4;refine .done (Wp.ret ?_);refine ⟨[_],⟨⟨_,rfl,jL hv4x (by rw [Mn.len]; exact bF)⟩,trivial⟩,⟨kids[i],rfl,hgi.bw (Bw.of hxe hU) fun z hz => hz,?_⟩,hxe⟩
  show _ = kids.getD i _
  simp [List.getD,hlt]
 ·skip
  refine .sr (.m2 rfl (.t2 (aA bZ rfl) (.t2 (aB eG rfl (hv2.g 6 rfl)) (.t2 (cM hsx Tryz.underlying24 rfl) ?_))));refine .t2 (cZ rfl rfl (by omega)) ?_;refine .done (.condT rfl (.sr (.t2 (dH Jf rfl) ?_)));refine Rg.wn trivial (bY (cs := Iy.cells) hv4 rfl rfl rfl (by exact bF) rfl rfl) ?_;rintro _ w3 ⟨hu4,hv4x⟩;have hxe := hx.upd hu4 g4;refine .done (Wp.ret ?_);refine ⟨[_],⟨⟨_,rfl,jL hv4x (by exact bF)⟩,trivial⟩,⟨Iy,rfl,aAd _ _,?_⟩,hxe⟩
  show _ = kids.getD i _
  simp [List.getD,show kids.length ≤ i from by omega]
theorem Gs {w : World} {h : Hd} {cv : Value} {s : BA} : Cl Tryz.prog 110 #[.agg (h.cells cv).toArray,.string s] w (fun u w' => u = .string (if D2 h.value 1 = 1 then s else .empty) ∧ Ext w w') := by
 have hx := Ext.refl w
 by_cases hf : D2 h.value 1 = 1
 ·skip
  refine Cl.enter Tryz.func110 rfl Tryz.ntmps110 rfl rfl (.sr (Rg.wd trivial (aO (cs := h.cells cv) rfl rfl) rfl ?_));rintro _ w1 ⟨b2,rfl,q2,hx1,hv2⟩;replace hx := hx.ext hx1;refine .a2 rfl (.done (.seq (.sr (.t2 (aA cJ rfl) (.t2 (aB bA rfl (hv2.g 1 rfl)) (.t2 (D3 rfl rfl) (.t2 (aS rfl rfl hf) (.done (.condT rfl (.sr (.m2 rfl (.a2 rfl ?_))))))))))));refine .done (Wp.ret ?_);rw [if_pos hf];exact ⟨[_],⟨rfl,trivial⟩,rfl,hx⟩
 ·skip
  refine Cl.enter Tryz.func110 rfl Tryz.ntmps110 rfl rfl (.sr (Rg.wd trivial (aO (cs := h.cells cv) rfl rfl) rfl ?_));rintro _ w1 ⟨b2,rfl,q2,hx1,hv2⟩;replace hx := hx.ext hx1;refine .a2 rfl (.done (.seq (.sr (.t2 (aA cJ rfl) (.t2 (aB bA rfl (hv2.g 1 rfl)) (.t2 (D3 rfl rfl) (.t2 (aP rfl rfl hf) (.done (.condF rfl (Wp.skip (.sr (.a2 rfl ?_))))))))))));refine .done (Wp.ret ?_);rw [if_neg hf];exact ⟨[_],⟨rfl,trivial⟩,rfl,hx⟩
theorem tS {w : World} {b : Nat} {v : Value} {cs : List Value} (hs : SlC w v 7 0 cs) : Cl Tryz.prog 116 #[.pointer (some ⟨b,0,none⟩),v] w (fun _ w' => w = w') := by
 skip
 refine Cl.enter Tryz.func116 rfl Tryz.ntmps116 rfl rfl (.sr (.m2 rfl (.t2 (cM hs Tryz.underlying24 rfl) ?_)));refine .t2 (eT rfl rfl (by omega)) ?_;refine .done (.condF rfl (Wp.skip ?_));exact ⟨[],trivial,rfl⟩
theorem oG (s : BA) : ∀ (l : List (List BA)) (t : List BA),gU s (l ++ [t]) = (if l = [] then t else gU s l ++ s :: t)
 | [],t => rfl
 | [u],t => rfl
 | u :: v :: l,t => by
  rw [if_neg (by simp),List.cons_append,List.cons_append,gU,gU,← List.cons_append,oG s (v :: l) t,if_neg (by simp)];simp
def oH (l : List (List BA)) : Nat := (l.map fun t => t.length + 1).sum
theorem nN (s : BA) : ∀ l : List (List BA),(gU s l).length ≤ oH l
 | [] => Nat.zero_le _
 | [t] => by simp [gU,oH]
 | t :: u :: l => by
  have := nN s (u :: l);simp only [gU,oH,List.map_cons,List.sum_cons,List.length_append,List.length_cons] at this ⊢;omega
theorem sG (s : BA) : ∀ l : List (List BA),l ≠ [] → (gU s l).length + 1 ≤ oH l
 | [],h => absurd rfl h
 | [t],_ => by simp [gU,oH]
 | t :: u :: l,_ => by
  have := sG s (u :: l) (by simp);simp only [gU,oH,List.map_cons,List.sum_cons,List.length_append,List.length_cons] at this ⊢;omega
theorem tT : ∀ (l : List (List BA)) (i : Nat),(l.getD i []).length ≤ oH l
 | [],i => by simp
 | t :: l,0 => by simp [oH]; omega
 | t :: l,i + 1 => by
  have := tT l i;simp only [oH,List.map_cons,List.sum_cons,List.getD_cons_succ] at this ⊢;omega
theorem D8 (l : List (List BA)) : (l.getD 0 []).length + (l.getD 1 []).length ≤ oH l := by
 match l with
 | [] => simp
 | t :: l =>
  have := tT l 0;simp only [oH,List.map_cons,List.sum_cons,List.getD_cons_succ,List.getD_cons_zero] at this ⊢;omega
theorem tU (k : Int) (t : List BA) : (Bk k t).length ≤ t.length + 2 := by
 unfold Bk
 split <;> simp
mutual
theorem tV : ∀ a : An,(kC a).length + 1 ≤ 8 * anc a
 | .mk h ks => by
  have hl := nO ks;have h1 := nN .empty (kS ks);have h3 := tT (kS ks) 3;have h4 := D8 (kS ks);have h5 := tU (kd0 ks) ((kS ks).getD 0 []);have h6 := tU (kd0 (ks.drop 1)) ((kS ks).getD 1 []);rw [kC,anc]
  repeat' split
  all_goals (first | omega | (simp only [List.length_append,List.length_cons,List.length_nil]; omega))
theorem nO : ∀ l : List An,oH (kS l) ≤ 8 * cY l
 | [] => by rw [kS,cY]; exact Nat.zero_le _
 | a :: l => by
  have h1 := tV a;have h2 := nO l;rw [kS,cY];simp only [oH,List.map_cons,List.sum_cons] at h2 ⊢;omega
end
def AscF (F : Fs) (w : World) : Prop := ∀ w',Bw F w w' → Asc w'
theorem AscF.step {F : Fs} {w w' : World} (h : AscF F w) (k : Bw F w w') : AscF F w' := fun _ j => h _ (k.trans j)
theorem AscF.sub {F G : Fs} {w : World} (h : AscF F w) (hs : ∀ z,F z → G z) : AscF G w := fun _ j => h _ (j.sub hs)
theorem AscF.here {F : Fs} {w : World} (h : AscF F w) : Asc w := h _ (Bw.refl _ _)
def NC (g : Mn) : Prop := ∀ (F : Fs) (w : World) (b : Nat) (T : List BA),AscF F w → Pn F w b T → NOk F w g → T.length + 8 * anc g.er ≤ 900000 →
 Cl Tryz.prog 31 #[.pointer (some ⟨b,0,none⟩),.agg g.cells.toArray] w (fun _ w' => Pn F w' b (T ++ kC g.er) ∧ Bw F w w')
theorem zO {F : Fs} {w : World} {b : Nat} {T : List BA} {kids : List Mn} {v : Value} {s : BA} (hN : ∀ g ∈ kids,NC g) (hAF : AscF F w) (h : Pn F w b T) (hs : SlC w v 7 kids.length (aR Mn.cells kids)) (hb : gK F v) (hk : ∀ g ∈ kids,NOk F w g) (hl : T.length + 8 * cY (dA kids) ≤ 900000) :
  Cl Tryz.prog 62 #[.pointer (some ⟨b,0,none⟩),v,.string s] w (fun _ w' => Pn F w' b (T ++ gU s (kS (dA kids))) ∧ Bw F w w') := by
 have hkl := kB (dA kids);rw [cW] at hkl;have hU := h.und;refine Cl.enter Tryz.func62 rfl Tryz.ntmps62 rfl rfl (.sr (.m2 rfl (.t2 (cM hs Tryz.underlying24 rfl) (.m2 rfl (.done (Wp.block ?_))))));refine Wp.loop (ι := Nat) (fun i => [(0,.pointer (some ⟨b,0,none⟩)),(2,.string s),(8,v),(9,.int .i64 kids.length),(10,.int .i64 i)])
  (fun i w' => i ≤ kids.length ∧ Pn F w' b (T ++ gU s (kS (dA (kids.take i)))) ∧ Bw F w w') (fun i => kids.length - i) 0 (by repeat (first | exact .nil | refine .cons rfl ?_)) ⟨Nat.zero_le _,by simpa [dA,kS,gU] using h,Bw.refl F w⟩ ?_
 rintro i wl ⟨hi,hC,hB⟩
 by_cases hlt : i < kids.length
 ·have hxx := Ext.refl wl
  have hsi := hZ hs hB hb;have hgi : NOk F wl kids[i] := (hk _ (List.getElem_mem hlt)).bw hB fun z hz => hz;have hog := hgi.oneL;have hUl := hC.und;have hNi := hN _ (List.getElem_mem hlt);have hq : (gU s (kS (dA (kids.take i)))).length ≤ 8 * cY (dA (kids.take i)) := Nat.le_trans (nN _ _) (nO _);have hsum : cY (dA (kids.take i)) + anc kids[i].er ≤ cY (dA kids) := by
   have e : kids = kids.take i ++ kids[i] :: kids.drop (i + 1) := by rw [← List.drop_eq_getElem_cons hlt,List.take_append_drop]
   have e2 := congrArg (fun l => cY (dA l)) e;simp only [kK,nI] at e2;rw [e2,dA,cY];omega
  have ha1 : 1 ≤ anc kids[i].er := by
   obtain ⟨h,cv,ks⟩ := kids[i];simp only [Mn.er,anc];omega
  have hnx : kS (dA (kids.take (i + 1))) = kS (dA (kids.take i)) ++ [kC kids[i].er] := by
   rw [List.take_succ_eq_append_getElem hlt,kK,tQ,tQ,List.map_append];rfl
  have hem : kS (dA (kids.take i)) = [] ↔ i = 0 := by
   rw [tQ,List.map_eq_nil_iff,← List.length_eq_zero_iff,cW,List.length_take];omega
  refine .sr ?_
  first | refine .tq (bL rfl rfl (by omega)) rfl ?_ | refine .tq (bM rfl rfl (by omega)) rfl ?_ | refine .tq (cR rfl rfl) rfl ?_
  refine .done (.seq (.condT rfl (Wp.skip (.seq (Wp.block (.sr (.m2 rfl ?_)))))));refine Rg.ix hsi trivial rfl rfl Tryz.underlying24 bF (by omega) rfl ?_;intro bt13 ot13 ht13;rw [Int.toNat_natCast,cN Mn.len kids i hlt] at ht13;refine .t2 (aY rfl ht13 (by rw [Mn.len]; exact bF)) ?_;refine Rg.wd trivial (cH Tryz.zeroValue26 rfl) rfl ?_;rintro _ wab7 ⟨b7,rfl,qb7,a,c⟩;refine .a2 rfl ?_;refine Rg.wn trivial (bY (cs := kids[i].cells) c rfl rfl rfl (by rw [Mn.len]; exact bF) (by rw [Mn.len]; rfl) (hog)) ?_;rintro _ w11 ⟨hub7,hv7⟩;have hx11 := a.upd hub7 (Nat.le_of_eq qb7.symm);clear c hub7 a;have hg7 : wl.heap.size ≤ b7 := Nat.le_of_eq qb7.symm;replace hxx := hxx.ext hx11;replace hsi := hsi.ext hx11;replace ht13 := ht13.ext hx11;clear qb7;refine .done (.seq ?_)
  by_cases h0 : 0 < i
  ·have hq2 : (gU s (kS (dA (kids.take i)))).length + 1 ≤ 8 * cY (dA (kids.take i)) := Nat.le_trans (sG _ _ fun e => by have := hem.1 e; omega) (nO _)
   refine .sr (.m2 rfl ?_);refine .t2 (gF rfl rfl (by omega)) ?_;refine .done (.condT rfl ?_);have hCa : Pn (fun z => F z ∨ z = b7) w11 b (T ++ gU s (kS (dA (kids.take i)))) := hC.add hxx hg7 hv7.lt;have hBa : Bw F w w11 := hB.trans (Bw.of hxx hUl);refine Wp.region (.m2 rfl (.m2 rfl (Rg.wd trivial (aE (aT _) rfl) rfl ?_)));rintro _ w12 ⟨bt,rfl,qt,hx12,hvt⟩;replace hBa := hBa.trans (Bw.of hx12 fun z hz => hCa.und z (.inl hz));replace hCa := hCa.ext hx12;replace hv7 := hv7.ext hx12;refine Rg.wd trivial (aC Tryz.call109 rfl (mO (ts := [s]) hCa (dL hvt rfl) Nat.one_pos (by simp only [List.length_append,List.length_singleton]; omega))) rfl ?_;rintro _ w20 ⟨hC2,hB2⟩;have hv72 := aD hv7 hB2 (.inr rfl);have hB3 : Bw F w w20 := hBa.trans (hB2.sub fun z hz => .inl hz);refine .done (Wp.region (.m2 rfl ?_));refine .t2 (aY rfl hv72.cells (by rw [Mn.len]; exact bF)) ?_;refine Rg.wd trivial (aC Tryz.call31 rfl (hNi F _ b _ (hAF.step hB3) (hC2.sub fun z hz => .inl hz) ((hk _ (List.getElem_mem hlt)).bw hB3 fun z hz => hz) (by simp only [List.length_append,List.length_singleton]; omega))) rfl ?_;rintro _ w23 ⟨hC4,hB4⟩;refine .done (Wp.region ?_)
   first | refine .tq (bC rfl rfl (by omega)) rfl ?_ | refine .tq (bX rfl rfl) rfl ?_
   refine .m2 rfl (.done ?_);refine ⟨i + 1,by repeat (first | exact .nil | refine .cons rfl ?_),⟨hlt,?_,hB3.trans hB4⟩,by omega⟩;rw [hnx,oG,if_neg (fun e => by have := hem.1 e; omega)]
   simpa using hC4
  ·obtain rfl : i = 0 := by omega
   refine .sr (.m2 rfl ?_);refine .t2 (eT rfl rfl (by omega)) ?_;refine .done (.condF rfl (Wp.skip ?_));have hBa : Bw F w w11 := hB.trans (Bw.of hxx hUl);refine Wp.region (.m2 rfl ?_);refine .t2 (aY rfl hv7.cells (by rw [Mn.len]; exact bF)) ?_;refine Rg.wd trivial (aC Tryz.call31 rfl (hNi F _ b _ (hAF.step hBa) (hC.ext hxx) ((hk _ (List.getElem_mem hlt)).bw hBa fun z hz => hz) (by simp only [List.length_append]; omega))) rfl ?_;rintro _ w23 ⟨hC4,hB4⟩;refine .done (Wp.region ?_)
   first | refine .tq (bC rfl rfl (by omega)) rfl ?_ | refine .tq (bX rfl rfl) rfl ?_
   refine .m2 rfl (.done ?_);refine ⟨1,by repeat (first | exact .nil | refine .cons rfl ?_),⟨hlt,?_,hBa.trans hB4⟩,by omega⟩;rw [hnx,oG,if_pos (hem.2 rfl)]
   simpa [dA,kS,gU] using hC4
 ·obtain rfl : i = kids.length := by omega
  rw [List.take_length] at hC;refine .sr ?_
  first | refine .tq (bL rfl rfl (by omega)) rfl ?_ | refine .tq (bM rfl rfl (by omega)) rfl ?_ | refine .tq (cR rfl rfl) rfl ?_
  refine .done (.seq (.condF rfl (Wp.exit ?_)));exact ⟨[],trivial,hC,hB⟩
theorem lI {F : Fs} {w : World} {b : Nat} {T : List BA} {kids : List Mn} {v : Value} {op s cl : BA} (hN : ∀ g ∈ kids,NC g) (hAF : AscF F w) (h : Pn F w b T) (hs : SlC w v 7 kids.length (aR Mn.cells kids)) (hb : gK F v) (hk : ∀ g ∈ kids,NOk F w g) (hl : T.length + 8 * cY (dA kids) + 2 ≤ 900000) :
  Cl Tryz.prog 113 #[.pointer (some ⟨b,0,none⟩),.string op,v,.string s,.string cl] w (fun _ w' => Pn F w' b (T ++ [op] ++ gU s (kS (dA kids)) ++ [cl]) ∧ Bw F w w') := by
 have hC := h;have hB := Bw.refl F w;have hq : (gU s (kS (dA kids))).length ≤ 8 * cY (dA kids) := Nat.le_trans (nN _ _) (nO _);refine Cl.enter Tryz.func113 rfl Tryz.ntmps113 rfl rfl (.sr (.m2 rfl (.m2 rfl (Rg.wd trivial (aE (aT _) rfl) rfl ?_))));rintro _ w1 ⟨bt,rfl,qt,hx1,hvt⟩;replace hB := hB.trans (Bw.of hx1 hC.und);replace hC := hC.ext hx1;refine Rg.wd trivial (aC Tryz.call109 rfl (mO (ts := [op]) hC (dL hvt rfl) (Nat.succ_pos _) (by simp only [List.length_append,List.length_cons,List.length_nil] at *; omega))) rfl ?_;rintro _ w2 ⟨hCn,hBn⟩;replace hB := hB.trans hBn;clear hC;have hC := hCn;clear hCn hBn;refine .done (.sr (.m2 rfl (.m2 rfl (.m2 rfl ?_))));refine Rg.wd trivial (aC Tryz.call62 rfl (zO (kids := kids) hN (hAF.step hB) hC (hZ hs hB hb) hb (fun g hg => (hk g hg).bw hB fun z hz => hz) (by simp only [List.length_append,List.length_cons,List.length_nil] at *; omega))) rfl ?_;rintro _ w3 ⟨hCn,hBn⟩;replace hB := hB.trans hBn;clear hC;have hC := hCn;clear hCn hBn;refine .done (Wp.region (.m2 rfl (.m2 rfl (Rg.wd trivial (aE (aT _) rfl) rfl ?_))));rintro _ w4 ⟨bt,rfl,qt,hx4,hvt⟩;replace hB := hB.trans (Bw.of hx4 hC.und);replace hC := hC.ext hx4;refine Rg.wd trivial (aC Tryz.call109 rfl (mO (ts := [cl]) hC (dL hvt rfl) (Nat.succ_pos _) (by simp only [List.length_append,List.length_cons,List.length_nil] at *; omega))) rfl ?_;rintro _ w5 ⟨hCn,hBn⟩;replace hB := hB.trans hBn;clear hC;have hC := hCn;clear hCn hBn;refine .done ?_;exact ⟨[],trivial,hC,hB⟩
theorem rA {w : World} {b : Nat} {g : Mn} {s : BA} (hk : g.er.hd.kind = 0) : Cl Tryz.prog 114 #[.pointer (some ⟨b,0,none⟩),.string s,.agg g.cells.toArray] w (fun _ w' => Ext w w') := by
 have hx := Ext.refl w;obtain ⟨h,cv,kids⟩ := g;replace hk : h.kind = 0 := hk;refine Cl.enter Tryz.func114 rfl Tryz.ntmps114 rfl rfl (.sr (Rg.wd trivial (aO (cs := (Mn.mk h cv kids).cells) rfl rfl) rfl ?_));rintro _ w1 ⟨b5,rfl,q5,hx1,hv5⟩;replace hx := hx.ext hx1;refine .done (.sr (.t2 (aA aW rfl) (.t2 (aB bA rfl (hv5.g 0 rfl)) (.t2 (bO rfl rfl hk) (.done (.condF rfl (Wp.skip ?_)))))));exact ⟨[],trivial,hx⟩
theorem qJ {F : Fs} {w : World} {b : Nat} {T : List BA} {g : Mn} (hN : NC g) (hAF : AscF F w) (h : Pn F w b T) (hg : NOk F w g) (hl : T.length + 8 * anc g.er + 2 ≤ 900000)
  (hk : g.er.hd.kind = 27 ∨ g.er.hd.kind = 1 ∨ g.er.hd.kind = 21 ∨ g.er.hd.kind = 39 ∨ g.er.hd.kind = 3) :
  Cl Tryz.prog 119 #[.pointer (some ⟨b,0,none⟩),.agg g.cells.toArray] w (fun _ w' => Pn F w' b (T ++ Bk g.er.hd.kind (kC g.er)) ∧ Bw F w w') := by
 obtain ⟨hd,cv,kids⟩ := g;obtain ⟨pc,cc,rfl⟩ : ∃ p q,cv = .slice p kids.length q := by
  cases hg with | mk a _ _ _ => obtain ⟨_,p,c,rfl,_⟩ := a; exact ⟨p,c,rfl⟩
 replace hk : hd.kind = 27 ∨ hd.kind = 1 ∨ hd.kind = 21 ∨ hd.kind = 39 ∨ hd.kind = 3 := hk
 by_cases h27 : hd.kind = 27
 ·skip
  refine Cl.enter Tryz.func119 rfl Tryz.ntmps119 rfl rfl (.sr (Rg.wd trivial (aO (cs := (Mn.mk hd (.slice pc kids.length cc) kids).cells) rfl rfl) rfl ?_));rintro _ w1 ⟨b3,rfl,q3,hx1,hv3⟩;have hB1 : Bw F w w1 := Bw.of hx1 h.und;have hC := h.add hx1 (Nat.le_of_eq q3.symm) hv3.lt;obtain ⟨F2,d⟩ : ∃ F2 : Fs,(fun z => F z ∨ z = b3) = F2 := ⟨_,rfl⟩;have hFF : ∀ z,F z → F2 z := fun z hz => by rw [← d]; exact .inl hz
  have h3F : F2 b3 := by rw [← d]; exact .inr rfl
  rw [d] at hC;have hg2 : NOk F2 w1 ((Mn.mk hd (.slice pc kids.length cc) kids)) := (hg.bw hB1 fun z hz => hz).mono hFF;have hB := Bw.refl F2 w1;refine .done (.sr (.t2 (aA aW rfl) (.t2 (aB bA rfl (hv3.g 0 rfl)) (.done (Wp.block (.seq (.sr (.t2 (aS rfl rfl h27) (.a2 rfl (.done (.condT rfl (Wp.skip ?_))))))))))));refine .condT rfl (Wp.region (.m2 rfl ?_));refine .t2 (aY rfl hv3.cells (by rw [Mn.len]; exact bF)) ?_;refine Rg.wd trivial (aC Tryz.call31 rfl (hN F2 _ b T (((hAF.step hB1).sub hFF).step hB) hC (hg2.bw hB fun z hz => hz) (by omega))) rfl ?_;rintro _ w2 ⟨hCn,hBn⟩;replace hB := hB.trans hBn;replace hv3 := aD hv3 hBn h3F;clear hC;have hC := hCn;clear hCn hBn;refine .done ?_;have e : Bk hd.kind (kC (Mn.mk hd (.slice pc kids.length cc) kids).er) = kC (Mn.mk hd (.slice pc kids.length cc) kids).er := by rw [h27]; rfl
  refine ⟨[],trivial,?_,hB1.trans (hB.sub hFF)⟩
  show Pn F _ b (T ++ Bk hd.kind _)
  rw [e];exact hC.sub hFF
 ·skip
  refine Cl.enter Tryz.func119 rfl Tryz.ntmps119 rfl rfl (.sr (Rg.wd trivial (aO (cs := (Mn.mk hd (.slice pc kids.length cc) kids).cells) rfl rfl) rfl ?_));rintro _ w1 ⟨b3,rfl,q3,hx1,hv3⟩;have hB1 : Bw F w w1 := Bw.of hx1 h.und;have hC := h.add hx1 (Nat.le_of_eq q3.symm) hv3.lt;obtain ⟨F2,d⟩ : ∃ F2 : Fs,(fun z => F z ∨ z = b3) = F2 := ⟨_,rfl⟩;have hFF : ∀ z,F z → F2 z := fun z hz => by rw [← d]; exact .inl hz
  have h3F : F2 b3 := by rw [← d]; exact .inr rfl
  rw [d] at hC;have hg2 : NOk F2 w1 ((Mn.mk hd (.slice pc kids.length cc) kids)) := (hg.bw hB1 fun z hz => hz).mono hFF;have hB := Bw.refl F2 w1;refine .done (.sr (.t2 (aA aW rfl) (.t2 (aB bA rfl (hv3.g 0 rfl)) (.done (Wp.block (.seq (.sr ?_)))))));refine .t2 (aP rfl rfl (by omega)) ?_;refine .a2 rfl (.done (.condF rfl (.sr ?_)));refine .t2 (aP rfl rfl (by omega)) ?_;refine .a2 rfl (.done (.condF rfl (.sr ?_)));refine .t2 (aP rfl rfl (by omega)) ?_;refine .a2 rfl (.done (.condF rfl (.sr ?_)));refine .t2 (aP rfl rfl (by omega)) ?_;refine .a2 rfl (.done (.condF rfl (.sr ?_)));refine .t2 (aP rfl rfl (by omega)) ?_;refine .a2 rfl (.done (.condF rfl (.sr ?_)));refine .t2 (aP rfl rfl (by omega)) ?_;refine .a2 rfl (.done (.condF rfl (.sr ?_)));refine .t2 (aP rfl rfl (by omega)) ?_;refine .a2 rfl (.done (.condF rfl (Wp.region ?_)));refine .t2 (aP rfl rfl (by omega)) ?_;refine .a2 rfl (.done (.condF rfl (Wp.region (.m2 rfl ?_))));refine .t2 (aY rfl hv3.cells (by rw [Mn.len]; exact bF)) ?_;refine Rg.wd trivial (aE (xB _ _ _ _ _ _ _ _ _) rfl) rfl ?_;rintro _ w2 ⟨bt,rfl,qt,hx2,hvt⟩;have hCt := hC.add hx2 (Nat.le_of_eq qt.symm) hvt.lt;have hBt : Bw F2 w1 w2 := hB.trans (Bw.of hx2 hC.und);have hgt : NOk F2 w2 (.mk hd (.slice pc kids.length cc) kids) := hg2.bw hBt fun z hz => hz;refine Rg.wd trivial (aC Tryz.call113 rfl (lI (kids := [.mk hd (.slice pc kids.length cc) kids]) (fun g hg => by rw [List.mem_singleton.1 hg]; exact hN) ((((hAF.step hB1).sub hFF).step hBt).sub fun z hz => .inl hz) hCt (dL hvt rfl) (fun z hz => by cases hz; exact .inr rfl) (fun g hg => by rw [List.mem_singleton.1 hg]; exact hgt.mono fun z hz => .inl hz) (by simp only [dA,cY]; omega))) rfl ?_;rintro _ w9 ⟨hCn,hBn⟩;refine .done ?_;have e : Bk hd.kind (kC (Mn.mk hd (.slice pc kids.length cc) kids).er) = [⟨#[40]⟩] ++ kC (Mn.mk hd (.slice pc kids.length cc) kids).er ++ [⟨#[41]⟩] := by
   unfold Bk D4
   rcases hk with e | e | e | e | e <;> first | exact absurd e h27 | (rw [e]; rfl)
  refine ⟨[],trivial,?_,hB1.trans ((hBt.trans (hBn.sub fun z hz => .inl hz)).sub hFF)⟩
  show Pn F _ b (T ++ Bk hd.kind _)
  rw [e];have h5 := (hCn.sub fun z hz => (.inl (hFF z hz)) : Pn F _ b _)
  simpa [dA,kS,gU] using h5
theorem tW {F : Fs} {w : World} {b : Nat} {T : List BA} {hd : Hd} {cv : Value} {kids : List Mn} (hN : ∀ g ∈ kids,NC g) (hAF : AscF F w) (h : Pn F w b T) (hg : NOk F w (.mk hd cv kids)) (hl : T.length + 8 * anc (Mn.mk hd cv kids).er ≤ 900000) (hk : hd.kind = 21) :
  Cl Tryz.prog 67 #[.pointer (some ⟨b,0,none⟩),.agg (Mn.mk hd cv kids).cells.toArray] w (fun _ w' => Pn F w' b (T ++ kC (Mn.mk hd cv kids).er) ∧ Bw F w w') := by
 have hs : SlC w cv 7 kids.length (aR Mn.cells kids) ∧ gK F cv ∧ ∀ g ∈ kids,NOk F w g := by cases hg with | mk a _ c d => exact ⟨a,c,d⟩
 have ha : anc (Mn.mk hd cv kids).er = cY (dA kids) + 1 := rfl;refine Cl.enter Tryz.func67 rfl Tryz.ntmps67 rfl rfl (.sr (Rg.wd trivial (aO (cs := (Mn.mk hd cv kids).cells) rfl rfl) rfl ?_));rintro _ w1 ⟨b3,rfl,q3,hx1,hv3⟩;have hB1 : Bw F w w1 := Bw.of hx1 h.und;have hC := h.add hx1 (Nat.le_of_eq q3.symm) hv3.lt;obtain ⟨F2,f⟩ : ∃ F2 : Fs,(fun z => F z ∨ z = b3) = F2 := ⟨_,rfl⟩;have hFF : ∀ z,F z → F2 z := fun z hz => by rw [← f]; exact .inl hz
 have h3F : F2 b3 := by rw [← f]; exact .inr rfl
 rw [f] at hC;have hg2 : NOk F2 w1 ((Mn.mk hd cv kids)) := (hg.bw hB1 fun z hz => hz).mono hFF;have hB := Bw.refl F2 w1;refine .done (.sr (.t2 (aA aW rfl) (.t2 (aB bA rfl (hv3.g 0 rfl)) (.done (Wp.block (.sr (.t2 (aS rfl rfl hk) (.a2 rfl (.done (.condT rfl (Wp.region (.m2 rfl ?_))))))))))));refine .t2 (aA bZ rfl) (.t2 (aB eG rfl (hv3.g 6 rfl)) ?_);refine Rg.wd trivial (aC Tryz.call113 rfl (lI (kids := kids) hN ((hAF.step hB1).sub hFF) hC (hZ hs.1 hB1 hs.2.1) (fun z hz => hFF z (hs.2.1 z hz)) (fun g hg => ((hs.2.2 g hg).bw hB1 fun z hz => hz).mono hFF) (by omega))) rfl ?_;rintro _ w2 ⟨hCn,hBn⟩;replace hB := hB.trans hBn;replace hv3 := aD hv3 hBn h3F;clear hC;have hC := hCn;clear hCn hBn;refine .done ?_;refine ⟨[],trivial,?_,hB1.trans (hB.sub hFF)⟩;have e : kC (Mn.mk hd cv kids).er = ⟨#[123]⟩ :: gU .empty (kS (dA kids)) ++ [⟨#[125]⟩] := by
  show kC (.mk hd (dA kids)) = _
  rw [kC,if_neg (by omega),if_pos hk]
 rw [e,show T ++ (⟨#[123]⟩ :: gU .empty (kS (dA kids)) ++ [⟨#[125]⟩]) = T ++ [⟨#[123]⟩] ++ gU .empty (kS (dA kids)) ++ [⟨#[125]⟩] from by simp];exact hC.sub hFF
theorem D9 {w : World} {b : Nat} {g : Mn} (hn : g.kids = []) (hk : g.er.hd.kind = 10) {F : Fs} (hg : NOk F w g) : Cl Tryz.prog 64 #[.pointer (some ⟨b,0,none⟩),.agg g.cells.toArray] w (fun _ w' => Ext w w') := by
 have hx := Ext.refl w;obtain ⟨h,cv,kids⟩ := g;replace hk : h.kind = 10 := hk;obtain rfl : kids = [] := hn;have hs : SlC w cv 7 0 [] := by cases hg with | mk a _ _ _ => exact a
 refine Cl.enter Tryz.func64 rfl Tryz.ntmps64 rfl rfl (.sr (Rg.wd trivial (aO (cs := (Mn.mk h cv []).cells) rfl rfl) rfl ?_));rintro _ w1 ⟨b3,rfl,q3,hx1,hv3⟩;replace hx := hx.ext hx1;refine .done (.sr (.t2 (aA aW rfl) (.t2 (aB bA rfl (hv3.g 0 rfl)) (.done (Wp.block (.sr (.t2 (aS rfl rfl hk) (.a2 rfl (.done (.condT rfl (Wp.region (.m2 rfl ?_))))))))))));refine .t2 (aA bZ rfl) (.t2 (aB eG rfl (hv3.g 6 rfl)) (Rg.wd trivial (aC Tryz.call116 rfl (tS (hs.ext hx))) rfl ?_));rintro _ _ rfl;refine .done ?_;exact ⟨[],trivial,hx⟩
theorem Gu : ∀ n : Fin 10,(⟨#[48,49,50,51,52,53,54,55,56,57,97,98,99,100,101,102,103,104,105,106,107,108,109,110,111,112,113,114,115,116,117,118,119,120,121,122]⟩ : ByteArray).extract n.val (n.val + 1) = oT (n.val : Int) := by decide
theorem Ea {w : World} {n : Nat} (h : n < 10) : Cl Tryz.prog 219 #[.int .i64 n] w (fun u w' => u = .string (oT n) ∧ w = w') := by
 skip
 refine Cl.enter Tryz.func219 rfl Tryz.ntmps219 rfl rfl (.sr (.a2 rfl (.done (.seq (.sr (.m2 rfl ?_))))));refine .t2 (bL rfl rfl (by omega)) ?_;refine .done (.condT rfl (.sr (.m2 rfl (.m2 rfl ?_))))
 first | refine .tq (bC rfl rfl (by omega)) rfl ?_ | refine .tq (bX rfl rfl) rfl ?_
 refine .t2 (eU Tryz.underlying9 rfl rfl rfl (by refine ⟨by omega,by omega,?_⟩; show _ ≤ ((36 : Nat) : Int); omega)) ?_;refine .a2 rfl (.done (Wp.ret ?_));refine ⟨[_],⟨rfl,trivial⟩,?_,rfl⟩
 show Value.string (ByteArray.extract _ (n : Int).toNat ((n : Int) + 1).toNat) = _
 rw [Int.toNat_natCast,show ((n : Int) + 1).toNat = n + 1 from by omega];exact congrArg Value.string (Gu ⟨n,h⟩)
theorem Gv {w : World} {n : Nat} (h : n < 10) : Cl Tryz.prog 117 #[.int .i64 n] w (fun u w' => u = .string (oT n) ∧ w = w') := by
 have h3 : ∀ w : World,Cl Tryz.prog 187 #[.int .i64 n,.int .i64 10] w (fun u w' => u = .string (oT n) ∧ w = w') := fun w => by
  refine Cl.enter Tryz.func187 rfl Tryz.ntmps187 rfl rfl (.sr (.a2 rfl (.done (.seq (.sr (.m2 rfl (.t2 (aS rfl rfl rfl) (.done (.condT rfl (.seq (.sr (.m2 rfl ?_))))))))))));refine .t2 (eI rfl rfl (by omega)) ?_;refine .m2 rfl (.g2 (aQ rfl) ?_);refine .g2 (bL rfl rfl (by omega)) ?_;refine .t2 (aH rfl rfl) (.done (.condT rfl (.sr (.m2 rfl (Rg.wd trivial (aC Tryz.call219 rfl (Ea h)) rfl ?_)))));rintro _ _ ⟨rfl,rfl⟩;refine .a2 rfl (.done (Wp.ret ?_));exact ⟨[_],⟨rfl,trivial⟩,rfl,rfl⟩
 have h2 : ∀ w : World,Cl Tryz.prog 151 #[.int .i64 n] w (fun u w' => u = .string (oT n) ∧ w = w') := fun w => by
  refine Cl.enter Tryz.func151 rfl Tryz.ntmps151 rfl rfl (.sr (.a2 rfl (.done (.sr (.m2 rfl (Rg.wd trivial (aC Tryz.call187 rfl (h3 _)) rfl ?_))))));rintro _ _ ⟨rfl,rfl⟩;refine .a2 rfl (.done (Wp.ret ?_));exact ⟨[_],⟨rfl,trivial⟩,rfl,rfl⟩
 refine Cl.enter Tryz.func117 rfl Tryz.ntmps117 rfl rfl (.sr (.a2 rfl (.done (.sr (.m2 rfl (Rg.wd trivial (aC Tryz.call151 rfl (h2 _)) rfl ?_))))));rintro _ _ ⟨rfl,rfl⟩;refine .a2 rfl (.done (Wp.ret ?_));exact ⟨[_],⟨rfl,trivial⟩,rfl,rfl⟩
theorem qK {w : World} (hA : Asc w) : Cl Tryz.prog 111 #[.int .i64 3] w (fun u w' => u = .string Jg ∧ Ext w w') := by
 have el : (Lib.fields jN.data.toList).length = gB.length := by unfold gB; rw [List.length_map]
 have hx := Ext.refl w;refine Cl.enter Tryz.func111 rfl Tryz.ntmps111 rfl rfl (.sr (.a2 rfl (.done (.seq (.sr (.m2 rfl ?_))))));refine .t2 (eT rfl rfl (by omega)) ?_;refine .done (.condF rfl (Wp.skip (.sr ?_)));refine Rg.wd trivial (aC Tryz.call106 rfl (Lexi.jV (s := jN) (by decide) (by decide +kernel) hA)) rfl ?_;rintro _ w1 ⟨⟨b,rfl,hv⟩,hx1⟩;replace hx := hx.ext hx1;rw [el];have hk8 : gB.length = 8 := lL;have hsl : SlC w1 (.slice (some ⟨b,0,none⟩) gB.length gB.length) 1 gB.length (aR tP gB) := dL (size := 1) (by
  have e : aR tP gB = gB.map .string := by unfold aR tP; induction gB with | nil => rfl | cons a l ih => simpa using ih
  rw [e]; exact hv) (by rw [bB nJ])
 refine .m2 rfl ?_;refine .t2 (eM rfl rfl (by omega)) ?_;rw [show (3 : Int) - 2 = ((1 : Nat) : Int) from rfl];refine Rg.ix hsl trivial rfl rfl Tryz.underlying74 fV (by omega) rfl ?_;intro bt8 ot8 ht8;rw [Int.toNat_natCast,cN nJ gB 1 (by rw [hk8]; decide)] at ht8;have hk1 := (List.getElem?_eq_some_iff.1 (show gB[1]? = some Jg by decide +kernel)).2;rw [hk1] at ht8;refine .t2 (aB fV rfl (bH.get (i := 0) ht8 rfl)) (.a2 rfl (.done (Wp.ret ?_)));exact ⟨[_],⟨rfl,trivial⟩,rfl,hx⟩
theorem Eb {a : An} (h : tR a = true) : a.hd.kind = 27 ∨ a.hd.kind = 1 ∨ a.hd.kind = 21 ∨ a.hd.kind = 39 ∨ a.hd.kind = 3 := by
 obtain ⟨hd,ks⟩ := a;rw [tR] at h;simp only [Bool.or_eq_true,Bool.and_eq_true,beq_iff_eq,decide_eq_true_eq] at h
 show hd.kind = 27 ∨ hd.kind = 1 ∨ hd.kind = 21 ∨ hd.kind = 39 ∨ hd.kind = 3
 rcases h with ((h | h) | h) | h
 ·exact .inl h.1.1
 ·rcases h.1 with e | e
  ·exact .inr (.inl e)
  ·exact .inr (.inr (.inl e))
 ·exact .inr (.inr (.inr (.inl h.1.1)))
 ·exact .inr (.inr (.inr (.inr h.1.1)))
theorem Ec {F : Fs} {w : World} {b : Nat} {T : List BA} {hd : Hd} {cv : Value} {kids : List Mn} (h : Pn F w b T) (hg : NOk F w (.mk hd cv kids)) (hl : T.length + 8 * anc (Mn.mk hd cv kids).er ≤ 900000) (hk : hd.kind = 27) (h0 : 0 ≤ hd.value) (h9 : hd.value < 10) :
  Cl Tryz.prog 66 #[.pointer (some ⟨b,0,none⟩),.agg (Mn.mk hd cv kids).cells.toArray] w (fun _ w' => Pn F w' b (T ++ kC (Mn.mk hd cv kids).er) ∧ Bw F w w') := by
 have ha : anc (Mn.mk hd cv kids).er = cY (dA kids) + 1 := rfl;obtain ⟨n,hn⟩ : ∃ n : Nat,hd.value = n := ⟨hd.value.toNat,by omega⟩;refine Cl.enter Tryz.func66 rfl Tryz.ntmps66 rfl rfl (.sr (Rg.wd trivial (aO (cs := (Mn.mk hd cv kids).cells) rfl rfl) rfl ?_));rintro _ w1 ⟨b3,rfl,q3,hx1,hv3⟩;have hB1 : Bw F w w1 := Bw.of hx1 h.und;have hC := h.add hx1 (Nat.le_of_eq q3.symm) hv3.lt;obtain ⟨F2,a⟩ : ∃ F2 : Fs,(fun z => F z ∨ z = b3) = F2 := ⟨_,rfl⟩;have hFF : ∀ z,F z → F2 z := fun z hz => by rw [← a]; exact .inl hz
 have h3F : F2 b3 := by rw [← a]; exact .inr rfl
 rw [a] at hC;have hg2 : NOk F2 w1 ((Mn.mk hd cv kids)) := (hg.bw hB1 fun z hz => hz).mono hFF;have hB := Bw.refl F2 w1;refine .done (.sr (.t2 (aA aW rfl) (.t2 (aB bA rfl (hv3.g 0 rfl)) (.done (Wp.block (.sr (.t2 (aS rfl rfl hk) (.a2 rfl (.done (.condT rfl (Wp.region (.m2 rfl ?_))))))))))));refine .t2 (aA cJ rfl) (.t2 (aB bA rfl (hv3.g 1 rfl)) ?_);rw [hn];refine Rg.wd trivial (aC Tryz.call117 rfl (Gv (n := n) (by omega))) rfl ?_;rintro _ _ ⟨rfl,rfl⟩;refine Rg.wd trivial (aE (aT _) rfl) rfl ?_;rintro _ w2 ⟨bt,rfl,qt,hx2,hvt⟩;replace hB := hB.trans (Bw.of hx2 hC.und);replace hC := hC.ext hx2;replace hv3 := hv3.ext hx2;refine Rg.wd trivial (aC Tryz.call109 rfl (mO (ts := [oT n]) hC (dL hvt rfl) (Nat.succ_pos _) (by simp only [List.length_append,List.length_cons,List.length_nil]; omega))) rfl ?_;rintro _ w3 ⟨hCn,hBn⟩;replace hB := hB.trans hBn;replace hv3 := aD hv3 hBn h3F;clear hC;have hC := hCn;clear hCn hBn;refine .done ?_;refine ⟨[],trivial,?_,hB1.trans (hB.sub hFF)⟩;have e : kC (Mn.mk hd cv kids).er = [oT n] := by
  show kC (.mk hd (dA kids)) = _
  rw [kC,if_neg (by omega),if_neg (by omega),if_pos hk,hn]
 rw [e];exact hC.sub hFF
theorem Ed {F : Fs} {w : World} {b : Nat} {T : List BA} {hd : Hd} {cv : Value} {k1 k2 : Mn} (hN1 : NC k1) (hN2 : NC k2) (ho1 : tR k1.er = true) (ho2 : tR k2.er = true) (hAF : AscF F w) (h : Pn F w b T) (hg : NOk F w (.mk hd cv [k1,k2])) (hl : T.length + 8 * anc (Mn.mk hd cv [k1,k2]).er ≤ 900000) (hk : hd.kind = 39) :
  Cl Tryz.prog 66 #[.pointer (some ⟨b,0,none⟩),.agg (Mn.mk hd cv [k1,k2]).cells.toArray] w (fun _ w' => Pn F w' b (T ++ kC (Mn.mk hd cv [k1,k2]).er) ∧ Bw F w w') := by
 have ha : anc (Mn.mk hd cv [k1,k2]).er = anc k1.er + (anc k2.er + 0) + 1 := rfl;have h1 := tV k1.er;have h2 := tU k1.er.hd.kind (kC k1.er);have hne : ∀ w',NOk F w' (.mk hd cv [k1,k2]) → NOk F w' (.mk hd cv [k1,k2]) := fun _ h => h;refine Cl.enter Tryz.func66 rfl Tryz.ntmps66 rfl rfl (.sr (Rg.wd trivial (aO (cs := (Mn.mk hd cv [k1,k2]).cells) rfl rfl) rfl ?_));rintro _ w1 ⟨b3,rfl,q3,hx1,hv3⟩;have hB1 : Bw F w w1 := Bw.of hx1 h.und;have hC := h.add hx1 (Nat.le_of_eq q3.symm) hv3.lt;obtain ⟨F2,a⟩ : ∃ F2 : Fs,(fun z => F z ∨ z = b3) = F2 := ⟨_,rfl⟩;have hFF : ∀ z,F z → F2 z := fun z hz => by rw [← a]; exact .inl hz
 have h3F : F2 b3 := by rw [← a]; exact .inr rfl
 rw [a] at hC;have hg2 : NOk F2 w1 ((Mn.mk hd cv [k1,k2])) := (hg.bw hB1 fun z hz => hz).mono hFF;have hB := Bw.refl F2 w1;refine .done (.sr (.t2 (aA aW rfl) (.t2 (aB bA rfl (hv3.g 0 rfl)) (.done (Wp.block (.sr ?_))))));refine .t2 (aP rfl rfl (by omega)) ?_;refine .a2 rfl (.done (.condF rfl (.sr ?_)));refine .t2 (aP rfl rfl (by omega)) ?_;refine .a2 rfl (.done (.condF rfl (.sr ?_)));refine .t2 (aP rfl rfl (by omega)) ?_;refine .a2 rfl (.done (.condF rfl (.sr ?_)));refine .t2 (aP rfl rfl (by omega)) ?_;refine .a2 rfl (.done (.condF rfl (.sr ?_)));refine .t2 (aP rfl rfl (by omega)) ?_;refine .a2 rfl (.done (.condF rfl (.sr ?_)));refine .t2 (aP rfl rfl (by omega)) ?_;refine .a2 rfl (.done (.condF rfl (.sr ?_)));refine .t2 (aS rfl rfl (by omega)) ?_;refine .a2 rfl (.done (.condT rfl (.sr (.m2 rfl ?_))));refine .t2 (aY rfl hv3.cells (by rw [Mn.len]; exact bF)) ?_;refine Rg.wd trivial (aC Tryz.call112 rfl (jE (i := 0) (hg2.bw hB fun z hz => hz) hC.und (by omega))) rfl ?_;rintro _ w2 ⟨⟨xt71,rfl,hxt71o,hxt71e⟩,hx2⟩;replace hB := hB.trans (Bw.of hx2 hC.und);replace hC := hC.ext hx2;replace hv3 := hv3.ext hx2;obtain rfl : k1 = xt71 := hxt71e.symm
 
 refine Rg.wd trivial (aC Tryz.call119 rfl (qJ (g := k1) hN1 (((hAF.step hB1).sub hFF).step hB) hC hxt71o (by omega) (Eb ho1))) rfl ?_;rintro _ w3 ⟨hCn,hBn⟩;replace hB := hB.trans hBn;replace hv3 := aD hv3 hBn h3F;clear hC;have hC := hCn;clear hCn hBn;refine .done (.sr (.m2 rfl (.t2 (aA cV rfl) (.t2 (aB fV rfl (hv3.g 2 rfl)) (Rg.wd trivial (aE (aT _) rfl) rfl ?_)))));rintro _ w4 ⟨bt,rfl,qt,hx4,hvt⟩;replace hB := hB.trans (Bw.of hx4 hC.und);replace hC := hC.ext hx4;replace hv3 := hv3.ext hx4;refine Rg.wd trivial (aC Tryz.call109 rfl (mO (ts := [hd.text]) hC (dL hvt rfl) (Nat.succ_pos _) (by simp only [List.length_append,List.length_cons,List.length_nil]; omega))) rfl ?_;rintro _ w5 ⟨hCn,hBn⟩;replace hB := hB.trans hBn;replace hv3 := aD hv3 hBn h3F;clear hC;have hC := hCn;clear hCn hBn;refine .done (Wp.region (.m2 rfl ?_));refine .t2 (aY rfl hv3.cells (by rw [Mn.len]; exact bF)) ?_;refine Rg.wd trivial (aC Tryz.call112 rfl (jE (i := 1) (hg2.bw hB fun z hz => hz) hC.und (by omega))) rfl ?_;rintro _ w6 ⟨⟨xt80,rfl,hxt80o,hxt80e⟩,hx6⟩;replace hB := hB.trans (Bw.of hx6 hC.und);replace hC := hC.ext hx6;replace hv3 := hv3.ext hx6;obtain rfl : k2 = xt80 := hxt80e.symm;refine Rg.wd trivial (aC Tryz.call119 rfl (qJ (g := k2) hN2 (((hAF.step hB1).sub hFF).step hB) hC hxt80o (by simp only [List.length_append,List.length_cons,List.length_nil]; omega) (Eb ho2))) rfl ?_;rintro _ w7 ⟨hCn,hBn⟩;replace hB := hB.trans hBn;replace hv3 := aD hv3 hBn h3F;clear hC;have hC := hCn;clear hCn hBn;refine .done ?_;refine ⟨[],trivial,?_,hB1.trans (hB.sub hFF)⟩;have e : kC (Mn.mk hd cv [k1,k2]).er = Bk k1.er.hd.kind (kC k1.er) ++ [hd.text] ++ Bk k2.er.hd.kind (kC k2.er) := by
  show kC (.mk hd [k1.er,k2.er]) = _
  rw [kC,if_neg (by omega),if_neg (by omega),if_neg (by omega),if_neg (by omega),if_pos hk];rfl
 rw [e,← List.append_assoc,← List.append_assoc];exact hC.sub hFF
theorem Bg {F : Fs} {w : World} {b : Nat} {g : Mn} (hg : NOk F w g) (hU : Und F w.heap.size) (hn : g.kids = []) (hk : g.er.hd.kind = 10) : Cl Tryz.prog 31 #[.pointer (some ⟨b,0,none⟩),.agg g.cells.toArray] w (fun _ w' => Ext w w') := by
 have hx := Ext.refl w;obtain ⟨hd,cv,kids⟩ := g;replace hk : hd.kind = 10 := hk;refine Cl.enter Tryz.func31 rfl Tryz.ntmps31 rfl rfl (.sr (Rg.wd trivial (aO (cs := (Mn.mk hd cv kids).cells) rfl rfl) rfl ?_));rintro _ w1 ⟨b3,rfl,q3,hx1,hv3⟩;replace hx := hx.ext hx1;refine .done (Wp.block (.sr (.t2 (aA aW rfl) (.t2 (aB bA rfl (hv3.g 0 rfl)) ?_))));refine .t2 (aP rfl rfl (by omega)) ?_;refine .a2 rfl (.done (.condF rfl (.sr (.t2 (aA aW rfl) (.t2 (aB bA rfl (hv3.g 0 rfl)) ?_)))));refine .t2 (cZ rfl rfl (by omega)) ?_;refine .m2 rfl (.g2 (aA aW rfl) (.g2 (aB bA rfl (hv3.g 0 rfl)) ?_));refine .g2 (dN rfl rfl (by omega)) ?_;refine .t2 (aH rfl rfl) (.m2 rfl (.g2 (aA aW rfl) (.g2 (aB bA rfl (hv3.g 0 rfl)) ?_)));refine .g2 (aP rfl rfl (by omega)) ?_;refine .t2 (aJ rfl rfl) (.a2 rfl (.done (.condF rfl (.sr (.t2 (aA aW rfl) (.t2 (aB bA rfl (hv3.g 0 rfl)) ?_))))));refine .t2 (cZ rfl rfl (by omega)) ?_;refine .m2 rfl (.g2 (aA aW rfl) (.g2 (aB bA rfl (hv3.g 0 rfl)) ?_));refine .g2 (eI rfl rfl (by omega)) ?_;refine .t2 (aH rfl rfl) (.a2 rfl (.done (.condT rfl (Wp.region (.m2 rfl ?_)))));refine .t2 (aY rfl hv3.cells (by rw [Mn.len]; exact bF)) ?_;refine Rg.wd trivial (aC Tryz.call64 rfl (D9 (g := .mk hd cv kids) hn hk (hg.bw (Bw.of hx hU) fun z hz => hz))) rfl ?_;rintro _ w2 hx2;replace hx := hx.ext hx2;replace hv3 := hv3.ext hx2;refine .done ?_;exact ⟨[],trivial,hx⟩
theorem Gw {F : Fs} {w : World} {b : Nat} {T : List BA} {hd : Hd} {cv : Value} {g1 g2 g3 g4 : Mn} (hAF : AscF F w) (hN : NC g4) (e1 : g1.er.hd.kind = 10) (e2 : g1.kids = []) (e3 : g2.kids = []) (e4 : g3.er.hd.kind = 0) (e5 : g4.er.hd.kind ≠ 0)
  (h : Pn F w b T) (hg : NOk F w (.mk hd cv [g1,g2,g3,g4])) (hl : T.length + 8 * anc (Mn.mk hd cv [g1,g2,g3,g4]).er ≤ 900000) (hk : hd.kind = 3) :
  Cl Tryz.prog 63 #[.pointer (some ⟨b,0,none⟩),.agg (Mn.mk hd cv [g1,g2,g3,g4]).cells.toArray] w (fun _ w' => Pn F w' b (T ++ kC (Mn.mk hd cv [g1,g2,g3,g4]).er) ∧ Bw F w w') := by
 have ha : anc (Mn.mk hd cv [g1,g2,g3,g4]).er = anc g1.er + (anc g2.er + (anc g3.er + (anc g4.er + 0))) + 1 := rfl;obtain ⟨tp,htp⟩ : ∃ tp : BA,(if D2 hd.value 1 = 1 then It else .empty) = tp := ⟨_,rfl⟩;refine Cl.enter Tryz.func63 rfl Tryz.ntmps63 rfl rfl (.sr (Rg.wd trivial (aO (cs := (Mn.mk hd cv [g1,g2,g3,g4]).cells) rfl rfl) rfl ?_));rintro _ w1 ⟨b3,rfl,q3,hx1,hv3⟩;have hB1 : Bw F w w1 := Bw.of hx1 h.und;have hC := h.add hx1 (Nat.le_of_eq q3.symm) hv3.lt;obtain ⟨F2,d⟩ : ∃ F2 : Fs,(fun z => F z ∨ z = b3) = F2 := ⟨_,rfl⟩;have hFF : ∀ z,F z → F2 z := fun z hz => by rw [← d]; exact .inl hz
 have h3F : F2 b3 := by rw [← d]; exact .inr rfl
 rw [d] at hC;have hg2 : NOk F2 w1 ((Mn.mk hd cv [g1,g2,g3,g4])) := (hg.bw hB1 fun z hz => hz).mono hFF;have hB := Bw.refl F2 w1;refine .done ?_;refine Wp.seq (Wp.draw [0,1,3,4,2,5,6,7] [0] mixed (by kernel_rfl) (by kernel_rfl) ?_);intro w2 hx2 _;replace hv3 := hv3.ext hx2;replace hB := hB.trans (Bw.of hx2 hC.und);replace hC := hC.ext hx2;refine .m2 rfl ?_;refine .t2 (aY rfl hv3.cells (by rw [Mn.len]; exact bF)) ?_;refine .t2 (aA aW rfl) (.t2 (aB bA rfl (hv3.g 0 rfl)) ?_);rw [hk];refine Rg.wdB trivial rfl (aC Tryz.call110 rfl Gs) rfl (fun _ _ h => h.2.below) ?_;rintro _ w3 ⟨rfl,hx3⟩;replace hB := hB.trans (Bw.of hx3 hC.und);replace hC := hC.ext hx3;replace hv3 := hv3.ext hx3;rw [show (⟨#[112,117,98]⟩ : ByteArray) = It from rfl,htp];refine Rg.wdB trivial rfl (aC Tryz.call111 rfl (qK (((hAF.step hB1).sub hFF).step hB).here)) rfl (fun _ _ h => h.2.below) ?_;rintro _ w4 ⟨rfl,hx4⟩;replace hB := hB.trans (Bw.of hx4 hC.und);replace hC := hC.ext hx4;replace hv3 := hv3.ext hx4;refine Rg.wdB trivial rfl (aE (dK _ _) rfl) rfl (fun _ _ h => by obtain ⟨_,_,_,hx,_⟩ := h; exact hx.below) ?_;rintro _ w5 ⟨bt,rfl,qt,hx5,hvt⟩;replace hB := hB.trans (Bw.of hx5 hC.und);replace hC := hC.ext hx5;replace hv3 := hv3.ext hx5;refine nT trivial rfl (aC Tryz.call109 rfl (mO (ts := [tp,Jg]) hC (dL hvt rfl) (Nat.succ_pos _) (by simp only [List.length_append,List.length_cons,List.length_nil]; omega))) rfl (by rfl) ?_;rintro _ w6 ⟨hCn,hBn⟩;replace hB := hB.trans hBn;replace hv3 := aD hv3 hBn h3F;clear hC;have hC := hCn;clear hCn hBn;refine .done (.seq (.sr (.t2 (aA aW rfl) (.t2 (aB bA rfl (hv3.g 0 rfl)) ?_))));refine .t2 (cU rfl rfl (by omega)) ?_;refine .m2 rfl (.g2 (aA aW rfl) (.g2 (aB bA rfl (hv3.g 0 rfl)) ?_));refine .g2 (cU rfl rfl (by omega)) ?_;refine .t2 (aH rfl rfl) (.done (.condT rfl (Wp.region (.m2 rfl (.t2 (aA cV rfl) (.t2 (aB fV rfl (hv3.g 2 rfl)) (Rg.wd trivial (aE (aT _) rfl) rfl ?_)))))));rintro _ w7 ⟨bt,rfl,qt,hx7,hvt⟩;replace hB := hB.trans (Bw.of hx7 hC.und)
 replace hC := hC.ext hx7;replace hv3 := hv3.ext hx7;refine Rg.wd trivial (aC Tryz.call109 rfl (mO (ts := [hd.text]) hC (dL hvt rfl) (Nat.succ_pos _) (by simp only [List.length_append,List.length_cons,List.length_nil]; omega))) rfl ?_;rintro _ w8 ⟨hCn,hBn⟩;replace hB := hB.trans hBn;replace hv3 := aD hv3 hBn h3F;clear hC;have hC := hCn;clear hCn hBn;refine .done (.sr (.t2 (aA aW rfl) (.t2 (aB bA rfl (hv3.g 0 rfl)) (.done (Wp.block (.sr ?_))))));refine .t2 (aP rfl rfl (by omega)) ?_;refine .a2 rfl (.done (.condF rfl (.sr ?_)));refine .t2 (aS rfl rfl (by omega)) ?_;refine .a2 rfl (.done (.condT rfl (.sr (.m2 rfl ?_))));refine .t2 (aY rfl hv3.cells (by rw [Mn.len]; exact bF)) ?_;refine Rg.wd trivial (aC Tryz.call112 rfl (jE (i := 0) (hg2.bw hB fun z hz => hz) hC.und (by omega))) rfl ?_;rintro _ w9 ⟨⟨xt55,rfl,hxt55o,hxt55e⟩,hx9⟩;replace hB := hB.trans (Bw.of hx9 hC.und);replace hC := hC.ext hx9;replace hv3 := hv3.ext hx9;obtain rfl : g1 = xt55 := hxt55e.symm;refine Rg.wd trivial (aC Tryz.call31 rfl (Bg hxt55o hC.und e2 e1)) rfl ?_;rintro _ w10 hx10;replace hB := hB.trans (Bw.of hx10 hC.und);replace hC := hC.ext hx10;replace hv3 := hv3.ext hx10;refine .done (.sr (.m2 rfl ?_));refine .t2 (aY rfl hv3.cells (by rw [Mn.len]; exact bF)) ?_;refine Rg.wd trivial (aC Tryz.call112 rfl (jE (i := 1) (hg2.bw hB fun z hz => hz) hC.und (by omega))) rfl ?_;rintro _ w11 ⟨⟨xt59,rfl,hxt59o,hxt59e⟩,hx11⟩;replace hB := hB.trans (Bw.of hx11 hC.und);replace hC := hC.ext hx11;replace hv3 := hv3.ext hx11;obtain rfl : g2 = xt59 := hxt59e.symm;obtain ⟨hd2,cv2,kids2⟩ := g2;obtain rfl : kids2 = [] := e3;have hs2 : SlC w11 cv2 7 0 [] ∧ gK F2 cv2 := by cases hxt59o with | mk a _ c _ => exact ⟨a,c⟩
 refine .t2 (lN (v := cv2) rfl (fun w => by kernel_rfl)) ?_;refine Rg.wd trivial (aC Tryz.call113 rfl (lI (kids := []) (fun g hg => by cases hg) (((hAF.step hB1).sub hFF).step hB) hC hs2.1 hs2.2 (fun g hg => by cases hg) (by simp only [dA,cY,List.length_append,List.length_cons,List.length_nil]; omega))) rfl ?_;rintro _ w12 ⟨hCn,hBn⟩;replace hB := hB.trans hBn;replace hv3 := aD hv3 hBn h3F;clear hC;have hC := hCn;clear hCn hBn;refine .done (.sr (.m2 rfl ?_));refine .t2 (aY rfl hv3.cells (by rw [Mn.len]; exact bF)) ?_;refine Rg.wd trivial (aC Tryz.call112 rfl (jE (i := 2) (hg2.bw hB fun z hz => hz) hC.und (by omega))) rfl ?_;rintro _ w13 ⟨⟨xt64,rfl,hxt64o,hxt64e⟩,hx13⟩;replace hB := hB.trans (Bw.of hx13 hC.und);replace hC := hC.ext hx13;replace hv3 := hv3.ext hx13;obtain rfl : g3 = xt64 := hxt64e.symm;refine Rg.wd trivial (aC Tryz.call114 rfl (rA e4)) rfl ?_;rintro _ w14 hx14;replace hB := hB.trans (Bw.of hx14 hC.und);replace hC := hC.ext hx14;replace hv3 := hv3.ext hx14;refine .done (.seq (.sr ?_));refine .t2 (aY rfl hv3.cells (by rw [Mn.len]; exact bF)) ?_;refine Rg.wd trivial (aC Tryz.call112 rfl (jE (i := 3) (hg2.bw hB fun z hz => hz) hC.und (by omega))) rfl ?_;rintro _ w15 ⟨⟨xt67,rfl,hxt67o,hxt67e⟩,hx15⟩;replace hB := hB.trans (Bw.of hx15 hC.und);replace hC := hC.ext hx15;replace hv3 := hv3.ext hx15;obtain rfl : g4 = xt67 := hxt67e.symm;obtain ⟨hd4,cv4,kids4⟩ := g4;replace e5 : hd4.kind ≠ 0 := e5;refine .t2 (lN (v := .int .i64 hd4.kind) rfl (fun w => by kernel_rfl)) ?_;refine .t2 (aP rfl rfl e5) (.done (.condF rfl (Wp.skip (Wp.region (.m2 rfl ?_)))));refine .t2 (aY rfl hv3.cells (by rw [Mn.len]; exact bF)) ?_;refine Rg.wd trivial (aC Tryz.call112 rfl (jE (i := 3) (hg2.bw hB fun z hz => hz) hC.und (by omega))) rfl ?_;rintro _ w16 ⟨⟨xt75,rfl,hxt75o,hxt75e⟩,hx16⟩;replace hB := hB.trans (Bw.of hx16 hC.und);replace hC := hC.ext hx16;replace hv3 := hv3.ext hx16;obtain rfl : Mn.mk hd4 cv4 kids4 = xt75 := hxt75e.symm
 refine Rg.wd trivial (aC Tryz.call31 rfl (hN F2 _ b _ (((hAF.step hB1).sub hFF).step hB) hC hxt75o (by simp only [List.length_append,List.length_cons,List.length_nil,dA,kS,gU]; omega))) rfl ?_;rintro _ w17 ⟨hCn,hBn⟩;replace hB := hB.trans hBn;replace hv3 := aD hv3 hBn h3F;clear hC;have hC := hCn;clear hCn hBn;refine .done ?_;refine ⟨[],trivial,?_,hB1.trans (hB.sub hFF)⟩;have e : kC (Mn.mk hd cv [g1,.mk hd2 cv2 [],g3,.mk hd4 cv4 kids4]).er = [tp,Jg,hd.text,⟨#[40]⟩,⟨#[41]⟩] ++ kC (Mn.mk hd4 cv4 kids4).er := by
  show kC (.mk hd [_,_,_,_]) = _
  rw [kC,if_neg (by omega),if_neg (by omega),if_neg (by omega),if_pos hk,htp];rfl
 rw [e];have h5 := hC.sub hFF
 simpa [dA,kS,gU] using h5
def NCf (f : Nat) (g : Mn) : Prop := ∀ (F : Fs) (w : World) (b : Nat) (T : List BA),AscF F w → Pn F w b T → NOk F w g → T.length + 8 * anc g.er ≤ 900000 →
 Cl Tryz.prog f #[.pointer (some ⟨b,0,none⟩),.agg g.cells.toArray] w (fun _ w' => Pn F w' b (T ++ kC g.er) ∧ Bw F w w')
theorem Bh {hd : Hd} {cv : Value} {kids : List Mn} (hN : ∀ g ∈ kids,NC g) (hk : hd.kind = 1) : NC (.mk hd cv kids) := by
 intro F w b T hAF h hg hl;have hs : SlC w cv 7 kids.length (aR Mn.cells kids) ∧ gK F cv ∧ ∀ g ∈ kids,NOk F w g := by cases hg with | mk a _ c d => exact ⟨a,c,d⟩
 have ha : anc (Mn.mk hd cv kids).er = cY (dA kids) + 1 := rfl;refine Cl.enter Tryz.func31 rfl Tryz.ntmps31 rfl rfl (.sr (Rg.wd trivial (aO (cs := (Mn.mk hd cv kids).cells) rfl rfl) rfl ?_));rintro _ w1 ⟨b3,rfl,q3,hx1,hv3⟩;have hB1 : Bw F w w1 := Bw.of hx1 h.und;have hC := h.add hx1 (Nat.le_of_eq q3.symm) hv3.lt;obtain ⟨F2,f⟩ : ∃ F2 : Fs,(fun z => F z ∨ z = b3) = F2 := ⟨_,rfl⟩;have hFF : ∀ z,F z → F2 z := fun z hz => by rw [← f]; exact .inl hz
 have h3F : F2 b3 := by rw [← f]; exact .inr rfl
 rw [f] at hC;have hg2 : NOk F2 w1 ((Mn.mk hd cv kids)) := (hg.bw hB1 fun z hz => hz).mono hFF;have hB := Bw.refl F2 w1;refine .done (Wp.block (.sr (.t2 (aA aW rfl) (.t2 (aB bA rfl (hv3.g 0 rfl)) ?_))));refine .t2 (aS rfl rfl (by omega)) ?_;refine .a2 rfl (.done (.condT rfl (Wp.region (.m2 rfl (.t2 (aA bZ rfl) (.t2 (aB eG rfl (hv3.g 6 rfl)) ?_))))));refine Rg.wd trivial (aC Tryz.call62 rfl (zO (kids := kids) hN ((hAF.step hB1).sub hFF) hC (hZ hs.1 hB1 hs.2.1) (fun z hz => hFF z (hs.2.1 z hz)) (fun g hg => ((hs.2.2 g hg).bw hB1 fun z hz => hz).mono hFF) (by omega))) rfl ?_;rintro _ w2 ⟨hCn,hBn⟩;replace hB := hB.trans hBn;replace hv3 := aD hv3 hBn h3F;clear hC;have hC := hCn;clear hCn hBn;refine .done ?_;refine ⟨[],trivial,?_,hB1.trans (hB.sub hFF)⟩;have e : kC (Mn.mk hd cv kids).er = gU .empty (kS (dA kids)) := by
  show kC (.mk hd (dA kids)) = _
  rw [kC,if_pos hk]
 rw [e];exact hC.sub hFF
theorem Iu {hd : Hd} {cv : Value} {kids : List Mn} (hI : NCf 63 (.mk hd cv kids)) (hk : hd.kind = 3) : NC (.mk hd cv kids) := by
 intro F w b T hAF h hg hl;refine Cl.enter Tryz.func31 rfl Tryz.ntmps31 rfl rfl (.sr (Rg.wd trivial (aO (cs := (Mn.mk hd cv kids).cells) rfl rfl) rfl ?_));rintro _ w1 ⟨b3,rfl,q3,hx1,hv3⟩;have hB1 : Bw F w w1 := Bw.of hx1 h.und;have hC := h.add hx1 (Nat.le_of_eq q3.symm) hv3.lt;obtain ⟨F2,a⟩ : ∃ F2 : Fs,(fun z => F z ∨ z = b3) = F2 := ⟨_,rfl⟩;have hFF : ∀ z,F z → F2 z := fun z hz => by rw [← a]; exact .inl hz
 have h3F : F2 b3 := by rw [← a]; exact .inr rfl
 rw [a] at hC;have hg2 : NOk F2 w1 ((Mn.mk hd cv kids)) := (hg.bw hB1 fun z hz => hz).mono hFF;have hB := Bw.refl F2 w1;refine .done (Wp.block (.sr (.t2 (aA aW rfl) (.t2 (aB bA rfl (hv3.g 0 rfl)) ?_))));refine .t2 (aP rfl rfl (by omega)) ?_;refine .a2 rfl (.done (.condF rfl (.sr (.t2 (aA aW rfl) (.t2 (aB bA rfl (hv3.g 0 rfl)) ?_)))));refine .t2 (cZ rfl rfl (by omega)) ?_;refine .m2 rfl (.g2 (aA aW rfl) (.g2 (aB bA rfl (hv3.g 0 rfl)) ?_));refine .g2 (eI rfl rfl (by omega)) ?_;refine .t2 (aH rfl rfl) (.m2 rfl (.so rfl rfl (.so rfl rfl (.so rfl rfl (.t2 (aH rfl rfl) (.a2 rfl (.done (.condT rfl (Wp.region (.m2 rfl ?_))))))))));refine .t2 (aY rfl hv3.cells (by rw [Mn.len]; exact bF)) ?_;refine Rg.wd trivial (aC Tryz.call63 rfl (hI F2 _ b T ((hAF.step hB1).sub hFF) hC hg2 hl)) rfl ?_;rintro _ w2 ⟨hCn,hBn⟩;replace hB := hB.trans hBn;replace hv3 := aD hv3 hBn h3F;clear hC;have hC := hCn;clear hCn hBn;refine .done ?_;exact ⟨[],trivial,hC.sub hFF,hB1.trans (hB.sub hFF)⟩
theorem Gy {hd : Hd} {cv : Value} {kids : List Mn} (hI : NCf 67 (.mk hd cv kids)) (hk : hd.kind = 21) : NC (.mk hd cv kids) := by
 intro F w b T hAF h hg hl;refine Cl.enter Tryz.func31 rfl Tryz.ntmps31 rfl rfl (.sr (Rg.wd trivial (aO (cs := (Mn.mk hd cv kids).cells) rfl rfl) rfl ?_));rintro _ w1 ⟨b3,rfl,q3,hx1,hv3⟩;have hB1 : Bw F w w1 := Bw.of hx1 h.und;have hC := h.add hx1 (Nat.le_of_eq q3.symm) hv3.lt;obtain ⟨F2,a⟩ : ∃ F2 : Fs,(fun z => F z ∨ z = b3) = F2 := ⟨_,rfl⟩;have hFF : ∀ z,F z → F2 z := fun z hz => by rw [← a]; exact .inl hz
 have h3F : F2 b3 := by rw [← a]; exact .inr rfl
 rw [a] at hC;have hg2 : NOk F2 w1 ((Mn.mk hd cv kids)) := (hg.bw hB1 fun z hz => hz).mono hFF;have hB := Bw.refl F2 w1;refine .done (Wp.block (.sr (.t2 (aA aW rfl) (.t2 (aB bA rfl (hv3.g 0 rfl)) ?_))));refine .t2 (aP rfl rfl (by omega)) ?_;refine .a2 rfl (.done (.condF rfl (.sr (.t2 (aA aW rfl) (.t2 (aB bA rfl (hv3.g 0 rfl)) ?_)))));refine .t2 (cZ rfl rfl (by omega)) ?_;refine .m2 rfl (.g2 (aA aW rfl) (.g2 (aB bA rfl (hv3.g 0 rfl)) ?_));refine .g2 (dN rfl rfl (by omega)) ?_;refine .t2 (aH rfl rfl) (.m2 rfl (.g2 (aA aW rfl) (.g2 (aB bA rfl (hv3.g 0 rfl)) ?_)));refine .g2 (aP rfl rfl (by omega)) ?_;refine .t2 (aJ rfl rfl) (.a2 rfl (.done (.condF rfl (.sr (.t2 (aA aW rfl) (.t2 (aB bA rfl (hv3.g 0 rfl)) ?_))))));refine .t2 (cZ rfl rfl (by omega)) ?_;refine .m2 rfl (.g2 (aA aW rfl) (.g2 (aB bA rfl (hv3.g 0 rfl)) ?_));refine .g2 (dN rfl rfl (by omega)) ?_;refine .t2 (aH rfl rfl) (.a2 rfl (.done (.condF rfl (.sr (.t2 (aA aW rfl) (.t2 (aB bA rfl (hv3.g 0 rfl)) ?_))))));refine .t2 (eN rfl rfl (by omega)) ?_;refine .m2 rfl (.so rfl rfl (.so rfl rfl (.so rfl rfl (.t2 (aJ rfl rfl) (.a2 rfl (.done (.condF rfl (.sr (.t2 (aA aW rfl) (.t2 (aB bA rfl (hv3.g 0 rfl)) ?_))))))))));refine .t2 (eN rfl rfl (by omega)) ?_;refine .m2 rfl (.so rfl rfl (.so rfl rfl (.so rfl rfl (.t2 (aJ rfl rfl) (.m2 rfl (.g2 (aA aW rfl) (.g2 (aB bA rfl (hv3.g 0 rfl)) ?_)))))));refine .g2 (eN rfl rfl (by omega)) ?_;refine .g2 (aQ rfl) (.so rfl rfl (.so rfl rfl (.so rfl rfl (.g2 (aJ rfl rfl) (.t2 (aJ rfl rfl) (.a2 rfl (.done (.condF rfl (Wp.region (.m2 rfl ?_))))))))));refine .t2 (aY rfl hv3.cells (by rw [Mn.len]; exact bF)) ?_;refine Rg.wd trivial (aC Tryz.call67 rfl (hI F2 _ b T ((hAF.step hB1).sub hFF) hC hg2 hl)) rfl ?_;rintro _ w2 ⟨hCn,hBn⟩;replace hB := hB.trans hBn;replace hv3 := aD hv3 hBn h3F;clear hC;have hC := hCn;clear hCn hBn;refine .done ?_;exact ⟨[],trivial,hC.sub hFF,hB1.trans (hB.sub hFF)⟩
theorem Gz {hd : Hd} {cv : Value} {kids : List Mn} (hI : NCf 66 (.mk hd cv kids)) (hk : hd.kind = 27) : NC (.mk hd cv kids) := by
 intro F w b T hAF h hg hl;refine Cl.enter Tryz.func31 rfl Tryz.ntmps31 rfl rfl (.sr (Rg.wd trivial (aO (cs := (Mn.mk hd cv kids).cells) rfl rfl) rfl ?_));rintro _ w1 ⟨b3,rfl,q3,hx1,hv3⟩;have hB1 : Bw F w w1 := Bw.of hx1 h.und;have hC := h.add hx1 (Nat.le_of_eq q3.symm) hv3.lt;obtain ⟨F2,a⟩ : ∃ F2 : Fs,(fun z => F z ∨ z = b3) = F2 := ⟨_,rfl⟩;have hFF : ∀ z,F z → F2 z := fun z hz => by rw [← a]; exact .inl hz
 have h3F : F2 b3 := by rw [← a]; exact .inr rfl
 rw [a] at hC;have hg2 : NOk F2 w1 ((Mn.mk hd cv kids)) := (hg.bw hB1 fun z hz => hz).mono hFF;have hB := Bw.refl F2 w1;refine .done (Wp.block (.sr (.t2 (aA aW rfl) (.t2 (aB bA rfl (hv3.g 0 rfl)) ?_))));refine .t2 (aP rfl rfl (by omega)) ?_;refine .a2 rfl (.done (.condF rfl (.sr (.t2 (aA aW rfl) (.t2 (aB bA rfl (hv3.g 0 rfl)) ?_)))));refine .t2 (cZ rfl rfl (by omega)) ?_;refine .m2 rfl (.g2 (aA aW rfl) (.g2 (aB bA rfl (hv3.g 0 rfl)) ?_));refine .g2 (dN rfl rfl (by omega)) ?_;refine .t2 (aH rfl rfl) (.m2 rfl (.g2 (aA aW rfl) (.g2 (aB bA rfl (hv3.g 0 rfl)) ?_)));refine .g2 (aP rfl rfl (by omega)) ?_;refine .t2 (aJ rfl rfl) (.a2 rfl (.done (.condF rfl (.sr (.t2 (aA aW rfl) (.t2 (aB bA rfl (hv3.g 0 rfl)) ?_))))));refine .t2 (cZ rfl rfl (by omega)) ?_;refine .m2 rfl (.g2 (aA aW rfl) (.g2 (aB bA rfl (hv3.g 0 rfl)) ?_));refine .g2 (dN rfl rfl (by omega)) ?_;refine .t2 (aH rfl rfl) (.a2 rfl (.done (.condF rfl (.sr (.t2 (aA aW rfl) (.t2 (aB bA rfl (hv3.g 0 rfl)) ?_))))));refine .t2 (cZ rfl rfl (by omega)) ?_;refine .m2 rfl (.g2 (aA aW rfl) (.g2 (aB bA rfl (hv3.g 0 rfl)) ?_));refine .g2 (dN rfl rfl (by omega)) ?_;refine .t2 (aH rfl rfl) (.a2 rfl (.done (.condF rfl (.sr (.t2 (aA aW rfl) (.t2 (aB bA rfl (hv3.g 0 rfl)) ?_))))));refine .t2 (cZ rfl rfl (by omega)) ?_;refine .m2 rfl (.g2 (aA aW rfl) (.g2 (aB bA rfl (hv3.g 0 rfl)) ?_));refine .g2 (eI rfl rfl (by omega)) ?_;refine .t2 (aH rfl rfl) (.m2 rfl (.so rfl rfl (.so rfl rfl (.so rfl rfl (.so rfl rfl (.so rfl rfl (.so rfl rfl (.so rfl rfl (.so rfl rfl (.t2 (aH rfl rfl) (.a2 rfl (.done ?_))))))))))));refine .condT rfl (Wp.region (.m2 rfl ?_));refine .t2 (aY rfl hv3.cells (by rw [Mn.len]; exact bF)) ?_;refine Rg.wd trivial (aC Tryz.call66 rfl (hI F2 _ b T ((hAF.step hB1).sub hFF) hC hg2 hl)) rfl ?_;rintro _ w2 ⟨hCn,hBn⟩;replace hB := hB.trans hBn;replace hv3 := aD hv3 hBn h3F;clear hC;have hC := hCn;clear hCn hBn;refine .done ?_;exact ⟨[],trivial,hC.sub hFF,hB1.trans (hB.sub hFF)⟩
theorem G0 {hd : Hd} {cv : Value} {kids : List Mn} (hI : NCf 66 (.mk hd cv kids)) (hk : hd.kind = 39) : NC (.mk hd cv kids) := by
 intro F w b T hAF h hg hl;refine Cl.enter Tryz.func31 rfl Tryz.ntmps31 rfl rfl (.sr (Rg.wd trivial (aO (cs := (Mn.mk hd cv kids).cells) rfl rfl) rfl ?_));rintro _ w1 ⟨b3,rfl,q3,hx1,hv3⟩;have hB1 : Bw F w w1 := Bw.of hx1 h.und;have hC := h.add hx1 (Nat.le_of_eq q3.symm) hv3.lt;obtain ⟨F2,a⟩ : ∃ F2 : Fs,(fun z => F z ∨ z = b3) = F2 := ⟨_,rfl⟩;have hFF : ∀ z,F z → F2 z := fun z hz => by rw [← a]; exact .inl hz
 have h3F : F2 b3 := by rw [← a]; exact .inr rfl
 rw [a] at hC;have hg2 : NOk F2 w1 ((Mn.mk hd cv kids)) := (hg.bw hB1 fun z hz => hz).mono hFF;have hB := Bw.refl F2 w1;refine .done (Wp.block (.sr (.t2 (aA aW rfl) (.t2 (aB bA rfl (hv3.g 0 rfl)) ?_))));refine .t2 (aP rfl rfl (by omega)) ?_;refine .a2 rfl (.done (.condF rfl (.sr (.t2 (aA aW rfl) (.t2 (aB bA rfl (hv3.g 0 rfl)) ?_)))));refine .t2 (cZ rfl rfl (by omega)) ?_;refine .m2 rfl (.g2 (aA aW rfl) (.g2 (aB bA rfl (hv3.g 0 rfl)) ?_));refine .g2 (dN rfl rfl (by omega)) ?_;refine .t2 (aH rfl rfl) (.m2 rfl (.g2 (aA aW rfl) (.g2 (aB bA rfl (hv3.g 0 rfl)) ?_)));refine .g2 (aP rfl rfl (by omega)) ?_;refine .t2 (aJ rfl rfl) (.a2 rfl (.done (.condF rfl (.sr (.t2 (aA aW rfl) (.t2 (aB bA rfl (hv3.g 0 rfl)) ?_))))));refine .t2 (cZ rfl rfl (by omega)) ?_;refine .m2 rfl (.g2 (aA aW rfl) (.g2 (aB bA rfl (hv3.g 0 rfl)) ?_));refine .g2 (dN rfl rfl (by omega)) ?_;refine .t2 (aH rfl rfl) (.a2 rfl (.done (.condF rfl (.sr (.t2 (aA aW rfl) (.t2 (aB bA rfl (hv3.g 0 rfl)) ?_))))));refine .t2 (cZ rfl rfl (by omega)) ?_;refine .m2 rfl (.g2 (aA aW rfl) (.g2 (aB bA rfl (hv3.g 0 rfl)) ?_));refine .g2 (dN rfl rfl (by omega)) ?_;refine .t2 (aH rfl rfl) (.a2 rfl (.done (.condF rfl (.sr (.t2 (aA aW rfl) (.t2 (aB bA rfl (hv3.g 0 rfl)) ?_))))));refine .t2 (cZ rfl rfl (by omega)) ?_;refine .m2 rfl (.g2 (aA aW rfl) (.g2 (aB bA rfl (hv3.g 0 rfl)) ?_));refine .g2 (dN rfl rfl (by omega)) ?_;refine .t2 (aH rfl rfl) (.m2 rfl (.g2 (aA aW rfl) (.g2 (aB bA rfl (hv3.g 0 rfl)) ?_)));refine .g2 (cZ rfl rfl (by omega)) ?_;refine .g2 (aQ rfl) (.g2 (aA aW rfl) (.g2 (aB bA rfl (hv3.g 0 rfl)) ?_));refine .g2 (eI rfl rfl (by omega)) ?_;refine .g2 (aH rfl rfl) (.t2 (aJ rfl rfl) (.a2 rfl (.done (.condT rfl (Wp.region (.m2 rfl ?_))))));refine .t2 (aY rfl hv3.cells (by rw [Mn.len]; exact bF)) ?_;refine Rg.wd trivial (aC Tryz.call66 rfl (hI F2 _ b T ((hAF.step hB1).sub hFF) hC hg2 hl)) rfl ?_;rintro _ w2 ⟨hCn,hBn⟩;replace hB := hB.trans hBn;replace hv3 := aD hv3 hBn h3F;clear hC;have hC := hCn;clear hCn hBn
 refine .done ?_;exact ⟨[],trivial,hC.sub hFF,hB1.trans (hB.sub hFF)⟩
theorem tX {l : List An} (h : zN 0 l = true) : ∀ a ∈ l,tR a = true := (Gp l).1 h
theorem aAe {a b c e : An} (h : zN 3 [a,b,c,e] = true) : tR e = true := by
 rw [zN,zN,zN] at h;exact tX h e List.mem_cons_self
theorem Ee : ∀ (n : Nat) (g : Mn),anc g.er ≤ n → tR g.er = true → NC g := by
 intro n
 induction n using Nat.strongRecOn with
 | _ n ih =>
  rintro ⟨hd,cv,kids⟩ hn ho;have ha : anc (Mn.mk hd cv kids).er = cY (dA kids) + 1 := rfl;have hlt : ∀ k ∈ kids,tR k.er = true → NC k := fun k hk hok => by
   have hm : k.er ∈ dA kids := by rw [fK]; exact List.mem_map_of_mem hk
   have := jC hm;exact ih _ (by omega) k (Nat.le_refl _) hok
  have ho' := ho;replace ho' : tR (.mk hd (dA kids)) = true := ho';rw [tR] at ho';simp only [Bool.or_eq_true,Bool.and_eq_true,beq_iff_eq,decide_eq_true_eq] at ho';have hall : zN 0 (dA kids) = true → ∀ k ∈ kids,NC k := fun h k hk => hlt k hk (tX h _ (by rw [fK]; exact List.mem_map_of_mem hk))
  rcases ho' with (((⟨⟨h27,h0⟩,h9⟩) | ⟨h1 | h21,hD⟩) | ⟨⟨h39,h2⟩,hD⟩) | ⟨⟨h3,hF⟩,hD⟩
  ·exact Gz (fun F w b T _ hC hg hl => Ec hC hg hl h27 h0 h9) h27
  ·exact Bh (hall hD) h1
  ·exact Gy (fun F w b T hA hC hg hl => tW (hall hD) hA hC hg hl h21) h21
  ·rw [cW] at h2
   match kids,h2,hlt with
   | [k1,k2],_,hlt =>
    have hm := tX hD;have o1 : tR k1.er = true := hm _ List.mem_cons_self;have o2 : tR k2.er = true := hm _ (List.mem_cons_of_mem _ List.mem_cons_self);exact G0 (fun F w b T hA hC hg hl => Ed (hlt _ List.mem_cons_self o1) (hlt _ (List.mem_cons_of_mem _ List.mem_cons_self) o2) o1 o2 hA hC hg hl h39) h39
  ·match kids,hlt with
   | [⟨h1,c1,k1⟩,⟨h2,c2,k2⟩,⟨h3',c3,k3⟩,⟨h4,c4,k4⟩],hlt =>
    replace hF : okF [.mk h1 (dA k1),.mk h2 (dA k2),.mk h3' (dA k3),.mk h4 (dA k4)] = true := hF;rw [okF] at hF;simp only [Bool.and_eq_true,beq_iff_eq,bne_iff_ne,ne_eq] at hF;obtain ⟨⟨⟨⟨⟨e1,e2⟩,e3⟩,e4⟩,e5⟩,e6⟩ := hF;have z1 : k1 = [] := by cases k1 with | nil => rfl | cons a l => cases e2
    have z2 : k2 = [] := by cases k2 with | nil => rfl | cons a l => cases e4
    have o4 : tR (Mn.mk h4 c4 k4).er = true := aAe hD;exact Iu (fun F w b T hA hC hg hl => Gw hA (hlt _ (by simp) o4) e1 z1 z2 e5 e6 hC hg hl h3) h3
   | [],_ => exact absurd (show (false : Bool) = true from hF) (by decide)
   | [⟨_,_,_⟩],_ => exact absurd (show (false : Bool) = true from hF) (by decide)
   | [⟨_,_,_⟩,⟨_,_,_⟩],_ => exact absurd (show (false : Bool) = true from hF) (by decide)
   | [⟨_,_,_⟩,⟨_,_,_⟩,⟨_,_,_⟩],_ => exact absurd (show (false : Bool) = true from hF) (by decide)
   | ⟨_,_,_⟩ :: ⟨_,_,_⟩ :: ⟨_,_,_⟩ :: _ :: _ :: _,_ => exact absurd (show (false : Bool) = true from hF) (by decide)
theorem yF : ∀ (n : Nat) (g : Mn),anc g.er ≤ n → ∀ (F : Fs) (w : World) (b c : Nat) (dep : Int),Und F w.heap.size → ¬ F b → NOk F w g → Var w b [.int .i64 c] 3 → anc g.er ≤ c → c ≤ 1000 → 0 ≤ dep → dep + anc g.er ≤ 31 →
  Cl Tryz.prog 30 #[.agg g.cells.toArray,.int .i64 dep,.pointer (some ⟨b,0,none⟩)] w (fun u w' => u = .bool false ∧ Var w' b [.int .i64 ((c - anc g.er : Nat) : Int)] 3 ∧ Bw F w w') := by
 intro n
 induction n using Nat.strongRecOn with
 | _ n ih =>
  rintro ⟨hd,cv,kids⟩ hn F w b c dep hU hFb hg hvb hc h1000 tI hd31;have hs : SlC w cv 7 kids.length (aR Mn.cells kids) ∧ gK F cv ∧ ∀ g ∈ kids,NOk F w g := by cases hg with | mk a _ c d => exact ⟨a,c,d⟩
  have ha : anc (Mn.mk hd cv kids).er = cY (dA kids) + 1 := rfl;rw [ha] at hn hc hd31 ⊢;have hkl := kB (dA kids);rw [cW] at hkl;have hxx := Ext.refl w;refine Cl.enter Tryz.func30 rfl Tryz.ntmps30 rfl rfl (.sr ?_);have lb := hvb.lt;refine Rg.wd trivial (aO (cs := (Mn.mk hd cv kids).cells) rfl rfl) rfl ?_;rintro _ w1 ⟨b3,rfl,q3,hx1,hv3⟩;replace hvb := hvb.ext hx1;replace hxx := hxx.ext hx1;have hbb : b ≠ b3 := by omega
  have l3 : ¬ F b3 := fun hz => by have := hU _ hz; omega
  refine .a2 rfl (.done (.seq (.sr (.m2 rfl (.t2 (aF rfl) (.t2 (aB bA rfl (hvb.g 0 rfl)) ?_))))))
  first | refine .tq (eM rfl rfl (by omega)) rfl ?_ | refine .tq (kN rfl rfl) rfl ?_
  rw [show (c : Int) - 1 = ((c - 1 : Nat) : Int) from by omega];refine .t2 (aF rfl) (Rg.wn trivial (cE hvb bA rfl rfl rfl rfl rfl) ?_);rintro _ wS ⟨huS,hvS⟩;have hv3' := hv3.upd huS (Ne.symm hbb);clear hvb hv3;have hv3 := hv3';have hvb : Var wS b [.int .i64 ((c - 1 : Nat) : Int)] 3 := hvS;have hBS := (Bw.of hxx hU).trans (Bw.upd huS hFb);have hsS := hZ hs.1 hBS hs.2.1;refine .done (.sr (.m2 rfl (.t2 (aF rfl) (.t2 (aB bA rfl (hvb.g 0 rfl)) ?_))));refine .t2 (bM rfl rfl (by omega)) ?_;refine .m2 rfl (.g2 (aQ rfl) ?_);refine .g2 (eT rfl rfl (by omega)) ?_;refine .t2 (aJ rfl rfl) (.done (.condF rfl (Wp.skip (.seq (.sr (.t2 (aA bZ rfl) (.t2 (aB eG rfl (hv3.g 6 rfl)) (.t2 (cM hsS Tryz.underlying24 rfl) (.m2 rfl (.done (Wp.block ?_)))))))))));refine Wp.loop (ι := Nat) (fun i => [(1,.int .i64 dep),(2,.pointer (some ⟨b,0,none⟩)),(23,cv),(24,.int .i64 kids.length),(25,.int .i64 i)])
   (fun i w' => i ≤ kids.length ∧ Bw F w w' ∧ Var w' b [.int .i64 ((c - 1 - cY (dA (kids.take i)) : Nat) : Int)] 3) (fun i => kids.length - i) 0 (by repeat (first | exact .nil | refine .cons rfl ?_)) ⟨Nat.zero_le _,hBS,by simpa [dA,cY] using hvb⟩ ?_
  clear hvS hv3 hsS hv3' hvb;rintro i wl ⟨hi,hB,hvb⟩
  by_cases hlt : i < kids.length
  ·have hxq := Ext.refl wl
   have hsi := hZ hs.1 hB hs.2.1;have hgi : NOk F wl kids[i] := (hs.2.2 _ (List.getElem_mem hlt)).bw hB fun z hz => hz;have hog := hgi.oneL;have hUl : Und F wl.heap.size := fun z hz => Nat.lt_of_lt_of_le (hU z hz) hB.size;have hsum : cY (dA (kids.take i)) + anc kids[i].er ≤ cY (dA kids) := by
    have e : kids = kids.take i ++ kids[i] :: kids.drop (i + 1) := by rw [← List.drop_eq_getElem_cons hlt,List.take_append_drop]
    have e2 := congrArg (fun l => cY (dA l)) e;simp only [kK,nI] at e2;rw [e2,dA,cY];omega
   have hnx : cY (dA (kids.take (i + 1))) = cY (dA (kids.take i)) + anc kids[i].er := by
    rw [List.take_succ_eq_append_getElem hlt,kK,nI,dA,cY,dA,cY];omega
   refine .sr ?_;refine .t2 (bL rfl rfl (by omega)) ?_;refine .done (.seq (.condT rfl (Wp.skip (.seq (Wp.block (.sr ?_))))));refine Rg.ix hsi trivial rfl rfl Tryz.underlying24 bF (by omega) rfl ?_;intro bt27 ot27 ht27;rw [Int.toNat_natCast,cN Mn.len kids i hlt] at ht27;refine .t2 (aY rfl ht27 (by rw [Mn.len]; exact bF)) ?_;have lb8 := hvb.lt;refine Rg.wd trivial (cH Tryz.zeroValue26 rfl) rfl ?_;rintro _ wab8 ⟨b8,rfl,qb8,f,h⟩;refine Rg.wn trivial (bY (cs := kids[i].cells) h rfl rfl rfl (by rw [Mn.len]; exact bF) (by rw [Mn.len]; rfl) (hog)) ?_;rintro _ w11 ⟨hub8,hv8⟩;have hx11 := f.upd hub8 (Nat.le_of_eq qb8.symm);clear h hub8 f;replace hxq := hxq.ext hx11;replace hsi := hsi.ext hx11;replace hvb := hvb.ext hx11;replace ht27 := ht27.ext hx11;clear qb8;refine .done (.sr ?_);refine .t2 (aY rfl hv8.cells (by rw [Mn.len]; exact bF)) ?_;refine .m2 rfl ?_
   first | refine .tq (bC rfl rfl (by omega)) rfl ?_ | refine .tq (bX rfl rfl) rfl ?_
   refine .m2 rfl ?_;refine Rg.wd trivial (aC Tryz.call30 rfl (ih (anc kids[i].er) (by omega) kids[i] (Nat.le_refl _) F _ b _ _ (fun z hz => Nat.lt_of_lt_of_le (hUl z hz) hxq.le) hFb (hgi.bw (Bw.of hxq hUl) fun z hz => hz) hvb (by omega) (by omega) (by omega) (by omega))) rfl ?_;rintro _ w20 ⟨rfl,hvb',hBB⟩;replace hBB := (Bw.of hxq hUl).trans hBB;refine .done (.condF rfl (Wp.skip (Wp.region ?_)))
   first | refine .tq (bC rfl rfl (by omega)) rfl ?_ | refine .tq (bX rfl rfl) rfl ?_
   refine .m2 rfl (.done ?_);refine ⟨i + 1,by repeat (first | exact .nil | refine .cons rfl ?_),⟨by omega,hB.trans hBB,?_⟩,by omega⟩;rw [hnx];rw [show c - 1 - (cY (dA (kids.take i)) + anc kids[i].er) = c - 1 - cY (dA (kids.take i)) - anc kids[i].er from by omega];exact hvb'
  ·skip
   refine .sr ?_;refine .t2 (bM rfl rfl (by omega)) ?_;refine .done (.seq (.condF rfl (Wp.exit (.sr (.a2 rfl (.done (Wp.ret ?_)))))));refine ⟨[_],⟨rfl,trivial⟩,rfl,?_,hB⟩;obtain rfl : i = kids.length := by omega
   rw [List.take_length] at hvb;rw [show c - (cY (dA kids) + 1) = c - 1 - cY (dA kids) from by omega];exact hvb
def zP (b t : BA) : BA := if t ≠ .empty ∧ 0 < b.size then b ++ ⟨#[32]⟩ ++ t else b ++ t
theorem mP {T : List BA} {i : Nat} (h : i < T.length) : gV (T.take (i + 1)) = zP (gV (T.take i)) T[i] := by
 unfold gV;rw [List.take_succ_eq_append_getElem h,List.foldl_append];rfl
theorem Ef (b t : BA) : b.size + t.size ≤ (zP b t).size ∧ (t ≠ .empty ∧ 0 < b.size → b.size + 1 + t.size ≤ (zP b t).size) := by
 unfold zP
 split
 ·rw [ByteArray.size_append,ByteArray.size_append]
  have e : (⟨#[32]⟩ : BA).size = 1 := rfl;rw [e];omega
 ·rename_i h
  rw [ByteArray.size_append];exact ⟨Nat.le_refl _,fun k => absurd k h⟩
theorem vV {T : List BA} : ∀ (k i : Nat),i + k = T.length → (gV (T.take i)).size ≤ (gV T).size
 | 0,i,h => by rw [List.take_of_length_le (by omega)]; exact Nat.le_refl _
 | k + 1,i,h => by
  have h1 := vV (T := T) k (i + 1) (by omega);rw [mP (by omega)] at h1;have := (Ef (gV (T.take i)) T[i]).1;omega
theorem Eg {B b : Nat} {bs : List Value} {w : World} (h : IsBuilder 121 5 B b bs w) : Cl Tryz.prog 68 #[.pointer (some ⟨b,0,none⟩)] w (fun u w' => u = .int .i64 bs.length ∧ w = w') := by
 obtain ⟨p,v,hv,ho⟩ : ∃ p v,Var w b [p,v] 121 ∧ w.ownsRow B 5 1 v bs.length bs := by
  rcases h with ⟨_,v,hb,ho,_⟩ | ⟨_,v,hb,ho,_⟩
  ·exact ⟨_,v,hb,ho⟩
  ·exact ⟨_,v,hb,ho⟩
 obtain ⟨q,c,rfl⟩ : ∃ q c,v = .slice q bs.length c := by
  rcases bK ho with ⟨rfl,h0⟩ | ⟨g,cap,sp,rfl,_⟩
  ·exact ⟨none,0,by rw [h0]⟩
  ·exact ⟨_,_,rfl⟩
 refine Cl.enter Tryz.func68 rfl Tryz.ntmps68 rfl rfl (.sr (.a2 rfl (.done (.sr (.m2 rfl (.t2 (aF rfl) (.t2 (aA iP rfl) (.t2 (aB lU rfl (hv.g 1 rfl)) (.t2 (dJ Tryz.underlying119 rfl) (.a2 rfl (.done (Wp.ret ?_))))))))))));exact ⟨[_],⟨rfl,trivial⟩,rfl,rfl⟩
open Lexi (eX nD) in
theorem rB {F : Fs} {w : World} {v : Value} {T : List BA} (hU : Und F w.heap.size) (hs : SlC w v 1 T.length (aR tP T)) (hb : gK F v) (hj : gV T ≠ .empty) (hl : (gV T).size ≤ 1000000) (hT : T.length ≤ 1000000) :
  Cl Tryz.prog 32 #[v] w (fun u w' => u = .string (gV T) ∧ Bw F w w') := by
 refine Cl.enter Tryz.func32 rfl Tryz.ntmps32 rfl rfl (.sr (.a2 rfl (.done (.sr (Rg.wd trivial (cH Tryz.zeroValue121 rfl) rfl ?_)))));rintro _ w1 ⟨b3,rfl,q3,hx1,hv3⟩;have hB0 : IsBuilder 121 5 w.heap.size b3 [] w1 := .inl ⟨by have := hx1.le; omega,_,hv3,⟨rfl,.inl ⟨rfl,rfl⟩⟩,by simp [Value.ownBlock]⟩;refine .done (.seq (.sr (.m2 rfl (.t2 (cM hs Tryz.underlying74 rfl) (.m2 rfl (.done (Wp.block ?_)))))));refine Wp.loop (ι := Nat) (fun i => [(3,.pointer (some ⟨b3,0,none⟩)),(6,v),(7,.int .i64 T.length),(8,.int .i64 i)])
  (fun i w' => i ≤ T.length ∧ IsBuilder 121 5 w.heap.size b3 (Lib.byteCells (gV (T.take i)).data.toList) w' ∧ Bw F w w' ∧ w.heap.size ≤ w'.heap.size) (fun i => T.length - i) 0 (by repeat (first | exact .nil | refine .cons rfl ?_)) ⟨Nat.zero_le _,hB0,Bw.of hx1 hU,hx1.le⟩ ?_
 clear hB0 hv3 hx1;rintro i wl ⟨hi,hB,hF,hle⟩
 by_cases hlt : i < T.length
 ·have hsi := hZ hs hF hb
  have hq := vV (T := T) (T.length - (i + 1)) (i + 1) (by omega);rw [mP hlt] at hq;obtain ⟨ac,hac⟩ : ∃ ac,gV (T.take i) = ac := ⟨_,rfl⟩;obtain ⟨t,ht⟩ : ∃ t,T[i] = t := ⟨_,rfl⟩;have hjs : gV (T.take (i + 1)) = zP ac t := by rw [mP hlt,hac,ht]
  rw [hac] at hB hq;rw [ht] at hq;have hq2 := Ef ac t;have hbl : ∀ {w1 w2 : World},Bw F w w1 → w.heap.size ≤ w1.heap.size → Below w.heap.size w1 w2 → Bw F w w2 ∧ w.heap.size ≤ w2.heap.size := fun h1 h2 hbl => ⟨h1.trans ⟨hbl.os,hbl.tape,hbl.output,hbl.size,fun z hz => hbl.block z (hU z hz)⟩,Nat.le_trans h2 hbl.size⟩;refine .sr ?_;refine .t2 (bL rfl rfl (by omega)) ?_;refine .done (.seq (.condT rfl (Wp.skip (.seq (Wp.block (.sr ?_))))));refine Rg.ix hsi trivial rfl rfl Tryz.underlying74 fV (by omega) rfl ?_;intro bt10 ot10 ht10;rw [Int.toNat_natCast,cN nJ T i hlt,ht] at ht10;refine .t2 (aB fV rfl (bH.get (i := 0) ht10 rfl)) (.a2 rfl (.done (.seq ?_)))
  by_cases h1 : t = .empty
  ·have hjst : zP ac t = ac ++ t := by unfold zP; rw [if_neg fun k => k.1 h1]
   refine .sr (.m2 rfl (.t2 (iE rfl rfl h1) (.m2 rfl (.so rfl rfl (.so rfl rfl (.t2 (aJ rfl rfl) (.done (.condF rfl (Wp.skip (Wp.region (.m2 rfl ?_)))))))))));refine Rg.wd trivial (aC Tryz.call70 rfl (Lexi.iD hB (by rw [Lib.byteCells_length,show (ac).data.toList.length = (ac).size from rfl]; omega) hle)) rfl ?_;rintro _ w30 ⟨rfl,hB3,hbl3,_⟩;obtain ⟨b,hle3⟩ := hbl hF hle hbl3;refine .done (Wp.region ?_)
   first | refine .tq (bC rfl rfl (by omega)) rfl ?_ | refine .tq (bX rfl rfl) rfl ?_
   refine .m2 rfl (.done ?_);refine ⟨i + 1,by repeat (first | exact .nil | refine .cons rfl ?_),⟨by omega,?_,b,hle3⟩,by omega⟩;rw [hjs];refine .inr ?_;have e : Lib.byteCells (zP ac t).data.toList = Lib.byteCells (ac).data.toList ++ strCells t := by
    rw [hjst,strCells_eq,← Lib.byteCells_append];simp
   rw [e];exact hB3
  ·by_cases h2 : 0 < ac.size
   ·have hjst : zP ac t = ac ++ ⟨#[32]⟩ ++ t := by unfold zP; rw [if_pos ⟨h1,h2⟩]
    replace hq2 := hq2.2 ⟨h1,h2⟩;refine .sr (.m2 rfl (.t2 (nH rfl rfl h1) (.m2 rfl (Rg.wd ⟨_,rfl,rfl⟩ (aC Tryz.call68 rfl (Eg hB)) rfl ?_))));rintro _ _ ⟨rfl,rfl⟩;rw [Lib.byteCells_length,show ac.data.toList.length = ac.size from rfl];refine .g2 (gF rfl rfl (by omega)) ?_;refine .t2 (aH rfl rfl) (.done (.condT rfl (Wp.region ?_)));refine Rg.wd trivial (aC Tryz.call69 rfl (eX hB (by rw [Lib.byteCells_length,show ac.data.toList.length = ac.size from rfl]; omega) hle)) rfl ?_;rintro _ w25 ⟨rfl,hB2,hbl2,_⟩;obtain ⟨c,hle2⟩ := hbl hF hle hbl2;clear hF hle hB;have hF := c;have hle := hle2;have hB : IsBuilder 121 5 w.heap.size b3 (Lib.byteCells (ac ++ ⟨#[32]⟩).data.toList) w25 := by
     refine .inr ?_;have e : Lib.byteCells (ac ++ ⟨#[32]⟩).data.toList = Lib.byteCells ac.data.toList ++ [.int .u8 32] := by
      simp [Lib.byteCells]
     rw [e];exact hB2
    refine .done (Wp.region (.m2 rfl ?_));refine Rg.wd trivial (aC Tryz.call70 rfl (Lexi.iD hB (by rw [Lib.byteCells_length,show (ac ++ ⟨#[32]⟩).data.toList.length = (ac ++ ⟨#[32]⟩).size from rfl]; rw [ByteArray.size_append,show (⟨#[32]⟩ : ByteArray).size = 1 from rfl]; omega) hle)) rfl ?_;rintro _ w30 ⟨rfl,hB3,hbl3,_⟩;obtain ⟨b,hle3⟩ := hbl hF hle hbl3;refine .done (Wp.region ?_)
    first | refine .tq (bC rfl rfl (by omega)) rfl ?_ | refine .tq (bX rfl rfl) rfl ?_
    refine .m2 rfl (.done ?_);refine ⟨i + 1,by repeat (first | exact .nil | refine .cons rfl ?_),⟨by omega,?_,b,hle3⟩,by omega⟩;rw [hjs];refine .inr ?_;have e : Lib.byteCells (zP ac t).data.toList = Lib.byteCells (ac ++ ⟨#[32]⟩).data.toList ++ strCells t := by
     rw [hjst,strCells_eq,← Lib.byteCells_append];simp
    rw [e];exact hB3
   ·have hjst : zP ac t = ac ++ t := by unfold zP; rw [if_neg fun k => h2 k.2]
    refine .sr (.m2 rfl (.t2 (nH rfl rfl h1) (.m2 rfl (Rg.wd ⟨_,rfl,rfl⟩ (aC Tryz.call68 rfl (Eg hB)) rfl ?_))));rintro _ _ ⟨rfl,rfl⟩;rw [Lib.byteCells_length,show ac.data.toList.length = ac.size from rfl];refine .g2 (eT rfl rfl (by omega)) ?_;refine .t2 (aH rfl rfl) (.done (.condF rfl (Wp.skip (Wp.region (.m2 rfl ?_)))));refine Rg.wd trivial (aC Tryz.call70 rfl (Lexi.iD hB (by rw [Lib.byteCells_length,show (ac).data.toList.length = (ac).size from rfl]; omega) hle)) rfl ?_;rintro _ w30 ⟨rfl,hB3,hbl3,_⟩;obtain ⟨b,hle3⟩ := hbl hF hle hbl3;refine .done (Wp.region ?_)
    first | refine .tq (bC rfl rfl (by omega)) rfl ?_ | refine .tq (bX rfl rfl) rfl ?_
    refine .m2 rfl (.done ?_);refine ⟨i + 1,by repeat (first | exact .nil | refine .cons rfl ?_),⟨by omega,?_,b,hle3⟩,by omega⟩;rw [hjs];refine .inr ?_;have e : Lib.byteCells (zP ac t).data.toList = Lib.byteCells (ac).data.toList ++ strCells t := by
     rw [hjst,strCells_eq,← Lib.byteCells_append];simp
    rw [e];exact hB3
 ·obtain rfl : i = T.length := by omega
  rw [List.take_length] at hB;refine .sr ?_;refine .t2 (bM rfl rfl (by omega)) ?_;refine .done (.seq (.condF rfl (Wp.exit (.sr ?_))));refine Rg.wd trivial (aC Tryz.call71 rfl (nD hB (fun h0 => absurd (by cases hq : gV T with | mk a => rw [hq] at h0; have h0 : a.toList = [] := h0; rw [Array.toList_eq_nil_iff.1 h0]; rfl) hj) (by rw [show (gV T).data.toList.length = (gV T).size from rfl]; omega) hle)) rfl ?_;rintro _ w5 ⟨rfl,hk5,hbl5⟩;refine .a2 rfl (.done (Wp.ret ?_));exact ⟨[_],⟨rfl,trivial⟩,rfl,hF.trans ⟨hbl5.os,hbl5.tape,hbl5.output,hbl5.size,fun z hz => hbl5.block z (hU z hz)⟩⟩
end Go.Proofs.YtlndmiegodcfjaaGreatDoor.Prn
namespace Go.Proofs.YtlndmiegodcfjaaGreatDoor.Prn
set_option maxRecDepth 20000
open Go.Gx Go.RowKit Go.Lib
open Lexi (Asc aG)
open Par Ast
theorem bdP (w : World) : (Instr.build 76 [].toArray).run Tryz.prog w = .ok (.agg #[.slice none 0 0]) w := by kernel_rfl
theorem Eh {l : List Dg} (h : l = []) : fM (lF l) = [] := by
 subst h;rw [show lF ([] : List Dg) = [] from List.length_eq_zero_iff.1 (fD [])];rfl
structure Kept (w : World) (s : ByteArray) (t : Tr) (mn : Mn) (lv : Value) (ds : List Dg) : Prop where
 pt : fS s t
 er : mn.er = fT s t
 dse : ds = fM (lF (iR s t 0 []).2.2)
 ok : NoL w mn
 lv : LvL w lv ds
theorem Kept.ext {w w' : World} {s : ByteArray} {t : Tr} {mn : Mn} {lv : Value} {ds : List Dg} (h : Kept w s t mn lv ds) (x : Ext w w') : Kept w' s t mn lv ds := ⟨h.pt,h.er,h.dse,h.ok.ext x,h.lv.ext x⟩
theorem lJ {w w' : World} {s : ByteArray} {u lv : Value} {t : Tr} {mn : Mn} {ds : List Dg} {K : Fs} (h : yE w s u w' t mn lv ds K) : Kept w' s t mn lv ds := ⟨h.pt,h.er,h.dse,(sC h).1,(sC h).2⟩
theorem qL {s : ByteArray} {t : Tr} (h : fS s t) (hs : s.size ≤ 2000) : anc (fT s t) ≤ 50000 := by
 have h1 := Bc s t;have h2 := h.small.cnt;omega
theorem Iv {w w' : World} (k : Bw (Lo w) w w') : Ext w w' := Bw.ext (Ext.refl w) k fun z hz => hz
theorem Ei {w : World} {g : Mn} {s : ByteArray} (hg : NoL w g) (hA0 : Asc w) (hE0 : Er w) (ho : tR g.er = true) (hn : anc g.er ≤ 30) (hj : gV (kC g.er) = s) (hs : s.size ≤ 2000) (hs0 : s ≠ .empty)
  (hp : ∀ u,fS s u → (iR s u 0 []).2.2 = [] ∧ eR (fT s u) = eR g.er) :
  Cl Tryz.prog 15 #[.agg g.cells.toArray] w (fun u w' => u = .tuple #[.string s,.int .i64 0] ∧ Ext w w') := by
 have hx := Ext.refl w;have hgL := hg;have hog := hg.oneL;refine Cl.enter Tryz.func15 rfl Tryz.ntmps15 rfl rfl (.sr (Rg.wd trivial (aO (cs := g.cells) rfl rfl) rfl ?_));rintro _ w1 ⟨b1,rfl,q1,hx1,hv1⟩;replace hx := hx.ext hx1;replace hgL := hgL.ext hx1;refine .a2 rfl (.a2 rfl (.done (.sr ?_)));have k1 := hv1.lt;have le1 := hx.le;refine Rg.wd trivial (cH Tryz.zeroValue3 rfl) rfl ?_;rintro _ wab4 ⟨b4,rfl,qb4,a,b⟩;refine Rg.wn trivial (bY (cs := [.int .i64 800]) b rfl rfl rfl (bA) (rfl) (rfl)) ?_;rintro _ w2 ⟨hub4,hv4⟩;have hx2 := a.upd hub4 (Nat.le_of_eq qb4.symm);clear b hub4 a;have hg4 : w1.heap.size ≤ b4 := Nat.le_of_eq qb4.symm;replace hx := hx.ext hx2;replace hgL := hgL.ext hx2;replace hv1 := hv1.ext hx2;clear qb4;refine .done (.seq (.sr ?_));refine .t2 (aY rfl hv1.cells (by rw [Mn.len]; exact bF)) ?_;have hlt1 := hv1.lt;have hlt4 := hv4.lt;have hne14 : b4 ≠ b1 := Var.ne hv4 hv1 (by decide);obtain ⟨F2,e⟩ : ∃ F2 : Fs,(fun z => z < w.heap.size ∨ z = b1) = F2 := ⟨_,rfl⟩;have hlo : ∀ z,z < w.heap.size → F2 z := fun z hz => by rw [← e]; exact .inl hz
 have h1F : F2 b1 := by rw [← e]; exact .inr rfl
 have hlh := hx.le;have hU2 : Und F2 w2.heap.size := fun z hz => by
  rw [← e] at hz
  rcases hz with hz | rfl
  ·exact Nat.lt_of_lt_of_le hz hlh
  ·exact hlt1
 have h4F : ¬ F2 b4 := fun hz => by
  rw [← e] at hz
  rcases hz with hz | hz
  ·omega
  ·exact hne14 hz
 have hg2 : NOk F2 w2 g := (NOk.bw hg (Bw.of hx fun z hz => hz) fun z hz => hz).mono hlo;have hAF : AscF F2 w2 := fun w' k => hA0.ext (Bw.ext hx k hlo);refine Rg.wd trivial (aC Tryz.call30 rfl (yF 30 g hn F2 _ b4 800 1 hU2 h4F hg2 hv4 (by omega) (by omega) (by omega) (by omega))) rfl ?_;rintro _ w3 ⟨rfl,hv4n,hB⟩;clear hv4 hgL;replace hv1 := aD hv1 hB h1F;replace hg2 := hg2.bw hB fun z hz => hz;replace hAF := hAF.step hB;replace hU2 : Und F2 w3.heap.size := fun z hz => Nat.lt_of_lt_of_le (hU2 z hz) hB.size;replace hx := Bw.ext hx hB hlo;clear hB hv4n hlh;refine .done (.condF rfl (Wp.skip (.sr (.t2 (dH bdP rfl) (Rg.wd trivial (aO (cs := [.slice none 0 0]) rfl rfl) rfl ?_)))));rintro _ w4 ⟨b13,rfl,q13,hx4,hv13⟩;have h13F : ¬ F2 b13 := fun hz => by have := hU2 _ hz; omega
 replace hg2 := hg2.bw (Bw.of hx4 hU2) fun z hz => hz;replace hAF := hAF.step (Bw.of hx4 hU2);replace hU2 : Und F2 w4.heap.size := fun z hz => Nat.lt_of_lt_of_le (hU2 z hz) hx4.le;have hC : Pn F2 w4 b13 [] := ⟨.slice none 0 0,hU2,hv13,⟨rfl,.inl ⟨rfl,rfl⟩⟩,h13F,(fun z hz => by cases hz),by decide,nJ⟩;replace hv1 := hv1.ext hx4;replace hx := hx.ext hx4;refine .a2 rfl (.done (.sr (.m2 rfl ?_)));refine .t2 (aY rfl hv1.cells (by rw [Mn.len]; exact bF)) ?_;refine Rg.wd trivial (aC Tryz.call31 rfl (Ee 30 g hn ho F2 _ b13 [] hAF hC hg2 (by simp only [List.length_nil]; omega))) rfl ?_;rintro _ w5 ⟨hCn,hB⟩;clear hC;replace hg2 := hg2.bw hB fun z hz => hz;replace hv1 := aD hv1 hB h1F;replace hAF := hAF.step hB;replace hx := Bw.ext hx hB hlo;clear hB hU2;obtain ⟨dv,D⟩ := hCn;simp only [List.nil_append] at D;have hsl : SlC w5 dv 1 (kC g.er).length (aR tP (kC g.er)) := iQ D.row;have hbl : gK (Lo w5) dv := fun z hz => iM D.row hz;refine .done (.sr (.m2 rfl (.t2 (aF rfl) (.t2 (aA wX rfl) (.t2 (aB mV rfl (D.var.g 0 rfl)) ?_)))));refine Rg.wd trivial (aC Tryz.call32 rfl (rB (fun z hz => hz) hsl hbl (by rw [hj]; exact hs0) (by rw [hj]; omega) (by have := tV g.er; omega))) rfl ?_;rintro _ w6 ⟨rfl,hBL⟩;have hx6 := Iv hBL;replace hg2 := hg2.bw (Bw.of hx6 D.und) fun z hz => hz;rw [hj];replace hv1 := hv1.ext hx6;replace hx := hx.ext hx6;refine .a2 rfl (.done (.sr (.m2 rfl (Rg.wd trivial (aC Tryz.call10 rfl (lG (s := s) hs (hA0.ext hx) (lH hE0 hx))) rfl ?_))));rintro _ w7 ⟨t1,mn1,lv1,ds1,K1,A1⟩;have hx7 := A1.ext;obtain hk1 := lJ A1;have hue := A1.ue;subst hue;have hno := hk1.ok.oneL;obtain ⟨hc1,hc2⟩ := hp t1 A1.pt;have hds : ds1 = [] := by rw [A1.dse,Eh hc1]
 clear A1;have hgN : NoL w7 g := NoL.ext hg (hx.ext hx7);replace hv1 := hv1.ext hx7;replace hx := hx.ext hx7;refine .m2 rfl (.t2 (cC rfl rfl) (.t2 (cC rfl rfl) (.t2 (cC rfl rfl) (Rg.wd trivial (cH Tryz.zeroValue26 rfl) rfl ?_))));rintro _ wab7 ⟨b7,rfl,qb7,c,d⟩;refine Rg.wn trivial (bY (cs := mn1.cells) d rfl rfl rfl (by rw [Mn.len]; exact bF) (by rw [Mn.len]; rfl) (hno)) ?_;rintro _ w8 ⟨hub7,hv7⟩;have hx8 := c.upd hub7 (Nat.le_of_eq qb7.symm);clear d hub7 c;replace hv1 := hv1.ext hx8;replace hx := hx.ext hx8;replace hk1 := hk1.ext hx8;replace hgN := hgN.ext hx8;clear qb7;refine .a2 rfl (.a2 rfl (.done (.seq (Wp.block (.sr (.m2 rfl (.t2 (bO rfl rfl rfl) (.a2 rfl (.done (.condF rfl (.sr (.m2 rfl ?_))))))))))));refine .t2 (cM hk1.lv.sl Tryz.underlying27 rfl) ?_;refine .t2 (eT rfl rfl (by rw [hds]; decide)) ?_;refine .m2 rfl ?_;refine .g2 (aY rfl hv7.cells (by rw [Mn.len]; exact bF)) ?_;refine .g2 (aY rfl hv1.cells (by rw [Mn.len]; exact bF)) ?_;have hanc : anc mn1.er ≤ 1000000 := by rw [hk1.er]; exact Nat.le_trans (qL hk1.pt hs) (by decide)
 refine Rg.wd ⟨_,rfl,rfl⟩ (aC Tryz.call17 rfl (D1 1000000 mn1 g hanc hanc _ hk1.ok hgN)) rfl ?_;rintro _ w9 ⟨⟨bE,rfl,hbE⟩,hx9⟩;replace hv1 := hv1.ext hx9;replace hx := hx.ext hx9;replace hk1 := hk1.ext hx9;replace hgN := hgN.ext hx9;replace hv7 := hv7.ext hx9;obtain rfl : bE = true := hbE.2 (by rw [hk1.er,hc2]);refine .g2 (bI rfl) (.t2 (aJ rfl rfl) (.a2 rfl (.done (.condF rfl (Wp.skip (.sr (.m2 rfl (.a2 rfl (.a2 rfl (.done (Wp.ret ?_)))))))))));exact ⟨[_,_],⟨rfl,rfl,trivial⟩,rfl,hx⟩
theorem iF {w : World} (hA0 : Asc w) (hE0 : Er w) : Cl Tryz.prog 8 #[] w (fun u w' => u = .bool true ∧ Ext w w') := by
 have hx := Ext.refl w;refine Cl.enter Tryz.func8 rfl Tryz.ntmps8 rfl rfl (.sr (.a2 rfl (.done (.sr ?_))));refine Rg.wd trivial (aC Tryz.call10 rfl (lG (s := kR) (by decide) (hA0.ext hx) (lH hE0 hx))) rfl ?_;rintro _ w1 ⟨t1,mn1,lv1,ds1,K1,A1⟩;have hx1 := A1.ext;obtain hk1 := lJ A1;have hue := A1.ue;subst hue;have hno := hk1.ok.oneL;clear A1;have hfa : (iR kR t1 0 []).2.2 = [] ∧ tR (fT kR t1) = true ∧ gV (kC (fT kR t1)) = nM ∧ anc (fT kR t1) ≤ 30 ∧ ∀ u,fS nM u → (iR nM u 0 []).2.2 = [] ∧ eR (fT nM u) = eR (fT kR t1) := by
  obtain ⟨r,g1,g2,g3,g4,g5⟩ := parsed nM;obtain ⟨a,b,c,d,e,f⟩ := D6 hk1.pt g1;exact ⟨a,b,c,d,fun u hu => by rw [hu.unique g1]; exact ⟨e,f⟩⟩
 obtain ⟨f1,f2,f3,f4,f5⟩ := hfa;have hds : ds1 = [] := by rw [hk1.dse,Eh f1]
 replace hx := hx.ext hx1;refine .m2 rfl (.t2 (cC rfl rfl) (.t2 (cC rfl rfl) (.t2 (cC rfl rfl) (Rg.wd trivial (cH Tryz.zeroValue26 rfl) rfl ?_))));rintro _ wab1 ⟨b1,rfl,qb1,g,h⟩;refine Rg.wn trivial (bY (cs := mn1.cells) h rfl rfl rfl (by rw [Mn.len]; exact bF) (by rw [Mn.len]; rfl) (hno)) ?_;rintro _ w2 ⟨hub1,hv1⟩;have hx2 := g.upd hub1 (Nat.le_of_eq qb1.symm);clear h hub1 g;replace hx := hx.ext hx2;replace hk1 := hk1.ext hx2;clear qb1;refine .a2 rfl (.a2 rfl (.done (.sr ?_)));refine .t2 (aY rfl hv1.cells (by rw [Mn.len]; exact bF)) ?_;refine Rg.wd trivial (aC Tryz.call15 rfl (Ei (s := nM) hk1.ok (hA0.ext hx) (lH hE0 hx) (by rw [hk1.er]; exact f2) (by rw [hk1.er]; exact f4) (by rw [hk1.er]; exact f3) (by decide) (by decide) (by rw [hk1.er]; exact f5))) rfl ?_;rintro _ w3 ⟨rfl,hx3⟩;replace hx := hx.ext hx3;replace hk1 := hk1.ext hx3;replace hv1 := hv1.ext hx3;refine .m2 rfl (.t2 (cC rfl rfl) (.t2 (cC rfl rfl) (.a2 rfl (.a2 rfl (.done (.sr (.m2 rfl (.t2 (aS rfl rfl rfl) (.m2 rfl (.g2 (aQ rfl) (.g2 (cM hk1.lv.sl Tryz.underlying27 rfl) ?_)))))))))));refine .g2 (aS rfl rfl (by rw [hds]; rfl)) ?_;refine .t2 (aH rfl rfl) (.m2 rfl (.g2 (aQ rfl) (.g2 (aS rfl rfl rfl) (.t2 (aH rfl rfl) (.m2 rfl (.g2 (aQ rfl) (.g2 (dD rfl rfl rfl) (.t2 (aH rfl rfl) (.a2 rfl (.done (Wp.ret ?_)))))))))));exact ⟨[_],⟨rfl,trivial⟩,rfl,hx⟩
def Iw : Option Nat → Int
 | none => -1
 | some k => k
theorem zQ {w : World} {v : Value} {a : List Mn} {f : FuncId} {fst cap : List Value} {p : Mn → Bool} (hs0 : SlC w v 7 a.length (aR Mn.cells a)) (hcf : ∀ (args : Array Value) (w : World),(callFunc f args).run Tryz.prog w = .ok (.enter f args) w)
  (hp : ∀ w1,Ext w w1 → ∀ m ∈ a,Cl Tryz.prog f (fst ++ ([.agg m.cells.toArray] : List Value) ++ cap).toArray w1 (fun u w2 => u = .bool (p m) ∧ Ext w1 w2)) (hlen : a.length < 4611686018427387904) :
  Cl Tryz.prog 33 #[v,.func (.func f) fst.toArray cap.toArray] w (fun u w' => u = .int .i64 (Iw (a.findIdx? p)) ∧ Ext w w') := by
 have hx := Ext.refl w;refine Cl.enter Tryz.func33 rfl Tryz.ntmps33 rfl rfl (.sr (.a2 rfl (.done (.seq (.sr (.m2 rfl (.t2 (cM hs0 Tryz.underlying24 rfl) (.m2 rfl (.done (Wp.block ?_))))))))));refine Wp.loop (ι := Nat) (fun k => [(0,v),(1,.func (.func f) fst.toArray cap.toArray),(7,.int .i64 a.length),(8,.int .i64 k)])
  (fun k w' => k ≤ a.length ∧ (∀ j (h : j < a.length),j < k → p a[j] = false) ∧ Ext w w') (fun k => a.length - k) 0 (by repeat (first | exact .nil | refine .cons rfl ?_)) ⟨Nat.zero_le _,fun j _ h => absurd h (Nat.not_lt_zero _),hx⟩ ?_
 clear hx;rintro k w3 ⟨hk,hno,hx⟩
 by_cases hlt : k < a.length
 ·cases hpk : p a[k] with
  | true =>
   refine .sr ?_
   first | refine .tq (bL rfl rfl (by omega)) rfl ?_ | refine .tq (bM rfl rfl (by omega)) rfl ?_ | refine .tq (cR rfl rfl) rfl ?_
   refine .done (.seq (.condT rfl (Wp.skip (.seq (Wp.block (.sr (.m2 rfl (.a2 rfl (.done (.sr (.m2 rfl (.m2 rfl ?_))))))))))));refine .m2 rfl ?_;refine Rg.ix hs0 trivial rfl rfl Tryz.underlying24 bF (by omega) rfl ?_;intro bt14 ot14 ht14;replace ht14 := ht14.ext hx;rw [Int.toNat_natCast,cN Mn.len a k hlt] at ht14;refine .t2 (aY rfl ht14 (by rw [Mn.len]; exact bF)) ?_;refine Rg.wd trivial (kI rfl hcf rfl (vs := [.agg a[k].cells.toArray]) (hp _ hx a[k] (List.getElem_mem hlt))) rfl ?_;rintro _ w1 ⟨rfl,hx1⟩;replace hx := hx.ext hx1;replace ht14 := ht14.ext hx1;rw [hpk];refine .done (.condT rfl (.sr (.m2 rfl (.a2 rfl (.done (Wp.ret ?_))))));exact ⟨[_],⟨rfl,trivial⟩,by rw [List.findIdx?_eq_some_iff_getElem.2 ⟨hlt,hpk,fun j hj => by rw [hno j (by omega) hj]; decide⟩]; rfl,hx⟩
  | false =>
   refine .sr ?_
   first | refine .tq (bL rfl rfl (by omega)) rfl ?_ | refine .tq (bM rfl rfl (by omega)) rfl ?_ | refine .tq (cR rfl rfl) rfl ?_
   refine .done (.seq (.condT rfl (Wp.skip (.seq (Wp.block (.sr (.m2 rfl (.a2 rfl (.done (.sr (.m2 rfl (.m2 rfl ?_))))))))))));refine .m2 rfl ?_;refine Rg.ix hs0 trivial rfl rfl Tryz.underlying24 bF (by omega) rfl ?_;intro bt14 ot14 ht14;replace ht14 := ht14.ext hx;rw [Int.toNat_natCast,cN Mn.len a k hlt] at ht14;refine .t2 (aY rfl ht14 (by rw [Mn.len]; exact bF)) ?_;refine Rg.wd trivial (kI rfl hcf rfl (vs := [.agg a[k].cells.toArray]) (hp _ hx a[k] (List.getElem_mem hlt))) rfl ?_;rintro _ w1 ⟨rfl,hx1⟩;replace hx := hx.ext hx1;replace ht14 := ht14.ext hx1;rw [hpk];refine .done (.condF rfl (Wp.skip (Wp.region ?_)))
   first | refine .tq (bC rfl rfl (by omega)) rfl ?_ | refine .tq (bX rfl rfl) rfl ?_
   refine .m2 rfl (.done ?_);exact ⟨k + 1,by repeat (first | exact .nil | refine .cons rfl ?_),⟨hlt,fun j h hj => by rcases Nat.lt_succ_iff_lt_or_eq.1 hj with c | c; exact hno j h c; subst c; exact hpk,hx⟩,by omega⟩
 ·skip
  refine .sr ?_
  first | refine .tq (bL rfl rfl (by omega)) rfl ?_ | refine .tq (bM rfl rfl (by omega)) rfl ?_ | refine .tq (cR rfl rfl) rfl ?_
  refine .done (.seq (.condF rfl (Wp.exit (.sr (.a2 rfl (.done (Wp.ret ?_)))))));exact ⟨[_],⟨rfl,trivial⟩,by rw [List.findIdx?_eq_none_iff.2 fun x hx => by obtain ⟨j,hj,rfl⟩ := List.getElem_of_mem hx; exact hno j hj (by omega)]; rfl,hx⟩
theorem Ej {w : World} {g : Mn} {b : Nat} {o : Int} (hv : Var w b [.int .i64 o] 3) : Cl Tryz.prog 34 #[.agg g.cells.toArray,.pointer (some ⟨b,0,none⟩)] w (fun u w' => u = .bool (decide (qO o g.er)) ∧ Ext w w') := by
 have hx := Ext.refl w;obtain ⟨hd,cv,kids⟩ := g;have hc : qO o (Mn.mk hd cv kids).er ↔ (hd.st ≤ o ∧ o < hd.en) := Iff.rfl
 by_cases h1 : hd.st ≤ o
 ·by_cases h2 : o < hd.en
  ·skip
   refine Cl.enter Tryz.func34 rfl Tryz.ntmps34 rfl rfl (.sr (Rg.wd trivial (aO (cs := (Mn.mk hd cv kids).cells) rfl rfl) rfl ?_));rintro _ w1 ⟨b2,rfl,q2,hx1,hv2⟩;replace hx := hx.ext hx1;replace hv := hv.ext hx1;refine .a2 rfl (.done (.sr (.t2 (aA dE rfl) (.t2 (aB bA rfl (hv2.g 3 rfl)) (.t2 (aB bA rfl (hv.g 0 rfl)) ?_)))));refine .t2 (eI rfl rfl (by omega)) ?_;refine .m2 rfl (.g2 (aB bA rfl (hv.g 0 rfl)) (.g2 (aA dF rfl) (.g2 (aB bA rfl (hv2.g 4 rfl)) ?_)));refine .g2 (bL rfl rfl (by omega)) ?_;refine .t2 (aH rfl rfl) (.a2 rfl (.done (Wp.ret ?_)));refine ⟨[_],⟨rfl,trivial⟩,?_,hx⟩;rw [show decide (qO o (Mn.mk hd cv kids).er) = true from decide_eq_true (by rw [hc]; omega)];rfl
  ·skip
   refine Cl.enter Tryz.func34 rfl Tryz.ntmps34 rfl rfl (.sr (Rg.wd trivial (aO (cs := (Mn.mk hd cv kids).cells) rfl rfl) rfl ?_));rintro _ w1 ⟨b2,rfl,q2,hx1,hv2⟩;replace hx := hx.ext hx1;replace hv := hv.ext hx1;refine .a2 rfl (.done (.sr (.t2 (aA dE rfl) (.t2 (aB bA rfl (hv2.g 3 rfl)) (.t2 (aB bA rfl (hv.g 0 rfl)) ?_)))));refine .t2 (eI rfl rfl (by omega)) ?_;refine .m2 rfl (.g2 (aB bA rfl (hv.g 0 rfl)) (.g2 (aA dF rfl) (.g2 (aB bA rfl (hv2.g 4 rfl)) ?_)));refine .g2 (bM rfl rfl (by omega)) ?_;refine .t2 (aH rfl rfl) (.a2 rfl (.done (Wp.ret ?_)));refine ⟨[_],⟨rfl,trivial⟩,?_,hx⟩;rw [show decide (qO o (Mn.mk hd cv kids).er) = false from decide_eq_false (by rw [hc]; omega)];rfl
 ·skip
  refine Cl.enter Tryz.func34 rfl Tryz.ntmps34 rfl rfl (.sr (Rg.wd trivial (aO (cs := (Mn.mk hd cv kids).cells) rfl rfl) rfl ?_));rintro _ w1 ⟨b2,rfl,q2,hx1,hv2⟩;replace hx := hx.ext hx1;replace hv := hv.ext hx1;refine .a2 rfl (.done (.sr (.t2 (aA dE rfl) (.t2 (aB bA rfl (hv2.g 3 rfl)) (.t2 (aB bA rfl (hv.g 0 rfl)) ?_)))));refine .t2 (dN rfl rfl (by omega)) ?_;refine .m2 rfl (.so rfl rfl (.so rfl rfl (.so rfl rfl (.so rfl rfl (.t2 (aJ rfl rfl) (.a2 rfl (.done (Wp.ret ?_))))))));refine ⟨[_],⟨rfl,trivial⟩,?_,hx⟩;rw [show decide (qO o (Mn.mk hd cv kids).er) = false from decide_eq_false (by rw [hc]; omega)];rfl
def Jh (i : Nat) : List Value := [.int .i64 i]
theorem G1 (i : Nat) : (Jh i).length = 1 := rfl
section
variable {n : Nat} {L : Env} {w w0 : World} {dd : Option Tmp} {ty : TypeId} {pos : String} {af : Array Edge} {gd : Option (Nat × Bool)}
theorem Ek {x y : Operand} {b k : Nat} {u a : Value} {news : List Value} (hv : Var w b [a] 3) (h0 : Ext w0 w) (hb : w0.heap.size ≤ b) (hx : cD L x = some (.slice (some ⟨b,0,none⟩) 1 1)) (hy : cD L y = some u) (hsl : SlC w u 1 k news) (h1 : ∀ v ∈ news,v.oneCell' = true) (hk : k ≤ 1000000) :
  Wl Tryz.prog n ⟨dd,.call { callee := .builtin .append,args := #[x,y],argTypes := #[34,34] },ty,pos,af,gd⟩ L w (fun v w' => SlC w' v 1 (1 + k) (a :: news) ∧ Ext w0 w' ∧ ∀ z,v.ownBlock = some z → w0.heap.size ≤ z) := by
 obtain ⟨i,hi,hz,hsi,hby⟩ := aAb;have hold : SlC w (.slice (some ⟨b,0,none⟩) 1 1) 1 1 [a] := dL hv rfl
 by_cases hk0 : k = 0
 ·subst hk0
  obtain rfl : news = [] := List.length_eq_zero_iff.1 (by simpa using hsl.1);intro q hq Q next hn;refine rH (m := 1) (cap := 1) (o := 0) Tryz.underlying34 hi hsi hv hx hy hsl (by simp) (by omega) (by simp) q hq Q next fun v' w' ⟨e1,e2,e3⟩ => hn v' w' ?_;subst e1;exact ⟨dL e3 rfl,h0.upd e2 hb,fun z hz => by cases hz; exact hb⟩
 ·intro q hq Q next hn
  refine rI (m := 1) (cap := 1) Tryz.underlying34 hi hz hsi hby rfl hx hy hold hsl h1 (by omega) (by unfold maxLen; omega) (by omega) q hq Q next fun v' w' ⟨e1,e2⟩ => hn v' w' ?_;refine ⟨iQ e2,h0.ext e1,fun z hz => ?_⟩
  rcases bK e2 with ⟨rfl,_⟩ | ⟨g,cap,sp,rfl,g1,_⟩
  ·cases hz
  ·cases hz
   exact Nat.le_trans h0.le g1
end
theorem sH {o : Int} {h : Hd} {ks : List An} : (ks.findIdx? (fun a => decide (qO o a)) = none ∧ gM o (.mk h ks) = []) ∨ ∃ j,∃ hj : j < ks.length,ks.findIdx? (fun a => decide (qO o a)) = some j ∧ gM o (.mk h ks) = j :: gM o ks[j] ∧ qO o ks[j] := by
 rcases Bf o h ks with ⟨h1,h2⟩ | ⟨j,hj,h1,h2,h3⟩
 ·exact .inl ⟨List.findIdx?_eq_none_iff.2 fun x hx => by simpa using h2 x hx,h1⟩
 ·exact .inr ⟨j,hj,List.findIdx?_eq_some_iff_getElem.2 ⟨hj,by simpa using h2,fun k hk => by simpa using h3 k (by omega) hk⟩,h1,h2⟩
theorem vW {α β : Type} (f : α → β) (p : β → Bool) : ∀ l : List α,(l.map f).findIdx? p = l.findIdx? fun a => p (f a)
 | [] => rfl
 | a :: l => by rw [List.map_cons,List.findIdx?_cons,List.findIdx?_cons,vW f p l]
theorem G2 : ∀ (n : Nat) (g : Mn),anc g.er ≤ n → n ≤ 1000000 → ∀ (w : World) (o : Int),NoL w g → Cl Tryz.prog 20 #[.agg g.cells.toArray,.int .i64 o] w (fun u w' => SlC w' u 1 (gM o g.er).length (aR Jh (gM o g.er)) ∧ (∀ z,u.ownBlock = some z → w.heap.size ≤ z) ∧ Ext w w') := by
 intro n
 induction n using Nat.strongRecOn with
 | _ n ih =>
  rintro ⟨hd,cv,kids⟩ hn hn6 w o hg;have hx := Ext.refl w;have hs : SlC w cv 7 kids.length (aR Mn.cells kids) ∧ ∀ g ∈ kids,NoL w g := by cases hg with | mk a _ _ d => exact ⟨a,d⟩
  obtain ⟨hsl,hkk⟩ := hs;have ha : anc (Mn.mk hd cv kids).er = cY (dA kids) + 1 := rfl;have hkl := kB (dA kids);rw [cW] at hkl;have hfd : (kids.findIdx? fun g => decide (qO o g.er)) = (dA kids).findIdx? (fun a => decide (qO o a)) := by rw [fK,vW]
  have hpl := oF o (Mn.mk hd cv kids).er
  rcases sH (o := o) (h := hd) (ks := dA kids) with ⟨hf,hp⟩ | ⟨j,hj,hf,hp,hc⟩
  ·skip
   refine Cl.enter Tryz.func20 rfl Tryz.ntmps20 rfl rfl (.sr (Rg.wd trivial (aO (cs := (Mn.mk hd cv kids).cells) rfl rfl) rfl ?_));rintro _ w1 ⟨b2,rfl,q2,hx1,hv2⟩;replace hx := hx.ext hx1;replace hsl := hsl.ext hx1;refine Rg.wd trivial (aO (cs := [.int .i64 o]) rfl rfl) rfl ?_;rintro _ w2 ⟨b3,rfl,q3,hx2,hv3⟩;replace hx := hx.ext hx2;replace hsl := hsl.ext hx2;replace hv2 := hv2.ext hx2;refine .a2 rfl (.done (.sr (.t2 (aA bZ rfl) (.t2 (aB eG rfl (hv2.g 6 rfl)) (.t2 (pL rfl (vs := [.pointer (some ⟨b3,0,none⟩)])) ?_)))));refine Rg.wd trivial (aC Tryz.call33 rfl (zQ (fst := []) (cap := [.pointer (some ⟨b3,0,none⟩)]) (p := fun g => decide (qO o g.er)) hsl Tryz.call34 (fun w1 hx1 m _ => Ej (hv3.ext hx1)) (by omega))) rfl ?_;rintro _ w3 ⟨rfl,hx3⟩;replace hx := hx.ext hx3;replace hsl := hsl.ext hx3;replace hv2 := hv2.ext hx3;replace hv3 := hv3.ext hx3;rw [hfd,hf,show Iw (none) = -1 from rfl];refine .a2 rfl (.done (.seq (.sr (.m2 rfl ?_))));refine .t2 (bL rfl rfl (by decide)) ?_;refine .done (.condT rfl (.sr (.a2 rfl (.done (Wp.ret ?_)))));refine ⟨[_],⟨rfl,trivial⟩,and_assoc.1 ⟨?_,hx⟩⟩;have e : gM o (Mn.mk hd cv kids).er = [] := hp;rw [e];exact ⟨pC _ _,fun z hz => by cases hz⟩
  ·have hjk : j < kids.length := by rw [cW] at hj; exact hj
   rw [iB kids j hjk] at hp hc;have hgj := hkk _ (List.getElem_mem hjk);have hanj : anc kids[j].er ≤ cY (dA kids) := jC (by rw [← iB kids j hjk]; exact List.getElem_mem _);have e : gM o (Mn.mk hd cv kids).er = j :: gM o kids[j].er := hp;rw [e] at hpl ⊢;simp only [List.length_cons] at hpl;refine Cl.enter Tryz.func20 rfl Tryz.ntmps20 rfl rfl (.sr (Rg.wd trivial (aO (cs := (Mn.mk hd cv kids).cells) rfl rfl) rfl ?_));rintro _ w1 ⟨b2,rfl,q2,hx1,hv2⟩;replace hx := hx.ext hx1;replace hsl := hsl.ext hx1;replace hgj := hgj.ext hx1;refine Rg.wd trivial (aO (cs := [.int .i64 o]) rfl rfl) rfl ?_;rintro _ w2 ⟨b3,rfl,q3,hx2,hv3⟩;replace hx := hx.ext hx2;replace hsl := hsl.ext hx2;replace hgj := hgj.ext hx2;replace hv2 := hv2.ext hx2;refine .a2 rfl (.done (.sr (.t2 (aA bZ rfl) (.t2 (aB eG rfl (hv2.g 6 rfl)) (.t2 (pL rfl (vs := [.pointer (some ⟨b3,0,none⟩)])) ?_)))));refine Rg.wd trivial (aC Tryz.call33 rfl (zQ (fst := []) (cap := [.pointer (some ⟨b3,0,none⟩)]) (p := fun g => decide (qO o g.er)) hsl Tryz.call34 (fun w1 hx1 m _ => Ej (hv3.ext hx1)) (by omega))) rfl ?_;rintro _ w3 ⟨rfl,hx3⟩;replace hx := hx.ext hx3;replace hsl := hsl.ext hx3;replace hgj := hgj.ext hx3;replace hv2 := hv2.ext hx3;replace hv3 := hv3.ext hx3;rw [hfd,hf,show Iw (some j) = (j : Int) from rfl];refine .a2 rfl (.done (.seq (.sr (.m2 rfl ?_))));refine .t2 (bM rfl rfl (by omega)) ?_;refine .done (.condF rfl (Wp.skip ?_));obtain ⟨bm,om,cm,rfl,hcm⟩ : ∃ bm om cm,cv = .slice (some ⟨bm,om,none⟩) kids.length cm ∧ bH w3 bm om (aR Mn.cells kids) := by
    obtain ⟨_,p,c,e1,_,h3⟩ := hsl
    rcases h3 with h3 | ⟨b,o,rfl,hc⟩
    ·omega
    ·exact ⟨b,o,c,e1,hc⟩
   have hcmj : bH w3 bm (om + j * 7) kids[j].cells := by
    have h := hcm.sub (j * 7) 7;rwa [cN Mn.len kids j hjk] at h
   have lt2 := hv2.lt;have lt3 := hv3.lt;have hleq := hx.le;refine Wp.seq (Wp.cut (fun L w' => ∃ i_ : Value,Sub ((fun i => [(4,i)]) i_) L ∧ (fun i w' => SlC w' i 1 (1 + (gM o kids[j].er).length) (.int .i64 j :: aR Jh (gM o kids[j].er)) ∧ Ext w3 w' ∧ ∀ z,i.ownBlock = some z → w3.heap.size ≤ z) i_ w') ?_ ?_)
   ·skip
    refine Wp.drawB (fun w' => Var w' b2 (Mn.mk hd (.slice (some ⟨bm,om,none⟩) kids.length cm) kids).cells 26 ∧ Var w' b3 [.int .i64 o] 3 ∧ bH w' bm (om + j * 7) kids[j].cells) 11 mixed ?_;intro w4 hx4 hh4;replace hgj := hgj.ext hx4;refine ⟨⟨hv2.ext hx4,hv3.ext hx4,hcmj.ext hx4⟩,?_⟩;have hyB := hx4;refine Qb.tameW (by kernel_rfl) 0 rfl (by kernel_rfl) trivial (cX fun wz => aQ rfl) rfl ?_;refine Qb.tameW (by kernel_rfl) 2 rfl (by kernel_rfl) trivial (cX fun wz => aA bZ rfl) rfl ?_;refine Qb.tame (by kernel_rfl) 3 rfl (by kernel_rfl) trivial (ts fun wz hkz => by exact aB eG rfl (hkz.1.g 6 rfl)) rfl ?_;refine Qb.tameW (by kernel_rfl) 4 rfl (by kernel_rfl) trivial (cX fun wz => aQ rfl) rfl ?_;refine Qb.tameW (by kernel_rfl) 5 rfl (by kernel_rfl) trivial (cX fun wz => bG Tryz.underlying24 bF rfl rfl (by omega)) rfl ?_;rw [Int.toNat_natCast];refine Qb.tame (by kernel_rfl) 6 rfl (by kernel_rfl) trivial (ts fun wz hkz => by exact aY rfl hkz.2.2 (by rw [Mn.len]; exact bF)) rfl ?_;refine Qb.tame (by kernel_rfl) 7 rfl (by kernel_rfl) trivial (ts fun wz hkz => by exact aB bA rfl (hkz.2.1.g 0 rfl)) rfl ?_;refine Qb.alt2 (i := 1) (j := 8) (by kernel_rfl) ?_ ?_
    ·skip
     refine ⟨_,_,rfl,rfl,trivial,aE (Cq _) rfl,rfl,fun _ _ hr => by obtain ⟨_,_,_,hr,_⟩ := hr; exact ⟨hv2.ext (hyB.ext hr),hv3.ext (hyB.ext hr),hcmj.ext (hyB.ext hr)⟩,?_⟩;rintro _ w5 ⟨b13,rfl,q13,hx5,hv13⟩;have g13 : w3.heap.size ≤ b13 := by have := hyB.le; omega
     replace hgj := hgj.ext hx5;replace hyB := hyB.ext hx5;refine Qb.alt1 (i := 8) (by kernel_rfl) ?_;refine ⟨_,_,rfl,rfl,trivial,aC Tryz.call20 rfl (ih (anc kids[j].er) (by omega) kids[j] (Nat.le_refl _) (by omega) _ o hgj),rfl,fun _ _ hr => ⟨hv2.ext (hyB.ext hr.2.2),hv3.ext (hyB.ext hr.2.2),hcmj.ext (hyB.ext hr.2.2)⟩,?_⟩;rintro v20 w6 ⟨hs20,_,hx6⟩;replace hgj := hgj.ext hx6;replace hyB := hyB.ext hx6;replace hv13 := hv13.ext hx6;refine Qb.alt1 (i := 9) (by kernel_rfl) ?_;refine ⟨_,_,rfl,rfl,trivial,Ek hv13 hyB g13 rfl rfl hs20 (fun u hu => by obtain ⟨q,_,hq⟩ := List.mem_flatMap.1 hu; rw [List.mem_singleton.1 hq]; rfl) (by omega),rfl,fun _ _ hr => ⟨hv2.ext hr.2.1,hv3.ext hr.2.1,hcmj.ext hr.2.1⟩,?_⟩;rintro v21 w40 ⟨hs21,hx40,ho21⟩;refine Qb.tameW (by kernel_rfl) 10 rfl (by kernel_rfl) trivial (cX fun wz => jR rfl) rfl ?_;refine Qb.done (by kernel_rfl) ?_;exact ⟨v21,by repeat (first | exact .nil | refine .cons rfl ?_),hs21,hx40,ho21⟩
    ·skip
     refine ⟨_,_,rfl,rfl,trivial,aC Tryz.call20 rfl (ih (anc kids[j].er) (by omega) kids[j] (Nat.le_refl _) (by omega) _ o hgj),rfl,fun _ _ hr => ⟨hv2.ext (hyB.ext hr.2.2),hv3.ext (hyB.ext hr.2.2),hcmj.ext (hyB.ext hr.2.2)⟩,?_⟩;rintro v20 w5 ⟨hs20,_,hx5⟩;replace hgj := hgj.ext hx5;replace hyB := hyB.ext hx5;refine Qb.alt1 (i := 1) (by kernel_rfl) ?_;refine ⟨_,_,rfl,rfl,trivial,aE (Cq _) rfl,rfl,fun _ _ hr => by obtain ⟨_,_,_,hr,_⟩ := hr; exact ⟨hv2.ext (hyB.ext hr),hv3.ext (hyB.ext hr),hcmj.ext (hyB.ext hr)⟩,?_⟩;rintro _ w6 ⟨b13,rfl,q13,hx6,hv13⟩;have g13 : w3.heap.size ≤ b13 := by have := hyB.le; omega
     replace hgj := hgj.ext hx6;replace hyB := hyB.ext hx6;replace hs20 := hs20.ext hx6;refine Qb.alt1 (i := 9) (by kernel_rfl) ?_;refine ⟨_,_,rfl,rfl,trivial,Ek hv13 hyB g13 rfl rfl hs20 (fun u hu => by obtain ⟨q,_,hq⟩ := List.mem_flatMap.1 hu; rw [List.mem_singleton.1 hq]; rfl) (by omega),rfl,fun _ _ hr => ⟨hv2.ext hr.2.1,hv3.ext hr.2.1,hcmj.ext hr.2.1⟩,?_⟩;rintro v21 w40 ⟨hs21,hx40,ho21⟩;refine Qb.tameW (by kernel_rfl) 10 rfl (by kernel_rfl) trivial (cX fun wz => jR rfl) rfl ?_;refine Qb.done (by kernel_rfl) ?_;exact ⟨v21,by repeat (first | exact .nil | refine .cons rfl ?_),hs21,hx40,ho21⟩
   ·rintro L' wF ⟨vF,f,hsF,hxF,hoF⟩
    refine Wp.sub f (Wp.ret ?_);refine ⟨[_],⟨rfl,trivial⟩,?_,fun z hz => Nat.le_trans hx.le (hoF z hz),hx.ext hxF⟩;rw [List.length_cons,Nat.add_comm];exact hsF
theorem Bi {α : Type} {l : List α} {i : Nat} {a : α} {r : List α} (h : l.drop i = a :: r) : ∃ hi : i < l.length,l[i] = a ∧ l.drop (i + 1) = r := by
 have hi : i < l.length := by
  apply Decidable.byContradiction;intro hn;rw [List.drop_eq_nil_of_le (by omega)] at h
  cases h
 rw [List.drop_eq_getElem_cons hi] at h
 injection h with h1 h2
 exact ⟨hi,h1,h2⟩
def NK (B : Nat) (w : World) (g : Mn) : Prop := ∃ K : Fs,NOk K w g ∧ Und K B ∧ B ≤ w.heap.size
theorem NK.ext {B : Nat} {w w' : World} {g : Mn} (h : NK B w g) (x : Ext w w') : NK B w' g := by
 obtain ⟨K,h1,h2,h3⟩ := h;exact ⟨K,h1.bw (Bw.of x fun z hz => Nat.lt_of_lt_of_le (h2 z hz) h3) fun z hz => hz,h2,Nat.le_trans h3 x.le⟩
theorem NK.upd {B b : Nat} {w w' : World} {g : Mn} (h : NK B w g) (x : Upd b w w') (hb : B ≤ b) : NK B w' g := by
 obtain ⟨K,h1,h2,h3⟩ := h;exact ⟨K,h1.bw (Bw.upd x fun hz => by have := h2 _ hz; omega) fun z hz => hz,h2,by rw [x.size]; exact h3⟩
theorem NK.noL {B : Nat} {w : World} {g : Mn} (h : NK B w g) : NoL w g := by
 obtain ⟨K,h1,h2,h3⟩ := h;exact h1.mono fun z hz => Nat.lt_of_lt_of_le (h2 z hz) h3
theorem NK.kid {B : Nat} {w : World} {h : Hd} {cv : Value} {kids : List Mn} (hg : NK B w (.mk h cv kids)) : SlC w cv 7 kids.length (aR Mn.cells kids) ∧ ∀ g ∈ kids,NK B w g := by
 obtain ⟨K,h1,h2,h3⟩ := hg
 cases h1 with | mk a _ _ d => exact ⟨a,fun g hg => ⟨K,d g hg,h2,h3⟩⟩
theorem pathLaw {w : World} {src : ByteArray} {o : Int} (hA0 : Asc w) (hE0 : Er w) : Cl Tryz.prog 7 #[.string src,.int .i64 o] w (fun u w' => u = .bool true ∧ Ext w w') := by
 have hx := Ext.refl w;obtain ⟨s,hs⟩ : ∃ s,src.extract 0 (min src.size 400) = s := ⟨_,rfl⟩;have hsz : s.size ≤ 400 := by rw [← hs,ByteArray.size_extract]; omega
 refine Cl.enter Tryz.func7 rfl Tryz.ntmps7 rfl rfl (.sr (.a2 rfl (.done (.seq (.sr (Rg.wd trivial (aC Tryz.call8 rfl (iF (hA0.ext hx) (lH hE0 hx))) rfl ?_))))));rintro _ w1 ⟨rfl,hx1⟩;replace hx := hx.ext hx1;refine .t2 (bI rfl) (.done (.condF rfl (Wp.skip (.sr (.m2 rfl (Rg.wd trivial (aC Tryz.call9 rfl (D0 (n := 400))) rfl ?_))))));rintro _ w2 ⟨rfl,hx2⟩;replace hx := hx.ext hx2;rw [hs];refine .a2 rfl (.done (.sr (.m2 rfl ?_)));refine Rg.wd trivial (aC Tryz.call10 rfl (lG (s := s) (by omega) (hA0.ext hx) (lH hE0 hx))) rfl ?_;rintro _ w3 ⟨t1,mn1,lv1,ds1,K1,A1⟩;have hx3 := A1.ext;obtain hk1 := lJ A1;have hue := A1.ue;subst hue;have hno := hk1.ok.oneL;obtain ⟨B,hB⟩ : ∃ B,w3.heap.size = B := ⟨_,rfl⟩;have hN : NK B w3 mn1 := ⟨K1,A1.ok,fun z hz => by rw [← hB]; exact (A1.lo z hz).2,Nat.le_of_eq hB.symm⟩;have hwB : w.heap.size ≤ B := by rw [← hB]; exact (hx.ext hx3).le
 have hanc : anc mn1.er ≤ 1000000 := by rw [hk1.er]; exact Nat.le_trans (qL hk1.pt (by omega)) (by decide)
 clear A1 hk1;replace hx := hx.ext hx3;refine .m2 rfl (.t2 (cC rfl rfl) (.t2 (cC rfl rfl) (.t2 (cC rfl rfl) (Rg.wd trivial (cH Tryz.zeroValue26 rfl) rfl ?_))));rintro _ wab5 ⟨b5,rfl,qb5,c,d⟩;refine Rg.wn trivial (bY (cs := mn1.cells) d rfl rfl rfl (by rw [Mn.len]; exact bF) (by rw [Mn.len]; rfl) (hno)) ?_;rintro _ w4 ⟨hub5,hv5⟩;have hx4 := c.upd hub5 (Nat.le_of_eq qb5.symm);clear d hub5 c;replace hx := hx.ext hx4;replace hN := hN.ext hx4;clear qb5;refine .a2 rfl (.a2 rfl (.done (.sr ?_)));refine .t2 (aY rfl hv5.cells (by rw [Mn.len]; exact bF)) ?_;have g5 := hN.choose_spec.2.2;refine Rg.wd trivial (cH Tryz.zeroValue26 rfl) rfl ?_;rintro _ wab8 ⟨b8,rfl,qb8,e,f⟩;have hb8 : B ≤ b8 := by omega
 refine Rg.wn trivial (bY (cs := mn1.cells) f rfl rfl rfl (by rw [Mn.len]; exact bF) (by rw [Mn.len]; rfl) (hno)) ?_;rintro _ w5 ⟨hub8,hv8⟩;have hx5 := e.upd hub8 (Nat.le_of_eq qb8.symm);clear f hub8 e;replace hx := hx.ext hx5;replace hN := hN.ext hx5;replace hv5 := hv5.ext hx5;clear qb8;refine .done (.seq (.sr ?_));refine .t2 (aY rfl hv5.cells (by rw [Mn.len]; exact bF)) ?_;refine .m2 rfl ?_;have l8 := hv8.lt;refine Rg.wd trivial (aC Tryz.call20 rfl (G2 1000000 mn1 hanc (Nat.le_refl _) _ o hN.noL)) rfl ?_;rintro v26 w6 ⟨hs26,ho26,hx6⟩;replace hx := hx.ext hx6;replace hN := hN.ext hx6;replace hv5 := hv5.ext hx6;replace hv8 := hv8.ext hx6;refine .t2 (cM hs26 Tryz.underlying34 rfl) (.m2 rfl (.done (Wp.block ?_)));obtain ⟨pt,hpt⟩ : ∃ pt,gM o mn1.er = pt := ⟨_,rfl⟩;rw [hpt] at hs26;rw [hpt];have hptl : pt.length ≤ 1000000 := by have := oF o mn1.er; rw [hpt] at this; omega
 refine Wp.loop (ι := Nat × Mn) (fun i => [(1,.int .i64 o),(7,.int .i64 0),(8,.pointer (some ⟨b8,0,none⟩)),(26,v26),(27,.int .i64 pt.length),(28,.int .i64 i.1)])
  (fun i w' => i.1 ≤ pt.length ∧ NK B w' i.2 ∧ Var w' b8 i.2.cells 26 ∧ pt.drop i.1 = gM o i.2.er ∧ SlC w' v26 1 pt.length (aR Jh pt) ∧ anc i.2.er ≤ 1000000 ∧ (∀ z,v26.ownBlock = some z → z ≠ b8) ∧ Ext w w') (fun i => pt.length - i.1) (0,mn1) (by repeat (first | exact .nil | refine .cons rfl ?_)) ⟨Nat.zero_le _,hN,hv8,by rw [hpt]; rfl,hs26,hanc,fun z hz => by have := ho26 z hz; omega,hx⟩ ?_
 clear hx hs26 hv8 hv5 hN hno hanc hpt;rintro ⟨i,mn2⟩ wl ⟨hi,hN,hv8,hd,hs26,hanc,hnb,hx⟩;simp only at hi hN hv8 hd hanc ⊢;obtain ⟨h2,cv,kids⟩ := mn2;obtain ⟨hsl,hkk⟩ := hN.kid;have hkl := kB (dA kids);rw [cW] at hkl;have ha : anc (Mn.mk h2 cv kids).er = cY (dA kids) + 1 := rfl
 rcases sH (o := o) (h := h2) (ks := dA kids) with ⟨hf,hp⟩ | ⟨j,hj,hf,hp,hc⟩
 ·have hil : i = pt.length := by
   have h1 : pt.drop i = [] := hd.trans hp;rw [List.drop_eq_nil_iff] at h1;omega
  have hnc : ∀ k (h : k < kids.length),¬ qO o kids[k].er := fun k h => by
   have h3 := List.findIdx?_eq_none_iff.1 hf kids[k].er (by rw [fK]; exact List.mem_map_of_mem (List.getElem_mem h))
   simpa using h3
  refine .sr ?_;refine .t2 (bM rfl rfl (by omega)) ?_;refine .done (.seq (.condF rfl (Wp.exit (.seq (.sr (.t2 (aA bZ rfl) (.t2 (aB eG rfl (hv8.g 6 rfl)) (.t2 (cM hsl Tryz.underlying24 rfl) (.m2 rfl (.done (Wp.block ?_)))))))))));refine Wp.loop (ι := Nat) (fun i => [(1,.int .i64 o),(7,.int .i64 0),(58,cv),(59,.int .i64 kids.length),(60,.int .i64 i)])
   (fun i w' => i ≤ kids.length ∧ SlC w' cv 7 kids.length (aR Mn.cells kids) ∧ (∀ g ∈ kids,g.cells.all (·.oneCell') = true) ∧ Ext w w') (fun i => kids.length - i) 0 (by repeat (first | exact .nil | refine .cons rfl ?_)) ⟨Nat.zero_le _,hsl,fun g hg => (hkk g hg).noL.oneL,hx⟩ ?_
  clear hx hsl hv8 hN hs26 hkk;rintro q wq ⟨hq,hsl,hone,hx⟩
  by_cases hql : q < kids.length
  ·have hog := hone _ (List.getElem_mem hql)
   have hcq := hnc q hql;obtain ⟨g,hgq⟩ : ∃ g,kids[q] = g := ⟨_,rfl⟩;rw [hgq] at hog hcq;have hxx := Ext.refl wq;obtain ⟨gh,gv,gk⟩ := g;have hcq : ¬ (gh.st ≤ o ∧ o < gh.en) := hcq;refine .sr ?_;refine .t2 (bL rfl rfl (by omega)) ?_;refine .done (.seq (.condT rfl (Wp.skip (.seq (Wp.block (.sr ?_))))));refine Rg.ix hsl trivial rfl rfl Tryz.underlying24 bF (by omega) rfl ?_;intro bt62 ot62 ht62;rw [Int.toNat_natCast,cN Mn.len kids q hql,hgq] at ht62;refine .t2 (aY rfl ht62 (by rw [Mn.len]; exact bF)) ?_;refine Rg.wd trivial (cH Tryz.zeroValue26 rfl) rfl ?_;rintro _ wab12 ⟨b12,rfl,qb12,a,b⟩;refine Rg.wn trivial (bY (cs := (Mn.mk gh gv gk).cells) b rfl rfl rfl (by rw [Mn.len]; exact bF) (by rw [Mn.len]; rfl) (hog)) ?_;rintro _ w41 ⟨hub12,hv12⟩;have hx41 := a.upd hub12 (Nat.le_of_eq qb12.symm);clear b hub12 a;replace hx := hx.ext hx41;replace hsl := hsl.ext hx41;replace ht62 := ht62.ext hx41;clear qb12;refine .done ?_
   by_cases h1 : gh.st ≤ o
   ·skip
    refine .sr (.t2 (aA dE rfl) (.t2 (aB bA rfl (hv12.g 3 rfl)) (.m2 rfl ?_)));refine .t2 (eI rfl rfl (by omega)) ?_;refine .m2 rfl (.g2 (aQ rfl) (.g2 (aA dF rfl) (.g2 (aB bA rfl (hv12.g 4 rfl)) ?_)));refine .g2 (bM rfl rfl (by omega)) ?_;refine .t2 (aH rfl rfl) (.done (.condF rfl (Wp.skip (Wp.region ?_))))
    first | refine .tq (bC rfl rfl (by omega)) rfl ?_ | refine .tq (bX rfl rfl) rfl ?_
    refine .m2 rfl (.done ?_);exact ⟨q + 1,by repeat (first | exact .nil | refine .cons rfl ?_),⟨by omega,hsl,hone,hx⟩,by omega⟩
   ·skip
    refine .sr (.t2 (aA dE rfl) (.t2 (aB bA rfl (hv12.g 3 rfl)) (.m2 rfl ?_)));refine .t2 (dN rfl rfl (by omega)) ?_;refine .m2 rfl (.so rfl rfl (.so rfl rfl (.so rfl rfl (.so rfl rfl (.t2 (aJ rfl rfl) (.done (.condF rfl (Wp.skip (Wp.region ?_)))))))))
    first | refine .tq (bC rfl rfl (by omega)) rfl ?_ | refine .tq (bX rfl rfl) rfl ?_
    refine .m2 rfl (.done ?_);exact ⟨q + 1,by repeat (first | exact .nil | refine .cons rfl ?_),⟨by omega,hsl,hone,hx⟩,by omega⟩
  ·skip
   refine .sr ?_;refine .t2 (bM rfl rfl (by omega)) ?_;refine .done (.seq (.condF rfl (Wp.exit (.sr (Rg.wd trivial (aC Tryz.call8 rfl (iF (hA0.ext hx) (lH hE0 hx))) rfl ?_)))));rintro _ w41 ⟨rfl,hx41⟩;replace hx := hx.ext hx41;replace hsl := hsl.ext hx41;refine .m2 rfl (.g2 (aQ rfl) (.g2 (aS rfl rfl rfl) (.t2 (aH rfl rfl) (.a2 rfl (.done (Wp.ret ?_))))));exact ⟨[_],⟨rfl,trivial⟩,rfl,hx⟩
 ·have hjk : j < kids.length := by rw [cW] at hj; exact hj
  rw [iB kids j hjk] at hp hc;have hgj := hkk _ (List.getElem_mem hjk);have hanj : anc kids[j].er ≤ cY (dA kids) := jC (by rw [← iB kids j hjk]; exact List.getElem_mem _);obtain ⟨hil,hpi,hpd⟩ := Bi (hd.trans hp);obtain ⟨g,hgq⟩ : ∃ g,kids[j] = g := ⟨_,rfl⟩;rw [hgq] at hc hgj hanj hpd;have hog := hgj.noL.oneL;obtain ⟨gh,gv,gk⟩ := g;have hc : gh.st ≤ o ∧ o < gh.en := hc;refine .sr ?_;refine .t2 (bL rfl rfl (by omega)) ?_;refine .done (.seq (.condT rfl (Wp.skip (.seq (Wp.block (.sr ?_))))));refine Rg.ix hs26 trivial rfl rfl Tryz.underlying34 bA (by omega) rfl ?_;intro bt30 ot30 ht30;rw [Int.toNat_natCast,cN G1 pt i hil,hpi] at ht30;refine .t2 (aB bA rfl (bH.get (i := 0) ht30 rfl)) (.a2 rfl (.done (.seq (.sr (.m2 rfl ?_)))));refine .t2 (bM rfl rfl (by omega)) ?_;refine .m2 rfl (.g2 (aQ rfl) (.g2 (aA bZ rfl) (.g2 (aB eG rfl (hv8.g 6 rfl)) (.g2 (cM hsl Tryz.underlying24 rfl) ?_))));refine .g2 (eN rfl rfl (by omega)) ?_;refine .t2 (aJ rfl rfl) (.done (.condF rfl (Wp.skip (.sr (.t2 (aA bZ rfl) (.t2 (aB eG rfl (hv8.g 6 rfl)) (.m2 rfl ?_)))))));refine Rg.ix hsl trivial rfl rfl Tryz.underlying24 bF (by omega) rfl ?_;intro bt44 ot44 ht44;rw [Int.toNat_natCast,cN Mn.len kids j hjk,hgq] at ht44;refine .t2 (aY rfl ht44 (by rw [Mn.len]; exact bF)) ?_;refine Rg.wn trivial (bY (cs := (Mn.mk gh gv gk).cells) hv8 rfl rfl rfl (by rw [Mn.len]; exact bF) (by rw [Mn.len]; rfl) hog) ?_;rintro _ w21 ⟨hu8,hv8n⟩;replace hx := hx.upd hu8 (by omega);replace hgj := hgj.upd hu8 hb8;have hs26n : SlC w21 v26 1 pt.length (aR Jh pt) := hZ (F := fun z => v26.ownBlock = some z) hs26 (Bw.upd hu8 fun h => hnb _ h rfl) (fun z hz => hz);clear hv8 hsl hkk hN hs26;have hv8 := hv8n;refine .done (.sr (.m2 rfl (.t2 (aA dE rfl) (.t2 (aB bA rfl (hv8.g 3 rfl)) ?_))));refine .t2 (bM rfl rfl (by omega)) ?_;refine .m2 rfl (.g2 (aQ rfl) (.g2 (aA dF rfl) (.g2 (aB bA rfl (hv8.g 4 rfl)) ?_)));refine .g2 (eN rfl rfl (by omega)) ?_;refine .t2 (aJ rfl rfl) (.done (.condF rfl (Wp.skip (Wp.region ?_))))
  first | refine .tq (bC rfl rfl (by omega)) rfl ?_ | refine .tq (bX rfl rfl) rfl ?_
  refine .m2 rfl (.done ?_);exact ⟨(i + 1,Mn.mk gh gv gk),by repeat (first | exact .nil | refine .cons rfl ?_),⟨by simp only; omega,hgj,hv8,hpd,hs26n,by simp only; omega,hnb,hx⟩,by simp only; omega⟩
end Go.Proofs.YtlndmiegodcfjaaGreatDoor.Prn
namespace Go.Proofs.YtlndmiegodcfjaaGreatDoor.Prn
set_option maxRecDepth 20000
open Go.Gx Go.RowKit Go.Lib Go.Deep
open Par Ast
inductive NI (w : World) : Mn → Prop where
 | mk {h : Hd} {cv : Value} {kids : List Mn} (hs : SlC w cv 7 kids.length (aR Mn.cells kids)) (h1 : cv.oneCell' = true) (hk : ∀ g ∈ kids,NI w g) : NI w (.mk h cv kids)
theorem NI.ext {w w' : World} {g : Mn} (h : NI w g) (x : Ext w w') : NI w' g := by
 induction h with
 | mk hs h1 _ ih => exact .mk (hs.ext x) h1 ih
theorem NI.oneL {w : World} {g : Mn} (h : NI w g) : (g.cells.all (·.oneCell')) = true := by
 cases h with
 | mk _ h1 _ => exact Hd.one _ h1
theorem NI.of {F : Fs} {w : World} {g : Mn} (h : NOk F w g) : NI w g := by
 induction h with
 | mk hs h1 _ _ ih => exact .mk hs h1 ih
mutual
def nP : An → Prop
 | .mk _ ks => ks.length * 80 ≤ 140737488355328 ∧ qM ks
def qM : List An → Prop
 | [] => True
 | a :: l => nP a ∧ qM l
end
theorem vX (l : List An) : qM l ↔ ∀ a ∈ l,nP a := by
 induction l with
 | nil => simp [qM]
 | cons a l ih => rw [qM,ih]; simp
theorem tY {h : Hd} {ks : List An} (hb : nP (.mk h ks)) : ks.length * 80 ≤ 140737488355328 := by rw [nP] at hb; exact hb.1
theorem nQ {h : Hd} {ks : List An} (hb : nP (.mk h ks)) {a : An} (ha : a ∈ ks) : nP a := by rw [nP,vX] at hb; exact hb.2 a ha
instance : Inhabited Mn := ⟨Iy⟩
theorem tZ : Tryz.prog.cellsOf 26 = 7 := by kernel_rfl
theorem G4 : Tryz.prog.cellsOf 3 = 1 := by kernel_rfl
theorem G5 : Tryz.prog.cellsOf 9 = 1 := by kernel_rfl
theorem zR : Tryz.prog.cellsOf 24 = 1 := by kernel_rfl
theorem G6 : Tryz.prog.bytesOf 26 = 80 := by kernel_rfl
theorem lK {H : Type} {e : TypeId} : ∀ (l : List (DataW H)) (d : DataW H),d ∈ l → ∀ x ∈ d.weights Tryz.prog e,x ∈ DataW.weightsAll Tryz.prog e l
 | [],d,h => by cases h
 | a :: l,d,h => fun x hx => by
  simp only [DataW.weightsAll,List.mem_append]
  rcases List.mem_cons.1 h with rfl | h
  ·exact .inl hx
  ·exact .inr (lK l d h x hx)
theorem oX {H : Type} {ts : List TypeId} {ds : List (DataW H)} {i : Nat} {t : TypeId} {d : DataW H} (ht : ts[i]? = some t) (hd : ds[i]? = some d) : ∀ x ∈ d.weights Tryz.prog t,x ∈ DataW.weightsEach Tryz.prog ts ds := fun x hx => DataW.weights_mem_each ht hd x hx
theorem G7 {W : World} {H : Type} {enc : TypeId × Value → H} {base : Nat} : ∀ (fuel : Nat) (cs : List Value) (x : DataW H × List MemPlace),DataW.trod enc Tryz.prog W base (fun _ => true) true fuel 26 cs = some x →
  ∃ g : Mn,cs = g.cells ∧ NI W g ∧ ((∀ y ∈ x.1.weights Tryz.prog 26,y ≤ reachBytes) → nP g.er) := by
 intro fuel
 induction fuel using Nat.strongRecOn with
 | _ fuel ih =>
  intro cs x h;obtain ⟨xs,n,rfl,rfl,hl,hlen,hf⟩ := DataW.trod_struct Tryz.underlying26 h;rw [tZ] at hl
  match cs,hl with
  | [c0,c1,c2,c3,c4,c5,c6],_ =>
   match xs,hlen with
   | [y0,y1,y2,y3,y4,y5,y6],_ =>
    have k0 := hf 0 _ rfl;have k1 := hf 1 _ rfl;have k2 := hf 2 _ rfl;have k3 := hf 3 _ rfl;have k4 := hf 4 _ rfl;have k5 := hf 5 _ rfl;have k6 := hf 6 _ rfl;obtain ⟨z0,q0,_⟩ := DataW.trod_int Tryz.underlying3 (show DataW.trod enc Tryz.prog W base (fun _ => true) true n 3 _ = some y0 from k0);obtain ⟨z1,q1,_⟩ := DataW.trod_int Tryz.underlying3 (show DataW.trod enc Tryz.prog W base (fun _ => true) true n 3 _ = some y1 from k1);obtain ⟨z2,q2,_⟩ := DataW.trod_string Tryz.underlying9 (show DataW.trod enc Tryz.prog W base (fun _ => true) true n 9 _ = some y2 from k2);obtain ⟨z3,q3,_⟩ := DataW.trod_int Tryz.underlying3 (show DataW.trod enc Tryz.prog W base (fun _ => true) true n 3 _ = some y3 from k3);obtain ⟨z4,q4,_⟩ := DataW.trod_int Tryz.underlying3 (show DataW.trod enc Tryz.prog W base (fun _ => true) true n 3 _ = some y4 from k4);obtain ⟨z5,q5,_⟩ := DataW.trod_int Tryz.underlying3 (show DataW.trod enc Tryz.prog W base (fun _ => true) true n 3 _ = some y5 from k5);have k6 := (show DataW.trod enc Tryz.prog W base (fun _ => true) true n 24 _ = some y6 from k6);simp [G4,G5] at q0 q1 q2 q3 q4 q5;subst q0; subst q1; subst q2; subst q3; subst q4; subst q5
    rcases DataW.trod_slice Tryz.underlying24 k6 with ⟨e6,_⟩ | ⟨a,len,cap,elems,rest,m,hm,e6,hx6,hba,hlc,hcm,hel,hel2,hsp,_⟩
    ·simp [zR] at e6
     subst e6;refine ⟨.mk ⟨z0,z1,z2,z3,z4,z5⟩ (.slice none 0 0) [],rfl,.mk (pC _ _) rfl (fun g hg => by cases hg),fun _ => ?_⟩
     show nP (.mk _ [])
     rw [nP,qM];exact ⟨by simp,trivial⟩
    ·simp [zR] at e6
     subst e6;rw [tZ] at hel2;have hone : ∀ i,i < len → ∃ g : Mn,W.cells? base (a.add (i * 7)) 7 = some g.cells ∧ NI W g ∧ ∀ y,elems[i]? = some y → (∀ v ∈ y.1.weights Tryz.prog 26,v ≤ reachBytes) → nP g.er := by
      intro i hi;have h2 := hel2 i hi;have hie : i < elems.length := by omega
      rw [List.getElem?_eq_getElem hie] at h2;obtain ⟨cs',h3,h4⟩ := Option.bind_eq_some_iff.1 h2;obtain ⟨g,e1,e2,e3⟩ := ih m (by omega) cs' _ h4;refine ⟨g,by rw [h3,e1],e2,fun y hy hw => e3 ?_⟩;rw [List.getElem?_eq_getElem hie] at hy;obtain rfl := Option.some.inj hy;exact hw
     obtain ⟨f,hF⟩ := choose_lt hone;refine ⟨.mk ⟨z0,z1,z2,z3,z4,z5⟩ (.slice (some a) len cap) ((List.range len).map f),rfl,.mk ?_ rfl fun g hg => ?_,fun hw => ?_⟩
     ·refine ⟨by rw [bB Mn.len],some a,cap,by simp,by simpa using hlc,?_⟩
      by_cases h0 : len = 0
      ·subst h0
       by_cases hc : cap = 0
       ·exact .inl hc
       ·obtain ⟨b,off,spot⟩ := a
        have hs := hsp rfl;rw [tZ] at hs;have h2 := hs.2 0 (by omega);rw [List.getElem?_eq_getElem (by omega)] at h2;obtain ⟨cs',h3,_⟩ := Option.bind_eq_some_iff.1 h2;have hl7 : cs'.length = 7 := (World.cells?_some h3).2.1;have g3 := (World.cells?_some h3).2.2 0 (by omega);have hspot : spot = none := by simpa [Addr.add] using World.cell?_spot (g3.trans (List.getElem?_eq_getElem (by omega)))
        subst hspot;exact .inr ⟨b,off,rfl,fun i v hv => by simp [aR] at hv⟩
      ·obtain ⟨b,off,spot⟩ := a
       obtain ⟨g1,_⟩ := hF 0 (by omega);have g3 := (World.cells?_some g1).2.2 0 (by omega);have hspot : spot = none := by simpa [Addr.add] using World.cell?_spot (g3.trans (List.getElem?_eq_getElem (by rw [Mn.len]; omega)))
       subst hspot;refine .inr ⟨b,off,rfl,fun i v hv => ?_⟩;have hi : i < len * 7 := by
        have := (List.getElem?_eq_some_iff.1 hv).1;rw [bB Mn.len] at this
        simpa using this
       have hk : i / 7 < len := by omega
       have hj : i % 7 < 7 := by omega
       have e1 : i = i / 7 * 7 + i % 7 := by omega
       rw [e1,jA Mn.len _ _ _ (by simpa using hk) hj] at hv;have g4 := (World.cells?_some (hF (i / 7) hk).1).2.2 (i % 7) hj;rw [Go.Gx.dB,Go.Gx.dB] at g4;rw [e1,← Nat.add_assoc];simp only [List.getElem_map,List.getElem_range] at hv;rw [g4,hv]
     ·obtain ⟨i,hi,rfl⟩ := List.mem_map.1 hg
      exact (hF i (by simpa using hi)).2.1
     ·show nP (.mk _ (dA ((List.range len).map f)))
      have hw6 : ∀ v ∈ y6.1.weights Tryz.prog 24,v ≤ reachBytes := fun v hv => hw v (by
       simp only [DataW.weights,Tryz.underlying26,List.map_cons,List.map_nil];exact oX (i := 6) rfl rfl v hv)
      obtain rfl : y6 = _ := hx6;simp only [DataW.weights,Tryz.underlying24] at hw6;rw [nP,vX];refine ⟨?_,fun b hb => ?_⟩
      ·have := hw6 _ List.mem_cons_self
       rw [G6] at this;simp only [List.length_map,reachBytes] at this;rw [cW];simp only [List.length_map,List.length_range];have e : elems.length = len := hel;have : len * 80 ≤ (elems.length + rest.length) * 80 := Nat.mul_le_mul_right _ (by omega);omega
      ·rw [fK] at hb
       obtain ⟨g,hg,rfl⟩ := List.mem_map.1 hb;obtain ⟨i,hi,rfl⟩ := List.mem_map.1 hg;have hi : i < len := by simpa using hi
       have hie : i < elems.length := by omega
       refine (hF i hi).2.2 _ (List.getElem?_eq_getElem hie) fun v hv => hw6 v (List.mem_cons_of_mem _ (List.mem_append_left _ ?_));exact lK _ _ (List.mem_map_of_mem (List.getElem_mem hie)) v hv
end Go.Proofs.YtlndmiegodcfjaaGreatDoor.Prn
