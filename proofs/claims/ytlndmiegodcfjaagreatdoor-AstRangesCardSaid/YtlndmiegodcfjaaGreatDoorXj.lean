/- The helpers of the parser's laws: ast.Equal, source, Mod. Printed by r7/Ce.py. -/
import Derived.Test.YtlndmiegodcfjaaGreatDoorXi
import Derived.Test.YtlndmiegodcfjaaGreatDoorXd
import Derived.Test.YtlndmiegodcfjaaGreatDoorXg
import Derived.Deep.Strs
set_option linter.unusedVariables false
set_option linter.unusedSimpArgs false
namespace Go.Proofs.YtlndmiegodcfjaaGreatDoor.Par
set_option maxRecDepth 20000
open Go.Gx Go.RowKit Go.Lib
open Lexi (Asc aG Al xW Ii)
open Ast
mutual
def iQ : An → An
 | .mk h ks => .mk ⟨h.kind,h.value,h.text,0,0,0⟩ (iI ks)
def iI : List An → List An
 | [] => []
 | a :: l => iQ a :: iI l
end
mutual
def anc : An → Nat
 | .mk _ ks => cK ks + 1
def cK : List An → Nat
 | [] => 0
 | a :: l => anc a + cK l
end
theorem jZ (l : List An) : iI l = l.map iQ := by
 induction l with
 | nil => rfl
 | cons a l ih => simp [iI,ih]
theorem kA (l : List An) : l.length ≤ cK l := by
 induction l with
 | nil => exact Nat.le_refl _
 | cons a l ih => cases a; simp only [cK,anc,List.length_cons]; omega
theorem nK {l : List An} {a : An} (h : a ∈ l) : anc a ≤ cK l := by
 induction l with
 | nil => cases h
 | cons b l ih =>
  rcases List.mem_cons.1 h with rfl | h
  ·simp only [cK]; omega
  ·have := ih h; simp only [cK]; omega
theorem kB (a b : List An) : cK (a ++ b) = cK a + cK b := by
 induction a with
 | nil => simp [cK]
 | cons x a ih => simp only [List.cons_append,cK,ih]; omega
theorem Gl (src : ByteArray) (h : Hd) (ns : List An) (ds : List Dg) : anc (Bm src h ns ds).1 ≤ cK ns + 1 := by
 unfold Bm
 split
 ·split
  ·simp only [anc,cK]; omega
  ·simp only [anc,cK]; omega
 split
 ·simp only [anc,cK]; omega
 ·simp only [anc]; omega
mutual
theorem zP (src : ByteArray) : ∀ (t : Tr) (off : Int) (ds : List Dg),anc (gV src t off ds).1 ≤ t.cnt
 | .mk k x ks,off,ds => by
  rw [gV,Tr.cnt];have h1 := Gl src (kU (eD src ks (qA k off) [] off ds).1) (eD src ks (qA k off) [] off ds).2.1 (eD src ks (qA k off) [] off ds).2.2.2;have h2 := qI src ks (qA k off) [] off ds;simp only [cK] at h2
  show anc (Bm _ _ _ _).1 ≤ _
  omega
theorem qI (src : ByteArray) : ∀ (l : List Tr) (h : Hd) (ns : List An) (off : Int) (ds : List Dg),cK (eD src l h ns off ds).2.1 ≤ cK ns + fN l
 | [],h,ns,off,ds => by rw [eD]; simp [fN]
 | t :: l,h,ns,off,ds => by
  rw [eD,fN]
  split
  ·have := qI src l (jD h off ds (kd t) (tx t)).1 ns (jD h off ds (kd t) (tx t)).2.1 (jD h off ds (kd t) (tx t)).2.2
   simp only;omega
  ·have h1 := zP src t off ds
   have h2 := qI src l (ext h (gV src t off ds).1.hd.st (gV src t off ds).1.hd.en) (ns ++ [(gV src t off ds).1]) (gV src t off ds).2.1 (gV src t off ds).2.2;rw [kB] at h2;simp only [cK] at h2;simp only;omega
end
theorem Bf (s : ByteArray) (t : Tr) : anc (eS s t) ≤ t.cnt := by
 have := zP s t 0 [];unfold eS
 cases h : (gV s t 0 []).1 with
 | mk a ks => rw [h] at this; exact this
theorem qJ (l : List Mn) (k : Nat) (h : k < l.length) : (dM l)[k]'(by rw [fV]; exact h) = l[k].er := by simp [kO]
theorem D0 : ∀ (n : Nat) (g h : Mn),anc g.er ≤ n → anc g.er ≤ 1000000 → ∀ (w : World),NoL w g → NoL w h → Cl Tryz.prog 17 #[.agg g.cells.toArray,.agg h.cells.toArray] w (fun u w' => (∃ b,u = .bool b ∧ (b = true ↔ iQ g.er = iQ h.er)) ∧ Ext w w') := by
 intro n
 induction n with
 | zero =>
  intro g h hn
  cases g
  simp [Mn.er,anc] at hn
 | succ n ih =>
  intro g h hn hc w hg hh;obtain ⟨a,c1,l1⟩ := g;obtain ⟨b,c2,l2⟩ := h
  cases hg with
  | mk hs1 h1 hb1 hk1 =>
   cases hh with
   | mk hs2 h2 hb2 hk2 =>
    simp only [Mn.er,anc] at hn hc;have hlenk := kA (dM l1);rw [fV] at hlenk;have hx := Ext.refl w;have o1 := Hd.one a h1;have o2 := Hd.one b h2
    by_cases e1 : a.kind = b.kind
    ·by_cases e2 : a.value = b.value
     ·by_cases e3 : a.text = b.text
      ·by_cases e4 : l1.length = l2.length
       ·skip
        refine Cl.enter Tryz.func17 rfl Tryz.ntmps17 rfl rfl ?_;have hs10 := hs1;have hs20 := hs2;refine .sr (Rg.wd trivial (aW (cs := a.cells c1) rfl rfl) rfl ?_);rintro _ w1 ⟨b2,rfl,q2,hx1,hv2⟩;replace hx := hx.ext hx1;refine Rg.wd trivial (aW (cs := b.cells c2) rfl rfl) rfl ?_;rintro _ w2 ⟨b3,rfl,q3,hx2,hv3⟩;replace hx := hx.ext hx2;replace hv2 := hv2.ext hx2;refine .a2 rfl (.done (.seq (.sr (.t2 (aA aZ rfl) (.t2 (aB bA rfl (hv2.g 0 rfl)) (.t2 (aA aZ rfl) (.t2 (aB bA rfl (hv3.g 0 rfl)) (.t2 (cU rfl rfl e1) (.m2 rfl ?_)))))))))
        first | refine .gd (aA eZ rfl) rfl ?_ | refine .so rfl rfl ?_
        refine .g2 (aB bA rfl (hv2.g 1 rfl)) ?_
        first | refine .gd (aA eZ rfl) rfl ?_ | refine .so rfl rfl ?_
        refine .g2 (aB bA rfl (hv3.g 1 rfl)) (.g2 (cU rfl rfl e2) (.t2 (aN rfl rfl) (.m2 rfl ?_)))
        first | refine .gd (aA fP rfl) rfl ?_ | refine .so rfl rfl ?_
        refine .g2 (aB hY rfl (hv2.g 2 rfl)) ?_
        first | refine .gd (aA fP rfl) rfl ?_ | refine .so rfl rfl ?_
        refine .g2 (aB hY rfl (hv3.g 2 rfl)) (.g2 (pB rfl rfl e3) (.t2 (aN rfl rfl) (.m2 rfl ?_)))
        first | refine .gd (aA eP rfl) rfl ?_ | refine .so rfl rfl ?_
        refine .g2 (aB iK rfl (hv2.g 6 rfl)) ?_
        first | refine .gd (dD hs10 Tryz.underlying24 rfl) rfl ?_ | refine .so rfl rfl ?_
        first | refine .gd (aA eP rfl) rfl ?_ | refine .so rfl rfl ?_
        refine .g2 (aB iK rfl (hv3.g 6 rfl)) ?_
        first | refine .gd (dD hs20 Tryz.underlying24 rfl) rfl ?_ | refine .so rfl rfl ?_
        refine .g2 (cU rfl rfl (by omega)) ?_;refine .t2 (aN rfl rfl) (.done (.condF rfl (Wp.skip (.seq (.sr (.t2 (aA eP rfl) (.t2 (aB iK rfl (hv2.g 6 rfl)) (.t2 (dD hs10 Tryz.underlying24 rfl) (.m2 rfl (.done (Wp.block ?_)))))))))));refine Wp.loop (ι := Nat) (fun k => [(2,.pointer (some ⟨b2,0,none⟩)),(3,.pointer (some ⟨b3,0,none⟩)),(36,.int .i64 l1.length),(37,.int .i64 k)])
         (fun k w' => k ≤ l1.length ∧ (iI (dM l1)).take k = (iI (dM l2)).take k ∧ Ext w w' ∧ Var w' b2 (a.cells c1) 26 ∧ Var w' b3 (b.cells c2) 26) (fun k => l1.length - k) 0 (by repeat (first | exact .nil | refine .cons rfl ?_)) ⟨Nat.zero_le _,rfl,hx,hv2,hv3⟩ ?_
        clear hx hv2 hv3;rintro k w9 ⟨hk,he,hx,hv2,hv3⟩;have hcl1 : (iI (dM l1)).length = l1.length := by simp [jZ,fV]
        have hcl2 : (iI (dM l2)).length = l2.length := by simp [jZ,fV]
        by_cases hlt : k < l1.length
        ·have hlt2 : k < l2.length := by omega
         have hem : (iI (dM l1))[k]'(by omega) = iQ l1[k].er := by simp [jZ,kO]
         have hem2 : (iI (dM l2))[k]'(by omega) = iQ l2[k].er := by simp [jZ,kO]
         have hcm : anc l1[k].er ≤ cK (dM l1) := nK (by rw [← qJ l1 k hlt]; exact List.getElem_mem _)
         by_cases heq : iQ l1[k].er = iQ l2[k].er
         ·skip
          refine .sr ?_
          first | refine .tq (bN rfl rfl (by omega)) rfl ?_ | refine .tq (bO rfl rfl (by omega)) rfl ?_ | refine .tq (cT rfl rfl) rfl ?_
          refine .done (.seq (.condT rfl (Wp.skip (.seq (Wp.block (.sr (.m2 rfl (.a2 rfl (.done ?_)))))))));refine Wp.seq (Wp.draw [0,1,2,3,4,5,6,7,8,9,10,11] [] mixed (by kernel_rfl) (by kernel_rfl) ?_);intro w21 hx21 _;replace hx := hx.ext hx21;replace hv2 := hv2.ext hx21;replace hv3 := hv3.ext hx21;refine .t2 (aA eP rfl) (.t2 (aB iK rfl (hv2.g 6 rfl)) (.m2 rfl ?_));refine Rg.ix hs10 trivial rfl rfl Tryz.underlying24 cC (by omega) rfl ?_;intro bt43 ot43 ht43;replace ht43 := ht43.ext hx;rw [Int.toNat_natCast,eA Mn.len l1 k hlt] at ht43;refine .t2 (bB rfl ht43 (by rw [Mn.len]; exact cC)) ?_;refine .t2 (aA eP rfl) (.t2 (aB iK rfl (hv3.g 6 rfl)) (.m2 rfl ?_));refine Rg.ix hs20 trivial rfl rfl Tryz.underlying24 cC (by omega) rfl ?_;intro bt48 ot48 ht48;replace ht48 := ht48.ext hx;rw [Int.toNat_natCast,eA Mn.len l2 k hlt2] at ht48;refine .t2 (bB rfl ht48 (by rw [Mn.len]; exact cC)) ?_;refine Rg.wdB trivial rfl (aC Tryz.call17 rfl (ih l1[k] l2[k] (by omega) (by omega) _ (NoL.ext (hk1 _ (List.getElem_mem hlt)) hx) (NoL.ext (hk2 _ (List.getElem_mem hlt2)) hx))) rfl (fun _ _ h => h.2) ?_;rintro _ w22 ⟨⟨bb,rfl,hbb⟩,hx22⟩;replace hx := hx.ext hx22;replace hv2 := hv2.ext hx22;replace hv3 := hv3.ext hx22;replace ht43 := ht43.ext hx22;replace ht48 := ht48.ext hx22;obtain rfl : bb = true := by
           exact hbb.2 heq
          refine .t2 (bJ rfl) (.done (.condF rfl (Wp.skip (Wp.region ?_))))
          first | refine .tq (bC rfl rfl (by omega)) rfl ?_ | refine .tq (bV rfl rfl) rfl ?_
          refine .m2 rfl (.done ?_);exact ⟨k + 1,by repeat (first | exact .nil | refine .cons rfl ?_),⟨hlt,by rw [List.take_succ_eq_append_getElem (by omega),List.take_succ_eq_append_getElem (by omega),he,hem,hem2,heq],hx,hv2,hv3⟩,by omega⟩
         ·skip
          refine .sr ?_
          first | refine .tq (bN rfl rfl (by omega)) rfl ?_ | refine .tq (bO rfl rfl (by omega)) rfl ?_ | refine .tq (cT rfl rfl) rfl ?_
          refine .done (.seq (.condT rfl (Wp.skip (.seq (Wp.block (.sr (.m2 rfl (.a2 rfl (.done ?_)))))))));refine Wp.seq (Wp.draw [0,1,2,3,4,5,6,7,8,9,10,11] [] mixed (by kernel_rfl) (by kernel_rfl) ?_);intro w21 hx21 _;replace hx := hx.ext hx21;replace hv2 := hv2.ext hx21;replace hv3 := hv3.ext hx21;refine .t2 (aA eP rfl) (.t2 (aB iK rfl (hv2.g 6 rfl)) (.m2 rfl ?_));refine Rg.ix hs10 trivial rfl rfl Tryz.underlying24 cC (by omega) rfl ?_;intro bt43 ot43 ht43;replace ht43 := ht43.ext hx;rw [Int.toNat_natCast,eA Mn.len l1 k hlt] at ht43;refine .t2 (bB rfl ht43 (by rw [Mn.len]; exact cC)) ?_;refine .t2 (aA eP rfl) (.t2 (aB iK rfl (hv3.g 6 rfl)) (.m2 rfl ?_));refine Rg.ix hs20 trivial rfl rfl Tryz.underlying24 cC (by omega) rfl ?_;intro bt48 ot48 ht48;replace ht48 := ht48.ext hx;rw [Int.toNat_natCast,eA Mn.len l2 k hlt2] at ht48;refine .t2 (bB rfl ht48 (by rw [Mn.len]; exact cC)) ?_;refine Rg.wdB trivial rfl (aC Tryz.call17 rfl (ih l1[k] l2[k] (by omega) (by omega) _ (NoL.ext (hk1 _ (List.getElem_mem hlt)) hx) (NoL.ext (hk2 _ (List.getElem_mem hlt2)) hx))) rfl (fun _ _ h => h.2) ?_;rintro _ w22 ⟨⟨bb,rfl,hbb⟩,hx22⟩;replace hx := hx.ext hx22;replace hv2 := hv2.ext hx22;replace hv3 := hv3.ext hx22;replace ht43 := ht43.ext hx22;replace ht48 := ht48.ext hx22;obtain rfl : bb = false := by
           cases bb
           ·rfl
           ·exact absurd (hbb.1 rfl) heq
          refine .t2 (bJ rfl) (.done (.condT rfl (.sr (.a2 rfl (.done (Wp.ret ?_))))));refine ⟨[_],⟨rfl,trivial⟩,⟨false,rfl,⟨fun e => by (cases e),fun e => ?_⟩⟩,hx⟩;simp only [Mn.er,iQ,An.mk.injEq] at e;exact absurd (by rw [← hem,← hem2]; simp only [e.2]) heq
        ·skip
         refine .sr ?_
         first | refine .tq (bN rfl rfl (by omega)) rfl ?_ | refine .tq (bO rfl rfl (by omega)) rfl ?_ | refine .tq (cT rfl rfl) rfl ?_
         refine .done (.seq (.condF rfl (Wp.exit (.sr (.a2 rfl (.done (Wp.ret ?_)))))));refine ⟨[_],⟨rfl,trivial⟩,⟨true,rfl,⟨fun _ => ?_,fun _ => rfl⟩⟩,hx⟩;rw [show k = (iI (dM l1)).length from by omega,List.take_length,show (iI (dM l1)).length = (iI (dM l2)).length from by omega,List.take_length] at he;simp only [Mn.er,iQ,e1,e2,e3,he]
       ·skip
        refine Cl.enter Tryz.func17 rfl Tryz.ntmps17 rfl rfl ?_;have hs10 := hs1;have hs20 := hs2;refine .sr (Rg.wd trivial (aW (cs := a.cells c1) rfl rfl) rfl ?_);rintro _ w1 ⟨b2,rfl,q2,hx1,hv2⟩;replace hx := hx.ext hx1;refine Rg.wd trivial (aW (cs := b.cells c2) rfl rfl) rfl ?_;rintro _ w2 ⟨b3,rfl,q3,hx2,hv3⟩;replace hx := hx.ext hx2;replace hv2 := hv2.ext hx2;refine .a2 rfl (.done (.seq (.sr (.t2 (aA aZ rfl) (.t2 (aB bA rfl (hv2.g 0 rfl)) (.t2 (aA aZ rfl) (.t2 (aB bA rfl (hv3.g 0 rfl)) (.t2 (cU rfl rfl e1) (.m2 rfl ?_)))))))))
        first | refine .gd (aA eZ rfl) rfl ?_ | refine .so rfl rfl ?_
        refine .g2 (aB bA rfl (hv2.g 1 rfl)) ?_
        first | refine .gd (aA eZ rfl) rfl ?_ | refine .so rfl rfl ?_
        refine .g2 (aB bA rfl (hv3.g 1 rfl)) (.g2 (cU rfl rfl e2) (.t2 (aN rfl rfl) (.m2 rfl ?_)))
        first | refine .gd (aA fP rfl) rfl ?_ | refine .so rfl rfl ?_
        refine .g2 (aB hY rfl (hv2.g 2 rfl)) ?_
        first | refine .gd (aA fP rfl) rfl ?_ | refine .so rfl rfl ?_
        refine .g2 (aB hY rfl (hv3.g 2 rfl)) (.g2 (pB rfl rfl e3) (.t2 (aN rfl rfl) (.m2 rfl ?_)))
        first | refine .gd (aA eP rfl) rfl ?_ | refine .so rfl rfl ?_
        refine .g2 (aB iK rfl (hv2.g 6 rfl)) ?_
        first | refine .gd (dD hs10 Tryz.underlying24 rfl) rfl ?_ | refine .so rfl rfl ?_
        first | refine .gd (aA eP rfl) rfl ?_ | refine .so rfl rfl ?_
        refine .g2 (aB iK rfl (hv3.g 6 rfl)) ?_
        first | refine .gd (dD hs20 Tryz.underlying24 rfl) rfl ?_ | refine .so rfl rfl ?_
        refine .g2 (dX rfl rfl (by omega)) ?_;refine .t2 (aN rfl rfl) (.done (.condT rfl (.sr (.a2 rfl (.done (Wp.ret ?_))))));refine ⟨[_],⟨rfl,trivial⟩,⟨false,rfl,⟨fun e => by (cases e),fun e => ?_⟩⟩,hx⟩;simp only [Mn.er,iQ,An.mk.injEq,Hd.mk.injEq] at e;exact absurd (by have := congrArg List.length e.2; simpa [jZ,fV] using this) e4
      ·skip
       refine Cl.enter Tryz.func17 rfl Tryz.ntmps17 rfl rfl (.sr (Rg.wd trivial (aW (cs := a.cells c1) rfl rfl) rfl ?_));rintro _ w1 ⟨b2,rfl,q2,hx1,hv2⟩;replace hx := hx.ext hx1;refine Rg.wd trivial (aW (cs := b.cells c2) rfl rfl) rfl ?_;rintro _ w2 ⟨b3,rfl,q3,hx2,hv3⟩;replace hx := hx.ext hx2;replace hv2 := hv2.ext hx2;refine .a2 rfl (.done (.seq (.sr (.t2 (aA aZ rfl) (.t2 (aB bA rfl (hv2.g 0 rfl)) (.t2 (aA aZ rfl) (.t2 (aB bA rfl (hv3.g 0 rfl)) (.t2 (cU rfl rfl e1) (.m2 rfl ?_)))))))))
       first | refine .gd (aA eZ rfl) rfl ?_ | refine .so rfl rfl ?_
       refine .g2 (aB bA rfl (hv2.g 1 rfl)) ?_
       first | refine .gd (aA eZ rfl) rfl ?_ | refine .so rfl rfl ?_
       refine .g2 (aB bA rfl (hv3.g 1 rfl)) (.g2 (cU rfl rfl e2) (.t2 (aN rfl rfl) (.m2 rfl ?_)))
       first | refine .gd (aA fP rfl) rfl ?_ | refine .so rfl rfl ?_
       refine .g2 (aB hY rfl (hv2.g 2 rfl)) ?_
       first | refine .gd (aA fP rfl) rfl ?_ | refine .so rfl rfl ?_
       refine .g2 (aB hY rfl (hv3.g 2 rfl)) (.g2 (tP rfl rfl e3) (.t2 (aN rfl rfl) (.m2 rfl (.so rfl rfl (.so rfl rfl (.so rfl rfl (.so rfl rfl (.so rfl rfl (.so rfl rfl (.so rfl rfl (.t2 (aJ rfl rfl) (.done ?_))))))))))));refine .condT rfl (.sr (.a2 rfl (.done (Wp.ret ?_))));refine ⟨[_],⟨rfl,trivial⟩,⟨false,rfl,⟨fun e => by (cases e),fun e => ?_⟩⟩,hx⟩;simp only [Mn.er,iQ,An.mk.injEq,Hd.mk.injEq] at e;exact absurd e.1.2.2.1 e3
     ·skip
      refine Cl.enter Tryz.func17 rfl Tryz.ntmps17 rfl rfl (.sr (Rg.wd trivial (aW (cs := a.cells c1) rfl rfl) rfl ?_));rintro _ w1 ⟨b2,rfl,q2,hx1,hv2⟩;replace hx := hx.ext hx1;refine Rg.wd trivial (aW (cs := b.cells c2) rfl rfl) rfl ?_;rintro _ w2 ⟨b3,rfl,q3,hx2,hv3⟩;replace hx := hx.ext hx2;replace hv2 := hv2.ext hx2;refine .a2 rfl (.done (.seq (.sr (.t2 (aA aZ rfl) (.t2 (aB bA rfl (hv2.g 0 rfl)) (.t2 (aA aZ rfl) (.t2 (aB bA rfl (hv3.g 0 rfl)) (.t2 (cU rfl rfl e1) (.m2 rfl ?_)))))))))
      first | refine .gd (aA eZ rfl) rfl ?_ | refine .so rfl rfl ?_
      refine .g2 (aB bA rfl (hv2.g 1 rfl)) ?_
      first | refine .gd (aA eZ rfl) rfl ?_ | refine .so rfl rfl ?_
      refine .g2 (aB bA rfl (hv3.g 1 rfl)) (.g2 (dX rfl rfl e2) (.t2 (aN rfl rfl) (.m2 rfl (.so rfl rfl (.so rfl rfl (.so rfl rfl (.so rfl rfl (.so rfl rfl (.t2 (aJ rfl rfl) (.m2 rfl (.so rfl rfl (.so rfl rfl ?_))))))))))));refine .so rfl rfl (.so rfl rfl (.so rfl rfl (.so rfl rfl (.so rfl rfl (.t2 (aJ rfl rfl) (.done (.condT rfl (.sr (.a2 rfl (.done (Wp.ret ?_)))))))))));refine ⟨[_],⟨rfl,trivial⟩,⟨false,rfl,⟨fun e => by (cases e),fun e => ?_⟩⟩,hx⟩;simp only [Mn.er,iQ,An.mk.injEq,Hd.mk.injEq] at e;exact absurd e.1.2.1 e2
    ·skip
     refine Cl.enter Tryz.func17 rfl Tryz.ntmps17 rfl rfl (.sr (Rg.wd trivial (aW (cs := a.cells c1) rfl rfl) rfl ?_));rintro _ w1 ⟨b2,rfl,q2,hx1,hv2⟩;replace hx := hx.ext hx1;refine Rg.wd trivial (aW (cs := b.cells c2) rfl rfl) rfl ?_;rintro _ w2 ⟨b3,rfl,q3,hx2,hv3⟩;replace hx := hx.ext hx2;replace hv2 := hv2.ext hx2;refine .a2 rfl (.done (.seq (.sr (.t2 (aA aZ rfl) (.t2 (aB bA rfl (hv2.g 0 rfl)) (.t2 (aA aZ rfl) (.t2 (aB bA rfl (hv3.g 0 rfl)) (.t2 (dX rfl rfl e1) (.m2 rfl (.so rfl rfl (.so rfl rfl (.so rfl rfl ?_))))))))))));refine .so rfl rfl (.so rfl rfl (.t2 (aJ rfl rfl) (.m2 rfl (.so rfl rfl (.so rfl rfl (.so rfl rfl (.so rfl rfl (.so rfl rfl (.t2 (aJ rfl rfl) (.m2 rfl (.so rfl rfl (.so rfl rfl ?_))))))))))));refine .so rfl rfl (.so rfl rfl (.so rfl rfl (.so rfl rfl (.so rfl rfl (.t2 (aJ rfl rfl) (.done (.condT rfl (.sr (.a2 rfl (.done (Wp.ret ?_)))))))))));refine ⟨[_],⟨rfl,trivial⟩,⟨false,rfl,⟨fun e => by (cases e),fun e => ?_⟩⟩,hx⟩;simp only [Mn.er,iQ,An.mk.injEq,Hd.mk.injEq] at e;exact absurd e.1.1 e1
end Go.Proofs.YtlndmiegodcfjaaGreatDoor.Par
namespace Go.Proofs.YtlndmiegodcfjaaGreatDoor.Ast
def Mn.kids : Mn → List Mn
 | .mk _ _ k => k
end Go.Proofs.YtlndmiegodcfjaaGreatDoor.Ast
namespace Go.Proofs.YtlndmiegodcfjaaGreatDoor.Prn
open Go.Gx Go.RowKit Go.Lib
open Par Ast
structure CoV (ty e sz : Nat) {α : Type} (f : α → List Value) (pre : List Value) (F : Fs) (w : World) (b : Nat) (acc : List α) (dv : Value) : Prop where
 und : Und F w.heap.size
 var : Var w b (pre ++ [dv]) ty
 row : w.ownsRow 0 e sz dv acc.length (aK f acc)
 nb : ¬ F b
 nd : ∀ z,dv.ownBlock = some z → ¬ F z
 ne : e ≠ ty
 fl : ∀ a,(f a).length = sz
section
variable {ty e sz : Nat} {α : Type} {f : α → List Value} {pre : List Value} {F G : Fs} {w w' : World} {b k : Nat} {acc ds : List α} {dv v' : Value}
theorem CoV.ext (h : CoV ty e sz f pre F w b acc dv) (x : Ext w w') : CoV ty e sz f pre F w' b acc dv :=
 ⟨fun z hz => Nat.lt_of_lt_of_le (h.und z hz) x.le,h.var.ext x,cM h.row x,h.nb,h.nd,h.ne,h.fl⟩
theorem CoV.sub (h : CoV ty e sz f pre G w b acc dv) (hs : ∀ z,F z → G z) : CoV ty e sz f pre F w b acc dv :=
 ⟨fun z hz => h.und z (hs z hz),h.var,h.row,fun hb => h.nb (hs _ hb),fun z hz hf => h.nd z hz (hs _ hf),h.ne,h.fl⟩
theorem CoV.add (h : CoV ty e sz f pre F w b acc dv) (x : Ext w w') (hk : w.heap.size ≤ k) (hk' : k < w'.heap.size) : CoV ty e sz f pre (fun z => F z ∨ z = k) w' b acc dv := by
 have hb := h.var.lt;refine ⟨fun z hz => ?_,h.var.ext x,cM h.row x,fun hz => ?_,fun z hz hf => ?_,h.ne,h.fl⟩
 ·rcases hz with hz | rfl
  ·exact Nat.lt_of_lt_of_le (h.und z hz) x.le
  ·exact hk'
 ·rcases hz with hz | rfl
  ·exact h.nb hz
  ·omega
 ·rcases hf with hf | rfl
  ·exact h.nd z hz hf
  ·have := jI h.row hz
   omega
theorem CoV.app (h : CoV ty e sz f pre F w b acc dv) (hap : AppR w e sz acc.length ds.length dv (aK f acc ++ aK f ds) v' w') :
  ∃ gk capk spk,v' = .slice (some ⟨gk,0,none⟩) (acc.length + ds.length) capk ∧ acc.length + ds.length ≤ capk ∧ capk ≤ maxLen ∧ spk.length = (capk - (acc.length + ds.length)) * sz ∧ Var w' gk (aK f (acc ++ ds) ++ spk) e ∧ Var w' b (pre ++ [dv]) ty ∧ Bw F w w' ∧ ¬ F gk := by
 obtain ⟨gk,capk,spk,rfl,h1,h2,h3,h4,h5⟩ := hap;rw [← fF] at h4;have hfr : ¬ F gk := by
  rcases h5 with ⟨⟨c,e⟩,_⟩ | ⟨e,_⟩
  ·exact h.nd gk (by rw [e]; rfl)
  ·exact fun hf => by have := h.und gk hf; omega
 have hb := h.var.lt;refine ⟨gk,capk,spk,rfl,h1,h2,h3,h4,?_,?_,hfr⟩
 ·rcases h5 with ⟨⟨c,e⟩,hu⟩ | ⟨_,hx⟩
  ·refine h.var.upd hu fun e2 => ?_
   subst e2;exact fU h.row h.var (Ne.symm h.ne) (by rw [e]; simp [Value.ownBlock])
  ·exact h.var.ext hx
 ·rcases h5 with ⟨⟨c,e⟩,hu⟩ | ⟨_,hx⟩
  ·exact Bw.upd hu hfr
  ·exact Bw.of hx h.und
theorem CoV.push {gk capk : Nat} {spk : List Value} (h : CoV ty e sz f pre F w b ds dv) (hB : Bw F w w') (hv : Var w' b (pre ++ [.slice (some ⟨gk,0,none⟩) acc.length capk]) ty) (h1 : acc.length ≤ capk) (h2 : capk ≤ maxLen) (h3 : spk.length = (capk - acc.length) * sz) (hk : Var w' gk (aK f acc ++ spk) e) (hfr : ¬ F gk) :
  CoV ty e sz f pre F w' b acc (.slice (some ⟨gk,0,none⟩) acc.length capk) :=
 ⟨fun z hz => Nat.lt_of_lt_of_le (h.und z hz) hB.size,hv,bK (Nat.zero_le _) (aQ h.fl _) h1 h2 h3 hk,h.nb,fun z hz => by cases hz; exact hfr,h.ne,h.fl⟩
end
section
variable {n : Nat} {L : Env} {w : World} {d : Option Tmp} {ty : TypeId} {pos : String} {af : Array Edge} {g : Option (Nat × Bool)}
def D1 (a b : Int) : Int := IntKind.i64.wrap ((BitVec.ofInt 64 a &&& BitVec.ofInt 64 b).toNat : Nat)
theorem D2 {t t' : TypeId} {x y : Operand} {u v : Int} (hx : cF L x = some (.int .i64 u)) (hy : cF L y = some (.int .i64 v)) : Tm Tryz.prog n ⟨d,.binOp .and t x y t',ty,pos,af,g⟩ L w (.int .i64 (D1 u v)) := fun a ha w' _ => by
 simp only [execOp,eqGuard,binOp,Op.intBits,ha.eval hx,ha.eval hy];rfl
end
def zHd : Hd := ⟨0,0,.empty,0,0,0⟩
def I4 : Mn := .mk zHd (.slice none 0 0) []
theorem Jo (w : World) : (Instr.build 26 [].toArray).run Tryz.prog w = .ok (.agg I4.cells.toArray) w := by kernel_rfl
theorem aAc (F : Fs) (w : World) : NOk F w I4 := .mk (lS _ _) rfl (fun z hz => by cases hz) fun g hg => by cases hg
abbrev BA := ByteArray
def tQ (s : BA) : List Value := [.string s]
theorem nL (s : BA) : (tQ s).length = 1 := rfl
def oR (n : Int) : BA := ⟨#[(48 + n.toNat).toUInt8]⟩
def gQ (s : BA) : List (List BA) → List BA
 | [] => []
 | [t] => t
 | t :: u :: l => t ++ s :: gQ s (u :: l)
def Jp : BA := ⟨#[102,110]⟩
def Ir : BA := ⟨#[112,117,98]⟩
def D3 (k : Int) : Bool := k == 27 || k == 28 || k == 29 || k == 17 || k == 30 || k == 31 || k == 32 || k == 42
def Bn (k : Int) (t : List BA) : List BA := if D3 k then t else ⟨#[40]⟩ :: t ++ [⟨#[41]⟩]
def kd0 : List An → Int
 | [] => 0
 | a :: _ => a.hd.kind
mutual
def kC : An → List BA
 | .mk h ks => if h.kind = 1 then gQ .empty (kW ks) else if h.kind = 21 then ⟨#[123]⟩ :: gQ .empty (kW ks) ++ [⟨#[125]⟩]
  else if h.kind = 27 then [oR h.value] else if h.kind = 3 then [if D1 h.value 1 = 1 then Ir else .empty,Jp,h.text,⟨#[40]⟩,⟨#[41]⟩] ++ ((kW ks).getD 3 [])
  else if h.kind = 39 then Bn (kd0 ks) ((kW ks).getD 0 []) ++ [h.text] ++ Bn (kd0 (ks.drop 1)) ((kW ks).getD 1 []) else []
def kW : List An → List (List BA)
 | [] => []
 | a :: l => kC a :: kW l
end
theorem tR (l : List An) : kW l = l.map kC := by
 induction l with
 | nil => rw [kW]; rfl
 | cons a l ih => rw [kW,ih]; rfl
def okF : List An → Bool
 | [.mk h1 k1,.mk h2 k2,.mk h3 _,d] => h1.kind == 10 && k1.isEmpty && h2.kind == 12 && k2.isEmpty && h3.kind == 0 && d.hd.kind != 0
 | _ => false
mutual
def tS : An → Bool
 | .mk h ks => (h.kind == 27 && decide (0 ≤ h.value) && decide (h.value < 10)) || ((h.kind == 1 || h.kind == 21) && zQ 0 ks) || (h.kind == 39 && ks.length == 2 && zQ 0 ks) || (h.kind == 3 && okF ks && zQ 3 ks)
def zQ : Nat → List An → Bool
 | _,[] => true
 | 0,a :: l => tS a && zQ 0 l
 | n + 1,_ :: l => zQ n l
end
theorem Gm (l : List An) : zQ 0 l = true ↔ ∀ a ∈ l,tS a = true := by
 induction l with
 | nil => simp [zQ]
 | cons a l ih => rw [zQ,Bool.and_eq_true,ih]; simp
def gR (l : List BA) : BA := l.foldl (fun b t => if t ≠ .empty ∧ 0 < b.size then b ++ ⟨#[32]⟩ ++ t else b ++ t) .empty
mutual
def Gn : An → An → Bool
 | .mk h ks,.mk h' ks' => h.kind == h'.kind && h.value == h'.value && decide (h.text = h'.text) && Bg ks ks'
def Bg : List An → List An → Bool
 | [],[] => true
 | a :: l,b :: m => Gn a b && Bg l m
 | [],_ :: _ => false
 | _ :: _,[] => false
end
mutual
theorem sC : ∀ (a b : An),Gn a b = true → iQ a = iQ b
 | .mk h ks,.mk h' ks',e => by
  rw [Gn] at e;simp only [Bool.and_eq_true,beq_iff_eq,decide_eq_true_eq] at e;obtain ⟨⟨⟨e1,e2⟩,e3⟩,e4⟩ := e;rw [iQ,iQ,e1,e2,e3,sD ks ks' e4]
theorem sD : ∀ (l m : List An),Bg l m = true → iI l = iI m
 | [],[],_ => rfl
 | a :: l,b :: m,e => by
  rw [Bg,Bool.and_eq_true] at e;rw [iI,iI,sC a b e.1,sD l m e.2]
 | [],_ :: _,e => by rw [Bg] at e; cases e
 | _ :: _,[],e => by rw [Bg] at e; cases e
end
end Go.Proofs.YtlndmiegodcfjaaGreatDoor.Prn
namespace Go.Proofs.YtlndmiegodcfjaaGreatDoor.Prn
open Par Ast
def cov (o : Int) (a : An) : Prop := a.hd.st ≤ o ∧ o < a.hd.en
instance (o : Int) (a : An) : Decidable (cov o a) := inferInstanceAs (Decidable (_ ∧ _))
def kV : BA := ⟨#[102,110,32,102,40,41,123,49,42,40,50,43,51,41,125]⟩
def nM : BA := ⟨#[102,110,32,102,32,40,32,41,32,123,32,49,32,42,32,40,32,50,32,43,32,51,32,41,32,125]⟩
theorem Gp : ((run body 60 uE ⟨Lexi.aG kV,[],false,0⟩).bind fun r => (run body 60 uE ⟨Lexi.aG nM,[],false,0⟩).map fun q =>
  (gV kV (.mk 1 fS r.kids) 0 []).2.2.isEmpty && tS (eS kV (.mk 1 fS r.kids)) && decide (gR (kC (eS kV (.mk 1 fS r.kids))) = nM) && decide (anc (eS kV (.mk 1 fS r.kids)) ≤ 30) && (gV nM (.mk 1 fS q.kids) 0 []).2.2.isEmpty && Gn (eS nM (.mk 1 fS q.kids)) (eS kV (.mk 1 fS r.kids))) = some true := by decide +kernel
theorem D4 {t u : Tr} (h : eW kV t) (g : eW nM u) : (gV kV t 0 []).2.2 = [] ∧ tS (eS kV t) = true ∧ gR (kC (eS kV t)) = nM ∧ anc (eS kV t) ≤ 30 ∧ (gV nM u 0 []).2.2 = [] ∧ iQ (eS nM u) = iQ (eS kV t) := by
 have e := Gp;rw [Option.bind_eq_some_iff] at e;obtain ⟨r,e1,e2⟩ := e;rw [Option.map_eq_some_iff] at e2;obtain ⟨q,e3,e4⟩ := e2;obtain rfl := h.unique ⟨_,r,e1,rfl⟩;obtain rfl := g.unique ⟨_,q,e3,rfl⟩;simp only [Bool.and_eq_true,decide_eq_true_eq,List.isEmpty_iff] at e4;obtain ⟨⟨⟨⟨⟨a,b⟩,c⟩,d⟩,e⟩,f⟩ := e4;exact ⟨a,b,c,d,e,sC _ _ f⟩
end Go.Proofs.YtlndmiegodcfjaaGreatDoor.Prn
namespace Go.Proofs.YtlndmiegodcfjaaGreatDoor.Prn
set_option maxRecDepth 20000
open Go.Gx Go.RowKit Go.Lib
open Lexi (Asc)
open Par Ast
def Pn (F : Fs) (w : World) (b : Nat) (T : List BA) : Prop := ∃ dv,CoV 76 9 1 tQ [] F w b T dv
theorem Pn.ext {F : Fs} {w w' : World} {b : Nat} {T : List BA} (h : Pn F w b T) (x : Ext w w') : Pn F w' b T := ⟨_,h.choose_spec.ext x⟩
theorem Pn.und {F : Fs} {w : World} {b : Nat} {T : List BA} (h : Pn F w b T) : Und F w.heap.size := h.choose_spec.und
theorem Pn.sub {F G : Fs} {w : World} {b : Nat} {T : List BA} (h : Pn G w b T) (hs : ∀ z,F z → G z) : Pn F w b T := ⟨_,h.choose_spec.sub hs⟩
theorem Pn.add {F : Fs} {w w' : World} {b k : Nat} {T : List BA} (h : Pn F w b T) (x : Ext w w') (hk : w.heap.size ≤ k) (hk' : k < w'.heap.size) : Pn (fun z => F z ∨ z = k) w' b T := ⟨_,h.choose_spec.add x hk hk'⟩
theorem D5 (T : List BA) : ∀ u ∈ aK tQ T,u.oneCell' = true := nT (fun a u hu => by rw [List.mem_singleton.1 hu]; rfl) T
theorem mQ {F : Fs} {w : World} {b : Nat} {T ts : List BA} {v : Value} (h : Pn F w b T) (hs : SlC w v 1 ts.length (aK tQ ts)) (hk : 0 < ts.length) (hl : T.length + ts.length ≤ 1000000) :
  Cl Tryz.prog 109 #[.pointer (some ⟨b,0,none⟩),v] w (fun _ w' => Pn F w' b (T ++ ts) ∧ Bw F w w') := by
 obtain ⟨dv,D⟩ := h;obtain ⟨i9,hi9,hz9,hsi9,hby9⟩ := aAb;refine Cl.enter Tryz.func109 rfl Tryz.ntmps109 rfl rfl (Wp.region (.m2 rfl (.m2 rfl (.t2 (aF rfl) (.t2 (aA xD rfl) (.t2 (aB mW rfl (D.var.g 0 rfl)) (.m2 rfl ?_)))))));refine Rg.wd trivial (bL Tryz.underlying74 hi9 hz9 hsi9 hby9 rfl rfl rfl D.row hs (D5 ts) hk (by unfold maxLen; omega) (by omega)) rfl ?_;rintro v2 wP hap;obtain ⟨gk,capk,spk,rfl,g1,g2,g3,hvk,hvP,hBP,hfr⟩ := D.app hap;have hne : gk ≠ b := Var.ne hvk hvP (by decide);refine .t2 (aF rfl) (.t2 (aA xD rfl) (Rg.wn trivial (cG hvP mW rfl rfl rfl rfl rfl) ?_));rintro _ wS ⟨huS,hvS⟩;have hBS := hBP.trans (Bw.upd huS D.nb);have hC := CoV.push (acc := T ++ ts) (capk := capk) (spk := spk) D hBS (by simpa using hvS) (by simpa using g1) g2 (by simpa using g3) (hvk.upd huS hne) hfr;refine .done ?_;exact ⟨[],trivial,⟨_,hC⟩,hBS⟩
theorem jB {F : Fs} {w : World} {g : Mn} {i : Nat} (hg : NOk F w g) (hU : Und F w.heap.size) (hn : anc g.er ≤ 1000000) :
  Cl Tryz.prog 112 #[.agg g.cells.toArray,.int .i64 i] w (fun u w' => (∃ x : Mn,u = .agg x.cells.toArray ∧ NOk F w' x ∧ x = g.kids.getD i I4) ∧ Ext w w') := by
 have hx := Ext.refl w;have hog := hg.oneL;obtain ⟨h,cv,kids⟩ := g;obtain ⟨hs,hone,hbk,hkk⟩ : SlC w cv 7 kids.length (aK Mn.cells kids) ∧ cv.oneCell' = true ∧ gI F cv ∧ ∀ g ∈ kids,NOk F w g := by cases hg with | mk a b c d => exact ⟨a,b,c,d⟩
 have hkl := kA (dM kids);rw [fV] at hkl;simp only [Mn.er,anc] at hn;have hsx := hs;refine Cl.enter Tryz.func112 rfl Tryz.ntmps112 rfl rfl (.sr (Rg.wd trivial (aW (cs := (Mn.mk h cv kids).cells) rfl rfl) rfl ?_));rintro _ w1 ⟨b2,rfl,q2,hx1,hv2⟩;replace hx := hx.ext hx1;replace hsx := hsx.ext hx1;have lt2 := hv2.lt;have le2 := hx.le;refine Rg.wd trivial (dB Tryz.zeroValue26 rfl) rfl ?_;rintro _ w2 ⟨b4,rfl,q4,hx2,hv4⟩;replace hx := hx.ext hx2;replace hsx := hsx.ext hx2;replace hv2 := hv2.ext hx2;have g4 : w.heap.size ≤ b4 := by omega
 refine .done (.seq ?_)
 by_cases hlt : i < kids.length
 ·skip
  refine .sr (.m2 rfl (.t2 (aA eP rfl) (.t2 (aB iK rfl (hv2.g 6 rfl)) (.t2 (dD hsx Tryz.underlying24 rfl) ?_))));refine .t2 (eO rfl rfl (by omega)) ?_;refine .done (.condF rfl (Wp.skip ?_));have hgi := (hkk _ (List.getElem_mem hlt));have hogi := hgi.oneL;refine .sr (.t2 (aA eP rfl) (.t2 (aB iK rfl (hv2.g 6 rfl)) (.m2 rfl ?_)));refine Rg.ix hsx trivial rfl rfl Tryz.underlying24 cC (by omega) rfl ?_;intro bt14 ot14 ht14;rw [Int.toNat_natCast,eA Mn.len kids i hlt] at ht14;refine .t2 (bB rfl ht14 (by rw [Mn.len]; exact cC)) ?_;refine Rg.wn trivial (cW (cs := kids[i].cells) hv4 rfl rfl rfl (by rw [Mn.len]; exact cC) (by rw [Mn.len]; rfl) hogi) ?_;rintro _ w3 ⟨hu4,hv4x⟩;have hxe := hx.upd hu4 g4;refine .done (Wp.ret ?_);refine ⟨[_],⟨⟨_,rfl,kM hv4x (by rw [Mn.len]; exact cC)⟩,trivial⟩,⟨kids[i],rfl,hgi.bw (Bw.of hxe hU) fun z hz => hz,?_⟩,hxe⟩
  show _ = kids.getD i _
  simp [List.getD,hlt]
 ·skip
  refine .sr (.m2 rfl (.t2 (aA eP rfl) (.t2 (aB iK rfl (hv2.g 6 rfl)) (.t2 (dD hsx Tryz.underlying24 rfl) ?_))));refine .t2 (cP rfl rfl (by omega)) ?_;refine .done (.condT rfl (.sr (.t2 (cH Jo rfl) ?_)));refine Rg.wn trivial (cW (cs := I4.cells) hv4 rfl rfl rfl (by exact cC) rfl rfl) ?_;rintro _ w3 ⟨hu4,hv4x⟩;have hxe := hx.upd hu4 g4;refine .done (Wp.ret ?_);refine ⟨[_],⟨⟨_,rfl,kM hv4x (by exact cC)⟩,trivial⟩,⟨I4,rfl,aAc _ _,?_⟩,hxe⟩
  show _ = kids.getD i _
  simp [List.getD,show kids.length ≤ i from by omega]
theorem Gq {w : World} {h : Hd} {cv : Value} {s : BA} : Cl Tryz.prog 110 #[.agg (h.cells cv).toArray,.string s] w (fun u w' => u = .string (if D1 h.value 1 = 1 then s else .empty) ∧ Ext w w') := by
 have hx := Ext.refl w
 by_cases hf : D1 h.value 1 = 1
 ·skip
  refine Cl.enter Tryz.func110 rfl Tryz.ntmps110 rfl rfl (.sr (Rg.wd trivial (aW (cs := h.cells cv) rfl rfl) rfl ?_));rintro _ w1 ⟨b2,rfl,q2,hx1,hv2⟩;replace hx := hx.ext hx1;refine .a2 rfl (.done (.seq (.sr (.t2 (aA eZ rfl) (.t2 (aB bA rfl (hv2.g 1 rfl)) (.t2 (D2 rfl rfl) (.t2 (aS rfl rfl hf) (.done (.condT rfl (.sr (.m2 rfl (.a2 rfl ?_))))))))))));refine .done (Wp.ret ?_);rw [if_pos hf];exact ⟨[_],⟨rfl,trivial⟩,rfl,hx⟩
 ·skip
  refine Cl.enter Tryz.func110 rfl Tryz.ntmps110 rfl rfl (.sr (Rg.wd trivial (aW (cs := h.cells cv) rfl rfl) rfl ?_));rintro _ w1 ⟨b2,rfl,q2,hx1,hv2⟩;replace hx := hx.ext hx1;refine .a2 rfl (.done (.seq (.sr (.t2 (aA eZ rfl) (.t2 (aB bA rfl (hv2.g 1 rfl)) (.t2 (D2 rfl rfl) (.t2 (aR rfl rfl hf) (.done (.condF rfl (Wp.skip (.sr (.a2 rfl ?_))))))))))));refine .done (Wp.ret ?_);rw [if_neg hf];exact ⟨[_],⟨rfl,trivial⟩,rfl,hx⟩
theorem tT {w : World} {b : Nat} {v : Value} {cs : List Value} (hs : SlC w v 7 0 cs) : Cl Tryz.prog 116 #[.pointer (some ⟨b,0,none⟩),v] w (fun _ w' => w = w') := by
 skip
 refine Cl.enter Tryz.func116 rfl Tryz.ntmps116 rfl rfl (.sr (.m2 rfl (.t2 (dD hs Tryz.underlying24 rfl) ?_)));refine .t2 (eN rfl rfl (by omega)) ?_;refine .done (.condF rfl (Wp.skip ?_));exact ⟨[],trivial,rfl⟩
theorem oD (s : BA) : ∀ (l : List (List BA)) (t : List BA),gQ s (l ++ [t]) = (if l = [] then t else gQ s l ++ s :: t)
 | [],t => rfl
 | [u],t => rfl
 | u :: v :: l,t => by
  rw [if_neg (by simp),List.cons_append,List.cons_append,gQ,gQ,← List.cons_append,oD s (v :: l) t,if_neg (by simp)];simp
def oE (l : List (List BA)) : Nat := (l.map fun t => t.length + 1).sum
theorem nN (s : BA) : ∀ l : List (List BA),(gQ s l).length ≤ oE l
 | [] => Nat.zero_le _
 | [t] => by simp [gQ,oE]
 | t :: u :: l => by
  have := nN s (u :: l);simp only [gQ,oE,List.map_cons,List.sum_cons,List.length_append,List.length_cons] at this ⊢;omega
theorem sE (s : BA) : ∀ l : List (List BA),l ≠ [] → (gQ s l).length + 1 ≤ oE l
 | [],h => absurd rfl h
 | [t],_ => by simp [gQ,oE]
 | t :: u :: l,_ => by
  have := sE s (u :: l) (by simp);simp only [gQ,oE,List.map_cons,List.sum_cons,List.length_append,List.length_cons] at this ⊢;omega
theorem tU : ∀ (l : List (List BA)) (i : Nat),(l.getD i []).length ≤ oE l
 | [],i => by simp
 | t :: l,0 => by simp [oE]; omega
 | t :: l,i + 1 => by
  have := tU l i;simp only [oE,List.map_cons,List.sum_cons,List.getD_cons_succ] at this ⊢;omega
theorem D6 (l : List (List BA)) : (l.getD 0 []).length + (l.getD 1 []).length ≤ oE l := by
 match l with
 | [] => simp
 | t :: l =>
  have := tU l 0;simp only [oE,List.map_cons,List.sum_cons,List.getD_cons_succ,List.getD_cons_zero] at this ⊢;omega
theorem tV (k : Int) (t : List BA) : (Bn k t).length ≤ t.length + 2 := by
 unfold Bn
 split <;> simp
mutual
theorem tW : ∀ a : An,(kC a).length + 1 ≤ 8 * anc a
 | .mk h ks => by
  have hl := nO ks;have h1 := nN .empty (kW ks);have h3 := tU (kW ks) 3;have h4 := D6 (kW ks);have h5 := tV (kd0 ks) ((kW ks).getD 0 []);have h6 := tV (kd0 (ks.drop 1)) ((kW ks).getD 1 []);rw [kC,anc]
  repeat' split
  all_goals (first | omega | (simp only [List.length_append,List.length_cons,List.length_nil]; omega))
theorem nO : ∀ l : List An,oE (kW l) ≤ 8 * cK l
 | [] => by rw [kW,cK]; exact Nat.zero_le _
 | a :: l => by
  have h1 := tW a;have h2 := nO l;rw [kW,cK];simp only [oE,List.map_cons,List.sum_cons] at h2 ⊢;omega
end
def AscF (F : Fs) (w : World) : Prop := ∀ w',Bw F w w' → Asc w'
theorem AscF.step {F : Fs} {w w' : World} (h : AscF F w) (k : Bw F w w') : AscF F w' := fun _ j => h _ (k.trans j)
theorem AscF.sub {F G : Fs} {w : World} (h : AscF F w) (hs : ∀ z,F z → G z) : AscF G w := fun _ j => h _ (j.sub hs)
theorem AscF.here {F : Fs} {w : World} (h : AscF F w) : Asc w := h _ (Bw.refl _ _)
def NC (g : Mn) : Prop := ∀ (F : Fs) (w : World) (b : Nat) (T : List BA),AscF F w → Pn F w b T → NOk F w g → T.length + 8 * anc g.er ≤ 900000 →
 Cl Tryz.prog 31 #[.pointer (some ⟨b,0,none⟩),.agg g.cells.toArray] w (fun _ w' => Pn F w' b (T ++ kC g.er) ∧ Bw F w w')
theorem zR {F : Fs} {w : World} {b : Nat} {T : List BA} {kids : List Mn} {v : Value} {s : BA} (hN : ∀ g ∈ kids,NC g) (hAF : AscF F w) (h : Pn F w b T) (hs : SlC w v 7 kids.length (aK Mn.cells kids)) (hb : gI F v) (hk : ∀ g ∈ kids,NOk F w g) (hl : T.length + 8 * cK (dM kids) ≤ 900000) :
  Cl Tryz.prog 62 #[.pointer (some ⟨b,0,none⟩),v,.string s] w (fun _ w' => Pn F w' b (T ++ gQ s (kW (dM kids))) ∧ Bw F w w') := by
 have hkl := kA (dM kids);rw [fV] at hkl;have hU := h.und;refine Cl.enter Tryz.func62 rfl Tryz.ntmps62 rfl rfl (.sr (.m2 rfl (.t2 (dD hs Tryz.underlying24 rfl) (.m2 rfl (.done (Wp.block ?_))))));refine Wp.loop (ι := Nat) (fun i => [(0,.pointer (some ⟨b,0,none⟩)),(2,.string s),(8,v),(9,.int .i64 kids.length),(10,.int .i64 i)])
  (fun i w' => i ≤ kids.length ∧ Pn F w' b (T ++ gQ s (kW (dM (kids.take i)))) ∧ Bw F w w') (fun i => kids.length - i) 0 (by repeat (first | exact .nil | refine .cons rfl ?_)) ⟨Nat.zero_le _,by simpa [dM,kW,gQ] using h,Bw.refl F w⟩ ?_
 rintro i wl ⟨hi,hC,hB⟩
 by_cases hlt : i < kids.length
 ·have hxx := Ext.refl wl
  have hsi := iL hs hB hb;have hgi : NOk F wl kids[i] := (hk _ (List.getElem_mem hlt)).bw hB fun z hz => hz;have hog := hgi.oneL;have hUl := hC.und;have hNi := hN _ (List.getElem_mem hlt);have hq : (gQ s (kW (dM (kids.take i)))).length ≤ 8 * cK (dM (kids.take i)) := Nat.le_trans (nN _ _) (nO _);have hsum : cK (dM (kids.take i)) + anc kids[i].er ≤ cK (dM kids) := by
   have e : kids = kids.take i ++ kids[i] :: kids.drop (i + 1) := by rw [← List.drop_eq_getElem_cons hlt,List.take_append_drop]
   have e2 := congrArg (fun l => cK (dM l)) e;simp only [kP,kB] at e2;rw [e2,dM,cK];omega
  have ha1 : 1 ≤ anc kids[i].er := by
   obtain ⟨h,cv,ks⟩ := kids[i];simp only [Mn.er,anc];omega
  have hnx : kW (dM (kids.take (i + 1))) = kW (dM (kids.take i)) ++ [kC kids[i].er] := by
   rw [List.take_succ_eq_append_getElem hlt,kP,tR,tR,List.map_append];rfl
  have hem : kW (dM (kids.take i)) = [] ↔ i = 0 := by
   rw [tR,List.map_eq_nil_iff,← List.length_eq_zero_iff,fV,List.length_take];omega
  refine .sr ?_
  first | refine .tq (bN rfl rfl (by omega)) rfl ?_ | refine .tq (bO rfl rfl (by omega)) rfl ?_ | refine .tq (cT rfl rfl) rfl ?_
  refine .done (.seq (.condT rfl (Wp.skip (.seq (Wp.block (.sr (.m2 rfl ?_)))))));refine Rg.ix hsi trivial rfl rfl Tryz.underlying24 cC (by omega) rfl ?_;intro bt13 ot13 ht13;rw [Int.toNat_natCast,eA Mn.len kids i hlt] at ht13;refine .t2 (bB rfl ht13 (by rw [Mn.len]; exact cC)) ?_;refine Rg.wd trivial (dB Tryz.zeroValue26 rfl) rfl ?_;rintro _ wab7 ⟨b7,rfl,qb7,a,c⟩;refine .a2 rfl ?_;refine Rg.wn trivial (cW (cs := kids[i].cells) c rfl rfl rfl (by rw [Mn.len]; exact cC) (by rw [Mn.len]; rfl) (hog)) ?_;rintro _ w11 ⟨hub7,hv7⟩;have hx11 := a.upd hub7 (Nat.le_of_eq qb7.symm);clear c hub7 a;have hg7 : wl.heap.size ≤ b7 := Nat.le_of_eq qb7.symm;replace hxx := hxx.ext hx11;replace hsi := hsi.ext hx11;replace ht13 := ht13.ext hx11;clear qb7;refine .done (.seq ?_)
  by_cases h0 : 0 < i
  ·have hq2 : (gQ s (kW (dM (kids.take i)))).length + 1 ≤ 8 * cK (dM (kids.take i)) := Nat.le_trans (sE _ _ fun e => by have := hem.1 e; omega) (nO _)
   refine .sr (.m2 rfl ?_);refine .t2 (gB rfl rfl (by omega)) ?_;refine .done (.condT rfl ?_);have hCa : Pn (fun z => F z ∨ z = b7) w11 b (T ++ gQ s (kW (dM (kids.take i)))) := hC.add hxx hg7 hv7.lt;have hBa : Bw F w w11 := hB.trans (Bw.of hxx hUl);refine Wp.region (.m2 rfl (.m2 rfl (Rg.wd trivial (aD (aT _) rfl) rfl ?_)));rintro _ w12 ⟨bt,rfl,qt,hx12,hvt⟩;replace hBa := hBa.trans (Bw.of hx12 fun z hz => hCa.und z (.inl hz));replace hCa := hCa.ext hx12;replace hv7 := hv7.ext hx12;refine Rg.wd trivial (aC Tryz.call109 rfl (mQ (ts := [s]) hCa (bX hvt rfl) Nat.one_pos (by simp only [List.length_append,List.length_singleton]; omega))) rfl ?_;rintro _ w20 ⟨hC2,hB2⟩;have hv72 := aE hv7 hB2 (.inr rfl);have hB3 : Bw F w w20 := hBa.trans (hB2.sub fun z hz => .inl hz);refine .done (Wp.region (.m2 rfl ?_));refine .t2 (bB rfl hv72.cells (by rw [Mn.len]; exact cC)) ?_;refine Rg.wd trivial (aC Tryz.call31 rfl (hNi F _ b _ (hAF.step hB3) (hC2.sub fun z hz => .inl hz) ((hk _ (List.getElem_mem hlt)).bw hB3 fun z hz => hz) (by simp only [List.length_append,List.length_singleton]; omega))) rfl ?_;rintro _ w23 ⟨hC4,hB4⟩;refine .done (Wp.region ?_)
   first | refine .tq (bC rfl rfl (by omega)) rfl ?_ | refine .tq (bV rfl rfl) rfl ?_
   refine .m2 rfl (.done ?_);refine ⟨i + 1,by repeat (first | exact .nil | refine .cons rfl ?_),⟨hlt,?_,hB3.trans hB4⟩,by omega⟩;rw [hnx,oD,if_neg (fun e => by have := hem.1 e; omega)]
   simpa using hC4
  ·obtain rfl : i = 0 := by omega
   refine .sr (.m2 rfl ?_);refine .t2 (eN rfl rfl (by omega)) ?_;refine .done (.condF rfl (Wp.skip ?_));have hBa : Bw F w w11 := hB.trans (Bw.of hxx hUl);refine Wp.region (.m2 rfl ?_);refine .t2 (bB rfl hv7.cells (by rw [Mn.len]; exact cC)) ?_;refine Rg.wd trivial (aC Tryz.call31 rfl (hNi F _ b _ (hAF.step hBa) (hC.ext hxx) ((hk _ (List.getElem_mem hlt)).bw hBa fun z hz => hz) (by simp only [List.length_append]; omega))) rfl ?_;rintro _ w23 ⟨hC4,hB4⟩;refine .done (Wp.region ?_)
   first | refine .tq (bC rfl rfl (by omega)) rfl ?_ | refine .tq (bV rfl rfl) rfl ?_
   refine .m2 rfl (.done ?_);refine ⟨1,by repeat (first | exact .nil | refine .cons rfl ?_),⟨hlt,?_,hBa.trans hB4⟩,by omega⟩;rw [hnx,oD,if_pos (hem.2 rfl)]
   simpa [dM,kW,gQ] using hC4
 ·obtain rfl : i = kids.length := by omega
  rw [List.take_length] at hC;refine .sr ?_
  first | refine .tq (bN rfl rfl (by omega)) rfl ?_ | refine .tq (bO rfl rfl (by omega)) rfl ?_ | refine .tq (cT rfl rfl) rfl ?_
  refine .done (.seq (.condF rfl (Wp.exit ?_)));exact ⟨[],trivial,hC,hB⟩
theorem lM {F : Fs} {w : World} {b : Nat} {T : List BA} {kids : List Mn} {v : Value} {op s cl : BA} (hN : ∀ g ∈ kids,NC g) (hAF : AscF F w) (h : Pn F w b T) (hs : SlC w v 7 kids.length (aK Mn.cells kids)) (hb : gI F v) (hk : ∀ g ∈ kids,NOk F w g) (hl : T.length + 8 * cK (dM kids) + 2 ≤ 900000) :
  Cl Tryz.prog 113 #[.pointer (some ⟨b,0,none⟩),.string op,v,.string s,.string cl] w (fun _ w' => Pn F w' b (T ++ [op] ++ gQ s (kW (dM kids)) ++ [cl]) ∧ Bw F w w') := by
 have hC := h;have hB := Bw.refl F w;have hq : (gQ s (kW (dM kids))).length ≤ 8 * cK (dM kids) := Nat.le_trans (nN _ _) (nO _);refine Cl.enter Tryz.func113 rfl Tryz.ntmps113 rfl rfl (.sr (.m2 rfl (.m2 rfl (Rg.wd trivial (aD (aT _) rfl) rfl ?_))));rintro _ w1 ⟨bt,rfl,qt,hx1,hvt⟩;replace hB := hB.trans (Bw.of hx1 hC.und);replace hC := hC.ext hx1;refine Rg.wd trivial (aC Tryz.call109 rfl (mQ (ts := [op]) hC (bX hvt rfl) (Nat.succ_pos _) (by simp only [List.length_append,List.length_cons,List.length_nil] at *; omega))) rfl ?_;rintro _ w2 ⟨hCn,hBn⟩;replace hB := hB.trans hBn;clear hC;have hC := hCn;clear hCn hBn;refine .done (.sr (.m2 rfl (.m2 rfl (.m2 rfl ?_))));refine Rg.wd trivial (aC Tryz.call62 rfl (zR (kids := kids) hN (hAF.step hB) hC (iL hs hB hb) hb (fun g hg => (hk g hg).bw hB fun z hz => hz) (by simp only [List.length_append,List.length_cons,List.length_nil] at *; omega))) rfl ?_;rintro _ w3 ⟨hCn,hBn⟩;replace hB := hB.trans hBn;clear hC;have hC := hCn;clear hCn hBn;refine .done (Wp.region (.m2 rfl (.m2 rfl (Rg.wd trivial (aD (aT _) rfl) rfl ?_))));rintro _ w4 ⟨bt,rfl,qt,hx4,hvt⟩;replace hB := hB.trans (Bw.of hx4 hC.und);replace hC := hC.ext hx4;refine Rg.wd trivial (aC Tryz.call109 rfl (mQ (ts := [cl]) hC (bX hvt rfl) (Nat.succ_pos _) (by simp only [List.length_append,List.length_cons,List.length_nil] at *; omega))) rfl ?_;rintro _ w5 ⟨hCn,hBn⟩;replace hB := hB.trans hBn;clear hC;have hC := hCn;clear hCn hBn;refine .done ?_;exact ⟨[],trivial,hC,hB⟩
theorem rC {w : World} {b : Nat} {g : Mn} {s : BA} (hk : g.er.hd.kind = 0) : Cl Tryz.prog 114 #[.pointer (some ⟨b,0,none⟩),.string s,.agg g.cells.toArray] w (fun _ w' => Ext w w') := by
 have hx := Ext.refl w;obtain ⟨h,cv,kids⟩ := g;replace hk : h.kind = 0 := hk;refine Cl.enter Tryz.func114 rfl Tryz.ntmps114 rfl rfl (.sr (Rg.wd trivial (aW (cs := (Mn.mk h cv kids).cells) rfl rfl) rfl ?_));rintro _ w1 ⟨b5,rfl,q5,hx1,hv5⟩;replace hx := hx.ext hx1;refine .done (.sr (.t2 (aA aZ rfl) (.t2 (aB bA rfl (hv5.g 0 rfl)) (.t2 (cU rfl rfl hk) (.done (.condF rfl (Wp.skip ?_)))))));exact ⟨[],trivial,hx⟩
theorem qK {F : Fs} {w : World} {b : Nat} {T : List BA} {g : Mn} (hN : NC g) (hAF : AscF F w) (h : Pn F w b T) (hg : NOk F w g) (hl : T.length + 8 * anc g.er + 2 ≤ 900000)
  (hk : g.er.hd.kind = 27 ∨ g.er.hd.kind = 1 ∨ g.er.hd.kind = 21 ∨ g.er.hd.kind = 39 ∨ g.er.hd.kind = 3) :
  Cl Tryz.prog 119 #[.pointer (some ⟨b,0,none⟩),.agg g.cells.toArray] w (fun _ w' => Pn F w' b (T ++ Bn g.er.hd.kind (kC g.er)) ∧ Bw F w w') := by
 obtain ⟨hd,cv,kids⟩ := g;obtain ⟨pc,cc,rfl⟩ : ∃ p q,cv = .slice p kids.length q := by
  cases hg with | mk a _ _ _ => obtain ⟨_,p,c,rfl,_⟩ := a; exact ⟨p,c,rfl⟩
 replace hk : hd.kind = 27 ∨ hd.kind = 1 ∨ hd.kind = 21 ∨ hd.kind = 39 ∨ hd.kind = 3 := hk
 by_cases h27 : hd.kind = 27
 ·skip
  refine Cl.enter Tryz.func119 rfl Tryz.ntmps119 rfl rfl (.sr (Rg.wd trivial (aW (cs := (Mn.mk hd (.slice pc kids.length cc) kids).cells) rfl rfl) rfl ?_));rintro _ w1 ⟨b3,rfl,q3,hx1,hv3⟩;have hB1 : Bw F w w1 := Bw.of hx1 h.und;have hC := h.add hx1 (Nat.le_of_eq q3.symm) hv3.lt;obtain ⟨F2,d⟩ : ∃ F2 : Fs,(fun z => F z ∨ z = b3) = F2 := ⟨_,rfl⟩;have hFF : ∀ z,F z → F2 z := fun z hz => by rw [← d]; exact .inl hz
  have h3F : F2 b3 := by rw [← d]; exact .inr rfl
  rw [d] at hC;have hg2 : NOk F2 w1 ((Mn.mk hd (.slice pc kids.length cc) kids)) := (hg.bw hB1 fun z hz => hz).mono hFF;have hB := Bw.refl F2 w1;refine .done (.sr (.t2 (aA aZ rfl) (.t2 (aB bA rfl (hv3.g 0 rfl)) (.done (Wp.block (.seq (.sr (.t2 (aS rfl rfl h27) (.a2 rfl (.done (.condT rfl (Wp.skip ?_))))))))))));refine .condT rfl (Wp.region (.m2 rfl ?_));refine .t2 (bB rfl hv3.cells (by rw [Mn.len]; exact cC)) ?_;refine Rg.wd trivial (aC Tryz.call31 rfl (hN F2 _ b T (((hAF.step hB1).sub hFF).step hB) hC (hg2.bw hB fun z hz => hz) (by omega))) rfl ?_;rintro _ w2 ⟨hCn,hBn⟩;replace hB := hB.trans hBn;replace hv3 := aE hv3 hBn h3F;clear hC;have hC := hCn;clear hCn hBn;refine .done ?_;have e : Bn hd.kind (kC (Mn.mk hd (.slice pc kids.length cc) kids).er) = kC (Mn.mk hd (.slice pc kids.length cc) kids).er := by rw [h27]; rfl
  refine ⟨[],trivial,?_,hB1.trans (hB.sub hFF)⟩
  show Pn F _ b (T ++ Bn hd.kind _)
  rw [e];exact hC.sub hFF
 ·skip
  refine Cl.enter Tryz.func119 rfl Tryz.ntmps119 rfl rfl (.sr (Rg.wd trivial (aW (cs := (Mn.mk hd (.slice pc kids.length cc) kids).cells) rfl rfl) rfl ?_));rintro _ w1 ⟨b3,rfl,q3,hx1,hv3⟩;have hB1 : Bw F w w1 := Bw.of hx1 h.und;have hC := h.add hx1 (Nat.le_of_eq q3.symm) hv3.lt;obtain ⟨F2,d⟩ : ∃ F2 : Fs,(fun z => F z ∨ z = b3) = F2 := ⟨_,rfl⟩;have hFF : ∀ z,F z → F2 z := fun z hz => by rw [← d]; exact .inl hz
  have h3F : F2 b3 := by rw [← d]; exact .inr rfl
  rw [d] at hC;have hg2 : NOk F2 w1 ((Mn.mk hd (.slice pc kids.length cc) kids)) := (hg.bw hB1 fun z hz => hz).mono hFF;have hB := Bw.refl F2 w1;refine .done (.sr (.t2 (aA aZ rfl) (.t2 (aB bA rfl (hv3.g 0 rfl)) (.done (Wp.block (.seq (.sr ?_)))))));refine .t2 (aR rfl rfl (by omega)) ?_;refine .a2 rfl (.done (.condF rfl (.sr ?_)));refine .t2 (aR rfl rfl (by omega)) ?_;refine .a2 rfl (.done (.condF rfl (.sr ?_)));refine .t2 (aR rfl rfl (by omega)) ?_;refine .a2 rfl (.done (.condF rfl (.sr ?_)));refine .t2 (aR rfl rfl (by omega)) ?_;refine .a2 rfl (.done (.condF rfl (.sr ?_)));refine .t2 (aR rfl rfl (by omega)) ?_;refine .a2 rfl (.done (.condF rfl (.sr ?_)));refine .t2 (aR rfl rfl (by omega)) ?_;refine .a2 rfl (.done (.condF rfl (.sr ?_)));refine .t2 (aR rfl rfl (by omega)) ?_;refine .a2 rfl (.done (.condF rfl (Wp.region ?_)));refine .t2 (aR rfl rfl (by omega)) ?_;refine .a2 rfl (.done (.condF rfl (Wp.region (.m2 rfl ?_))));refine .t2 (bB rfl hv3.cells (by rw [Mn.len]; exact cC)) ?_;refine Rg.wd trivial (aD (mN _ _ _ _ _ _ _ _ _) rfl) rfl ?_;rintro _ w2 ⟨bt,rfl,qt,hx2,hvt⟩;have hCt := hC.add hx2 (Nat.le_of_eq qt.symm) hvt.lt;have hBt : Bw F2 w1 w2 := hB.trans (Bw.of hx2 hC.und);have hgt : NOk F2 w2 (.mk hd (.slice pc kids.length cc) kids) := hg2.bw hBt fun z hz => hz;refine Rg.wd trivial (aC Tryz.call113 rfl (lM (kids := [.mk hd (.slice pc kids.length cc) kids]) (fun g hg => by rw [List.mem_singleton.1 hg]; exact hN) ((((hAF.step hB1).sub hFF).step hBt).sub fun z hz => .inl hz) hCt (bX hvt rfl) (fun z hz => by cases hz; exact .inr rfl) (fun g hg => by rw [List.mem_singleton.1 hg]; exact hgt.mono fun z hz => .inl hz) (by simp only [dM,cK]; omega))) rfl ?_;rintro _ w9 ⟨hCn,hBn⟩;refine .done ?_;have e : Bn hd.kind (kC (Mn.mk hd (.slice pc kids.length cc) kids).er) = [⟨#[40]⟩] ++ kC (Mn.mk hd (.slice pc kids.length cc) kids).er ++ [⟨#[41]⟩] := by
   unfold Bn D3
   rcases hk with e | e | e | e | e <;> first | exact absurd e h27 | (rw [e]; rfl)
  refine ⟨[],trivial,?_,hB1.trans ((hBt.trans (hBn.sub fun z hz => .inl hz)).sub hFF)⟩
  show Pn F _ b (T ++ Bn hd.kind _)
  rw [e];have h5 := (hCn.sub fun z hz => (.inl (hFF z hz)) : Pn F _ b _)
  simpa [dM,kW,gQ] using h5
theorem tX {F : Fs} {w : World} {b : Nat} {T : List BA} {hd : Hd} {cv : Value} {kids : List Mn} (hN : ∀ g ∈ kids,NC g) (hAF : AscF F w) (h : Pn F w b T) (hg : NOk F w (.mk hd cv kids)) (hl : T.length + 8 * anc (Mn.mk hd cv kids).er ≤ 900000) (hk : hd.kind = 21) :
  Cl Tryz.prog 67 #[.pointer (some ⟨b,0,none⟩),.agg (Mn.mk hd cv kids).cells.toArray] w (fun _ w' => Pn F w' b (T ++ kC (Mn.mk hd cv kids).er) ∧ Bw F w w') := by
 have hs : SlC w cv 7 kids.length (aK Mn.cells kids) ∧ gI F cv ∧ ∀ g ∈ kids,NOk F w g := by cases hg with | mk a _ c d => exact ⟨a,c,d⟩
 have ha : anc (Mn.mk hd cv kids).er = cK (dM kids) + 1 := rfl;refine Cl.enter Tryz.func67 rfl Tryz.ntmps67 rfl rfl (.sr (Rg.wd trivial (aW (cs := (Mn.mk hd cv kids).cells) rfl rfl) rfl ?_));rintro _ w1 ⟨b3,rfl,q3,hx1,hv3⟩;have hB1 : Bw F w w1 := Bw.of hx1 h.und;have hC := h.add hx1 (Nat.le_of_eq q3.symm) hv3.lt;obtain ⟨F2,f⟩ : ∃ F2 : Fs,(fun z => F z ∨ z = b3) = F2 := ⟨_,rfl⟩;have hFF : ∀ z,F z → F2 z := fun z hz => by rw [← f]; exact .inl hz
 have h3F : F2 b3 := by rw [← f]; exact .inr rfl
 rw [f] at hC;have hg2 : NOk F2 w1 ((Mn.mk hd cv kids)) := (hg.bw hB1 fun z hz => hz).mono hFF;have hB := Bw.refl F2 w1;refine .done (.sr (.t2 (aA aZ rfl) (.t2 (aB bA rfl (hv3.g 0 rfl)) (.done (Wp.block (.sr (.t2 (aS rfl rfl hk) (.a2 rfl (.done (.condT rfl (Wp.region (.m2 rfl ?_))))))))))));refine .t2 (aA eP rfl) (.t2 (aB iK rfl (hv3.g 6 rfl)) ?_);refine Rg.wd trivial (aC Tryz.call113 rfl (lM (kids := kids) hN ((hAF.step hB1).sub hFF) hC (iL hs.1 hB1 hs.2.1) (fun z hz => hFF z (hs.2.1 z hz)) (fun g hg => ((hs.2.2 g hg).bw hB1 fun z hz => hz).mono hFF) (by omega))) rfl ?_;rintro _ w2 ⟨hCn,hBn⟩;replace hB := hB.trans hBn;replace hv3 := aE hv3 hBn h3F;clear hC;have hC := hCn;clear hCn hBn;refine .done ?_;refine ⟨[],trivial,?_,hB1.trans (hB.sub hFF)⟩;have e : kC (Mn.mk hd cv kids).er = ⟨#[123]⟩ :: gQ .empty (kW (dM kids)) ++ [⟨#[125]⟩] := by
  show kC (.mk hd (dM kids)) = _
  rw [kC,if_neg (by omega),if_pos hk]
 rw [e,show T ++ (⟨#[123]⟩ :: gQ .empty (kW (dM kids)) ++ [⟨#[125]⟩]) = T ++ [⟨#[123]⟩] ++ gQ .empty (kW (dM kids)) ++ [⟨#[125]⟩] from by simp];exact hC.sub hFF
theorem D7 {w : World} {b : Nat} {g : Mn} (hn : g.kids = []) (hk : g.er.hd.kind = 10) {F : Fs} (hg : NOk F w g) : Cl Tryz.prog 64 #[.pointer (some ⟨b,0,none⟩),.agg g.cells.toArray] w (fun _ w' => Ext w w') := by
 have hx := Ext.refl w;obtain ⟨h,cv,kids⟩ := g;replace hk : h.kind = 10 := hk;obtain rfl : kids = [] := hn;have hs : SlC w cv 7 0 [] := by cases hg with | mk a _ _ _ => exact a
 refine Cl.enter Tryz.func64 rfl Tryz.ntmps64 rfl rfl (.sr (Rg.wd trivial (aW (cs := (Mn.mk h cv []).cells) rfl rfl) rfl ?_));rintro _ w1 ⟨b3,rfl,q3,hx1,hv3⟩;replace hx := hx.ext hx1;refine .done (.sr (.t2 (aA aZ rfl) (.t2 (aB bA rfl (hv3.g 0 rfl)) (.done (Wp.block (.sr (.t2 (aS rfl rfl hk) (.a2 rfl (.done (.condT rfl (Wp.region (.m2 rfl ?_))))))))))));refine .t2 (aA eP rfl) (.t2 (aB iK rfl (hv3.g 6 rfl)) (Rg.wd trivial (aC Tryz.call116 rfl (tT (hs.ext hx))) rfl ?_));rintro _ _ rfl;refine .done ?_;exact ⟨[],trivial,hx⟩
theorem Gr : ∀ n : Fin 10,(⟨#[48,49,50,51,52,53,54,55,56,57,97,98,99,100,101,102,103,104,105,106,107,108,109,110,111,112,113,114,115,116,117,118,119,120,121,122]⟩ : ByteArray).extract n.val (n.val + 1) = oR (n.val : Int) := by decide
theorem D8 {w : World} {n : Nat} (h : n < 10) : Cl Tryz.prog 219 #[.int .i64 n] w (fun u w' => u = .string (oR n) ∧ w = w') := by
 skip
 refine Cl.enter Tryz.func219 rfl Tryz.ntmps219 rfl rfl (.sr (.a2 rfl (.done (.seq (.sr (.m2 rfl ?_))))));refine .t2 (bN rfl rfl (by omega)) ?_;refine .done (.condT rfl (.sr (.m2 rfl (.m2 rfl ?_))))
 first | refine .tq (bC rfl rfl (by omega)) rfl ?_ | refine .tq (bV rfl rfl) rfl ?_
 refine .t2 (eK Tryz.underlying9 rfl rfl rfl (by refine ⟨by omega,by omega,?_⟩; show _ ≤ ((36 : Nat) : Int); omega)) ?_;refine .a2 rfl (.done (Wp.ret ?_));refine ⟨[_],⟨rfl,trivial⟩,?_,rfl⟩
 show Value.string (ByteArray.extract _ (n : Int).toNat ((n : Int) + 1).toNat) = _
 rw [Int.toNat_natCast,show ((n : Int) + 1).toNat = n + 1 from by omega];exact congrArg Value.string (Gr ⟨n,h⟩)
theorem Gs {w : World} {n : Nat} (h : n < 10) : Cl Tryz.prog 117 #[.int .i64 n] w (fun u w' => u = .string (oR n) ∧ w = w') := by
 have h3 : ∀ w : World,Cl Tryz.prog 187 #[.int .i64 n,.int .i64 10] w (fun u w' => u = .string (oR n) ∧ w = w') := fun w => by
  refine Cl.enter Tryz.func187 rfl Tryz.ntmps187 rfl rfl (.sr (.a2 rfl (.done (.seq (.sr (.m2 rfl (.t2 (aS rfl rfl rfl) (.done (.condT rfl (.seq (.sr (.m2 rfl ?_))))))))))));refine .t2 (eC rfl rfl (by omega)) ?_;refine .m2 rfl (.g2 (aP rfl) ?_);refine .g2 (bN rfl rfl (by omega)) ?_;refine .t2 (aJ rfl rfl) (.done (.condT rfl (.sr (.m2 rfl (Rg.wd trivial (aC Tryz.call219 rfl (D8 h)) rfl ?_)))));rintro _ _ ⟨rfl,rfl⟩;refine .a2 rfl (.done (Wp.ret ?_));exact ⟨[_],⟨rfl,trivial⟩,rfl,rfl⟩
 have h2 : ∀ w : World,Cl Tryz.prog 151 #[.int .i64 n] w (fun u w' => u = .string (oR n) ∧ w = w') := fun w => by
  refine Cl.enter Tryz.func151 rfl Tryz.ntmps151 rfl rfl (.sr (.a2 rfl (.done (.sr (.m2 rfl (Rg.wd trivial (aC Tryz.call187 rfl (h3 _)) rfl ?_))))));rintro _ _ ⟨rfl,rfl⟩;refine .a2 rfl (.done (Wp.ret ?_));exact ⟨[_],⟨rfl,trivial⟩,rfl,rfl⟩
 refine Cl.enter Tryz.func117 rfl Tryz.ntmps117 rfl rfl (.sr (.a2 rfl (.done (.sr (.m2 rfl (Rg.wd trivial (aC Tryz.call151 rfl (h2 _)) rfl ?_))))));rintro _ _ ⟨rfl,rfl⟩;refine .a2 rfl (.done (Wp.ret ?_));exact ⟨[_],⟨rfl,trivial⟩,rfl,rfl⟩
theorem qL {w : World} (hA : Asc w) : Cl Tryz.prog 111 #[.int .i64 3] w (fun u w' => u = .string Jp ∧ Ext w w') := by
 have el : (Lib.fields jL.data.toList).length = fX.length := by unfold fX; rw [List.length_map]
 have hx := Ext.refl w;refine Cl.enter Tryz.func111 rfl Tryz.ntmps111 rfl rfl (.sr (.a2 rfl (.done (.seq (.sr (.m2 rfl ?_))))));refine .t2 (eN rfl rfl (by omega)) ?_;refine .done (.condF rfl (Wp.skip (.sr ?_)));refine Rg.wd trivial (aC Tryz.call106 rfl (Lexi.jR (s := jL) (by decide) (by decide +kernel) hA)) rfl ?_;rintro _ w1 ⟨⟨b,rfl,hv⟩,hx1⟩;replace hx := hx.ext hx1;rw [el];have hk8 : fX.length = 8 := lO;have hsl : SlC w1 (.slice (some ⟨b,0,none⟩) fX.length fX.length) 1 fX.length (aK tQ fX) := bX (size := 1) (by
  have e : aK tQ fX = fX.map .string := by unfold aK tQ; induction fX with | nil => rfl | cons a l ih => simpa using ih
  rw [e]; exact hv) (by rw [aQ nL])
 refine .m2 rfl ?_;refine .t2 (eG rfl rfl (by omega)) ?_;rw [show (3 : Int) - 2 = ((1 : Nat) : Int) from rfl];refine Rg.ix hsl trivial rfl rfl Tryz.underlying74 hY (by omega) rfl ?_;intro bt8 ot8 ht8;rw [Int.toNat_natCast,eA nL fX 1 (by rw [hk8]; decide)] at ht8;have hk1 := (List.getElem?_eq_some_iff.1 (show fX[1]? = some Jp by decide +kernel)).2;rw [hk1] at ht8;refine .t2 (aB hY rfl (bF.get (i := 0) ht8 rfl)) (.a2 rfl (.done (Wp.ret ?_)));exact ⟨[_],⟨rfl,trivial⟩,rfl,hx⟩
theorem D9 {a : An} (h : tS a = true) : a.hd.kind = 27 ∨ a.hd.kind = 1 ∨ a.hd.kind = 21 ∨ a.hd.kind = 39 ∨ a.hd.kind = 3 := by
 obtain ⟨hd,ks⟩ := a;rw [tS] at h;simp only [Bool.or_eq_true,Bool.and_eq_true,beq_iff_eq,decide_eq_true_eq] at h
 show hd.kind = 27 ∨ hd.kind = 1 ∨ hd.kind = 21 ∨ hd.kind = 39 ∨ hd.kind = 3
 rcases h with ((h | h) | h) | h
 ·exact .inl h.1.1
 ·rcases h.1 with e | e
  ·exact .inr (.inl e)
  ·exact .inr (.inr (.inl e))
 ·exact .inr (.inr (.inr (.inl h.1.1)))
 ·exact .inr (.inr (.inr (.inr h.1.1)))
theorem Ea {F : Fs} {w : World} {b : Nat} {T : List BA} {hd : Hd} {cv : Value} {kids : List Mn} (h : Pn F w b T) (hg : NOk F w (.mk hd cv kids)) (hl : T.length + 8 * anc (Mn.mk hd cv kids).er ≤ 900000) (hk : hd.kind = 27) (h0 : 0 ≤ hd.value) (h9 : hd.value < 10) :
  Cl Tryz.prog 66 #[.pointer (some ⟨b,0,none⟩),.agg (Mn.mk hd cv kids).cells.toArray] w (fun _ w' => Pn F w' b (T ++ kC (Mn.mk hd cv kids).er) ∧ Bw F w w') := by
 have ha : anc (Mn.mk hd cv kids).er = cK (dM kids) + 1 := rfl;obtain ⟨n,hn⟩ : ∃ n : Nat,hd.value = n := ⟨hd.value.toNat,by omega⟩;refine Cl.enter Tryz.func66 rfl Tryz.ntmps66 rfl rfl (.sr (Rg.wd trivial (aW (cs := (Mn.mk hd cv kids).cells) rfl rfl) rfl ?_));rintro _ w1 ⟨b3,rfl,q3,hx1,hv3⟩;have hB1 : Bw F w w1 := Bw.of hx1 h.und;have hC := h.add hx1 (Nat.le_of_eq q3.symm) hv3.lt;obtain ⟨F2,a⟩ : ∃ F2 : Fs,(fun z => F z ∨ z = b3) = F2 := ⟨_,rfl⟩;have hFF : ∀ z,F z → F2 z := fun z hz => by rw [← a]; exact .inl hz
 have h3F : F2 b3 := by rw [← a]; exact .inr rfl
 rw [a] at hC;have hg2 : NOk F2 w1 ((Mn.mk hd cv kids)) := (hg.bw hB1 fun z hz => hz).mono hFF;have hB := Bw.refl F2 w1;refine .done (.sr (.t2 (aA aZ rfl) (.t2 (aB bA rfl (hv3.g 0 rfl)) (.done (Wp.block (.sr (.t2 (aS rfl rfl hk) (.a2 rfl (.done (.condT rfl (Wp.region (.m2 rfl ?_))))))))))));refine .t2 (aA eZ rfl) (.t2 (aB bA rfl (hv3.g 1 rfl)) ?_);rw [hn];refine Rg.wd trivial (aC Tryz.call117 rfl (Gs (n := n) (by omega))) rfl ?_;rintro _ _ ⟨rfl,rfl⟩;refine Rg.wd trivial (aD (aT _) rfl) rfl ?_;rintro _ w2 ⟨bt,rfl,qt,hx2,hvt⟩;replace hB := hB.trans (Bw.of hx2 hC.und);replace hC := hC.ext hx2;replace hv3 := hv3.ext hx2;refine Rg.wd trivial (aC Tryz.call109 rfl (mQ (ts := [oR n]) hC (bX hvt rfl) (Nat.succ_pos _) (by simp only [List.length_append,List.length_cons,List.length_nil]; omega))) rfl ?_;rintro _ w3 ⟨hCn,hBn⟩;replace hB := hB.trans hBn;replace hv3 := aE hv3 hBn h3F;clear hC;have hC := hCn;clear hCn hBn;refine .done ?_;refine ⟨[],trivial,?_,hB1.trans (hB.sub hFF)⟩;have e : kC (Mn.mk hd cv kids).er = [oR n] := by
  show kC (.mk hd (dM kids)) = _
  rw [kC,if_neg (by omega),if_neg (by omega),if_pos hk,hn]
 rw [e];exact hC.sub hFF
theorem Eb {F : Fs} {w : World} {b : Nat} {T : List BA} {hd : Hd} {cv : Value} {k1 k2 : Mn} (hN1 : NC k1) (hN2 : NC k2) (ho1 : tS k1.er = true) (ho2 : tS k2.er = true) (hAF : AscF F w) (h : Pn F w b T) (hg : NOk F w (.mk hd cv [k1,k2])) (hl : T.length + 8 * anc (Mn.mk hd cv [k1,k2]).er ≤ 900000) (hk : hd.kind = 39) :
  Cl Tryz.prog 66 #[.pointer (some ⟨b,0,none⟩),.agg (Mn.mk hd cv [k1,k2]).cells.toArray] w (fun _ w' => Pn F w' b (T ++ kC (Mn.mk hd cv [k1,k2]).er) ∧ Bw F w w') := by
 have ha : anc (Mn.mk hd cv [k1,k2]).er = anc k1.er + (anc k2.er + 0) + 1 := rfl;have h1 := tW k1.er;have h2 := tV k1.er.hd.kind (kC k1.er);have hne : ∀ w',NOk F w' (.mk hd cv [k1,k2]) → NOk F w' (.mk hd cv [k1,k2]) := fun _ h => h;refine Cl.enter Tryz.func66 rfl Tryz.ntmps66 rfl rfl (.sr (Rg.wd trivial (aW (cs := (Mn.mk hd cv [k1,k2]).cells) rfl rfl) rfl ?_));rintro _ w1 ⟨b3,rfl,q3,hx1,hv3⟩;have hB1 : Bw F w w1 := Bw.of hx1 h.und;have hC := h.add hx1 (Nat.le_of_eq q3.symm) hv3.lt;obtain ⟨F2,a⟩ : ∃ F2 : Fs,(fun z => F z ∨ z = b3) = F2 := ⟨_,rfl⟩;have hFF : ∀ z,F z → F2 z := fun z hz => by rw [← a]; exact .inl hz
 have h3F : F2 b3 := by rw [← a]; exact .inr rfl
 rw [a] at hC;have hg2 : NOk F2 w1 ((Mn.mk hd cv [k1,k2])) := (hg.bw hB1 fun z hz => hz).mono hFF;have hB := Bw.refl F2 w1;refine .done (.sr (.t2 (aA aZ rfl) (.t2 (aB bA rfl (hv3.g 0 rfl)) (.done (Wp.block (.sr ?_))))));refine .t2 (aR rfl rfl (by omega)) ?_;refine .a2 rfl (.done (.condF rfl (.sr ?_)));refine .t2 (aR rfl rfl (by omega)) ?_;refine .a2 rfl (.done (.condF rfl (.sr ?_)));refine .t2 (aR rfl rfl (by omega)) ?_;refine .a2 rfl (.done (.condF rfl (.sr ?_)));refine .t2 (aR rfl rfl (by omega)) ?_;refine .a2 rfl (.done (.condF rfl (.sr ?_)));refine .t2 (aR rfl rfl (by omega)) ?_;refine .a2 rfl (.done (.condF rfl (.sr ?_)));refine .t2 (aR rfl rfl (by omega)) ?_;refine .a2 rfl (.done (.condF rfl (.sr ?_)));refine .t2 (aS rfl rfl (by omega)) ?_;refine .a2 rfl (.done (.condT rfl (.sr (.m2 rfl ?_))));refine .t2 (bB rfl hv3.cells (by rw [Mn.len]; exact cC)) ?_;refine Rg.wd trivial (aC Tryz.call112 rfl (jB (i := 0) (hg2.bw hB fun z hz => hz) hC.und (by omega))) rfl ?_;rintro _ w2 ⟨⟨xt71,rfl,hxt71o,hxt71e⟩,hx2⟩;replace hB := hB.trans (Bw.of hx2 hC.und);replace hC := hC.ext hx2;replace hv3 := hv3.ext hx2;obtain rfl : k1 = xt71 := hxt71e.symm
 
 refine Rg.wd trivial (aC Tryz.call119 rfl (qK (g := k1) hN1 (((hAF.step hB1).sub hFF).step hB) hC hxt71o (by omega) (D9 ho1))) rfl ?_;rintro _ w3 ⟨hCn,hBn⟩;replace hB := hB.trans hBn;replace hv3 := aE hv3 hBn h3F;clear hC;have hC := hCn;clear hCn hBn;refine .done (.sr (.m2 rfl (.t2 (aA fP rfl) (.t2 (aB hY rfl (hv3.g 2 rfl)) (Rg.wd trivial (aD (aT _) rfl) rfl ?_)))));rintro _ w4 ⟨bt,rfl,qt,hx4,hvt⟩;replace hB := hB.trans (Bw.of hx4 hC.und);replace hC := hC.ext hx4;replace hv3 := hv3.ext hx4;refine Rg.wd trivial (aC Tryz.call109 rfl (mQ (ts := [hd.text]) hC (bX hvt rfl) (Nat.succ_pos _) (by simp only [List.length_append,List.length_cons,List.length_nil]; omega))) rfl ?_;rintro _ w5 ⟨hCn,hBn⟩;replace hB := hB.trans hBn;replace hv3 := aE hv3 hBn h3F;clear hC;have hC := hCn;clear hCn hBn;refine .done (Wp.region (.m2 rfl ?_));refine .t2 (bB rfl hv3.cells (by rw [Mn.len]; exact cC)) ?_;refine Rg.wd trivial (aC Tryz.call112 rfl (jB (i := 1) (hg2.bw hB fun z hz => hz) hC.und (by omega))) rfl ?_;rintro _ w6 ⟨⟨xt80,rfl,hxt80o,hxt80e⟩,hx6⟩;replace hB := hB.trans (Bw.of hx6 hC.und);replace hC := hC.ext hx6;replace hv3 := hv3.ext hx6;obtain rfl : k2 = xt80 := hxt80e.symm;refine Rg.wd trivial (aC Tryz.call119 rfl (qK (g := k2) hN2 (((hAF.step hB1).sub hFF).step hB) hC hxt80o (by simp only [List.length_append,List.length_cons,List.length_nil]; omega) (D9 ho2))) rfl ?_;rintro _ w7 ⟨hCn,hBn⟩;replace hB := hB.trans hBn;replace hv3 := aE hv3 hBn h3F;clear hC;have hC := hCn;clear hCn hBn;refine .done ?_;refine ⟨[],trivial,?_,hB1.trans (hB.sub hFF)⟩;have e : kC (Mn.mk hd cv [k1,k2]).er = Bn k1.er.hd.kind (kC k1.er) ++ [hd.text] ++ Bn k2.er.hd.kind (kC k2.er) := by
  show kC (.mk hd [k1.er,k2.er]) = _
  rw [kC,if_neg (by omega),if_neg (by omega),if_neg (by omega),if_neg (by omega),if_pos hk];rfl
 rw [e,← List.append_assoc,← List.append_assoc];exact hC.sub hFF
theorem Bh {F : Fs} {w : World} {b : Nat} {g : Mn} (hg : NOk F w g) (hU : Und F w.heap.size) (hn : g.kids = []) (hk : g.er.hd.kind = 10) : Cl Tryz.prog 31 #[.pointer (some ⟨b,0,none⟩),.agg g.cells.toArray] w (fun _ w' => Ext w w') := by
 have hx := Ext.refl w;obtain ⟨hd,cv,kids⟩ := g;replace hk : hd.kind = 10 := hk;refine Cl.enter Tryz.func31 rfl Tryz.ntmps31 rfl rfl (.sr (Rg.wd trivial (aW (cs := (Mn.mk hd cv kids).cells) rfl rfl) rfl ?_));rintro _ w1 ⟨b3,rfl,q3,hx1,hv3⟩;replace hx := hx.ext hx1;refine .done (Wp.block (.sr (.t2 (aA aZ rfl) (.t2 (aB bA rfl (hv3.g 0 rfl)) ?_))));refine .t2 (aR rfl rfl (by omega)) ?_;refine .a2 rfl (.done (.condF rfl (.sr (.t2 (aA aZ rfl) (.t2 (aB bA rfl (hv3.g 0 rfl)) ?_)))));refine .t2 (cP rfl rfl (by omega)) ?_;refine .m2 rfl (.g2 (aA aZ rfl) (.g2 (aB bA rfl (hv3.g 0 rfl)) ?_));refine .g2 (dU rfl rfl (by omega)) ?_;refine .t2 (aJ rfl rfl) (.m2 rfl (.g2 (aA aZ rfl) (.g2 (aB bA rfl (hv3.g 0 rfl)) ?_)));refine .g2 (aR rfl rfl (by omega)) ?_;refine .t2 (aN rfl rfl) (.a2 rfl (.done (.condF rfl (.sr (.t2 (aA aZ rfl) (.t2 (aB bA rfl (hv3.g 0 rfl)) ?_))))));refine .t2 (cP rfl rfl (by omega)) ?_;refine .m2 rfl (.g2 (aA aZ rfl) (.g2 (aB bA rfl (hv3.g 0 rfl)) ?_));refine .g2 (eC rfl rfl (by omega)) ?_;refine .t2 (aJ rfl rfl) (.a2 rfl (.done (.condT rfl (Wp.region (.m2 rfl ?_)))));refine .t2 (bB rfl hv3.cells (by rw [Mn.len]; exact cC)) ?_;refine Rg.wd trivial (aC Tryz.call64 rfl (D7 (g := .mk hd cv kids) hn hk (hg.bw (Bw.of hx hU) fun z hz => hz))) rfl ?_;rintro _ w2 hx2;replace hx := hx.ext hx2;replace hv3 := hv3.ext hx2;refine .done ?_;exact ⟨[],trivial,hx⟩
theorem Gu {F : Fs} {w : World} {b : Nat} {T : List BA} {hd : Hd} {cv : Value} {g1 g2 g3 g4 : Mn} (hAF : AscF F w) (hN : NC g4) (e1 : g1.er.hd.kind = 10) (e2 : g1.kids = []) (e3 : g2.kids = []) (e4 : g3.er.hd.kind = 0) (e5 : g4.er.hd.kind ≠ 0)
  (h : Pn F w b T) (hg : NOk F w (.mk hd cv [g1,g2,g3,g4])) (hl : T.length + 8 * anc (Mn.mk hd cv [g1,g2,g3,g4]).er ≤ 900000) (hk : hd.kind = 3) :
  Cl Tryz.prog 63 #[.pointer (some ⟨b,0,none⟩),.agg (Mn.mk hd cv [g1,g2,g3,g4]).cells.toArray] w (fun _ w' => Pn F w' b (T ++ kC (Mn.mk hd cv [g1,g2,g3,g4]).er) ∧ Bw F w w') := by
 have ha : anc (Mn.mk hd cv [g1,g2,g3,g4]).er = anc g1.er + (anc g2.er + (anc g3.er + (anc g4.er + 0))) + 1 := rfl;obtain ⟨tp,htp⟩ : ∃ tp : BA,(if D1 hd.value 1 = 1 then Ir else .empty) = tp := ⟨_,rfl⟩;refine Cl.enter Tryz.func63 rfl Tryz.ntmps63 rfl rfl (.sr (Rg.wd trivial (aW (cs := (Mn.mk hd cv [g1,g2,g3,g4]).cells) rfl rfl) rfl ?_));rintro _ w1 ⟨b3,rfl,q3,hx1,hv3⟩;have hB1 : Bw F w w1 := Bw.of hx1 h.und;have hC := h.add hx1 (Nat.le_of_eq q3.symm) hv3.lt;obtain ⟨F2,d⟩ : ∃ F2 : Fs,(fun z => F z ∨ z = b3) = F2 := ⟨_,rfl⟩;have hFF : ∀ z,F z → F2 z := fun z hz => by rw [← d]; exact .inl hz
 have h3F : F2 b3 := by rw [← d]; exact .inr rfl
 rw [d] at hC;have hg2 : NOk F2 w1 ((Mn.mk hd cv [g1,g2,g3,g4])) := (hg.bw hB1 fun z hz => hz).mono hFF;have hB := Bw.refl F2 w1;refine .done ?_;refine Wp.seq (Wp.draw [0,1,3,4,2,5,6,7] [0] mixed (by kernel_rfl) (by kernel_rfl) ?_);intro w2 hx2 _;replace hv3 := hv3.ext hx2;replace hB := hB.trans (Bw.of hx2 hC.und);replace hC := hC.ext hx2;refine .m2 rfl ?_;refine .t2 (bB rfl hv3.cells (by rw [Mn.len]; exact cC)) ?_;refine .t2 (aA aZ rfl) (.t2 (aB bA rfl (hv3.g 0 rfl)) ?_);rw [hk];refine Rg.wdB trivial rfl (aC Tryz.call110 rfl Gq) rfl (fun _ _ h => h.2.below) ?_;rintro _ w3 ⟨rfl,hx3⟩;replace hB := hB.trans (Bw.of hx3 hC.und);replace hC := hC.ext hx3;replace hv3 := hv3.ext hx3;rw [show (⟨#[112,117,98]⟩ : ByteArray) = Ir from rfl,htp];refine Rg.wdB trivial rfl (aC Tryz.call111 rfl (qL (((hAF.step hB1).sub hFF).step hB).here)) rfl (fun _ _ h => h.2.below) ?_;rintro _ w4 ⟨rfl,hx4⟩;replace hB := hB.trans (Bw.of hx4 hC.und);replace hC := hC.ext hx4;replace hv3 := hv3.ext hx4;refine Rg.wdB trivial rfl (aD (dE _ _) rfl) rfl (fun _ _ h => by obtain ⟨_,_,_,hx,_⟩ := h; exact hx.below) ?_;rintro _ w5 ⟨bt,rfl,qt,hx5,hvt⟩;replace hB := hB.trans (Bw.of hx5 hC.und);replace hC := hC.ext hx5;replace hv3 := hv3.ext hx5;refine pK trivial rfl (aC Tryz.call109 rfl (mQ (ts := [tp,Jp]) hC (bX hvt rfl) (Nat.succ_pos _) (by simp only [List.length_append,List.length_cons,List.length_nil]; omega))) rfl (by rfl) ?_;rintro _ w6 ⟨hCn,hBn⟩;replace hB := hB.trans hBn;replace hv3 := aE hv3 hBn h3F;clear hC;have hC := hCn;clear hCn hBn;refine .done (.seq (.sr (.t2 (aA aZ rfl) (.t2 (aB bA rfl (hv3.g 0 rfl)) ?_))));refine .t2 (dX rfl rfl (by omega)) ?_;refine .m2 rfl (.g2 (aA aZ rfl) (.g2 (aB bA rfl (hv3.g 0 rfl)) ?_));refine .g2 (dX rfl rfl (by omega)) ?_;refine .t2 (aJ rfl rfl) (.done (.condT rfl (Wp.region (.m2 rfl (.t2 (aA fP rfl) (.t2 (aB hY rfl (hv3.g 2 rfl)) (Rg.wd trivial (aD (aT _) rfl) rfl ?_)))))));rintro _ w7 ⟨bt,rfl,qt,hx7,hvt⟩;replace hB := hB.trans (Bw.of hx7 hC.und)
 replace hC := hC.ext hx7;replace hv3 := hv3.ext hx7;refine Rg.wd trivial (aC Tryz.call109 rfl (mQ (ts := [hd.text]) hC (bX hvt rfl) (Nat.succ_pos _) (by simp only [List.length_append,List.length_cons,List.length_nil]; omega))) rfl ?_;rintro _ w8 ⟨hCn,hBn⟩;replace hB := hB.trans hBn;replace hv3 := aE hv3 hBn h3F;clear hC;have hC := hCn;clear hCn hBn;refine .done (.sr (.t2 (aA aZ rfl) (.t2 (aB bA rfl (hv3.g 0 rfl)) (.done (Wp.block (.sr ?_))))));refine .t2 (aR rfl rfl (by omega)) ?_;refine .a2 rfl (.done (.condF rfl (.sr ?_)));refine .t2 (aS rfl rfl (by omega)) ?_;refine .a2 rfl (.done (.condT rfl (.sr (.m2 rfl ?_))));refine .t2 (bB rfl hv3.cells (by rw [Mn.len]; exact cC)) ?_;refine Rg.wd trivial (aC Tryz.call112 rfl (jB (i := 0) (hg2.bw hB fun z hz => hz) hC.und (by omega))) rfl ?_;rintro _ w9 ⟨⟨xt55,rfl,hxt55o,hxt55e⟩,hx9⟩;replace hB := hB.trans (Bw.of hx9 hC.und);replace hC := hC.ext hx9;replace hv3 := hv3.ext hx9;obtain rfl : g1 = xt55 := hxt55e.symm;refine Rg.wd trivial (aC Tryz.call31 rfl (Bh hxt55o hC.und e2 e1)) rfl ?_;rintro _ w10 hx10;replace hB := hB.trans (Bw.of hx10 hC.und);replace hC := hC.ext hx10;replace hv3 := hv3.ext hx10;refine .done (.sr (.m2 rfl ?_));refine .t2 (bB rfl hv3.cells (by rw [Mn.len]; exact cC)) ?_;refine Rg.wd trivial (aC Tryz.call112 rfl (jB (i := 1) (hg2.bw hB fun z hz => hz) hC.und (by omega))) rfl ?_;rintro _ w11 ⟨⟨xt59,rfl,hxt59o,hxt59e⟩,hx11⟩;replace hB := hB.trans (Bw.of hx11 hC.und);replace hC := hC.ext hx11;replace hv3 := hv3.ext hx11;obtain rfl : g2 = xt59 := hxt59e.symm;obtain ⟨hd2,cv2,kids2⟩ := g2;obtain rfl : kids2 = [] := e3;have hs2 : SlC w11 cv2 7 0 [] ∧ gI F2 cv2 := by cases hxt59o with | mk a _ c _ => exact ⟨a,c⟩
 refine .t2 (lQ (v := cv2) rfl (fun w => by kernel_rfl)) ?_;refine Rg.wd trivial (aC Tryz.call113 rfl (lM (kids := []) (fun g hg => by cases hg) (((hAF.step hB1).sub hFF).step hB) hC hs2.1 hs2.2 (fun g hg => by cases hg) (by simp only [dM,cK,List.length_append,List.length_cons,List.length_nil]; omega))) rfl ?_;rintro _ w12 ⟨hCn,hBn⟩;replace hB := hB.trans hBn;replace hv3 := aE hv3 hBn h3F;clear hC;have hC := hCn;clear hCn hBn;refine .done (.sr (.m2 rfl ?_));refine .t2 (bB rfl hv3.cells (by rw [Mn.len]; exact cC)) ?_;refine Rg.wd trivial (aC Tryz.call112 rfl (jB (i := 2) (hg2.bw hB fun z hz => hz) hC.und (by omega))) rfl ?_;rintro _ w13 ⟨⟨xt64,rfl,hxt64o,hxt64e⟩,hx13⟩;replace hB := hB.trans (Bw.of hx13 hC.und);replace hC := hC.ext hx13;replace hv3 := hv3.ext hx13;obtain rfl : g3 = xt64 := hxt64e.symm;refine Rg.wd trivial (aC Tryz.call114 rfl (rC e4)) rfl ?_;rintro _ w14 hx14;replace hB := hB.trans (Bw.of hx14 hC.und);replace hC := hC.ext hx14;replace hv3 := hv3.ext hx14;refine .done (.seq (.sr ?_));refine .t2 (bB rfl hv3.cells (by rw [Mn.len]; exact cC)) ?_;refine Rg.wd trivial (aC Tryz.call112 rfl (jB (i := 3) (hg2.bw hB fun z hz => hz) hC.und (by omega))) rfl ?_;rintro _ w15 ⟨⟨xt67,rfl,hxt67o,hxt67e⟩,hx15⟩;replace hB := hB.trans (Bw.of hx15 hC.und);replace hC := hC.ext hx15;replace hv3 := hv3.ext hx15;obtain rfl : g4 = xt67 := hxt67e.symm;obtain ⟨hd4,cv4,kids4⟩ := g4;replace e5 : hd4.kind ≠ 0 := e5;refine .t2 (lQ (v := .int .i64 hd4.kind) rfl (fun w => by kernel_rfl)) ?_;refine .t2 (aR rfl rfl e5) (.done (.condF rfl (Wp.skip (Wp.region (.m2 rfl ?_)))));refine .t2 (bB rfl hv3.cells (by rw [Mn.len]; exact cC)) ?_;refine Rg.wd trivial (aC Tryz.call112 rfl (jB (i := 3) (hg2.bw hB fun z hz => hz) hC.und (by omega))) rfl ?_;rintro _ w16 ⟨⟨xt75,rfl,hxt75o,hxt75e⟩,hx16⟩;replace hB := hB.trans (Bw.of hx16 hC.und);replace hC := hC.ext hx16;replace hv3 := hv3.ext hx16;obtain rfl : Mn.mk hd4 cv4 kids4 = xt75 := hxt75e.symm
 refine Rg.wd trivial (aC Tryz.call31 rfl (hN F2 _ b _ (((hAF.step hB1).sub hFF).step hB) hC hxt75o (by simp only [List.length_append,List.length_cons,List.length_nil,dM,kW,gQ]; omega))) rfl ?_;rintro _ w17 ⟨hCn,hBn⟩;replace hB := hB.trans hBn;replace hv3 := aE hv3 hBn h3F;clear hC;have hC := hCn;clear hCn hBn;refine .done ?_;refine ⟨[],trivial,?_,hB1.trans (hB.sub hFF)⟩;have e : kC (Mn.mk hd cv [g1,.mk hd2 cv2 [],g3,.mk hd4 cv4 kids4]).er = [tp,Jp,hd.text,⟨#[40]⟩,⟨#[41]⟩] ++ kC (Mn.mk hd4 cv4 kids4).er := by
  show kC (.mk hd [_,_,_,_]) = _
  rw [kC,if_neg (by omega),if_neg (by omega),if_neg (by omega),if_pos hk,htp];rfl
 rw [e];have h5 := hC.sub hFF
 simpa [dM,kW,gQ] using h5
def NCf (f : Nat) (g : Mn) : Prop := ∀ (F : Fs) (w : World) (b : Nat) (T : List BA),AscF F w → Pn F w b T → NOk F w g → T.length + 8 * anc g.er ≤ 900000 →
 Cl Tryz.prog f #[.pointer (some ⟨b,0,none⟩),.agg g.cells.toArray] w (fun _ w' => Pn F w' b (T ++ kC g.er) ∧ Bw F w w')
theorem Bi {hd : Hd} {cv : Value} {kids : List Mn} (hN : ∀ g ∈ kids,NC g) (hk : hd.kind = 1) : NC (.mk hd cv kids) := by
 intro F w b T hAF h hg hl;have hs : SlC w cv 7 kids.length (aK Mn.cells kids) ∧ gI F cv ∧ ∀ g ∈ kids,NOk F w g := by cases hg with | mk a _ c d => exact ⟨a,c,d⟩
 have ha : anc (Mn.mk hd cv kids).er = cK (dM kids) + 1 := rfl;refine Cl.enter Tryz.func31 rfl Tryz.ntmps31 rfl rfl (.sr (Rg.wd trivial (aW (cs := (Mn.mk hd cv kids).cells) rfl rfl) rfl ?_));rintro _ w1 ⟨b3,rfl,q3,hx1,hv3⟩;have hB1 : Bw F w w1 := Bw.of hx1 h.und;have hC := h.add hx1 (Nat.le_of_eq q3.symm) hv3.lt;obtain ⟨F2,f⟩ : ∃ F2 : Fs,(fun z => F z ∨ z = b3) = F2 := ⟨_,rfl⟩;have hFF : ∀ z,F z → F2 z := fun z hz => by rw [← f]; exact .inl hz
 have h3F : F2 b3 := by rw [← f]; exact .inr rfl
 rw [f] at hC;have hg2 : NOk F2 w1 ((Mn.mk hd cv kids)) := (hg.bw hB1 fun z hz => hz).mono hFF;have hB := Bw.refl F2 w1;refine .done (Wp.block (.sr (.t2 (aA aZ rfl) (.t2 (aB bA rfl (hv3.g 0 rfl)) ?_))));refine .t2 (aS rfl rfl (by omega)) ?_;refine .a2 rfl (.done (.condT rfl (Wp.region (.m2 rfl (.t2 (aA eP rfl) (.t2 (aB iK rfl (hv3.g 6 rfl)) ?_))))));refine Rg.wd trivial (aC Tryz.call62 rfl (zR (kids := kids) hN ((hAF.step hB1).sub hFF) hC (iL hs.1 hB1 hs.2.1) (fun z hz => hFF z (hs.2.1 z hz)) (fun g hg => ((hs.2.2 g hg).bw hB1 fun z hz => hz).mono hFF) (by omega))) rfl ?_;rintro _ w2 ⟨hCn,hBn⟩;replace hB := hB.trans hBn;replace hv3 := aE hv3 hBn h3F;clear hC;have hC := hCn;clear hCn hBn;refine .done ?_;refine ⟨[],trivial,?_,hB1.trans (hB.sub hFF)⟩;have e : kC (Mn.mk hd cv kids).er = gQ .empty (kW (dM kids)) := by
  show kC (.mk hd (dM kids)) = _
  rw [kC,if_pos hk]
 rw [e];exact hC.sub hFF
theorem It {hd : Hd} {cv : Value} {kids : List Mn} (hI : NCf 63 (.mk hd cv kids)) (hk : hd.kind = 3) : NC (.mk hd cv kids) := by
 intro F w b T hAF h hg hl;refine Cl.enter Tryz.func31 rfl Tryz.ntmps31 rfl rfl (.sr (Rg.wd trivial (aW (cs := (Mn.mk hd cv kids).cells) rfl rfl) rfl ?_));rintro _ w1 ⟨b3,rfl,q3,hx1,hv3⟩;have hB1 : Bw F w w1 := Bw.of hx1 h.und;have hC := h.add hx1 (Nat.le_of_eq q3.symm) hv3.lt;obtain ⟨F2,a⟩ : ∃ F2 : Fs,(fun z => F z ∨ z = b3) = F2 := ⟨_,rfl⟩;have hFF : ∀ z,F z → F2 z := fun z hz => by rw [← a]; exact .inl hz
 have h3F : F2 b3 := by rw [← a]; exact .inr rfl
 rw [a] at hC;have hg2 : NOk F2 w1 ((Mn.mk hd cv kids)) := (hg.bw hB1 fun z hz => hz).mono hFF;have hB := Bw.refl F2 w1;refine .done (Wp.block (.sr (.t2 (aA aZ rfl) (.t2 (aB bA rfl (hv3.g 0 rfl)) ?_))));refine .t2 (aR rfl rfl (by omega)) ?_;refine .a2 rfl (.done (.condF rfl (.sr (.t2 (aA aZ rfl) (.t2 (aB bA rfl (hv3.g 0 rfl)) ?_)))));refine .t2 (cP rfl rfl (by omega)) ?_;refine .m2 rfl (.g2 (aA aZ rfl) (.g2 (aB bA rfl (hv3.g 0 rfl)) ?_));refine .g2 (eC rfl rfl (by omega)) ?_;refine .t2 (aJ rfl rfl) (.m2 rfl (.so rfl rfl (.so rfl rfl (.so rfl rfl (.t2 (aJ rfl rfl) (.a2 rfl (.done (.condT rfl (Wp.region (.m2 rfl ?_))))))))));refine .t2 (bB rfl hv3.cells (by rw [Mn.len]; exact cC)) ?_;refine Rg.wd trivial (aC Tryz.call63 rfl (hI F2 _ b T ((hAF.step hB1).sub hFF) hC hg2 hl)) rfl ?_;rintro _ w2 ⟨hCn,hBn⟩;replace hB := hB.trans hBn;replace hv3 := aE hv3 hBn h3F;clear hC;have hC := hCn;clear hCn hBn;refine .done ?_;exact ⟨[],trivial,hC.sub hFF,hB1.trans (hB.sub hFF)⟩
theorem Gv {hd : Hd} {cv : Value} {kids : List Mn} (hI : NCf 67 (.mk hd cv kids)) (hk : hd.kind = 21) : NC (.mk hd cv kids) := by
 intro F w b T hAF h hg hl;refine Cl.enter Tryz.func31 rfl Tryz.ntmps31 rfl rfl (.sr (Rg.wd trivial (aW (cs := (Mn.mk hd cv kids).cells) rfl rfl) rfl ?_));rintro _ w1 ⟨b3,rfl,q3,hx1,hv3⟩;have hB1 : Bw F w w1 := Bw.of hx1 h.und;have hC := h.add hx1 (Nat.le_of_eq q3.symm) hv3.lt;obtain ⟨F2,a⟩ : ∃ F2 : Fs,(fun z => F z ∨ z = b3) = F2 := ⟨_,rfl⟩;have hFF : ∀ z,F z → F2 z := fun z hz => by rw [← a]; exact .inl hz
 have h3F : F2 b3 := by rw [← a]; exact .inr rfl
 rw [a] at hC;have hg2 : NOk F2 w1 ((Mn.mk hd cv kids)) := (hg.bw hB1 fun z hz => hz).mono hFF;have hB := Bw.refl F2 w1;refine .done (Wp.block (.sr (.t2 (aA aZ rfl) (.t2 (aB bA rfl (hv3.g 0 rfl)) ?_))));refine .t2 (aR rfl rfl (by omega)) ?_;refine .a2 rfl (.done (.condF rfl (.sr (.t2 (aA aZ rfl) (.t2 (aB bA rfl (hv3.g 0 rfl)) ?_)))));refine .t2 (cP rfl rfl (by omega)) ?_;refine .m2 rfl (.g2 (aA aZ rfl) (.g2 (aB bA rfl (hv3.g 0 rfl)) ?_));refine .g2 (dU rfl rfl (by omega)) ?_;refine .t2 (aJ rfl rfl) (.m2 rfl (.g2 (aA aZ rfl) (.g2 (aB bA rfl (hv3.g 0 rfl)) ?_)));refine .g2 (aR rfl rfl (by omega)) ?_;refine .t2 (aN rfl rfl) (.a2 rfl (.done (.condF rfl (.sr (.t2 (aA aZ rfl) (.t2 (aB bA rfl (hv3.g 0 rfl)) ?_))))));refine .t2 (cP rfl rfl (by omega)) ?_;refine .m2 rfl (.g2 (aA aZ rfl) (.g2 (aB bA rfl (hv3.g 0 rfl)) ?_));refine .g2 (dU rfl rfl (by omega)) ?_;refine .t2 (aJ rfl rfl) (.a2 rfl (.done (.condF rfl (.sr (.t2 (aA aZ rfl) (.t2 (aB bA rfl (hv3.g 0 rfl)) ?_))))));refine .t2 (eO rfl rfl (by omega)) ?_;refine .m2 rfl (.so rfl rfl (.so rfl rfl (.so rfl rfl (.t2 (aN rfl rfl) (.a2 rfl (.done (.condF rfl (.sr (.t2 (aA aZ rfl) (.t2 (aB bA rfl (hv3.g 0 rfl)) ?_))))))))));refine .t2 (eO rfl rfl (by omega)) ?_;refine .m2 rfl (.so rfl rfl (.so rfl rfl (.so rfl rfl (.t2 (aN rfl rfl) (.m2 rfl (.g2 (aA aZ rfl) (.g2 (aB bA rfl (hv3.g 0 rfl)) ?_)))))));refine .g2 (eO rfl rfl (by omega)) ?_;refine .g2 (aP rfl) (.so rfl rfl (.so rfl rfl (.so rfl rfl (.g2 (aN rfl rfl) (.t2 (aN rfl rfl) (.a2 rfl (.done (.condF rfl (Wp.region (.m2 rfl ?_))))))))));refine .t2 (bB rfl hv3.cells (by rw [Mn.len]; exact cC)) ?_;refine Rg.wd trivial (aC Tryz.call67 rfl (hI F2 _ b T ((hAF.step hB1).sub hFF) hC hg2 hl)) rfl ?_;rintro _ w2 ⟨hCn,hBn⟩;replace hB := hB.trans hBn;replace hv3 := aE hv3 hBn h3F;clear hC;have hC := hCn;clear hCn hBn;refine .done ?_;exact ⟨[],trivial,hC.sub hFF,hB1.trans (hB.sub hFF)⟩
theorem Gw {hd : Hd} {cv : Value} {kids : List Mn} (hI : NCf 66 (.mk hd cv kids)) (hk : hd.kind = 27) : NC (.mk hd cv kids) := by
 intro F w b T hAF h hg hl;refine Cl.enter Tryz.func31 rfl Tryz.ntmps31 rfl rfl (.sr (Rg.wd trivial (aW (cs := (Mn.mk hd cv kids).cells) rfl rfl) rfl ?_));rintro _ w1 ⟨b3,rfl,q3,hx1,hv3⟩;have hB1 : Bw F w w1 := Bw.of hx1 h.und;have hC := h.add hx1 (Nat.le_of_eq q3.symm) hv3.lt;obtain ⟨F2,a⟩ : ∃ F2 : Fs,(fun z => F z ∨ z = b3) = F2 := ⟨_,rfl⟩;have hFF : ∀ z,F z → F2 z := fun z hz => by rw [← a]; exact .inl hz
 have h3F : F2 b3 := by rw [← a]; exact .inr rfl
 rw [a] at hC;have hg2 : NOk F2 w1 ((Mn.mk hd cv kids)) := (hg.bw hB1 fun z hz => hz).mono hFF;have hB := Bw.refl F2 w1;refine .done (Wp.block (.sr (.t2 (aA aZ rfl) (.t2 (aB bA rfl (hv3.g 0 rfl)) ?_))));refine .t2 (aR rfl rfl (by omega)) ?_;refine .a2 rfl (.done (.condF rfl (.sr (.t2 (aA aZ rfl) (.t2 (aB bA rfl (hv3.g 0 rfl)) ?_)))));refine .t2 (cP rfl rfl (by omega)) ?_;refine .m2 rfl (.g2 (aA aZ rfl) (.g2 (aB bA rfl (hv3.g 0 rfl)) ?_));refine .g2 (dU rfl rfl (by omega)) ?_;refine .t2 (aJ rfl rfl) (.m2 rfl (.g2 (aA aZ rfl) (.g2 (aB bA rfl (hv3.g 0 rfl)) ?_)));refine .g2 (aR rfl rfl (by omega)) ?_;refine .t2 (aN rfl rfl) (.a2 rfl (.done (.condF rfl (.sr (.t2 (aA aZ rfl) (.t2 (aB bA rfl (hv3.g 0 rfl)) ?_))))));refine .t2 (cP rfl rfl (by omega)) ?_;refine .m2 rfl (.g2 (aA aZ rfl) (.g2 (aB bA rfl (hv3.g 0 rfl)) ?_));refine .g2 (dU rfl rfl (by omega)) ?_;refine .t2 (aJ rfl rfl) (.a2 rfl (.done (.condF rfl (.sr (.t2 (aA aZ rfl) (.t2 (aB bA rfl (hv3.g 0 rfl)) ?_))))));refine .t2 (cP rfl rfl (by omega)) ?_;refine .m2 rfl (.g2 (aA aZ rfl) (.g2 (aB bA rfl (hv3.g 0 rfl)) ?_));refine .g2 (dU rfl rfl (by omega)) ?_;refine .t2 (aJ rfl rfl) (.a2 rfl (.done (.condF rfl (.sr (.t2 (aA aZ rfl) (.t2 (aB bA rfl (hv3.g 0 rfl)) ?_))))));refine .t2 (cP rfl rfl (by omega)) ?_;refine .m2 rfl (.g2 (aA aZ rfl) (.g2 (aB bA rfl (hv3.g 0 rfl)) ?_));refine .g2 (eC rfl rfl (by omega)) ?_;refine .t2 (aJ rfl rfl) (.m2 rfl (.so rfl rfl (.so rfl rfl (.so rfl rfl (.so rfl rfl (.so rfl rfl (.so rfl rfl (.so rfl rfl (.so rfl rfl (.t2 (aJ rfl rfl) (.a2 rfl (.done ?_))))))))))));refine .condT rfl (Wp.region (.m2 rfl ?_));refine .t2 (bB rfl hv3.cells (by rw [Mn.len]; exact cC)) ?_;refine Rg.wd trivial (aC Tryz.call66 rfl (hI F2 _ b T ((hAF.step hB1).sub hFF) hC hg2 hl)) rfl ?_;rintro _ w2 ⟨hCn,hBn⟩;replace hB := hB.trans hBn;replace hv3 := aE hv3 hBn h3F;clear hC;have hC := hCn;clear hCn hBn;refine .done ?_;exact ⟨[],trivial,hC.sub hFF,hB1.trans (hB.sub hFF)⟩
theorem Gy {hd : Hd} {cv : Value} {kids : List Mn} (hI : NCf 66 (.mk hd cv kids)) (hk : hd.kind = 39) : NC (.mk hd cv kids) := by
 intro F w b T hAF h hg hl;refine Cl.enter Tryz.func31 rfl Tryz.ntmps31 rfl rfl (.sr (Rg.wd trivial (aW (cs := (Mn.mk hd cv kids).cells) rfl rfl) rfl ?_));rintro _ w1 ⟨b3,rfl,q3,hx1,hv3⟩;have hB1 : Bw F w w1 := Bw.of hx1 h.und;have hC := h.add hx1 (Nat.le_of_eq q3.symm) hv3.lt;obtain ⟨F2,a⟩ : ∃ F2 : Fs,(fun z => F z ∨ z = b3) = F2 := ⟨_,rfl⟩;have hFF : ∀ z,F z → F2 z := fun z hz => by rw [← a]; exact .inl hz
 have h3F : F2 b3 := by rw [← a]; exact .inr rfl
 rw [a] at hC;have hg2 : NOk F2 w1 ((Mn.mk hd cv kids)) := (hg.bw hB1 fun z hz => hz).mono hFF;have hB := Bw.refl F2 w1;refine .done (Wp.block (.sr (.t2 (aA aZ rfl) (.t2 (aB bA rfl (hv3.g 0 rfl)) ?_))));refine .t2 (aR rfl rfl (by omega)) ?_;refine .a2 rfl (.done (.condF rfl (.sr (.t2 (aA aZ rfl) (.t2 (aB bA rfl (hv3.g 0 rfl)) ?_)))));refine .t2 (cP rfl rfl (by omega)) ?_;refine .m2 rfl (.g2 (aA aZ rfl) (.g2 (aB bA rfl (hv3.g 0 rfl)) ?_));refine .g2 (dU rfl rfl (by omega)) ?_;refine .t2 (aJ rfl rfl) (.m2 rfl (.g2 (aA aZ rfl) (.g2 (aB bA rfl (hv3.g 0 rfl)) ?_)));refine .g2 (aR rfl rfl (by omega)) ?_;refine .t2 (aN rfl rfl) (.a2 rfl (.done (.condF rfl (.sr (.t2 (aA aZ rfl) (.t2 (aB bA rfl (hv3.g 0 rfl)) ?_))))));refine .t2 (cP rfl rfl (by omega)) ?_;refine .m2 rfl (.g2 (aA aZ rfl) (.g2 (aB bA rfl (hv3.g 0 rfl)) ?_));refine .g2 (dU rfl rfl (by omega)) ?_;refine .t2 (aJ rfl rfl) (.a2 rfl (.done (.condF rfl (.sr (.t2 (aA aZ rfl) (.t2 (aB bA rfl (hv3.g 0 rfl)) ?_))))));refine .t2 (cP rfl rfl (by omega)) ?_;refine .m2 rfl (.g2 (aA aZ rfl) (.g2 (aB bA rfl (hv3.g 0 rfl)) ?_));refine .g2 (dU rfl rfl (by omega)) ?_;refine .t2 (aJ rfl rfl) (.a2 rfl (.done (.condF rfl (.sr (.t2 (aA aZ rfl) (.t2 (aB bA rfl (hv3.g 0 rfl)) ?_))))));refine .t2 (cP rfl rfl (by omega)) ?_;refine .m2 rfl (.g2 (aA aZ rfl) (.g2 (aB bA rfl (hv3.g 0 rfl)) ?_));refine .g2 (dU rfl rfl (by omega)) ?_;refine .t2 (aJ rfl rfl) (.m2 rfl (.g2 (aA aZ rfl) (.g2 (aB bA rfl (hv3.g 0 rfl)) ?_)));refine .g2 (cP rfl rfl (by omega)) ?_;refine .g2 (aP rfl) (.g2 (aA aZ rfl) (.g2 (aB bA rfl (hv3.g 0 rfl)) ?_));refine .g2 (eC rfl rfl (by omega)) ?_;refine .g2 (aJ rfl rfl) (.t2 (aN rfl rfl) (.a2 rfl (.done (.condT rfl (Wp.region (.m2 rfl ?_))))));refine .t2 (bB rfl hv3.cells (by rw [Mn.len]; exact cC)) ?_;refine Rg.wd trivial (aC Tryz.call66 rfl (hI F2 _ b T ((hAF.step hB1).sub hFF) hC hg2 hl)) rfl ?_;rintro _ w2 ⟨hCn,hBn⟩;replace hB := hB.trans hBn;replace hv3 := aE hv3 hBn h3F;clear hC;have hC := hCn;clear hCn hBn
 refine .done ?_;exact ⟨[],trivial,hC.sub hFF,hB1.trans (hB.sub hFF)⟩
theorem tY {l : List An} (h : zQ 0 l = true) : ∀ a ∈ l,tS a = true := (Gm l).1 h
theorem aAd {a b c e : An} (h : zQ 3 [a,b,c,e] = true) : tS e = true := by
 rw [zQ,zQ,zQ] at h;exact tY h e List.mem_cons_self
theorem Ec : ∀ (n : Nat) (g : Mn),anc g.er ≤ n → tS g.er = true → NC g := by
 intro n
 induction n using Nat.strongRecOn with
 | _ n ih =>
  rintro ⟨hd,cv,kids⟩ hn ho;have ha : anc (Mn.mk hd cv kids).er = cK (dM kids) + 1 := rfl;have hlt : ∀ k ∈ kids,tS k.er = true → NC k := fun k hk hok => by
   have hm : k.er ∈ dM kids := by rw [kO]; exact List.mem_map_of_mem hk
   have := nK hm;exact ih _ (by omega) k (Nat.le_refl _) hok
  have ho' := ho;replace ho' : tS (.mk hd (dM kids)) = true := ho';rw [tS] at ho';simp only [Bool.or_eq_true,Bool.and_eq_true,beq_iff_eq,decide_eq_true_eq] at ho';have hall : zQ 0 (dM kids) = true → ∀ k ∈ kids,NC k := fun h k hk => hlt k hk (tY h _ (by rw [kO]; exact List.mem_map_of_mem hk))
  rcases ho' with (((⟨⟨h27,h0⟩,h9⟩) | ⟨h1 | h21,hD⟩) | ⟨⟨h39,h2⟩,hD⟩) | ⟨⟨h3,hF⟩,hD⟩
  ·exact Gw (fun F w b T _ hC hg hl => Ea hC hg hl h27 h0 h9) h27
  ·exact Bi (hall hD) h1
  ·exact Gv (fun F w b T hA hC hg hl => tX (hall hD) hA hC hg hl h21) h21
  ·rw [fV] at h2
   match kids,h2,hlt with
   | [k1,k2],_,hlt =>
    have hm := tY hD;have o1 : tS k1.er = true := hm _ List.mem_cons_self;have o2 : tS k2.er = true := hm _ (List.mem_cons_of_mem _ List.mem_cons_self);exact Gy (fun F w b T hA hC hg hl => Eb (hlt _ List.mem_cons_self o1) (hlt _ (List.mem_cons_of_mem _ List.mem_cons_self) o2) o1 o2 hA hC hg hl h39) h39
  ·match kids,hlt with
   | [⟨h1,c1,k1⟩,⟨h2,c2,k2⟩,⟨h3',c3,k3⟩,⟨h4,c4,k4⟩],hlt =>
    replace hF : okF [.mk h1 (dM k1),.mk h2 (dM k2),.mk h3' (dM k3),.mk h4 (dM k4)] = true := hF;rw [okF] at hF;simp only [Bool.and_eq_true,beq_iff_eq,bne_iff_ne,ne_eq] at hF;obtain ⟨⟨⟨⟨⟨e1,e2⟩,e3⟩,e4⟩,e5⟩,e6⟩ := hF;have z1 : k1 = [] := by cases k1 with | nil => rfl | cons a l => cases e2
    have z2 : k2 = [] := by cases k2 with | nil => rfl | cons a l => cases e4
    have o4 : tS (Mn.mk h4 c4 k4).er = true := aAd hD;exact It (fun F w b T hA hC hg hl => Gu hA (hlt _ (by simp) o4) e1 z1 z2 e5 e6 hC hg hl h3) h3
   | [],_ => exact absurd (show (false : Bool) = true from hF) (by decide)
   | [⟨_,_,_⟩],_ => exact absurd (show (false : Bool) = true from hF) (by decide)
   | [⟨_,_,_⟩,⟨_,_,_⟩],_ => exact absurd (show (false : Bool) = true from hF) (by decide)
   | [⟨_,_,_⟩,⟨_,_,_⟩,⟨_,_,_⟩],_ => exact absurd (show (false : Bool) = true from hF) (by decide)
   | ⟨_,_,_⟩ :: ⟨_,_,_⟩ :: ⟨_,_,_⟩ :: _ :: _ :: _,_ => exact absurd (show (false : Bool) = true from hF) (by decide)
theorem yI : ∀ (n : Nat) (g : Mn),anc g.er ≤ n → ∀ (F : Fs) (w : World) (b c : Nat) (dep : Int),Und F w.heap.size → ¬ F b → NOk F w g → Var w b [.int .i64 c] 3 → anc g.er ≤ c → c ≤ 1000 → 0 ≤ dep → dep + anc g.er ≤ 31 →
  Cl Tryz.prog 30 #[.agg g.cells.toArray,.int .i64 dep,.pointer (some ⟨b,0,none⟩)] w (fun u w' => u = .bool false ∧ Var w' b [.int .i64 ((c - anc g.er : Nat) : Int)] 3 ∧ Bw F w w') := by
 intro n
 induction n using Nat.strongRecOn with
 | _ n ih =>
  rintro ⟨hd,cv,kids⟩ hn F w b c dep hU hFb hg hvb hc h1000 qA hd31;have hs : SlC w cv 7 kids.length (aK Mn.cells kids) ∧ gI F cv ∧ ∀ g ∈ kids,NOk F w g := by cases hg with | mk a _ c d => exact ⟨a,c,d⟩
  have ha : anc (Mn.mk hd cv kids).er = cK (dM kids) + 1 := rfl;rw [ha] at hn hc hd31 ⊢;have hkl := kA (dM kids);rw [fV] at hkl;have hxx := Ext.refl w;refine Cl.enter Tryz.func30 rfl Tryz.ntmps30 rfl rfl (.sr ?_);have lb := hvb.lt;refine Rg.wd trivial (aW (cs := (Mn.mk hd cv kids).cells) rfl rfl) rfl ?_;rintro _ w1 ⟨b3,rfl,q3,hx1,hv3⟩;replace hvb := hvb.ext hx1;replace hxx := hxx.ext hx1;have hbb : b ≠ b3 := by omega
  have l3 : ¬ F b3 := fun hz => by have := hU _ hz; omega
  refine .a2 rfl (.done (.seq (.sr (.m2 rfl (.t2 (aF rfl) (.t2 (aB bA rfl (hvb.g 0 rfl)) ?_))))))
  first | refine .tq (eG rfl rfl (by omega)) rfl ?_ | refine .tq (kR rfl rfl) rfl ?_
  rw [show (c : Int) - 1 = ((c - 1 : Nat) : Int) from by omega];refine .t2 (aF rfl) (Rg.wn trivial (cG hvb bA rfl rfl rfl rfl rfl) ?_);rintro _ wS ⟨huS,hvS⟩;have hv3' := hv3.upd huS (Ne.symm hbb);clear hvb hv3;have hv3 := hv3';have hvb : Var wS b [.int .i64 ((c - 1 : Nat) : Int)] 3 := hvS;have hBS := (Bw.of hxx hU).trans (Bw.upd huS hFb);have hsS := iL hs.1 hBS hs.2.1;refine .done (.sr (.m2 rfl (.t2 (aF rfl) (.t2 (aB bA rfl (hvb.g 0 rfl)) ?_))));refine .t2 (bO rfl rfl (by omega)) ?_;refine .m2 rfl (.g2 (aP rfl) ?_);refine .g2 (eN rfl rfl (by omega)) ?_;refine .t2 (aN rfl rfl) (.done (.condF rfl (Wp.skip (.seq (.sr (.t2 (aA eP rfl) (.t2 (aB iK rfl (hv3.g 6 rfl)) (.t2 (dD hsS Tryz.underlying24 rfl) (.m2 rfl (.done (Wp.block ?_)))))))))));refine Wp.loop (ι := Nat) (fun i => [(1,.int .i64 dep),(2,.pointer (some ⟨b,0,none⟩)),(23,cv),(24,.int .i64 kids.length),(25,.int .i64 i)])
   (fun i w' => i ≤ kids.length ∧ Bw F w w' ∧ Var w' b [.int .i64 ((c - 1 - cK (dM (kids.take i)) : Nat) : Int)] 3) (fun i => kids.length - i) 0 (by repeat (first | exact .nil | refine .cons rfl ?_)) ⟨Nat.zero_le _,hBS,by simpa [dM,cK] using hvb⟩ ?_
  clear hvS hv3 hsS hv3' hvb;rintro i wl ⟨hi,hB,hvb⟩
  by_cases hlt : i < kids.length
  ·have hxq := Ext.refl wl
   have hsi := iL hs.1 hB hs.2.1;have hgi : NOk F wl kids[i] := (hs.2.2 _ (List.getElem_mem hlt)).bw hB fun z hz => hz;have hog := hgi.oneL;have hUl : Und F wl.heap.size := fun z hz => Nat.lt_of_lt_of_le (hU z hz) hB.size;have hsum : cK (dM (kids.take i)) + anc kids[i].er ≤ cK (dM kids) := by
    have e : kids = kids.take i ++ kids[i] :: kids.drop (i + 1) := by rw [← List.drop_eq_getElem_cons hlt,List.take_append_drop]
    have e2 := congrArg (fun l => cK (dM l)) e;simp only [kP,kB] at e2;rw [e2,dM,cK];omega
   have hnx : cK (dM (kids.take (i + 1))) = cK (dM (kids.take i)) + anc kids[i].er := by
    rw [List.take_succ_eq_append_getElem hlt,kP,kB,dM,cK,dM,cK];omega
   refine .sr ?_;refine .t2 (bN rfl rfl (by omega)) ?_;refine .done (.seq (.condT rfl (Wp.skip (.seq (Wp.block (.sr ?_))))));refine Rg.ix hsi trivial rfl rfl Tryz.underlying24 cC (by omega) rfl ?_;intro bt27 ot27 ht27;rw [Int.toNat_natCast,eA Mn.len kids i hlt] at ht27;refine .t2 (bB rfl ht27 (by rw [Mn.len]; exact cC)) ?_;have lb8 := hvb.lt;refine Rg.wd trivial (dB Tryz.zeroValue26 rfl) rfl ?_;rintro _ wab8 ⟨b8,rfl,qb8,f,h⟩;refine Rg.wn trivial (cW (cs := kids[i].cells) h rfl rfl rfl (by rw [Mn.len]; exact cC) (by rw [Mn.len]; rfl) (hog)) ?_;rintro _ w11 ⟨hub8,hv8⟩;have hx11 := f.upd hub8 (Nat.le_of_eq qb8.symm);clear h hub8 f;replace hxq := hxq.ext hx11;replace hsi := hsi.ext hx11;replace hvb := hvb.ext hx11;replace ht27 := ht27.ext hx11;clear qb8;refine .done (.sr ?_);refine .t2 (bB rfl hv8.cells (by rw [Mn.len]; exact cC)) ?_;refine .m2 rfl ?_
   first | refine .tq (bC rfl rfl (by omega)) rfl ?_ | refine .tq (bV rfl rfl) rfl ?_
   refine .m2 rfl ?_;refine Rg.wd trivial (aC Tryz.call30 rfl (ih (anc kids[i].er) (by omega) kids[i] (Nat.le_refl _) F _ b _ _ (fun z hz => Nat.lt_of_lt_of_le (hUl z hz) hxq.le) hFb (hgi.bw (Bw.of hxq hUl) fun z hz => hz) hvb (by omega) (by omega) (by omega) (by omega))) rfl ?_;rintro _ w20 ⟨rfl,hvb',hBB⟩;replace hBB := (Bw.of hxq hUl).trans hBB;refine .done (.condF rfl (Wp.skip (Wp.region ?_)))
   first | refine .tq (bC rfl rfl (by omega)) rfl ?_ | refine .tq (bV rfl rfl) rfl ?_
   refine .m2 rfl (.done ?_);refine ⟨i + 1,by repeat (first | exact .nil | refine .cons rfl ?_),⟨by omega,hB.trans hBB,?_⟩,by omega⟩;rw [hnx];rw [show c - 1 - (cK (dM (kids.take i)) + anc kids[i].er) = c - 1 - cK (dM (kids.take i)) - anc kids[i].er from by omega];exact hvb'
  ·skip
   refine .sr ?_;refine .t2 (bO rfl rfl (by omega)) ?_;refine .done (.seq (.condF rfl (Wp.exit (.sr (.a2 rfl (.done (Wp.ret ?_)))))));refine ⟨[_],⟨rfl,trivial⟩,rfl,?_,hB⟩;obtain rfl : i = kids.length := by omega
   rw [List.take_length] at hvb;rw [show c - (cK (dM kids) + 1) = c - 1 - cK (dM kids) from by omega];exact hvb
def zS (b t : BA) : BA := if t ≠ .empty ∧ 0 < b.size then b ++ ⟨#[32]⟩ ++ t else b ++ t
theorem mR {T : List BA} {i : Nat} (h : i < T.length) : gR (T.take (i + 1)) = zS (gR (T.take i)) T[i] := by
 unfold gR;rw [List.take_succ_eq_append_getElem h,List.foldl_append];rfl
theorem Ed (b t : BA) : b.size + t.size ≤ (zS b t).size ∧ (t ≠ .empty ∧ 0 < b.size → b.size + 1 + t.size ≤ (zS b t).size) := by
 unfold zS
 split
 ·rw [ByteArray.size_append,ByteArray.size_append]
  have e : (⟨#[32]⟩ : BA).size = 1 := rfl;rw [e];omega
 ·rename_i h
  rw [ByteArray.size_append];exact ⟨Nat.le_refl _,fun k => absurd k h⟩
theorem vW {T : List BA} : ∀ (k i : Nat),i + k = T.length → (gR (T.take i)).size ≤ (gR T).size
 | 0,i,h => by rw [List.take_of_length_le (by omega)]; exact Nat.le_refl _
 | k + 1,i,h => by
  have h1 := vW (T := T) k (i + 1) (by omega);rw [mR (by omega)] at h1;have := (Ed (gR (T.take i)) T[i]).1;omega
theorem Ee {B b : Nat} {bs : List Value} {w : World} (h : IsBuilder 121 5 B b bs w) : Cl Tryz.prog 68 #[.pointer (some ⟨b,0,none⟩)] w (fun u w' => u = .int .i64 bs.length ∧ w = w') := by
 obtain ⟨p,v,hv,ho⟩ : ∃ p v,Var w b [p,v] 121 ∧ w.ownsRow B 5 1 v bs.length bs := by
  rcases h with ⟨_,v,hb,ho,_⟩ | ⟨_,v,hb,ho,_⟩
  ·exact ⟨_,v,hb,ho⟩
  ·exact ⟨_,v,hb,ho⟩
 obtain ⟨q,c,rfl⟩ : ∃ q c,v = .slice q bs.length c := by
  rcases bH ho with ⟨rfl,h0⟩ | ⟨g,cap,sp,rfl,_⟩
  ·exact ⟨none,0,by rw [h0]⟩
  ·exact ⟨_,_,rfl⟩
 refine Cl.enter Tryz.func68 rfl Tryz.ntmps68 rfl rfl (.sr (.a2 rfl (.done (.sr (.m2 rfl (.t2 (aF rfl) (.t2 (aA iO rfl) (.t2 (aB lW rfl (hv.g 1 rfl)) (.t2 (dC Tryz.underlying119 rfl) (.a2 rfl (.done (Wp.ret ?_))))))))))));exact ⟨[_],⟨rfl,trivial⟩,rfl,rfl⟩
open Lexi (eX nG) in
theorem rD {F : Fs} {w : World} {v : Value} {T : List BA} (hU : Und F w.heap.size) (hs : SlC w v 1 T.length (aK tQ T)) (hb : gI F v) (hj : gR T ≠ .empty) (hl : (gR T).size ≤ 1000000) (hT : T.length ≤ 1000000) :
  Cl Tryz.prog 32 #[v] w (fun u w' => u = .string (gR T) ∧ Bw F w w') := by
 refine Cl.enter Tryz.func32 rfl Tryz.ntmps32 rfl rfl (.sr (.a2 rfl (.done (.sr (Rg.wd trivial (dB Tryz.zeroValue121 rfl) rfl ?_)))));rintro _ w1 ⟨b3,rfl,q3,hx1,hv3⟩;have hB0 : IsBuilder 121 5 w.heap.size b3 [] w1 := .inl ⟨by have := hx1.le; omega,_,hv3,⟨rfl,.inl ⟨rfl,rfl⟩⟩,by simp [Value.ownBlock]⟩;refine .done (.seq (.sr (.m2 rfl (.t2 (dD hs Tryz.underlying74 rfl) (.m2 rfl (.done (Wp.block ?_)))))));refine Wp.loop (ι := Nat) (fun i => [(3,.pointer (some ⟨b3,0,none⟩)),(6,v),(7,.int .i64 T.length),(8,.int .i64 i)])
  (fun i w' => i ≤ T.length ∧ IsBuilder 121 5 w.heap.size b3 (Lib.byteCells (gR (T.take i)).data.toList) w' ∧ Bw F w w' ∧ w.heap.size ≤ w'.heap.size) (fun i => T.length - i) 0 (by repeat (first | exact .nil | refine .cons rfl ?_)) ⟨Nat.zero_le _,hB0,Bw.of hx1 hU,hx1.le⟩ ?_
 clear hB0 hv3 hx1;rintro i wl ⟨hi,hB,hF,hle⟩
 by_cases hlt : i < T.length
 ·have hsi := iL hs hF hb
  have hq := vW (T := T) (T.length - (i + 1)) (i + 1) (by omega);rw [mR hlt] at hq;obtain ⟨ac,hac⟩ : ∃ ac,gR (T.take i) = ac := ⟨_,rfl⟩;obtain ⟨t,ht⟩ : ∃ t,T[i] = t := ⟨_,rfl⟩;have hjs : gR (T.take (i + 1)) = zS ac t := by rw [mR hlt,hac,ht]
  rw [hac] at hB hq;rw [ht] at hq;have hq2 := Ed ac t;have hbl : ∀ {w1 w2 : World},Bw F w w1 → w.heap.size ≤ w1.heap.size → Below w.heap.size w1 w2 → Bw F w w2 ∧ w.heap.size ≤ w2.heap.size := fun h1 h2 hbl => ⟨h1.trans ⟨hbl.os,hbl.tape,hbl.output,hbl.size,fun z hz => hbl.block z (hU z hz)⟩,Nat.le_trans h2 hbl.size⟩;refine .sr ?_;refine .t2 (bN rfl rfl (by omega)) ?_;refine .done (.seq (.condT rfl (Wp.skip (.seq (Wp.block (.sr ?_))))));refine Rg.ix hsi trivial rfl rfl Tryz.underlying74 hY (by omega) rfl ?_;intro bt10 ot10 ht10;rw [Int.toNat_natCast,eA nL T i hlt,ht] at ht10;refine .t2 (aB hY rfl (bF.get (i := 0) ht10 rfl)) (.a2 rfl (.done (.seq ?_)))
  by_cases h1 : t = .empty
  ·have hjst : zS ac t = ac ++ t := by unfold zS; rw [if_neg fun k => k.1 h1]
   refine .sr (.m2 rfl (.t2 (pB rfl rfl h1) (.m2 rfl (.so rfl rfl (.so rfl rfl (.t2 (aN rfl rfl) (.done (.condF rfl (Wp.skip (Wp.region (.m2 rfl ?_)))))))))));refine Rg.wd trivial (aC Tryz.call70 rfl (Lexi.iA hB (by rw [Lib.byteCells_length,show (ac).data.toList.length = (ac).size from rfl]; omega) hle)) rfl ?_;rintro _ w30 ⟨rfl,hB3,hbl3,_⟩;obtain ⟨b,hle3⟩ := hbl hF hle hbl3;refine .done (Wp.region ?_)
   first | refine .tq (bC rfl rfl (by omega)) rfl ?_ | refine .tq (bV rfl rfl) rfl ?_
   refine .m2 rfl (.done ?_);refine ⟨i + 1,by repeat (first | exact .nil | refine .cons rfl ?_),⟨by omega,?_,b,hle3⟩,by omega⟩;rw [hjs];refine .inr ?_;have e : Lib.byteCells (zS ac t).data.toList = Lib.byteCells (ac).data.toList ++ strCells t := by
    rw [hjst,strCells_eq,← Lib.byteCells_append];simp
   rw [e];exact hB3
  ·by_cases h2 : 0 < ac.size
   ·have hjst : zS ac t = ac ++ ⟨#[32]⟩ ++ t := by unfold zS; rw [if_pos ⟨h1,h2⟩]
    replace hq2 := hq2.2 ⟨h1,h2⟩;refine .sr (.m2 rfl (.t2 (tP rfl rfl h1) (.m2 rfl (Rg.wd ⟨_,rfl,rfl⟩ (aC Tryz.call68 rfl (Ee hB)) rfl ?_))));rintro _ _ ⟨rfl,rfl⟩;rw [Lib.byteCells_length,show ac.data.toList.length = ac.size from rfl];refine .g2 (gB rfl rfl (by omega)) ?_;refine .t2 (aJ rfl rfl) (.done (.condT rfl (Wp.region ?_)));refine Rg.wd trivial (aC Tryz.call69 rfl (eX hB (by rw [Lib.byteCells_length,show ac.data.toList.length = ac.size from rfl]; omega) hle)) rfl ?_;rintro _ w25 ⟨rfl,hB2,hbl2,_⟩;obtain ⟨c,hle2⟩ := hbl hF hle hbl2;clear hF hle hB;have hF := c;have hle := hle2;have hB : IsBuilder 121 5 w.heap.size b3 (Lib.byteCells (ac ++ ⟨#[32]⟩).data.toList) w25 := by
     refine .inr ?_;have e : Lib.byteCells (ac ++ ⟨#[32]⟩).data.toList = Lib.byteCells ac.data.toList ++ [.int .u8 32] := by
      simp [Lib.byteCells]
     rw [e];exact hB2
    refine .done (Wp.region (.m2 rfl ?_));refine Rg.wd trivial (aC Tryz.call70 rfl (Lexi.iA hB (by rw [Lib.byteCells_length,show (ac ++ ⟨#[32]⟩).data.toList.length = (ac ++ ⟨#[32]⟩).size from rfl]; rw [ByteArray.size_append,show (⟨#[32]⟩ : ByteArray).size = 1 from rfl]; omega) hle)) rfl ?_;rintro _ w30 ⟨rfl,hB3,hbl3,_⟩;obtain ⟨b,hle3⟩ := hbl hF hle hbl3;refine .done (Wp.region ?_)
    first | refine .tq (bC rfl rfl (by omega)) rfl ?_ | refine .tq (bV rfl rfl) rfl ?_
    refine .m2 rfl (.done ?_);refine ⟨i + 1,by repeat (first | exact .nil | refine .cons rfl ?_),⟨by omega,?_,b,hle3⟩,by omega⟩;rw [hjs];refine .inr ?_;have e : Lib.byteCells (zS ac t).data.toList = Lib.byteCells (ac ++ ⟨#[32]⟩).data.toList ++ strCells t := by
     rw [hjst,strCells_eq,← Lib.byteCells_append];simp
    rw [e];exact hB3
   ·have hjst : zS ac t = ac ++ t := by unfold zS; rw [if_neg fun k => h2 k.2]
    refine .sr (.m2 rfl (.t2 (tP rfl rfl h1) (.m2 rfl (Rg.wd ⟨_,rfl,rfl⟩ (aC Tryz.call68 rfl (Ee hB)) rfl ?_))));rintro _ _ ⟨rfl,rfl⟩;rw [Lib.byteCells_length,show ac.data.toList.length = ac.size from rfl];refine .g2 (eN rfl rfl (by omega)) ?_;refine .t2 (aJ rfl rfl) (.done (.condF rfl (Wp.skip (Wp.region (.m2 rfl ?_)))));refine Rg.wd trivial (aC Tryz.call70 rfl (Lexi.iA hB (by rw [Lib.byteCells_length,show (ac).data.toList.length = (ac).size from rfl]; omega) hle)) rfl ?_;rintro _ w30 ⟨rfl,hB3,hbl3,_⟩;obtain ⟨b,hle3⟩ := hbl hF hle hbl3;refine .done (Wp.region ?_)
    first | refine .tq (bC rfl rfl (by omega)) rfl ?_ | refine .tq (bV rfl rfl) rfl ?_
    refine .m2 rfl (.done ?_);refine ⟨i + 1,by repeat (first | exact .nil | refine .cons rfl ?_),⟨by omega,?_,b,hle3⟩,by omega⟩;rw [hjs];refine .inr ?_;have e : Lib.byteCells (zS ac t).data.toList = Lib.byteCells (ac).data.toList ++ strCells t := by
     rw [hjst,strCells_eq,← Lib.byteCells_append];simp
    rw [e];exact hB3
 ·obtain rfl : i = T.length := by omega
  rw [List.take_length] at hB;refine .sr ?_;refine .t2 (bO rfl rfl (by omega)) ?_;refine .done (.seq (.condF rfl (Wp.exit (.sr ?_))));refine Rg.wd trivial (aC Tryz.call71 rfl (nG hB (fun h0 => absurd (by cases hq : gR T with | mk a => rw [hq] at h0; have h0 : a.toList = [] := h0; rw [Array.toList_eq_nil_iff.1 h0]; rfl) hj) (by rw [show (gR T).data.toList.length = (gR T).size from rfl]; omega) hle)) rfl ?_;rintro _ w5 ⟨rfl,hk5,hbl5⟩;refine .a2 rfl (.done (Wp.ret ?_));exact ⟨[_],⟨rfl,trivial⟩,rfl,hF.trans ⟨hbl5.os,hbl5.tape,hbl5.output,hbl5.size,fun z hz => hbl5.block z (hU z hz)⟩⟩
end Go.Proofs.YtlndmiegodcfjaaGreatDoor.Prn
namespace Go.Proofs.YtlndmiegodcfjaaGreatDoor.Prn
set_option maxRecDepth 20000
open Go.Gx Go.RowKit Go.Lib
open Lexi (Asc aG)
open Par Ast
theorem bdP (w : World) : (Instr.build 76 [].toArray).run Tryz.prog w = .ok (.agg #[.slice none 0 0]) w := by kernel_rfl
theorem Ef {l : List Dg} (h : l = []) : fM (lJ l) = [] := by
 subst h;rw [show lJ ([] : List Dg) = [] from List.length_eq_zero_iff.1 (fD [])];rfl
structure Kept (w : World) (s : ByteArray) (t : Tr) (mn : Mn) (lv : Value) (ds : List Dg) : Prop where
 pt : eW s t
 er : mn.er = eS s t
 dse : ds = fM (lJ (gV s t 0 []).2.2)
 ok : NoL w mn
 lv : LvL w lv ds
theorem Kept.ext {w w' : World} {s : ByteArray} {t : Tr} {mn : Mn} {lv : Value} {ds : List Dg} (h : Kept w s t mn lv ds) (x : Ext w w') : Kept w' s t mn lv ds := ⟨h.pt,h.er,h.dse,h.ok.ext x,h.lv.ext x⟩
theorem lN {w w' : World} {s : ByteArray} {u lv : Value} {t : Tr} {mn : Mn} {ds : List Dg} {K : Fs} (h : yH w s u w' t mn lv ds K) : Kept w' s t mn lv ds := ⟨h.pt,h.er,h.dse,(sB h).1,(sB h).2⟩
theorem qM {s : ByteArray} {t : Tr} (h : eW s t) (hs : s.size ≤ 2000) : anc (eS s t) ≤ 50000 := by
 have h1 := Bf s t;have h2 := h.small.cnt;omega
theorem Iu {w w' : World} (k : Bw (Lo w) w w') : Ext w w' := Bw.ext (Ext.refl w) k fun z hz => hz
theorem Eg {w : World} {g : Mn} {s : ByteArray} (hg : NoL w g) (hA0 : Asc w) (hE0 : Er w) (ho : tS g.er = true) (hn : anc g.er ≤ 30) (hj : gR (kC g.er) = s) (hs : s.size ≤ 2000) (hs0 : s ≠ .empty)
  (hp : ∀ u,eW s u → (gV s u 0 []).2.2 = [] ∧ iQ (eS s u) = iQ g.er) :
  Cl Tryz.prog 15 #[.agg g.cells.toArray] w (fun u w' => u = .tuple #[.string s,.int .i64 0] ∧ Ext w w') := by
 have hx := Ext.refl w;have hgL := hg;have hog := hg.oneL;refine Cl.enter Tryz.func15 rfl Tryz.ntmps15 rfl rfl (.sr (Rg.wd trivial (aW (cs := g.cells) rfl rfl) rfl ?_));rintro _ w1 ⟨b1,rfl,q1,hx1,hv1⟩;replace hx := hx.ext hx1;replace hgL := hgL.ext hx1;refine .a2 rfl (.a2 rfl (.done (.sr ?_)));have k1 := hv1.lt;have le1 := hx.le;refine Rg.wd trivial (dB Tryz.zeroValue3 rfl) rfl ?_;rintro _ wab4 ⟨b4,rfl,qb4,a,b⟩;refine Rg.wn trivial (cW (cs := [.int .i64 800]) b rfl rfl rfl (bA) (rfl) (rfl)) ?_;rintro _ w2 ⟨hub4,hv4⟩;have hx2 := a.upd hub4 (Nat.le_of_eq qb4.symm);clear b hub4 a;have hg4 : w1.heap.size ≤ b4 := Nat.le_of_eq qb4.symm;replace hx := hx.ext hx2;replace hgL := hgL.ext hx2;replace hv1 := hv1.ext hx2;clear qb4;refine .done (.seq (.sr ?_));refine .t2 (bB rfl hv1.cells (by rw [Mn.len]; exact cC)) ?_;have hlt1 := hv1.lt;have hlt4 := hv4.lt;have hne14 : b4 ≠ b1 := Var.ne hv4 hv1 (by decide);obtain ⟨F2,e⟩ : ∃ F2 : Fs,(fun z => z < w.heap.size ∨ z = b1) = F2 := ⟨_,rfl⟩;have hlo : ∀ z,z < w.heap.size → F2 z := fun z hz => by rw [← e]; exact .inl hz
 have h1F : F2 b1 := by rw [← e]; exact .inr rfl
 have hlh := hx.le;have hU2 : Und F2 w2.heap.size := fun z hz => by
  rw [← e] at hz
  rcases hz with hz | rfl
  ·exact Nat.lt_of_lt_of_le hz hlh
  ·exact hlt1
 have h4F : ¬ F2 b4 := fun hz => by
  rw [← e] at hz
  rcases hz with hz | hz
  ·omega
  ·exact hne14 hz
 have hg2 : NOk F2 w2 g := (NOk.bw hg (Bw.of hx fun z hz => hz) fun z hz => hz).mono hlo;have hAF : AscF F2 w2 := fun w' k => hA0.ext (Bw.ext hx k hlo);refine Rg.wd trivial (aC Tryz.call30 rfl (yI 30 g hn F2 _ b4 800 1 hU2 h4F hg2 hv4 (by omega) (by omega) (by omega) (by omega))) rfl ?_;rintro _ w3 ⟨rfl,hv4n,hB⟩;clear hv4 hgL;replace hv1 := aE hv1 hB h1F;replace hg2 := hg2.bw hB fun z hz => hz;replace hAF := hAF.step hB;replace hU2 : Und F2 w3.heap.size := fun z hz => Nat.lt_of_lt_of_le (hU2 z hz) hB.size;replace hx := Bw.ext hx hB hlo;clear hB hv4n hlh;refine .done (.condF rfl (Wp.skip (.sr (.t2 (cH bdP rfl) (Rg.wd trivial (aW (cs := [.slice none 0 0]) rfl rfl) rfl ?_)))));rintro _ w4 ⟨b13,rfl,q13,hx4,hv13⟩;have h13F : ¬ F2 b13 := fun hz => by have := hU2 _ hz; omega
 replace hg2 := hg2.bw (Bw.of hx4 hU2) fun z hz => hz;replace hAF := hAF.step (Bw.of hx4 hU2);replace hU2 : Und F2 w4.heap.size := fun z hz => Nat.lt_of_lt_of_le (hU2 z hz) hx4.le;have hC : Pn F2 w4 b13 [] := ⟨.slice none 0 0,hU2,hv13,⟨rfl,.inl ⟨rfl,rfl⟩⟩,h13F,(fun z hz => by cases hz),by decide,nL⟩;replace hv1 := hv1.ext hx4;replace hx := hx.ext hx4;refine .a2 rfl (.done (.sr (.m2 rfl ?_)));refine .t2 (bB rfl hv1.cells (by rw [Mn.len]; exact cC)) ?_;refine Rg.wd trivial (aC Tryz.call31 rfl (Ec 30 g hn ho F2 _ b13 [] hAF hC hg2 (by simp only [List.length_nil]; omega))) rfl ?_;rintro _ w5 ⟨hCn,hB⟩;clear hC;replace hg2 := hg2.bw hB fun z hz => hz;replace hv1 := aE hv1 hB h1F;replace hAF := hAF.step hB;replace hx := Bw.ext hx hB hlo;clear hB hU2;obtain ⟨dv,D⟩ := hCn;simp only [List.nil_append] at D;have hsl : SlC w5 dv 1 (kC g.er).length (aK tQ (kC g.er)) := iP D.row;have hbl : gI (Lo w5) dv := fun z hz => jI D.row hz;refine .done (.sr (.m2 rfl (.t2 (aF rfl) (.t2 (aA xD rfl) (.t2 (aB mW rfl (D.var.g 0 rfl)) ?_)))));refine Rg.wd trivial (aC Tryz.call32 rfl (rD (fun z hz => hz) hsl hbl (by rw [hj]; exact hs0) (by rw [hj]; omega) (by have := tW g.er; omega))) rfl ?_;rintro _ w6 ⟨rfl,hBL⟩;have hx6 := Iu hBL;replace hg2 := hg2.bw (Bw.of hx6 D.und) fun z hz => hz;rw [hj];replace hv1 := hv1.ext hx6;replace hx := hx.ext hx6;refine .a2 rfl (.done (.sr (.m2 rfl (Rg.wd trivial (aC Tryz.call10 rfl (lL (s := s) hs (hA0.ext hx) (oC hE0 hx))) rfl ?_))));rintro _ w7 ⟨t1,mn1,lv1,ds1,K1,A1⟩;have hx7 := A1.ext;obtain hk1 := lN A1;have hue := A1.ue;subst hue;have hno := hk1.ok.oneL;obtain ⟨hc1,hc2⟩ := hp t1 A1.pt;have hds : ds1 = [] := by rw [A1.dse,Ef hc1]
 clear A1;have hgN : NoL w7 g := NoL.ext hg (hx.ext hx7);replace hv1 := hv1.ext hx7;replace hx := hx.ext hx7;refine .m2 rfl (.t2 (cA rfl rfl) (.t2 (cA rfl rfl) (.t2 (cA rfl rfl) (Rg.wd trivial (dB Tryz.zeroValue26 rfl) rfl ?_))));rintro _ wab7 ⟨b7,rfl,qb7,c,d⟩;refine Rg.wn trivial (cW (cs := mn1.cells) d rfl rfl rfl (by rw [Mn.len]; exact cC) (by rw [Mn.len]; rfl) (hno)) ?_;rintro _ w8 ⟨hub7,hv7⟩;have hx8 := c.upd hub7 (Nat.le_of_eq qb7.symm);clear d hub7 c;replace hv1 := hv1.ext hx8;replace hx := hx.ext hx8;replace hk1 := hk1.ext hx8;replace hgN := hgN.ext hx8;clear qb7;refine .a2 rfl (.a2 rfl (.done (.seq (Wp.block (.sr (.m2 rfl (.t2 (cU rfl rfl rfl) (.a2 rfl (.done (.condF rfl (.sr (.m2 rfl ?_))))))))))));refine .t2 (dD hk1.lv.sl Tryz.underlying27 rfl) ?_;refine .t2 (eN rfl rfl (by rw [hds]; decide)) ?_;refine .m2 rfl ?_;refine .g2 (bB rfl hv7.cells (by rw [Mn.len]; exact cC)) ?_;refine .g2 (bB rfl hv1.cells (by rw [Mn.len]; exact cC)) ?_;have hanc : anc mn1.er ≤ 1000000 := by rw [hk1.er]; exact Nat.le_trans (qM hk1.pt hs) (by decide)
 refine Rg.wd ⟨_,rfl,rfl⟩ (aC Tryz.call17 rfl (D0 1000000 mn1 g hanc hanc _ hk1.ok hgN)) rfl ?_;rintro _ w9 ⟨⟨bE,rfl,hbE⟩,hx9⟩;replace hv1 := hv1.ext hx9;replace hx := hx.ext hx9;replace hk1 := hk1.ext hx9;replace hgN := hgN.ext hx9;replace hv7 := hv7.ext hx9;obtain rfl : bE = true := hbE.2 (by rw [hk1.er,hc2]);refine .g2 (bJ rfl) (.t2 (aN rfl rfl) (.a2 rfl (.done (.condF rfl (Wp.skip (.sr (.m2 rfl (.a2 rfl (.a2 rfl (.done (Wp.ret ?_)))))))))));exact ⟨[_,_],⟨rfl,rfl,trivial⟩,rfl,hx⟩
theorem mC {w : World} (hA0 : Asc w) (hE0 : Er w) : Cl Tryz.prog 8 #[] w (fun u w' => u = .bool true ∧ Ext w w') := by
 have hx := Ext.refl w;refine Cl.enter Tryz.func8 rfl Tryz.ntmps8 rfl rfl (.sr (.a2 rfl (.done (.sr ?_))));refine Rg.wd trivial (aC Tryz.call10 rfl (lL (s := kV) (by decide) (hA0.ext hx) (oC hE0 hx))) rfl ?_;rintro _ w1 ⟨t1,mn1,lv1,ds1,K1,A1⟩;have hx1 := A1.ext;obtain hk1 := lN A1;have hue := A1.ue;subst hue;have hno := hk1.ok.oneL;clear A1;have hfa : (gV kV t1 0 []).2.2 = [] ∧ tS (eS kV t1) = true ∧ gR (kC (eS kV t1)) = nM ∧ anc (eS kV t1) ≤ 30 ∧ ∀ u,eW nM u → (gV nM u 0 []).2.2 = [] ∧ iQ (eS nM u) = iQ (eS kV t1) := by
  obtain ⟨r,g1,g2,g3,g4,g5⟩ := parsed nM;obtain ⟨a,b,c,d,e,f⟩ := D4 hk1.pt g1;exact ⟨a,b,c,d,fun u hu => by rw [hu.unique g1]; exact ⟨e,f⟩⟩
 obtain ⟨f1,f2,f3,f4,f5⟩ := hfa;have hds : ds1 = [] := by rw [hk1.dse,Ef f1]
 replace hx := hx.ext hx1;refine .m2 rfl (.t2 (cA rfl rfl) (.t2 (cA rfl rfl) (.t2 (cA rfl rfl) (Rg.wd trivial (dB Tryz.zeroValue26 rfl) rfl ?_))));rintro _ wab1 ⟨b1,rfl,qb1,g,h⟩;refine Rg.wn trivial (cW (cs := mn1.cells) h rfl rfl rfl (by rw [Mn.len]; exact cC) (by rw [Mn.len]; rfl) (hno)) ?_;rintro _ w2 ⟨hub1,hv1⟩;have hx2 := g.upd hub1 (Nat.le_of_eq qb1.symm);clear h hub1 g;replace hx := hx.ext hx2;replace hk1 := hk1.ext hx2;clear qb1;refine .a2 rfl (.a2 rfl (.done (.sr ?_)));refine .t2 (bB rfl hv1.cells (by rw [Mn.len]; exact cC)) ?_;refine Rg.wd trivial (aC Tryz.call15 rfl (Eg (s := nM) hk1.ok (hA0.ext hx) (oC hE0 hx) (by rw [hk1.er]; exact f2) (by rw [hk1.er]; exact f4) (by rw [hk1.er]; exact f3) (by decide) (by decide) (by rw [hk1.er]; exact f5))) rfl ?_;rintro _ w3 ⟨rfl,hx3⟩;replace hx := hx.ext hx3;replace hk1 := hk1.ext hx3;replace hv1 := hv1.ext hx3;refine .m2 rfl (.t2 (cA rfl rfl) (.t2 (cA rfl rfl) (.a2 rfl (.a2 rfl (.done (.sr (.m2 rfl (.t2 (aS rfl rfl rfl) (.m2 rfl (.g2 (aP rfl) (.g2 (dD hk1.lv.sl Tryz.underlying27 rfl) ?_)))))))))));refine .g2 (aS rfl rfl (by rw [hds]; rfl)) ?_;refine .t2 (aJ rfl rfl) (.m2 rfl (.g2 (aP rfl) (.g2 (aS rfl rfl rfl) (.t2 (aJ rfl rfl) (.m2 rfl (.g2 (aP rfl) (.g2 (cX rfl rfl rfl) (.t2 (aJ rfl rfl) (.a2 rfl (.done (Wp.ret ?_)))))))))));exact ⟨[_],⟨rfl,trivial⟩,rfl,hx⟩
def iJ (i : Nat) : List Value := [.int .i64 i]
theorem dS (i : Nat) : (iJ i).length = 1 := rfl
section
variable {n : Nat} {L : Env} {w w0 : World} {dd : Option Tmp} {ty : TypeId} {pos : String} {af : Array Edge} {gd : Option (Nat × Bool)}
end
mutual
def wG (sz : Int) : An → Prop
 | .mk h ks => jC sz h.st h.en ks ∧ 0 ≤ h.st ∧ h.en ≤ sz ∧ (h.ns = -1 ∨ (h.st ≤ h.ns ∧ h.ns + h.text.size ≤ h.en))
def jC (sz : Int) : Int → Int → List An → Prop
 | _,_,[] => True
 | lo,hi,a :: l => lo ≤ a.hd.st ∧ a.hd.st ≤ a.hd.en ∧ a.hd.en ≤ hi ∧ wG sz a ∧ jC sz a.hd.en hi l
end
theorem nP {w : World} {h : Hd} {cv : Value} {kids : List Mn} (hg : NoL w (.mk h cv kids)) : SlC w cv 7 kids.length (aK Mn.cells kids) ∧ ∀ g ∈ kids,NoL w g := by cases hg with | mk a _ _ d => exact ⟨a,d⟩
theorem Bj {sz : Int} (h0 : 0 ≤ sz) (h4 : sz ≤ 1000) : ∀ (n : Nat) (g : Mn),anc g.er ≤ n → n ≤ 1000000 → wG sz g.er → ∀ (w : World),NoL w g → Cl Tryz.prog 11 #[.agg g.cells.toArray,.int .i64 sz] w (fun u w' => u = .bool true ∧ Ext w w') := by
 intro n
 induction n using Nat.strongRecOn with
 | _ n ih =>
  rintro ⟨⟨z0,z1,z2,z3,z4,z5⟩,cv,kids⟩ hn hn6 hok w hg;have hx := Ext.refl w;obtain ⟨hsl,hkk⟩ := nP hg;have ha : anc (Mn.mk ⟨z0,z1,z2,z3,z4,z5⟩ cv kids).er = cK (dM kids) + 1 := rfl;have hkl := kA (dM kids);rw [fV] at hkl;have hok' : wG sz (.mk ⟨z0,z1,z2,z3,z4,z5⟩ (dM kids)) := hok;rw [wG] at hok';obtain ⟨k1,k2,k3,k4⟩ := hok';simp only at k1 k2 k3 k4;refine Cl.enter Tryz.func11 rfl Tryz.ntmps11 rfl rfl (.sr (Rg.wd trivial (aW (cs := (Mn.mk ⟨z0,z1,z2,z3,z4,z5⟩ cv kids).cells) rfl rfl) rfl ?_));rintro _ w1 ⟨b2,rfl,q2,hx1,hv2⟩;replace hx := hx.ext hx1;replace hsl := hsl.ext hx1;refine .a2 rfl (.done (.sr (.t2 (aA eU rfl) (.t2 (aB bA rfl (hv2.g 3 rfl)) (.a2 rfl (.done (.seq (.sr (.t2 (aA eP rfl) (.t2 (aB iK rfl (hv2.g 6 rfl)) (.t2 (dD hsl Tryz.underlying24 rfl) (.m2 rfl ?_))))))))))));refine .done (Wp.block ?_);refine Wp.loop (ι := Nat × Int) (fun i => [(1,.int .i64 sz),(2,.pointer (some ⟨b2,0,none⟩)),(5,.int .i64 i.2),(11,cv),(12,.int .i64 kids.length),(13,.int .i64 i.1)])
   (fun i w' => i.1 ≤ kids.length ∧ jC sz i.2 z4 ((dM kids).drop i.1) ∧ SlC w' cv 7 kids.length (aK Mn.cells kids) ∧ Var w' b2 (Mn.mk ⟨z0,z1,z2,z3,z4,z5⟩ cv kids).cells 26 ∧ Ext w w') (fun i => kids.length - i.1) (0,z3) (by repeat (first | exact .nil | refine .cons rfl ?_)) ⟨Nat.zero_le _,k1,hsl,hv2,hx⟩ ?_
  clear hx hsl hv2;rintro ⟨i,last⟩ wl ⟨hi,hch,hsl,hv2,hx⟩;simp only at hi hch ⊢
  by_cases hlt : i < kids.length
  ·have hdr : (dM kids).drop i = kids[i].er :: (dM kids).drop (i + 1) := by
    rw [List.drop_eq_getElem_cons (by rw [fV]; exact hlt),qJ kids i hlt]
   have hgi := NoL.ext (hkk _ (List.getElem_mem hlt)) hx;have hcm : anc kids[i].er ≤ cK (dM kids) := nK (by rw [← qJ kids i hlt]; exact List.getElem_mem _);rw [hdr,jC] at hch;obtain ⟨g,hgq⟩ : ∃ g,kids[i] = g := ⟨_,rfl⟩;rw [hgq] at hch hgi hcm;have hog := hgi.oneL;have hxx := Ext.refl wl;obtain ⟨⟨y0,y1,y2,y3,y4,y5⟩,gv,gk⟩ := g;obtain ⟨c1,c2,c3,c4,c5⟩ := hch;have c1 : last ≤ y3 := c1;have c2 : y3 ≤ y4 := c2;have c3 : y4 ≤ z4 := c3;refine .sr ?_;refine .t2 (bN rfl rfl (by omega)) ?_;refine .done (.seq (.condT rfl (Wp.skip (.seq (Wp.block (.sr ?_))))));refine Rg.ix hsl trivial rfl rfl Tryz.underlying24 cC (by omega) rfl ?_;intro bt15 ot15 ht15;rw [Int.toNat_natCast,eA Mn.len kids i hlt,hgq] at ht15;refine .t2 (bB rfl ht15 (by rw [Mn.len]; exact cC)) ?_;refine Rg.wd trivial (dB Tryz.zeroValue26 rfl) rfl ?_;rintro _ wab7 ⟨b7,rfl,qb7,a,b⟩;refine Rg.wn trivial (cW (cs := (Mn.mk ⟨y0,y1,y2,y3,y4,y5⟩ gv gk).cells) b rfl rfl rfl (by rw [Mn.len]; exact cC) (by rw [Mn.len]; rfl) (hog)) ?_;rintro _ w11 ⟨hub7,hv7⟩;have hx11 := a.upd hub7 (Nat.le_of_eq qb7.symm);clear b hub7 a;replace hx := hx.ext hx11;replace hsl := hsl.ext hx11;replace hv2 := hv2.ext hx11;replace hgi := hgi.ext hx11;replace hxx := hxx.ext hx11;replace ht15 := ht15.ext hx11;clear qb7;refine .done (.seq (.sr (.t2 (aA eU rfl) (.t2 (aB bA rfl (hv7.g 3 rfl)) (.m2 rfl ?_)))));refine .t2 (bO rfl rfl (by omega)) ?_;refine .m2 rfl (.g2 (aA dV rfl) (.g2 (aB bA rfl (hv7.g 4 rfl)) (.g2 (aA eU rfl) (.g2 (aB bA rfl (hv7.g 3 rfl)) ?_))));refine .g2 (bO rfl rfl (by omega)) ?_;refine .t2 (aN rfl rfl) (.m2 rfl (.g2 (aA dV rfl) (.g2 (aB bA rfl (hv7.g 4 rfl)) (.g2 (aA dV rfl) (.g2 (aB bA rfl (hv2.g 4 rfl)) ?_)))));refine .g2 (eN rfl rfl (by omega)) ?_;refine .t2 (aN rfl rfl) (.m2 rfl ?_);refine .g2 (bB rfl hv7.cells (by rw [Mn.len]; exact cC)) ?_;refine .g2 (aP rfl) ?_;refine Rg.wd ⟨_,rfl,rfl⟩ (aC Tryz.call11 rfl (ih (anc (Mn.mk ⟨y0,y1,y2,y3,y4,y5⟩ gv gk).er) (by omega) _ (Nat.le_refl _) (by omega) c4 _ hgi)) rfl ?_
   rintro _ w12 ⟨rfl,hx12⟩;replace hx := hx.ext hx12;replace hsl := hsl.ext hx12;replace hv2 := hv2.ext hx12;replace hgi := hgi.ext hx12;replace hxx := hxx.ext hx12;replace ht15 := ht15.ext hx12;replace hv7 := hv7.ext hx12;refine .g2 (bJ rfl) (.t2 (aN rfl rfl) (.done (.condF rfl (Wp.skip (Wp.region (.t2 (aA dV rfl) (.t2 (aB bA rfl (hv7.g 4 rfl)) (.a2 rfl (.done (Wp.region ?_))))))))))
   first | refine .tq (bC rfl rfl (by omega)) rfl ?_ | refine .tq (bV rfl rfl) rfl ?_
   refine .m2 rfl (.done ?_);exact ⟨(i + 1,y4),by repeat (first | exact .nil | refine .cons rfl ?_),⟨by simp only; omega,c5,hsl,hv2,hx⟩,by simp only; omega⟩
  ·by_cases h5 : z5 = -1
   ·skip
    refine .sr ?_;refine .t2 (bO rfl rfl (by omega)) ?_;refine .done (.seq (.condF rfl (Wp.exit (.sr (.t2 (aA eU rfl) (.t2 (aB bA rfl (hv2.g 3 rfl)) ?_))))));refine .t2 (cP rfl rfl (by omega)) ?_;refine .m2 rfl (.g2 (aA dV rfl) (.g2 (aB bA rfl (hv2.g 4 rfl)) (.g2 (aP rfl) ?_)));refine .g2 (eC rfl rfl (by omega)) ?_;refine .t2 (aJ rfl rfl) (.m2 rfl (.g2 (aA gD rfl) (.g2 (aB bA rfl (hv2.g 5 rfl)) (.g2 (aS rfl rfl h5) (.g2 (aP rfl) (.so rfl rfl (.so rfl rfl (.so rfl rfl (.so rfl rfl (.so rfl rfl (.so rfl rfl (.so rfl rfl ?_))))))))))));refine .so rfl rfl (.so rfl rfl (.so rfl rfl (.so rfl rfl (.so rfl rfl (.so rfl rfl (.so rfl rfl (.so rfl rfl (.so rfl rfl (.g2 (aJ rfl rfl) (.t2 (aJ rfl rfl) (.a2 rfl (.done ?_))))))))))));refine Wp.ret ?_;exact ⟨[_],⟨rfl,trivial⟩,rfl,hx⟩
   ·have k4 := k4.resolve_left h5
    refine .sr ?_;refine .t2 (bO rfl rfl (by omega)) ?_;refine .done (.seq (.condF rfl (Wp.exit (.sr (.t2 (aA eU rfl) (.t2 (aB bA rfl (hv2.g 3 rfl)) ?_))))));refine .t2 (cP rfl rfl (by omega)) ?_;refine .m2 rfl (.g2 (aA dV rfl) (.g2 (aB bA rfl (hv2.g 4 rfl)) (.g2 (aP rfl) ?_)));refine .g2 (eC rfl rfl (by omega)) ?_;refine .t2 (aJ rfl rfl) (.m2 rfl (.g2 (aA gD rfl) (.g2 (aB bA rfl (hv2.g 5 rfl)) (.g2 (aR rfl rfl h5) (.g2 (aP rfl) (.g2 (aA gD rfl) (.g2 (aB bA rfl (hv2.g 5 rfl)) (.g2 (aA eU rfl) (.g2 (aB bA rfl (hv2.g 3 rfl)) (.g2 (cP rfl rfl k4.1) (.g2 (aP rfl) (.g2 (aA gD rfl) ?_))))))))))));refine .g2 (aB bA rfl (hv2.g 5 rfl)) (.g2 (aA fP rfl) (.g2 (aB hY rfl (hv2.g 2 rfl)) (.g2 (cS Tryz.underlying9 rfl) ?_)));refine .g2 (bC (u := z5) (v := (z2.size : Int)) rfl rfl (by omega)) ?_;refine .g2 (aA dV rfl) (.g2 (aB bA rfl (hv2.g 4 rfl)) (.g2 (eC rfl rfl k4.2) (.g2 (aJ rfl rfl) (.g2 (aN rfl rfl) (.t2 (aJ rfl rfl) (.a2 rfl (.done (Wp.ret ?_))))))));exact ⟨[_],⟨rfl,trivial⟩,rfl,hx⟩
end Go.Proofs.YtlndmiegodcfjaaGreatDoor.Prn
namespace Go.Proofs.YtlndmiegodcfjaaGreatDoor.Prn
set_option maxRecDepth 20000
open Go.Gx Go.RowKit Go.Lib Go.Deep
open Par Ast
instance : Inhabited Mn := ⟨I4⟩
end Go.Proofs.YtlndmiegodcfjaaGreatDoor.Prn
