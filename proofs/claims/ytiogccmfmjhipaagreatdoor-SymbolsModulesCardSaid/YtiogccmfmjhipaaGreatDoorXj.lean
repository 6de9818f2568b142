/- Tokens as plain data: white space or a comment put between two tokens. No program. -/
import Derived.Test.YtiogccmfmjhipaaGreatDoorXb
import Derived.Test.YtiogccmfmjhipaaGreatDoorXi
set_option linter.unusedVariables false
set_option linter.unusedSimpArgs false
namespace Go.Proofs.YtiogccmfmjhipaaGreatDoor.Lexi
end Go.Proofs.YtiogccmfmjhipaaGreatDoor.Lexi
namespace Go.Proofs.YtiogccmfmjhipaaGreatDoor.Ast
open Par
open Lexi (aH bt)
variable {src src' : ByteArray} {d : Nat}
end Go.Proofs.YtiogccmfmjhipaaGreatDoor.Ast
namespace Go.Proofs.YtiogccmfmjhipaaGreatDoor.Par
set_option maxRecDepth 20000
open Go.Gx Go.RowKit Go.Lib
open Lexi (iB aH)
open Ast
theorem eD {w w' : World} (h : Er w) (x : bO w w') : Er w' := by
 obtain ⟨a,b,h⟩ := h;exact ⟨a,b,x.cell h⟩
end Go.Proofs.YtiogccmfmjhipaaGreatDoor.Par
namespace Go.Proofs.YtiogccmfmjhipaaGreatDoor.Par
set_option maxRecDepth 20000
open Go.Gx Go.RowKit Go.Lib
open Lexi (iB aH Dj Am Mh)
open Ast
theorem A1 {w : World} {a : Int} {n : Nat} (hn : 0 < n) (hn2 : n ≤ 1000000) : Cl Tryz.prog 21 #[.int .i64 a,.int .i64 n] w (fun u w' => (∃ k : Nat,u = .int .i64 k ∧ k < n ∧ (k : Int) = a % n) ∧ bO w w') := by
 have hx := bO.refl w;have hm := Int.emod_nonneg a (show (n : Int) ≠ 0 by omega);have hm2 := Int.emod_lt_of_pos a (show (0 : Int) < n by omega);have ht : a.tmod n = a % n ∨ (a.tmod n < 0 ∧ a.tmod n + n = a % n) := by
  by_cases h0 : 0 ≤ a
  ·left; exact Int.tmod_eq_emod_of_nonneg h0
  ·have e1 := Int.tmod_eq_emod (a := a) (b := n)
   split at e1
   ·left; simpa using e1
   ·right
    have : ((n : Int).natAbs : Int) = n := by omega
    omega
 by_cases hneg : a.tmod n < 0
 ·skip
  refine Cl.enter Tryz.func21 rfl Tryz.ntmps21 rfl rfl (.sr (.a2 rfl (.done (.sr (.m2 rfl (.m2 rfl ?_))))));refine .t2 (Fh rfl rfl (by omega)) ?_;refine .a2 rfl (.done (.seq (.sr (.m2 rfl ?_))));refine .t2 (bG rfl rfl (by omega)) ?_;refine .done (.condT rfl (Wp.region (.m2 rfl (.m2 rfl ?_))));refine .t2 (bE rfl rfl (by omega)) ?_;refine .a2 rfl (.done (.sr (.m2 rfl (.a2 rfl (.done (Wp.ret ?_))))));have e : a.tmod n + n = a % n := by
   rcases ht with h | h
   ·rw [h] at hneg; exact absurd hneg (by omega)
   ·exact h.2
  refine ⟨[_],⟨rfl,trivial⟩,⟨(a % n).toNat,?_,by omega,by omega⟩,hx⟩;rw [Int.toNat_of_nonneg hm,e]; rfl
 ·skip
  refine Cl.enter Tryz.func21 rfl Tryz.ntmps21 rfl rfl (.sr (.a2 rfl (.done (.sr (.m2 rfl (.m2 rfl ?_))))));refine .t2 (Fh rfl rfl (by omega)) ?_;refine .a2 rfl (.done (.seq (.sr (.m2 rfl ?_))));refine .t2 (bJ rfl rfl (by omega)) ?_;refine .done (.condF rfl (Wp.skip (.sr (.m2 rfl (.a2 rfl (.done (Wp.ret ?_)))))));have e : a.tmod n = a % n := by
   rcases ht with h | h
   ·rw [h] at hneg; exact h
   ·exact absurd h.1 hneg
  refine ⟨[_],⟨rfl,trivial⟩,⟨(a % n).toNat,?_,by omega,by omega⟩,hx⟩;rw [Int.toNat_of_nonneg hm,e]; rfl
mutual
def anc : An → Nat
 | .mk _ ks => hZ ks + 1
def hZ : List An → Nat
 | [] => 0
 | a :: l => anc a + hZ l
end
theorem yP (l : List An) : l.length ≤ hZ l := by
 induction l with
 | nil => exact Nat.le_refl _
 | cons a l ih => cases a; simp only [hZ,anc,List.length_cons]; omega
theorem yQ {l : List An} {a : An} (h : a ∈ l) : anc a ≤ hZ l := by
 induction l with
 | nil => cases h
 | cons b l ih =>
  rcases List.mem_cons.1 h with rfl | h
  ·simp only [hZ]; omega
  ·have := ih h; simp only [hZ]; omega
theorem yR (a b : List An) : hZ (a ++ b) = hZ a + hZ b := by
 induction a with
 | nil => simp [hZ]
 | cons x a ih => simp only [List.cons_append,hZ,ih]; omega
theorem Kd (src : ByteArray) (h : Hd) (ns : List An) (ds : List Dg) : anc (yE src h ns ds).1 ≤ hZ ns + 1 := by
 unfold yE
 split
 ·split
  ·simp only [anc,hZ]; omega
  ·simp only [anc,hZ]; omega
 split
 ·simp only [anc,hZ]; omega
 ·simp only [anc]; omega
mutual
theorem Cf (src : ByteArray) : ∀ (t : Tr) (off : Int) (ds : List Dg),anc (gV src t off ds).1 ≤ t.cnt
 | .mk k x ks,off,ds => by
  rw [gV,Tr.cnt];have h1 := Kd src (lO (dN src ks (sS k off) [] off ds).1) (dN src ks (sS k off) [] off ds).2.1 (dN src ks (sS k off) [] off ds).2.2.2;have h2 := sC src ks (sS k off) [] off ds;simp only [hZ] at h2
  show anc (yE _ _ _ _).1 ≤ _
  omega
theorem sC (src : ByteArray) : ∀ (l : List Tr) (h : Hd) (ns : List An) (off : Int) (ds : List Dg),hZ (dN src l h ns off ds).2.1 ≤ hZ ns + fM l
 | [],h,ns,off,ds => by rw [dN]; simp [fM]
 | t :: l,h,ns,off,ds => by
  rw [dN,fM]
  split
  ·have := sC src l (gM h off ds (kd t) (tx t)).1 ns (gM h off ds (kd t) (tx t)).2.1 (gM h off ds (kd t) (tx t)).2.2
   simp only;omega
  ·have h1 := Cf src t off ds
   have h2 := sC src l (ext h (gV src t off ds).1.hd.st (gV src t off ds).1.hd.en) (ns ++ [(gV src t off ds).1]) (gV src t off ds).2.1 (gV src t off ds).2.2;rw [yR] at h2;simp only [hZ] at h2;simp only;omega
end
theorem pF (s : ByteArray) (t : Tr) : anc (mL s t) ≤ t.cnt := by
 have := Cf s t 0 [];unfold mL
 cases h : (gV s t 0 []).1 with
 | mk a ks => rw [h] at this; exact this
theorem vS (l : List Mn) (k : Nat) (h : k < l.length) : (kL l)[k]'(by rw [iQ]; exact h) = l[k].er := by simp [vJ]
end Go.Proofs.YtiogccmfmjhipaaGreatDoor.Par
namespace Go.Proofs.YtiogccmfmjhipaaGreatDoor.Sym
open Par Ast
structure Sy where
 k : Int
 m : Int
 s : Int
 p : Int
 n : ByteArray
 pub : Bool
def lN (y : Sy) : List Value := [.int .i64 y.k,.int .i64 y.m,.int .i64 y.s,.int .i64 y.p,.string y.n,.bool y.pub]
theorem dW (y : Sy) : (lN y).length = 6 := rfl
def A2 (k : Int) : Int := if k = 11 then 9 else if k = 13 then 10 else if k = 14 then 11 else if k = 15 then 12 else if k = 16 then 13 else 0
def cW (h : Hd) (lp : Bool) : Int :=
 if h.kind = 7 then 6 else if h.ns < 0 then 0 else if (h.kind = 13 ∧ lp = true) ∨ h.kind = 44 then 14
 else if 3 ≤ h.kind ∧ h.kind ≤ 9 then h.kind - 3 + 2 else A2 h.kind
def iM (h : Hd) : Int := if h.kind = 7 then h.st else h.ns
def vT (k : Int) : Bool := decide (2 ≤ k) && decide (k ≤ 8)
def Mp (a b : Int) : Int := IntKind.i64.wrap ((BitVec.ofInt 64 a &&& BitVec.ofInt 64 b).toNat : Nat)
def sD (h : Hd) : Bool := decide (h.kind ≤ 9) && decide (Mp h.value 1 ≠ 0)
def iF (h : Hd) (lp : Bool) : Bool := (decide (h.kind = 12) && lp) || decide (h.kind = 9) || decide (h.kind = 38)
def oL (m : Int) (h : Hd) (p : Int) (lp : Bool) : Sy := ⟨cW h lp,m,iM h,p,h.text,sD h⟩
def eU (m : Int) (h : Hd) (p : Int) (lp : Bool) (acc : List Sy) : List Sy := if cW h lp = 0 then acc else acc ++ [oL m h p lp]
def gS (h : Hd) (p : Int) (lp : Bool) (acc : List Sy) : Int := if cW h lp ≠ 0 ∧ vT (cW h lp) = true then acc.length else p
mutual
def oR (m : Int) : An → Int → Bool → List Sy → List Sy
 | .mk h ks,p,lp,acc => fQ m ks (gS h p lp acc) (iF h lp) (eU m h p lp acc)
def fQ (m : Int) : List An → Int → Bool → List Sy → List Sy
 | [],_,_,acc => acc
 | a :: l,p,lp,acc => fQ m l p lp (oR m a p lp acc)
end
theorem sE (m : Int) (h : Hd) (p : Int) (lp : Bool) (acc : List Sy) : acc.length ≤ (eU m h p lp acc).length ∧ (eU m h p lp acc).length ≤ acc.length + 1 := by
 unfold eU
 split <;> simp
mutual
theorem vU (m : Int) : ∀ (a : An) (p : Int) (lp : Bool) (acc : List Sy),(oR m a p lp acc).length ≤ acc.length + anc a
 | .mk h ks,p,lp,acc => by
  rw [oR,anc];have h1 := oM m ks (gS h p lp acc) (iF h lp) (eU m h p lp acc);have h2 := sE m h p lp acc;omega
theorem oM (m : Int) : ∀ (l : List An) (p : Int) (lp : Bool) (acc : List Sy),(fQ m l p lp acc).length ≤ acc.length + hZ l
 | [],p,lp,acc => by rw [fQ]; omega
 | a :: l,p,lp,acc => by
  rw [fQ,hZ];have h1 := oM m l p lp (oR m a p lp acc);have h2 := vU m a p lp acc;omega
end
theorem Ee (m : Int) (l : List An) (p : Int) (lp : Bool) (acc : List Sy) (i : Nat) (h : i < l.length) : fQ m (l.take (i + 1)) p lp acc = oR m l[i] p lp (fQ m (l.take i) p lp acc) := by
 induction l generalizing acc i with
 | nil => exact absurd h (Nat.not_lt_zero _)
 | cons a l ih =>
  cases i with
  | zero => simp [fQ]
  | succ i =>
   simp only [List.take_succ_cons,fQ,List.getElem_cons_succ];exact ih _ i (by simpa using h)
end Go.Proofs.YtiogccmfmjhipaaGreatDoor.Sym
namespace Go.Proofs.YtiogccmfmjhipaaGreatDoor.Sym
set_option maxRecDepth 20000
open Go.Gx Go.RowKit Go.Lib
open Lexi (iB)
open Par Ast
section
variable {n : Nat} {L : eJ} {w : World} {d : Option Tmp} {ty : TypeId} {pos : String} {af : Array Edge} {g : Option (Nat × Bool)}
theorem Mq {t t' : TypeId} {x y : Operand} {u v : Int} (hx : cH L x = some (.int .i64 u)) (hy : cH L y = some (.int .i64 v)) : Tm Tryz.prog n ⟨d,.binOp .and t x y t',ty,pos,af,g⟩ L w (.int .i64 (Mp u v)) := fun a ha w' _ => by
 simp only [execOp,eqGuard,binOp,Op.intBits,ha.eval hx,ha.eval hy];rfl
end
theorem Ef {w : World} {k : Int} : Cl Tryz.prog 169 #[.int .i64 k] w (fun u w' => u = .bool (vT k) ∧ w = w') := by
 unfold vT
 by_cases h1 : 2 ≤ k
 ·rw [decide_eq_true h1]
  refine Cl.enter Tryz.func169 rfl Tryz.ntmps169 rfl rfl (.sr (.a2 rfl (.done (.sr (.m2 rfl ?_)))));refine .t2 (gJ rfl rfl (by omega)) ?_;refine .m2 rfl ?_
  first | refine .gd (aL rfl) rfl ?_ | refine .so rfl rfl ?_
  refine .g2 (Fb rfl rfl) (.t2 (aM rfl rfl) (.a2 rfl (.done (Wp.ret ?_))));exact ⟨[_],⟨rfl,trivial⟩,rfl,rfl⟩
 ·rw [decide_eq_false h1]
  refine Cl.enter Tryz.func169 rfl Tryz.ntmps169 rfl rfl (.sr (.a2 rfl (.done (.sr (.m2 rfl ?_)))));refine .t2 (jB rfl rfl (by omega)) ?_;refine .m2 rfl (.so rfl rfl (.so rfl rfl (.t2 (aP rfl rfl) (.a2 rfl (.done (Wp.ret ?_))))));exact ⟨[_],⟨rfl,trivial⟩,rfl,rfl⟩
theorem pG {w : World} {h : Hd} {cv : Value} : Cl Tryz.prog 168 #[.agg (h.cells cv).toArray] w (fun u w' => u = .int .i64 (iM h) ∧ bO w w') := by
 have hx := bO.refl w;unfold iM
 by_cases h1 : h.kind = 7
 ·rw [if_pos h1]
  refine Cl.enter Tryz.func168 rfl Tryz.ntmps168 rfl rfl (.sr (Rg.wd trivial (bA (cs := h.cells cv) rfl rfl) rfl ?_));rintro _ w1 ⟨b1,rfl,q1,hx1,hv1⟩;replace hx := hx.ext hx1;refine .a2 rfl (.done (.seq (.sr (.t2 (aA bK rfl) (.t2 (aB bB rfl (hv1.g 0 rfl)) (.t2 (aX rfl rfl h1) (.done (.condT rfl (.sr (.t2 (aA gA rfl) (.t2 (aB bB rfl (hv1.g 3 rfl)) (.a2 rfl ?_))))))))))));refine .done (Wp.ret ?_);exact ⟨[_],⟨rfl,trivial⟩,rfl,hx⟩
 ·rw [if_neg h1]
  refine Cl.enter Tryz.func168 rfl Tryz.ntmps168 rfl rfl (.sr (Rg.wd trivial (bA (cs := h.cells cv) rfl rfl) rfl ?_));rintro _ w1 ⟨b1,rfl,q1,hx1,hv1⟩;replace hx := hx.ext hx1;refine .a2 rfl (.done (.seq (.sr (.t2 (aA bK rfl) (.t2 (aB bB rfl (hv1.g 0 rfl)) (.t2 (aQ rfl rfl h1) (.done (.condF rfl (Wp.skip (.sr (.t2 (aA gW rfl) (.t2 (aB bB rfl (hv1.g 5 rfl)) ?_))))))))))));refine .a2 rfl (.done (Wp.ret ?_));exact ⟨[_],⟨rfl,trivial⟩,rfl,hx⟩
def eF : List (Int × Int) := [(11,9),(13,10),(14,11),(15,12),(16,13)]
def sF (p : Int × Int) : List Value := [.int .i64 p.1,.int .i64 p.2]
theorem sG (p : Int × Int) : (sF p).length = 2 := rfl
theorem vV (k : Int) (i : Nat) (hi : i < eF.length) (hn : ∀ j (h : j < eF.length),j < i → (eF[j]).1 ≠ k) (he : (eF[i]).1 = k) : A2 k = (eF[i]).2 := by
 have h5 : eF.length = 5 := rfl
 rcases i with _ | _ | _ | _ | _ | i
 ·obtain rfl : (11 : Int) = k := he; rfl
 ·obtain rfl : (13 : Int) = k := he; rfl
 ·obtain rfl : (14 : Int) = k := he; rfl
 ·obtain rfl : (15 : Int) = k := he; rfl
 ·obtain rfl : (16 : Int) = k := he; rfl
 ·omega
theorem pH (k : Int) (hn : ∀ j (h : j < eF.length),(eF[j]).1 ≠ k) : A2 k = 0 := by
 have h0 : (11 : Int) ≠ k := hn 0 (by decide);have h1 : (13 : Int) ≠ k := hn 1 (by decide);have h2 : (14 : Int) ≠ k := hn 2 (by decide);have h3 : (15 : Int) ≠ k := hn 3 (by decide);have h4 : (16 : Int) ≠ k := hn 4 (by decide);unfold A2;rw [if_neg (Ne.symm h0),if_neg (Ne.symm h1),if_neg (Ne.symm h2),if_neg (Ne.symm h3),if_neg (Ne.symm h4)]
theorem jW (a b : Int) (w : World) : (Instr.build 226 [(0,.int .i64 a),(1,.int .i64 b)].toArray).run Tryz.prog w = .ok (.agg #[.int .i64 a,.int .i64 b]) w := by kernel_rfl
theorem Hh (w : World) : (Instr.buildSlice 227 5 [(0,.agg #[.int .i64 11,.int .i64 9]),(1,.agg #[.int .i64 13,.int .i64 10]),(2,.agg #[.int .i64 14,.int .i64 11]),(3,.agg #[.int .i64 15,.int .i64 12]),(4,.agg #[.int .i64 16,.int .i64 13])].toArray).run Tryz.prog w = .ok (.slice (some ⟨w.heap.size,0,none⟩) 5 5) (w.alloc (.cells (aN sF eF).toArray 226)) := by kernel_rfl
theorem lK {w : World} {h : Hd} {cv : Value} {lp : Bool} : Cl Tryz.prog 167 #[.agg (h.cells cv).toArray,.bool lp] w (fun u w' => u = .int .i64 (cW h lp) ∧ bO w w') := by
 have hx := bO.refl w;unfold cW
 by_cases h1 : h.kind = 7
 ·rw [if_pos h1]
  refine Cl.enter Tryz.func167 rfl Tryz.ntmps167 rfl rfl (.sr (Rg.wd trivial (bA (cs := h.cells cv) rfl rfl) rfl ?_));rintro _ w1 ⟨b2,rfl,q2,hx1,hv2⟩;replace hx := hx.ext hx1;refine .a2 rfl (.done (.seq (Wp.block (.sr (.t2 (aA bK rfl) (.t2 (aB bB rfl (hv2.g 0 rfl)) (.t2 (aX rfl rfl h1) (.a2 rfl (.done (.condT rfl (.sr (.a2 rfl ?_))))))))))));refine .done (Wp.ret ?_);exact ⟨[_],⟨rfl,trivial⟩,rfl,hx⟩
 ·rw [if_neg h1]
  by_cases h2 : h.ns < 0
  ·rw [if_pos h2]
   refine Cl.enter Tryz.func167 rfl Tryz.ntmps167 rfl rfl (.sr (Rg.wd trivial (bA (cs := h.cells cv) rfl rfl) rfl ?_));rintro _ w1 ⟨b2,rfl,q2,hx1,hv2⟩;replace hx := hx.ext hx1;refine .a2 rfl (.done (.seq (Wp.block (.sr (.t2 (aA bK rfl) (.t2 (aB bB rfl (hv2.g 0 rfl)) (.t2 (aQ rfl rfl h1) (.a2 rfl (.done (.condF rfl (.sr (.t2 (aA gW rfl) ?_))))))))))));refine .t2 (aB bB rfl (hv2.g 5 rfl)) (.t2 (bG rfl rfl h2) (.a2 rfl (.done (.condT rfl (.sr (.a2 rfl (.done (Wp.ret ?_))))))));exact ⟨[_],⟨rfl,trivial⟩,rfl,hx⟩
  ·rw [if_neg h2]
   by_cases h3 : h.kind = 13
   ·cases lp with
    | true =>
     rw [if_pos (.inl ⟨h3,rfl⟩)];refine Cl.enter Tryz.func167 rfl Tryz.ntmps167 rfl rfl (.sr (Rg.wd trivial (bA (cs := h.cells cv) rfl rfl) rfl ?_));rintro _ w1 ⟨b2,rfl,q2,hx1,hv2⟩;replace hx := hx.ext hx1;refine .a2 rfl (.done (.seq (Wp.block (.sr (.t2 (aA bK rfl) (.t2 (aB bB rfl (hv2.g 0 rfl)) (.t2 (aQ rfl rfl h1) (.a2 rfl (.done (.condF rfl (.sr (.t2 (aA gW rfl) ?_))))))))))));refine .t2 (aB bB rfl (hv2.g 5 rfl)) ?_;refine .t2 (bJ rfl rfl (by omega)) ?_;refine .a2 rfl (.done (.condF rfl (.sr (.t2 (aA bK rfl) (.t2 (aB bB rfl (hv2.g 0 rfl)) ?_)))));refine .t2 (aX rfl rfl (by omega)) ?_;refine .m2 rfl ?_
     first | refine .gd (aL rfl) rfl ?_ | refine .so rfl rfl ?_
     refine .t2 (aM rfl rfl) (.m2 rfl (.so rfl rfl (.so rfl rfl (.so rfl rfl (.t2 (aM rfl rfl) (.a2 rfl (.done (.condT rfl (.sr (.a2 rfl (.done (Wp.ret ?_))))))))))));exact ⟨[_],⟨rfl,trivial⟩,rfl,hx⟩
    | false =>
     rw [if_neg (by rintro (h | h); exact absurd h.2 (by decide); omega),if_neg (by omega)];refine Cl.enter Tryz.func167 rfl Tryz.ntmps167 rfl rfl (.sr (Rg.wd trivial (bA (cs := h.cells cv) rfl rfl) rfl ?_));rintro _ w1 ⟨b2,rfl,q2,hx1,hv2⟩;replace hx := hx.ext hx1;refine .a2 rfl (.done (.seq (Wp.block (.sr (.t2 (aA bK rfl) (.t2 (aB bB rfl (hv2.g 0 rfl)) (.t2 (aQ rfl rfl h1) (.a2 rfl (.done (.condF rfl (.sr (.t2 (aA gW rfl) ?_))))))))))));refine .t2 (aB bB rfl (hv2.g 5 rfl)) ?_;refine .t2 (bJ rfl rfl (by omega)) ?_;refine .a2 rfl (.done (.condF rfl (.sr (.t2 (aA bK rfl) (.t2 (aB bB rfl (hv2.g 0 rfl)) ?_)))));refine .t2 (aX rfl rfl (by omega)) ?_;refine .m2 rfl ?_
     first | refine .gd (aL rfl) rfl ?_ | refine .so rfl rfl ?_
     refine .t2 (aM rfl rfl) (.m2 rfl ?_)
     first | refine .gd (aA bK rfl) rfl ?_ | refine .so rfl rfl ?_
     refine .g2 (aB bB rfl (hv2.g 0 rfl)) ?_;refine .g2 (aQ rfl rfl (by omega)) ?_;refine .t2 (aP rfl rfl) (.a2 rfl (.done (.condF rfl (.sr (.t2 (aA bK rfl) (.t2 (aB bB rfl (hv2.g 0 rfl)) ?_))))));refine .t2 (gJ rfl rfl (by omega)) ?_;refine .m2 rfl ?_
     first | refine .gd (aA bK rfl) rfl ?_ | refine .so rfl rfl ?_
     refine .g2 (aB bB rfl (hv2.g 0 rfl)) ?_;refine .g2 (lU rfl rfl (by omega)) ?_;refine .t2 (aM rfl rfl) (.a2 rfl (.done (.condF rfl (Wp.skip (.sr (.t2 (bV (v := .agg #[.int .i64 11,.int .i64 9]) (pv := [(0,.int .i64 11),(1,.int .i64 9)]) (jW _ _) rfl) (.t2 (bV (v := .agg #[.int .i64 13,.int .i64 10]) (pv := [(0,.int .i64 13),(1,.int .i64 10)]) (jW _ _) rfl) (.t2 (bV (v := .agg #[.int .i64 14,.int .i64 11]) (pv := [(0,.int .i64 14),(1,.int .i64 11)]) (jW _ _) rfl) (.t2 (bV (v := .agg #[.int .i64 15,.int .i64 12]) (pv := [(0,.int .i64 15),(1,.int .i64 12)]) (jW _ _) rfl) (.t2 (bV (v := .agg #[.int .i64 16,.int .i64 13]) (pv := [(0,.int .i64 16),(1,.int .i64 13)]) (jW _ _) rfl) (Rg.wd trivial (aD (pv := [(0,.agg #[.int .i64 11,.int .i64 9]),(1,.agg #[.int .i64 13,.int .i64 10]),(2,.agg #[.int .i64 14,.int .i64 11]),(3,.agg #[.int .i64 15,.int .i64 12]),(4,.agg #[.int .i64 16,.int .i64 13])]) (cs := aN sF eF) Hh rfl) rfl ?_)))))))))));rintro _ w2 ⟨bb,rfl,qb,hx2,hvb⟩;replace hx := hx.ext hx2;replace hv2 := hv2.ext hx2;have hsl : eT w2 (.slice (some ⟨bb,0,none⟩) 5 5) 2 eF.length (aN sF eF) := dL hvb rfl;refine .a2 rfl (.done (.seq (.sr (.m2 rfl (.t2 (bY hsl Tryz.underlying227 rfl) (.m2 rfl (.done (Wp.block ?_))))))));refine Wp.loop (ι := Nat) (fun i => [(2,.pointer (some ⟨b2,0,none⟩)),(47,.slice (some ⟨bb,0,none⟩) 5 5),(48,.int .i64 eF.length),(49,.int .i64 i)])
      (fun i w' => i ≤ eF.length ∧ (∀ j (hq : j < eF.length),j < i → (eF[j]).1 ≠ h.kind) ∧ bO w2 w') (fun i => eF.length - i) 0 (by repeat (first | exact .nil | refine .cons rfl ?_)) ⟨Nat.zero_le _,fun j _ hj => absurd hj (Nat.not_lt_zero _),bO.refl _⟩ ?_
     rintro i wl ⟨hi,hno,hy⟩;replace hx := hx.ext hy;replace hv2 := hv2.ext hy;replace hsl := hsl.ext hy;have ht5 : eF.length = 5 := rfl
     by_cases hlt : i < eF.length
     ·skip
      refine .sr ?_
      first | refine .tq (bG rfl rfl (by omega)) rfl ?_ | refine .tq (bJ rfl rfl (by omega)) rfl ?_ | refine .tq (cX rfl rfl) rfl ?_
      refine .done (.seq (.condT rfl (Wp.skip (.seq (Wp.block (.sr ?_))))));refine Rg.ix hsl trivial rfl rfl Tryz.underlying227 nZ (by omega) rfl ?_;intro bt51 ot51 ht51;rw [Int.toNat_natCast,bW sG eF i hlt] at ht51;refine .t2 (bD rfl ht51 (by exact nZ)) ?_;refine Rg.wd trivial (cM Tryz.zeroValue226 rfl) rfl ?_;rintro _ wab7 ⟨b7,rfl,qb7,a,b⟩;refine Rg.wn trivial (cE (cs := (sF eF[i])) b rfl rfl rfl (nZ) (rfl) (rfl)) ?_;rintro _ w41 ⟨hub7,hvb7⟩;have hx41 := a.upd hub7 (Nat.le_of_eq qb7.symm);clear b hub7 a;replace hx := hx.ext hx41;replace hy := hy.ext hx41;replace hv2 := hv2.ext hx41;replace hsl := hsl.ext hx41;replace ht51 := ht51.ext hx41;clear qb7;refine .done ?_
      by_cases he : (eF[i]).1 = h.kind
      ·skip
       refine .sr ?_;refine .t2 (eB Tryz.underlying226 bB rfl rfl (by omega)) ?_;refine .t2 (aB bB rfl (hvb7.g 0 rfl)) (.t2 (aA bK rfl) (.t2 (aB bB rfl (hv2.g 0 rfl)) (.t2 (aX rfl rfl he) (.done (.condT rfl (.sr ?_))))));refine .t2 (eB Tryz.underlying226 bB rfl rfl (by omega)) ?_;refine .t2 (aB bB rfl (hvb7.g 1 rfl)) (.a2 rfl (.done (Wp.ret ?_)));exact ⟨[_],⟨rfl,trivial⟩,by rw [vV h.kind i hlt hno he] <;> rfl,hx⟩
      ·skip
       refine .sr ?_;refine .t2 (eB Tryz.underlying226 bB rfl rfl (by omega)) ?_;refine .t2 (aB bB rfl (hvb7.g 0 rfl)) (.t2 (aA bK rfl) (.t2 (aB bB rfl (hv2.g 0 rfl)) (.t2 (aQ rfl rfl he) (.done (.condF rfl (Wp.skip (Wp.region ?_)))))))
       first | refine .tq (bE rfl rfl (by omega)) rfl ?_ | refine .tq (fX rfl rfl) rfl ?_
       refine .m2 rfl (.done ?_);refine ⟨i + 1,by repeat (first | exact .nil | refine .cons rfl ?_),⟨hlt,fun j hj hji => ?_,hy⟩,by omega⟩
       rcases Nat.lt_succ_iff_lt_or_eq.1 hji with c | c
       ·exact hno j hj c
       ·subst c; exact he
     ·skip
      refine .sr ?_
      first | refine .tq (bG rfl rfl (by omega)) rfl ?_ | refine .tq (bJ rfl rfl (by omega)) rfl ?_ | refine .tq (cX rfl rfl) rfl ?_
      refine .done (.seq (.condF rfl (Wp.exit (.sr (.a2 rfl (.done (Wp.ret ?_)))))));exact ⟨[_],⟨rfl,trivial⟩,by rw [pH h.kind fun j hj => hno j hj (by omega)] <;> rfl,hx⟩
   ·by_cases h4 : h.kind = 44
    ·rw [if_pos (.inr h4)]
     refine Cl.enter Tryz.func167 rfl Tryz.ntmps167 rfl rfl (.sr (Rg.wd trivial (bA (cs := h.cells cv) rfl rfl) rfl ?_));rintro _ w1 ⟨b2,rfl,q2,hx1,hv2⟩;replace hx := hx.ext hx1;refine .a2 rfl (.done (.seq (Wp.block (.sr (.t2 (aA bK rfl) (.t2 (aB bB rfl (hv2.g 0 rfl)) (.t2 (aQ rfl rfl h1) (.a2 rfl (.done (.condF rfl (.sr (.t2 (aA gW rfl) ?_))))))))))));refine .t2 (aB bB rfl (hv2.g 5 rfl)) ?_;refine .t2 (bJ rfl rfl (by omega)) ?_;refine .a2 rfl (.done (.condF rfl (.sr (.t2 (aA bK rfl) (.t2 (aB bB rfl (hv2.g 0 rfl)) ?_)))));refine .t2 (aQ rfl rfl (by omega)) ?_;refine .m2 rfl (.so rfl rfl (.t2 (aP rfl rfl) (.m2 rfl ?_)))
     first | refine .gd (aA bK rfl) rfl ?_ | refine .so rfl rfl ?_
     refine .g2 (aB bB rfl (hv2.g 0 rfl)) ?_;refine .g2 (aX rfl rfl (by omega)) ?_;refine .t2 (aP rfl rfl) (.a2 rfl (.done (.condT rfl (.sr (.a2 rfl (.done (Wp.ret ?_)))))));exact ⟨[_],⟨rfl,trivial⟩,rfl,hx⟩
    ·rw [if_neg (by rintro (h | h); exact h3 h.1; exact h4 h)]
     by_cases h5 : 3 ≤ h.kind
     ·by_cases h6 : h.kind ≤ 9
      ·rw [if_pos ⟨h5,h6⟩]
       refine Cl.enter Tryz.func167 rfl Tryz.ntmps167 rfl rfl (.sr (Rg.wd trivial (bA (cs := h.cells cv) rfl rfl) rfl ?_));rintro _ w1 ⟨b2,rfl,q2,hx1,hv2⟩;replace hx := hx.ext hx1;refine .a2 rfl (.done (.seq (Wp.block (.sr (.t2 (aA bK rfl) (.t2 (aB bB rfl (hv2.g 0 rfl)) (.t2 (aQ rfl rfl h1) (.a2 rfl (.done (.condF rfl (.sr (.t2 (aA gW rfl) ?_))))))))))));refine .t2 (aB bB rfl (hv2.g 5 rfl)) ?_;refine .t2 (bJ rfl rfl (by omega)) ?_;refine .a2 rfl (.done (.condF rfl (.sr (.t2 (aA bK rfl) (.t2 (aB bB rfl (hv2.g 0 rfl)) ?_)))));refine .t2 (aQ rfl rfl (by omega)) ?_;refine .m2 rfl (.so rfl rfl (.t2 (aP rfl rfl) (.m2 rfl ?_)))
       first | refine .gd (aA bK rfl) rfl ?_ | refine .so rfl rfl ?_
       refine .g2 (aB bB rfl (hv2.g 0 rfl)) ?_;refine .g2 (aQ rfl rfl (by omega)) ?_;refine .t2 (aP rfl rfl) (.a2 rfl (.done (.condF rfl (.sr (.t2 (aA bK rfl) (.t2 (aB bB rfl (hv2.g 0 rfl)) ?_))))));refine .t2 (gJ rfl rfl (by omega)) ?_;refine .m2 rfl ?_
       first | refine .gd (aA bK rfl) rfl ?_ | refine .so rfl rfl ?_
       refine .g2 (aB bB rfl (hv2.g 0 rfl)) ?_;refine .g2 (nG rfl rfl (by omega)) ?_;refine .t2 (aM rfl rfl) (.a2 rfl (.done (.condT rfl (.sr (.t2 (aA bK rfl) (.t2 (aB bB rfl (hv2.g 0 rfl)) ?_))))));refine .t2 (eA rfl rfl (by omega)) ?_;refine .t2 (bE rfl rfl (by omega)) ?_;refine .a2 rfl (.done (Wp.ret ?_));exact ⟨[_],⟨rfl,trivial⟩,rfl,hx⟩
      ·rw [if_neg (fun hh => h6 hh.2)]
       refine Cl.enter Tryz.func167 rfl Tryz.ntmps167 rfl rfl (.sr (Rg.wd trivial (bA (cs := h.cells cv) rfl rfl) rfl ?_));rintro _ w1 ⟨b2,rfl,q2,hx1,hv2⟩;replace hx := hx.ext hx1;refine .a2 rfl (.done (.seq (Wp.block (.sr (.t2 (aA bK rfl) (.t2 (aB bB rfl (hv2.g 0 rfl)) (.t2 (aQ rfl rfl h1) (.a2 rfl (.done (.condF rfl (.sr (.t2 (aA gW rfl) ?_))))))))))));refine .t2 (aB bB rfl (hv2.g 5 rfl)) ?_;refine .t2 (bJ rfl rfl (by omega)) ?_;refine .a2 rfl (.done (.condF rfl (.sr (.t2 (aA bK rfl) (.t2 (aB bB rfl (hv2.g 0 rfl)) ?_)))));refine .t2 (aQ rfl rfl (by omega)) ?_;refine .m2 rfl (.so rfl rfl (.t2 (aP rfl rfl) (.m2 rfl ?_)))
       first | refine .gd (aA bK rfl) rfl ?_ | refine .so rfl rfl ?_
       refine .g2 (aB bB rfl (hv2.g 0 rfl)) ?_;refine .g2 (aQ rfl rfl (by omega)) ?_;refine .t2 (aP rfl rfl) (.a2 rfl (.done (.condF rfl (.sr (.t2 (aA bK rfl) (.t2 (aB bB rfl (hv2.g 0 rfl)) ?_))))));refine .t2 (gJ rfl rfl (by omega)) ?_;refine .m2 rfl ?_
       first | refine .gd (aA bK rfl) rfl ?_ | refine .so rfl rfl ?_
       refine .g2 (aB bB rfl (hv2.g 0 rfl)) ?_;refine .g2 (lU rfl rfl (by omega)) ?_;refine .t2 (aM rfl rfl) (.a2 rfl (.done (.condF rfl (Wp.skip (.sr (.t2 (bV (v := .agg #[.int .i64 11,.int .i64 9]) (pv := [(0,.int .i64 11),(1,.int .i64 9)]) (jW _ _) rfl) (.t2 (bV (v := .agg #[.int .i64 13,.int .i64 10]) (pv := [(0,.int .i64 13),(1,.int .i64 10)]) (jW _ _) rfl) (.t2 (bV (v := .agg #[.int .i64 14,.int .i64 11]) (pv := [(0,.int .i64 14),(1,.int .i64 11)]) (jW _ _) rfl) (.t2 (bV (v := .agg #[.int .i64 15,.int .i64 12]) (pv := [(0,.int .i64 15),(1,.int .i64 12)]) (jW _ _) rfl) (.t2 (bV (v := .agg #[.int .i64 16,.int .i64 13]) (pv := [(0,.int .i64 16),(1,.int .i64 13)]) (jW _ _) rfl) (Rg.wd trivial (aD (pv := [(0,.agg #[.int .i64 11,.int .i64 9]),(1,.agg #[.int .i64 13,.int .i64 10]),(2,.agg #[.int .i64 14,.int .i64 11]),(3,.agg #[.int .i64 15,.int .i64 12]),(4,.agg #[.int .i64 16,.int .i64 13])]) (cs := aN sF eF) Hh rfl) rfl ?_)))))))))));rintro _ w2 ⟨bb,rfl,qb,hx2,hvb⟩;replace hx := hx.ext hx2;replace hv2 := hv2.ext hx2;have hsl : eT w2 (.slice (some ⟨bb,0,none⟩) 5 5) 2 eF.length (aN sF eF) := dL hvb rfl;refine .a2 rfl (.done (.seq (.sr (.m2 rfl (.t2 (bY hsl Tryz.underlying227 rfl) (.m2 rfl (.done (Wp.block ?_))))))));refine Wp.loop (ι := Nat) (fun i => [(2,.pointer (some ⟨b2,0,none⟩)),(47,.slice (some ⟨bb,0,none⟩) 5 5),(48,.int .i64 eF.length),(49,.int .i64 i)])
        (fun i w' => i ≤ eF.length ∧ (∀ j (hq : j < eF.length),j < i → (eF[j]).1 ≠ h.kind) ∧ bO w2 w') (fun i => eF.length - i) 0 (by repeat (first | exact .nil | refine .cons rfl ?_)) ⟨Nat.zero_le _,fun j _ hj => absurd hj (Nat.not_lt_zero _),bO.refl _⟩ ?_
       rintro i wl ⟨hi,hno,hy⟩;replace hx := hx.ext hy;replace hv2 := hv2.ext hy;replace hsl := hsl.ext hy;have ht5 : eF.length = 5 := rfl
       by_cases hlt : i < eF.length
       ·skip
        refine .sr ?_
        first | refine .tq (bG rfl rfl (by omega)) rfl ?_ | refine .tq (bJ rfl rfl (by omega)) rfl ?_ | refine .tq (cX rfl rfl) rfl ?_
        refine .done (.seq (.condT rfl (Wp.skip (.seq (Wp.block (.sr ?_))))));refine Rg.ix hsl trivial rfl rfl Tryz.underlying227 nZ (by omega) rfl ?_;intro bt51 ot51 ht51;rw [Int.toNat_natCast,bW sG eF i hlt] at ht51;refine .t2 (bD rfl ht51 (by exact nZ)) ?_;refine Rg.wd trivial (cM Tryz.zeroValue226 rfl) rfl ?_;rintro _ wab7 ⟨b7,rfl,qb7,a,b⟩;refine Rg.wn trivial (cE (cs := (sF eF[i])) b rfl rfl rfl (nZ) (rfl) (rfl)) ?_;rintro _ w41 ⟨hub7,hvb7⟩;have hx41 := a.upd hub7 (Nat.le_of_eq qb7.symm);clear b hub7 a;replace hx := hx.ext hx41;replace hy := hy.ext hx41;replace hv2 := hv2.ext hx41;replace hsl := hsl.ext hx41;replace ht51 := ht51.ext hx41;clear qb7;refine .done ?_
        by_cases he : (eF[i]).1 = h.kind
        ·skip
         refine .sr ?_;refine .t2 (eB Tryz.underlying226 bB rfl rfl (by omega)) ?_;refine .t2 (aB bB rfl (hvb7.g 0 rfl)) (.t2 (aA bK rfl) (.t2 (aB bB rfl (hv2.g 0 rfl)) (.t2 (aX rfl rfl he) (.done (.condT rfl (.sr ?_))))));refine .t2 (eB Tryz.underlying226 bB rfl rfl (by omega)) ?_;refine .t2 (aB bB rfl (hvb7.g 1 rfl)) (.a2 rfl (.done (Wp.ret ?_)));exact ⟨[_],⟨rfl,trivial⟩,by rw [vV h.kind i hlt hno he] <;> rfl,hx⟩
        ·skip
         refine .sr ?_;refine .t2 (eB Tryz.underlying226 bB rfl rfl (by omega)) ?_;refine .t2 (aB bB rfl (hvb7.g 0 rfl)) (.t2 (aA bK rfl) (.t2 (aB bB rfl (hv2.g 0 rfl)) (.t2 (aQ rfl rfl he) (.done (.condF rfl (Wp.skip (Wp.region ?_)))))))
         first | refine .tq (bE rfl rfl (by omega)) rfl ?_ | refine .tq (fX rfl rfl) rfl ?_
         refine .m2 rfl (.done ?_);refine ⟨i + 1,by repeat (first | exact .nil | refine .cons rfl ?_),⟨hlt,fun j hj hji => ?_,hy⟩,by omega⟩
         rcases Nat.lt_succ_iff_lt_or_eq.1 hji with c | c
         ·exact hno j hj c
         ·subst c; exact he
       ·skip
        refine .sr ?_
        first | refine .tq (bG rfl rfl (by omega)) rfl ?_ | refine .tq (bJ rfl rfl (by omega)) rfl ?_ | refine .tq (cX rfl rfl) rfl ?_
        refine .done (.seq (.condF rfl (Wp.exit (.sr (.a2 rfl (.done (Wp.ret ?_)))))));exact ⟨[_],⟨rfl,trivial⟩,by rw [pH h.kind fun j hj => hno j hj (by omega)] <;> rfl,hx⟩
     ·rw [if_neg (fun hh => h5 hh.1)]
      refine Cl.enter Tryz.func167 rfl Tryz.ntmps167 rfl rfl (.sr (Rg.wd trivial (bA (cs := h.cells cv) rfl rfl) rfl ?_));rintro _ w1 ⟨b2,rfl,q2,hx1,hv2⟩;replace hx := hx.ext hx1;refine .a2 rfl (.done (.seq (Wp.block (.sr (.t2 (aA bK rfl) (.t2 (aB bB rfl (hv2.g 0 rfl)) (.t2 (aQ rfl rfl h1) (.a2 rfl (.done (.condF rfl (.sr (.t2 (aA gW rfl) ?_))))))))))));refine .t2 (aB bB rfl (hv2.g 5 rfl)) ?_;refine .t2 (bJ rfl rfl (by omega)) ?_;refine .a2 rfl (.done (.condF rfl (.sr (.t2 (aA bK rfl) (.t2 (aB bB rfl (hv2.g 0 rfl)) ?_)))));refine .t2 (aQ rfl rfl (by omega)) ?_;refine .m2 rfl (.so rfl rfl (.t2 (aP rfl rfl) (.m2 rfl ?_)))
      first | refine .gd (aA bK rfl) rfl ?_ | refine .so rfl rfl ?_
      refine .g2 (aB bB rfl (hv2.g 0 rfl)) ?_;refine .g2 (aQ rfl rfl (by omega)) ?_;refine .t2 (aP rfl rfl) (.a2 rfl (.done (.condF rfl (.sr (.t2 (aA bK rfl) (.t2 (aB bB rfl (hv2.g 0 rfl)) ?_))))));refine .t2 (jB rfl rfl (by omega)) ?_;refine .m2 rfl (.so rfl rfl (.so rfl rfl (.so rfl rfl (.t2 (aP rfl rfl) (.a2 rfl (.done (.condF rfl (Wp.skip (.sr (.t2 (bV (v := .agg #[.int .i64 11,.int .i64 9]) (pv := [(0,.int .i64 11),(1,.int .i64 9)]) (jW _ _) rfl) (.t2 (bV (v := .agg #[.int .i64 13,.int .i64 10]) (pv := [(0,.int .i64 13),(1,.int .i64 10)]) (jW _ _) rfl) (.t2 (bV (v := .agg #[.int .i64 14,.int .i64 11]) (pv := [(0,.int .i64 14),(1,.int .i64 11)]) (jW _ _) rfl) ?_))))))))))));refine .t2 (bV (v := .agg #[.int .i64 15,.int .i64 12]) (pv := [(0,.int .i64 15),(1,.int .i64 12)]) (jW _ _) rfl) (.t2 (bV (v := .agg #[.int .i64 16,.int .i64 13]) (pv := [(0,.int .i64 16),(1,.int .i64 13)]) (jW _ _) rfl) (Rg.wd trivial (aD (pv := [(0,.agg #[.int .i64 11,.int .i64 9]),(1,.agg #[.int .i64 13,.int .i64 10]),(2,.agg #[.int .i64 14,.int .i64 11]),(3,.agg #[.int .i64 15,.int .i64 12]),(4,.agg #[.int .i64 16,.int .i64 13])]) (cs := aN sF eF) Hh rfl) rfl ?_));rintro _ w2 ⟨bb,rfl,qb,hx2,hvb⟩;replace hx := hx.ext hx2;replace hv2 := hv2.ext hx2;have hsl : eT w2 (.slice (some ⟨bb,0,none⟩) 5 5) 2 eF.length (aN sF eF) := dL hvb rfl;refine .a2 rfl (.done (.seq (.sr (.m2 rfl (.t2 (bY hsl Tryz.underlying227 rfl) (.m2 rfl (.done (Wp.block ?_))))))));refine Wp.loop (ι := Nat) (fun i => [(2,.pointer (some ⟨b2,0,none⟩)),(47,.slice (some ⟨bb,0,none⟩) 5 5),(48,.int .i64 eF.length),(49,.int .i64 i)])
       (fun i w' => i ≤ eF.length ∧ (∀ j (hq : j < eF.length),j < i → (eF[j]).1 ≠ h.kind) ∧ bO w2 w') (fun i => eF.length - i) 0 (by repeat (first | exact .nil | refine .cons rfl ?_)) ⟨Nat.zero_le _,fun j _ hj => absurd hj (Nat.not_lt_zero _),bO.refl _⟩ ?_
      rintro i wl ⟨hi,hno,hy⟩;replace hx := hx.ext hy;replace hv2 := hv2.ext hy;replace hsl := hsl.ext hy;have ht5 : eF.length = 5 := rfl
      by_cases hlt : i < eF.length
      ·skip
       refine .sr ?_
       first | refine .tq (bG rfl rfl (by omega)) rfl ?_ | refine .tq (bJ rfl rfl (by omega)) rfl ?_ | refine .tq (cX rfl rfl) rfl ?_
       refine .done (.seq (.condT rfl (Wp.skip (.seq (Wp.block (.sr ?_))))));refine Rg.ix hsl trivial rfl rfl Tryz.underlying227 nZ (by omega) rfl ?_;intro bt51 ot51 ht51;rw [Int.toNat_natCast,bW sG eF i hlt] at ht51;refine .t2 (bD rfl ht51 (by exact nZ)) ?_;refine Rg.wd trivial (cM Tryz.zeroValue226 rfl) rfl ?_;rintro _ wab7 ⟨b7,rfl,qb7,a,b⟩;refine Rg.wn trivial (cE (cs := (sF eF[i])) b rfl rfl rfl (nZ) (rfl) (rfl)) ?_;rintro _ w41 ⟨hub7,hvb7⟩;have hx41 := a.upd hub7 (Nat.le_of_eq qb7.symm);clear b hub7 a;replace hx := hx.ext hx41;replace hy := hy.ext hx41;replace hv2 := hv2.ext hx41;replace hsl := hsl.ext hx41;replace ht51 := ht51.ext hx41;clear qb7;refine .done ?_
       by_cases he : (eF[i]).1 = h.kind
       ·skip
        refine .sr ?_;refine .t2 (eB Tryz.underlying226 bB rfl rfl (by omega)) ?_;refine .t2 (aB bB rfl (hvb7.g 0 rfl)) (.t2 (aA bK rfl) (.t2 (aB bB rfl (hv2.g 0 rfl)) (.t2 (aX rfl rfl he) (.done (.condT rfl (.sr ?_))))));refine .t2 (eB Tryz.underlying226 bB rfl rfl (by omega)) ?_;refine .t2 (aB bB rfl (hvb7.g 1 rfl)) (.a2 rfl (.done (Wp.ret ?_)));exact ⟨[_],⟨rfl,trivial⟩,by rw [vV h.kind i hlt hno he] <;> rfl,hx⟩
       ·skip
        refine .sr ?_;refine .t2 (eB Tryz.underlying226 bB rfl rfl (by omega)) ?_;refine .t2 (aB bB rfl (hvb7.g 0 rfl)) (.t2 (aA bK rfl) (.t2 (aB bB rfl (hv2.g 0 rfl)) (.t2 (aQ rfl rfl he) (.done (.condF rfl (Wp.skip (Wp.region ?_)))))))
        first | refine .tq (bE rfl rfl (by omega)) rfl ?_ | refine .tq (fX rfl rfl) rfl ?_
        refine .m2 rfl (.done ?_);refine ⟨i + 1,by repeat (first | exact .nil | refine .cons rfl ?_),⟨hlt,fun j hj hji => ?_,hy⟩,by omega⟩
        rcases Nat.lt_succ_iff_lt_or_eq.1 hji with c | c
        ·exact hno j hj c
        ·subst c; exact he
      ·skip
       refine .sr ?_
       first | refine .tq (bG rfl rfl (by omega)) rfl ?_ | refine .tq (bJ rfl rfl (by omega)) rfl ?_ | refine .tq (cX rfl rfl) rfl ?_
       refine .done (.seq (.condF rfl (Wp.exit (.sr (.a2 rfl (.done (Wp.ret ?_)))))));exact ⟨[_],⟨rfl,trivial⟩,by rw [pH h.kind fun j hj => hno j hj (by omega)] <;> rfl,hx⟩
structure yT (F : Fs) (w : World) (b : Nat) (m : Int) (acc : List Sy) (dv : Value) : Prop where
 und : lR F w.heap.size
 var : bR w b [.int .i64 m,dv] 163
 row : w.ownsRow 0 59 6 dv acc.length (aN lN acc)
 nb : ¬ F b
 nd : ∀ z,dv.ownBlock = some z → ¬ F z
def Cv (F : Fs) (w : World) (b : Nat) (m : Int) (acc : List Sy) : Prop := ∃ dv,yT F w b m acc dv
theorem yT.ext {F : Fs} {w w' : World} {b : Nat} {m : Int} {acc : List Sy} {dv : Value} (h : yT F w b m acc dv) (x : bO w w') : yT F w' b m acc dv :=
 ⟨fun z hz => Nat.lt_of_lt_of_le (h.und z hz) x.le,h.var.ext x,cZ h.row x,h.nb,h.nd⟩
theorem Cv.ext {F : Fs} {w w' : World} {b : Nat} {m : Int} {acc : List Sy} (h : Cv F w b m acc) (x : bO w w') : Cv F w' b m acc := ⟨_,h.choose_spec.ext x⟩
theorem Cv.und {F : Fs} {w : World} {b : Nat} {m : Int} {acc : List Sy} (h : Cv F w b m acc) : lR F w.heap.size := h.choose_spec.und
theorem Cv.sub {F G : Fs} {w : World} {b : Nat} {m : Int} {acc : List Sy} (h : Cv G w b m acc) (hs : ∀ z,F z → G z) : Cv F w b m acc := by
 obtain ⟨dv,h⟩ := h;exact ⟨dv,fun z hz => h.und z (hs z hz),h.var,h.row,fun hb => h.nb (hs _ hb),fun z hz hf => h.nd z hz (hs _ hf)⟩
theorem Cv.add {F : Fs} {w w' : World} {b k : Nat} {m : Int} {acc : List Sy} (h : Cv F w b m acc) (x : bO w w') (hk : w.heap.size ≤ k) (hk' : k < w'.heap.size) : Cv (fun z => F z ∨ z = k) w' b m acc := by
 obtain ⟨dv,h⟩ := h;have hb := h.var.lt;refine ⟨dv,fun z hz => ?_,h.var.ext x,cZ h.row x,fun hz => ?_,fun z hz hf => ?_⟩
 ·rcases hz with hz | rfl
  ·exact Nat.lt_of_lt_of_le (h.und z hz) x.le
  ·exact hk'
 ·rcases hz with hz | rfl
  ·exact h.nb hz
  ·omega
 ·rcases hf with hf | rfl
  ·exact h.nd z hz hf
  ·have := gZ h.row hz
   omega
theorem yT.app {F : Fs} {w w' : World} {b : Nat} {m : Int} {acc : List Sy} {dv v' : Value} {d : Sy} (h : yT F w b m acc dv) (hap : xQ w 59 6 acc.length 1 dv (aN lN acc ++ lN d) v' w') :
  ∃ gk capk spk,v' = .slice (some ⟨gk,0,none⟩) (acc.length + 1) capk ∧ acc.length + 1 ≤ capk ∧ capk ≤ maxLen ∧ spk.length = (capk - (acc.length + 1)) * 6 ∧ bR w' gk (aN lN (acc ++ [d]) ++ spk) 59 ∧ bR w' b [.int .i64 m,dv] 163 ∧ Bw F w w' ∧ ¬ F gk := by
 obtain ⟨gk,capk,spk,rfl,h1,h2,h3,h4,h5⟩ := hap;rw [← iK] at h4;have hfr : ¬ F gk := by
  rcases h5 with ⟨⟨c,e⟩,_⟩ | ⟨e,_⟩
  ·exact h.nd gk (by rw [e]; rfl)
  ·exact fun hf => by have := h.und gk hf; omega
 have hb := h.var.lt;refine ⟨gk,capk,spk,rfl,h1,h2,h3,h4,?_,?_,hfr⟩
 ·rcases h5 with ⟨⟨c,e⟩,hu⟩ | ⟨_,hx⟩
  ·refine h.var.upd hu fun e2 => ?_
   subst e2;exact fH h.row h.var (by decide) (by rw [e]; simp [Value.ownBlock])
  ·exact h.var.ext hx
 ·rcases h5 with ⟨⟨c,e⟩,hu⟩ | ⟨_,hx⟩
  ·exact Bw.upd hu hfr
  ·exact Bw.of hx h.und
theorem yT.push {F : Fs} {w w' : World} {b gk capk : Nat} {m : Int} {acc : List Sy} {spk : List Value} (hF : lR F w.heap.size) (nb : ¬ F b) (hB : Bw F w w') (hv : bR w' b [.int .i64 m,.slice (some ⟨gk,0,none⟩) acc.length capk] 163) (h1 : acc.length ≤ capk) (h2 : capk ≤ maxLen) (h3 : spk.length = (capk - acc.length) * 6) (hk : bR w' gk (aN lN acc ++ spk) 59) (hfr : ¬ F gk) :
  Cv F w' b m acc :=
 ⟨_,fun z hz => Nat.lt_of_lt_of_le (hF z hz) hB.size,hv,bN (Nat.zero_le _) (aY dW _) h1 h2 h3 hk,nb,fun z hz => by cases hz; exact hfr⟩
theorem Hi : ∀ (n : Nat) (g : Mn),anc g.er ≤ n → ∀ (F : Fs) (w : World) (b : Nat) (m p : Int) (lp : Bool) (acc : List Sy),Cv F w b m acc → jY F w g → acc.length + anc g.er ≤ 1000000 →
  Cl Tryz.prog 107 #[.pointer (some ⟨b,0,none⟩),.agg g.cells.toArray,.int .i64 p,.bool lp] w (fun u w' => Cv F w' b m (oR m g.er p lp acc) ∧ Bw F w w') := by
 intro n
 induction n with
 | zero =>
  intro g hn
  cases g
  simp [Mn.er,anc] at hn
 | succ n ih =>
  intro g hn F w b m p lp acc hC hg hl;obtain ⟨h,cv,kids⟩ := g;obtain ⟨hs,hone,hbk,hkk⟩ : eT w cv 7 kids.length (aN Mn.cells kids) ∧ cv.oneCell' = true ∧ jT F cv ∧ ∀ g ∈ kids,jY F w g := by cases hg with | mk a b c d => exact ⟨a,b,c,d⟩
  simp only [Mn.er,anc] at hn hl;have hU := hC.und;have hx := bO.refl w;obtain ⟨k,hk⟩ : ∃ k,cW h lp = k := ⟨_,rfl⟩;refine Cl.enter Tryz.func107 rfl Tryz.ntmps107 rfl rfl (.sr (Rg.wd trivial (bA (cs := h.cells cv) rfl rfl) rfl ?_));rintro _ w1 ⟨b5,rfl,q5,hx1,hv5⟩;have hC5 := hC.add hx1 (Nat.le_of_eq q5.symm) hv5.lt;replace hx := hx.ext hx1;refine .done ?_;have hU5 := hC5.und;refine Wp.seq (Wp.cut (fun L w' => Gx.uQ [(0,.pointer (some ⟨b,0,none⟩)),(5,.pointer (some ⟨b5,0,none⟩)),(2,.int .i64 (gS h p lp acc)),(3,.bool lp)] L ∧ Cv (fun z => F z ∨ z = b5) w' b m (eU m h p lp acc) ∧ Bw (fun z => F z ∨ z = b5) w1 w') ?_ ?_)
  ·skip
   refine .sr ?_;refine .t2 (bD rfl hv5.cells (by exact cU)) ?_;refine .m2 rfl (Rg.wd trivial (aC Tryz.call167 rfl lK) rfl ?_);rintro _ w2 ⟨rfl,hx2⟩;have hB := Bw.of hx2 hU5;rw [hk];replace hv5 := hv5.ext hx2;replace hC5 := hC5.ext hx2;refine .a2 rfl (.done ?_);obtain ⟨bz,hbz⟩ : ∃ bz,decide (k ≠ 0) = bz := ⟨_,rfl⟩;refine .sr (.m2 rfl (.t2 (tN rfl rfl) ?_));rw [hbz];refine .done ?_
   by_cases h0 : k = 0
   ·obtain rfl : bz = false := by rw [← hbz]; simpa using h0
    refine .condF rfl (Wp.skip ?_);have e1 : eU m h p lp acc = acc := by unfold eU; rw [if_pos (by rw [hk]; exact h0)]
    have e2 : gS h p lp acc = p := by unfold gS; rw [if_neg (by rw [hk]; exact fun hh => hh.1 h0)]
    rw [e1,e2];exact ⟨by repeat (first | exact .nil | refine .cons rfl ?_),hC5,hB⟩
   ·obtain rfl : bz = true := by rw [← hbz]; simpa using h0
    have e1 : eU m h p lp acc = acc ++ [oL m h p lp] := by unfold eU; rw [if_neg (by rw [hk]; exact h0)]
    refine .condT rfl ?_;refine Wp.seq (Wp.cut (fun L w' => Gx.uQ [(0,.pointer (some ⟨b,0,none⟩)),(5,.pointer (some ⟨b5,0,none⟩)),(2,.int .i64 p),(3,.bool lp),(8,.int .i64 k),(9,.bool (sD h))] L ∧ w2 = w') ?_ ?_)
    ·by_cases hpk : h.kind ≤ 9
     ·skip
      refine Wp.region (.t2 (aA bK rfl) (.t2 (aB bB rfl (hv5.g 0 rfl)) ?_));refine .t2 (nG rfl rfl (by omega)) ?_;refine .m2 rfl ?_
      first | refine .gd (aA lG rfl) rfl ?_ | refine .so rfl rfl ?_
      refine .g2 (aB bB rfl (hv5.g 1 rfl)) (.g2 (Mq rfl rfl) (.g2 (tN rfl rfl) (.t2 (aM rfl rfl) ?_)));rw [show decide (Mp h.value 1 ≠ 0) = sD h from by unfold sD; rw [decide_eq_true hpk]; rfl];refine .a2 rfl (.done ?_);exact ⟨by repeat (first | exact .nil | refine .cons rfl ?_),rfl⟩
     ·skip
      refine Wp.region (.t2 (aA bK rfl) (.t2 (aB bB rfl (hv5.g 0 rfl)) ?_));refine .t2 (lU rfl rfl (by omega)) ?_;refine .m2 rfl (.so rfl rfl (.so rfl rfl (.so rfl rfl (.so rfl rfl (.t2 (aP rfl rfl) ?_)))));rw [show false = sD h from by unfold sD; rw [decide_eq_false hpk]; rfl];refine .a2 rfl (.done ?_);exact ⟨by repeat (first | exact .nil | refine .cons rfl ?_),rfl⟩
    ·rintro L' _ ⟨hs',rfl⟩
     refine Wp.sub hs' ?_;obtain ⟨i59,hi59,hz59,hsi59,hby59⟩ := F4;obtain ⟨dv,D⟩ := hC5;have hsy : lN (oL m h p lp) = [.int .i64 k,.int .i64 m,.int .i64 (iM h),.int .i64 p,.string h.text,.bool (sD h)] := by rw [← hk]; rfl
     refine Wp.seq (Wp.drawV (fun w' => bR w' b [.int .i64 m,dv] 163 ∧ bR w' b5 (h.cells cv) 27) [0,1,2,3,4,5,6,7,8,9,10,12,13,14,15,11,16,17,18,19,20,21] [0] mixed (by kernel_rfl) (by kernel_rfl) ?_);intro w3 hx3 hh3;replace hv5 := hv5.ext hx3;replace D := D.ext hx3;replace hB := sT hB hx3 hU5;refine ⟨⟨D.var,hv5⟩,?_⟩;refine Rv.tm trivial rfl (ts fun wz hkz => by exact aL rfl) rfl ?_;refine Rv.tm trivial rfl (ts fun wz hkz => by exact aL rfl) rfl ?_;refine Rv.tm trivial rfl (ts fun wz hkz => by exact aF rfl) rfl ?_;refine Rv.tm trivial rfl (ts fun wz hkz => by exact aA jJ rfl) rfl ?_;refine Rv.tm trivial rfl (ts fun wz hkz => by have y1 := hkz.1.cells; exact aB sW rfl (bC.get (i := 1) y1 rfl)) rfl ?_;refine Rv.tm trivial rfl (ts fun wz hkz => by exact aL rfl) rfl ?_;refine Rv.tm trivial rfl (ts fun wz hkz => by exact aL rfl) rfl ?_;refine Rv.tm trivial rfl (ts fun wz hkz => by exact aF rfl) rfl ?_;refine Rv.tm trivial rfl (ts fun wz hkz => by exact aA Bs rfl) rfl ?_;refine Rv.tm trivial rfl (ts fun wz hkz => by have y1 := hkz.1.cells; exact aB bB rfl (bC.get (i := 0) y1 rfl)) rfl ?_;refine Rv.tm trivial rfl (ts fun wz hkz => by have y5 := hkz.2.cells; exact bD rfl y5 (by exact cU)) rfl ?_;refine Rv.tm trivial rfl (ts fun wz hkz => by exact aL rfl) rfl ?_;refine Rv.tm trivial rfl (ts fun wz hkz => by exact aA nL rfl) rfl ?_;refine Rv.tm trivial rfl (ts fun wz hkz => by have y5 := hkz.2.cells; exact aB iC rfl (bC.get (i := 2) y5 rfl)) rfl ?_;refine Rv.tm trivial rfl (ts fun wz hkz => by exact aL rfl) rfl ?_;refine Rv.wd trivial rfl (aC Tryz.call168 rfl pG) rfl (fun _ _ hr => ⟨D.var.ext hr.2,hv5.ext hr.2⟩) ?_;rintro _ w4 ⟨rfl,hx4⟩;replace hB := sT hB hx4 hU5;replace hv5 := hv5.ext hx4;replace D := D.ext hx4;refine Rv.tm trivial rfl (ts fun wz hkz => by exact bV (kS _ _ _ _ _ _) rfl) rfl ?_;refine Rv.wd trivial rfl (aD (rM _ _ _ _ _ _) rfl) rfl (fun _ _ hr => by obtain ⟨_,_,_,hr,_⟩ := hr; exact ⟨D.var.ext hr,hv5.ext hr⟩) ?_;rintro _ w5 ⟨bb,rfl,qb,hx5,hvb⟩
     replace hB := sT hB hx5 hU5;replace hv5 := hv5.ext hx5;replace D := D.ext hx5;refine Rv.wd trivial rfl (eN Tryz.underlying53 hi59 hz59 hsi59 hby59 rfl rfl rfl D.row (dL hvb rfl) (by simp [Value.oneCell']) (by decide) (by unfold maxLen; omega) (by omega)) rfl (fun v2 wP hap => by obtain ⟨_,_,_,_,_,_,_,_,h6,h7,_⟩ := D.app (d := oL m h p lp) (v' := v2) (w' := wP) (by rw [hsy]; exact hap); exact ⟨h6,aE hv5 h7 (.inr rfl)⟩) ?_;rintro v2 wP hap;obtain ⟨gk,capk,spk,rfl,g1,g2,g3,hvk,hvP,hBP,hfr⟩ := D.app (d := oL m h p lp) (v' := v2) (w' := wP) (by rw [hsy]; exact hap);have hne : gk ≠ b := bR.ne hvk hvP (by decide);have hBz := hB.trans hBP;clear hB;refine Rv.tm trivial rfl (ts fun wz hkz => by exact aF rfl) rfl ?_;refine Rv.tm trivial rfl (ts fun wz hkz => by exact aA jJ rfl) rfl ?_;refine Rv.wnB (fun _ => True) trivial rfl (cC hvP sW rfl rfl rfl rfl rfl) (by rfl) (fun _ _ _ => trivial) ?_;rintro _ wS ⟨huS,hvS⟩;simp only [List.set] at hvS;have hBS := hBz.trans (Bw.upd huS D.nb);have hC6 : Cv (fun z => F z ∨ z = b5) wS b m (acc ++ [oL m h p lp]) := yT.push D.und D.nb (hBP.trans (Bw.upd huS D.nb)) (by simpa using hvS) (by simpa using g1) g2 (by simpa using g3) (hvk.upd huS hne) hfr;clear hvS hvk;refine Rv.done (.sr (.m2 rfl (Rg.wd trivial (aC Tryz.call169 rfl Ef) rfl ?_)));rintro _ _ ⟨rfl,rfl⟩;refine .done ?_
     cases hc : vT k with
     | true =>
      obtain ⟨dw,D2⟩ := hC6;have e2 : gS h p lp acc = acc.length := by unfold gS; rw [if_pos ⟨by rw [hk]; exact h0,by rw [hk]; exact hc⟩]
      have hs2 := fT D2.row;refine .condT rfl (Wp.region (.m2 rfl (.t2 (aF rfl) (.t2 (aA jJ rfl) (.t2 (aB sW rfl (D2.var.g 1 rfl)) (.t2 (bY hs2 Tryz.underlying53 rfl) ?_))))));refine .t2 (eA rfl rfl (by simp; omega)) ?_;rw [show (((acc ++ [oL m h p lp]).length : Nat) : Int) - 1 = acc.length from by simp];refine .a2 rfl (.done ?_);rw [e1,e2];exact ⟨by repeat (first | exact .nil | refine .cons rfl ?_),⟨dw,D2⟩,hBS⟩
     | false =>
      have e2 : gS h p lp acc = p := by unfold gS; rw [if_neg (by rw [hk,hc]; exact fun hh => absurd hh.2 (by decide))]
      refine .condF rfl (Wp.skip ?_);rw [e1,e2];exact ⟨by repeat (first | exact .nil | refine .cons rfl ?_),hC6,hBS⟩
  ·rintro L' wJ ⟨l,hC7,hB7⟩
   refine Wp.sub l ?_;have hv7 := aE hv5 hB7 (.inr rfl);have hB8 : Bw F w wJ := (Bw.of hx hU).trans (hB7.sub fun z hz => .inl hz);have hC8 : Cv F wJ b m (eU m h p lp acc) := hC7.sub fun z hz => .inl hz;clear hC7 hC5 hv5;refine Wp.seq (Wp.cut (fun L w' => Gx.uQ [(0,.pointer (some ⟨b,0,none⟩)),(5,.pointer (some ⟨b5,0,none⟩)),(2,.int .i64 (gS h p lp acc)),(3,.bool lp),(10,.bool (iF h lp))] L ∧ wJ = w') ?_ ?_)
   ·have hcase : (h.kind = 12 ∧ lp = true ∧ iF h lp = true) ∨ (h.kind = 12 ∧ lp = false ∧ iF h lp = false) ∨ (h.kind = 9 ∧ iF h lp = true) ∨ (h.kind = 38 ∧ iF h lp = true) ∨ (h.kind ≠ 12 ∧ h.kind ≠ 9 ∧ h.kind ≠ 38 ∧ iF h lp = false) := by
     by_cases c1 : h.kind = 12
     ·cases lp
      ·exact .inr (.inl ⟨c1,rfl,by simp [iF,c1]⟩)
      ·exact .inl ⟨c1,rfl,by simp [iF,c1]⟩
     ·by_cases c2 : h.kind = 9
      ·exact .inr (.inr (.inl ⟨c2,by simp [iF,c2]⟩))
      ·by_cases c3 : h.kind = 38
       ·exact .inr (.inr (.inr (.inl ⟨c3,by simp [iF,c3]⟩)))
       ·exact .inr (.inr (.inr (.inr ⟨c1,c2,c3,by simp [iF,c1,c2,c3]⟩)))
    (rcases hcase with ⟨c1,rfl,hloc⟩ | ⟨c1,rfl,hloc⟩ | ⟨c1,hloc⟩ | ⟨c1,hloc⟩ | ⟨c1,c2,c3,hloc⟩) <;> rw [hloc]
    ·skip
     refine Wp.region (.t2 (aA bK rfl) (.t2 (aB bB rfl (hv7.g 0 rfl)) ?_));refine .t2 (aX rfl rfl (by omega)) ?_;refine .m2 rfl ?_
     first | refine .gd (aL rfl) rfl ?_ | refine .so rfl rfl ?_
     refine .t2 (aM rfl rfl) (.m2 rfl (.so rfl rfl (.so rfl rfl (.so rfl rfl (.t2 (aM rfl rfl) (.m2 rfl (.so rfl rfl (.so rfl rfl (.so rfl rfl (.t2 (aM rfl rfl) (.a2 rfl (.done ?_))))))))))));exact ⟨by repeat (first | exact .nil | refine .cons rfl ?_),rfl⟩
    ·skip
     refine Wp.region (.t2 (aA bK rfl) (.t2 (aB bB rfl (hv7.g 0 rfl)) ?_));refine .t2 (aX rfl rfl (by omega)) ?_;refine .m2 rfl ?_
     first | refine .gd (aL rfl) rfl ?_ | refine .so rfl rfl ?_
     refine .t2 (aM rfl rfl) (.m2 rfl ?_)
     first | refine .gd (aA bK rfl) rfl ?_ | refine .so rfl rfl ?_
     refine .g2 (aB bB rfl (hv7.g 0 rfl)) ?_;refine .g2 (aQ rfl rfl (by omega)) ?_;refine .t2 (aP rfl rfl) (.m2 rfl ?_)
     first | refine .gd (aA bK rfl) rfl ?_ | refine .so rfl rfl ?_
     refine .g2 (aB bB rfl (hv7.g 0 rfl)) ?_;refine .g2 (aQ rfl rfl (by omega)) ?_;refine .t2 (aP rfl rfl) (.a2 rfl (.done ?_));exact ⟨by repeat (first | exact .nil | refine .cons rfl ?_),rfl⟩
    ·skip
     refine Wp.region (.t2 (aA bK rfl) (.t2 (aB bB rfl (hv7.g 0 rfl)) ?_));refine .t2 (aQ rfl rfl (by omega)) ?_;refine .m2 rfl (.so rfl rfl (.t2 (aP rfl rfl) (.m2 rfl ?_)))
     first | refine .gd (aA bK rfl) rfl ?_ | refine .so rfl rfl ?_
     refine .g2 (aB bB rfl (hv7.g 0 rfl)) ?_;refine .g2 (aX rfl rfl (by omega)) ?_;refine .t2 (aP rfl rfl) (.m2 rfl (.so rfl rfl (.so rfl rfl (.so rfl rfl (.t2 (aM rfl rfl) (.a2 rfl (.done ?_)))))));exact ⟨by repeat (first | exact .nil | refine .cons rfl ?_),rfl⟩
    ·skip
     refine Wp.region (.t2 (aA bK rfl) (.t2 (aB bB rfl (hv7.g 0 rfl)) ?_));refine .t2 (aQ rfl rfl (by omega)) ?_;refine .m2 rfl (.so rfl rfl (.t2 (aP rfl rfl) (.m2 rfl ?_)))
     first | refine .gd (aA bK rfl) rfl ?_ | refine .so rfl rfl ?_
     refine .g2 (aB bB rfl (hv7.g 0 rfl)) ?_;refine .g2 (aQ rfl rfl (by omega)) ?_;refine .t2 (aP rfl rfl) (.m2 rfl ?_)
     first | refine .gd (aA bK rfl) rfl ?_ | refine .so rfl rfl ?_
     refine .g2 (aB bB rfl (hv7.g 0 rfl)) ?_;refine .g2 (aX rfl rfl (by omega)) ?_;refine .t2 (aP rfl rfl) (.a2 rfl (.done ?_));exact ⟨by repeat (first | exact .nil | refine .cons rfl ?_),rfl⟩
    ·skip
     refine Wp.region (.t2 (aA bK rfl) (.t2 (aB bB rfl (hv7.g 0 rfl)) ?_));refine .t2 (aQ rfl rfl (by omega)) ?_;refine .m2 rfl (.so rfl rfl (.t2 (aP rfl rfl) (.m2 rfl ?_)))
     first | refine .gd (aA bK rfl) rfl ?_ | refine .so rfl rfl ?_
     refine .g2 (aB bB rfl (hv7.g 0 rfl)) ?_;refine .g2 (aQ rfl rfl (by omega)) ?_;refine .t2 (aP rfl rfl) (.m2 rfl ?_)
     first | refine .gd (aA bK rfl) rfl ?_ | refine .so rfl rfl ?_
     refine .g2 (aB bB rfl (hv7.g 0 rfl)) ?_;refine .g2 (aQ rfl rfl (by omega)) ?_;refine .t2 (aP rfl rfl) (.a2 rfl (.done ?_));exact ⟨by repeat (first | exact .nil | refine .cons rfl ?_),rfl⟩
   ·rintro L' _ ⟨hs',rfl⟩
    refine Wp.sub hs' ?_;have hs9 : eT wJ cv 7 kids.length (aN Mn.cells kids) := kH hs hB8 hbk;refine .sr (.t2 (aA rI rfl) (.t2 (aB zT rfl (hv7.g 6 rfl)) (.t2 (bY hs9 Tryz.underlying25 rfl) (.m2 rfl (.done (Wp.block ?_))))));obtain ⟨p2,hp2⟩ : ∃ q,gS h p lp acc = q := ⟨_,rfl⟩;obtain ⟨l2,hl2⟩ : ∃ q,iF h lp = q := ⟨_,rfl⟩;obtain ⟨acc2,hacc2⟩ : ∃ q,eU m h p lp acc = q := ⟨_,rfl⟩;have hlen2 : acc2.length ≤ acc.length + 1 := by rw [← hacc2]; exact (sE _ _ _ _ _).2
    have hres : oR m (.mk h (kL kids)) p lp acc = fQ m (kL kids) p2 l2 acc2 := by rw [oR,hp2,hl2,hacc2]
    rw [hp2,hl2];rw [hacc2] at hC8;have hkl := yP (kL kids);rw [iQ] at hkl;refine Wp.loop (ι := Nat) (fun i => [(0,.pointer (some ⟨b,0,none⟩)),(2,.int .i64 p2),(10,.bool l2),(73,cv),(74,.int .i64 kids.length),(75,.int .i64 i)])
     (fun i w' => i ≤ kids.length ∧ Cv F w' b m (fQ m ((kL kids).take i) p2 l2 acc2) ∧ Bw F w w') (fun i => kids.length - i) 0 (by repeat (first | exact .nil | refine .cons rfl ?_)) ⟨Nat.zero_le _,hC8,hB8⟩ ?_
    rintro i wl ⟨hi,hCi,hBi⟩;have hsi := kH hs hBi hbk
    by_cases hlt : i < kids.length
    ·have hge : (kL kids)[i]'(by rw [iQ]; exact hlt) = kids[i].er := vS kids i hlt
     have hcm : anc kids[i].er ≤ hZ (kL kids) := yQ (by rw [← hge]; exact List.getElem_mem _);have hgi : jY F wl kids[i] := jY.bw (hkk _ (List.getElem_mem hlt)) hBi fun z hz => hz;have hog := hgi.oneL;have hxx := bO.refl wl;have hvl := oM m ((kL kids).take (i + 1)) p2 l2 acc2;have hst := Ee m (kL kids) p2 l2 acc2 i (by rw [iQ]; exact hlt);rw [hge] at hst;have hv0 := oM m ((kL kids).take i) p2 l2 acc2;have hsum : hZ ((kL kids).take i) + anc kids[i].er ≤ hZ (kL kids) := by
      have e : kL kids = (kL kids).take i ++ (kL kids).drop i := (List.take_append_drop _ _).symm;rw [e,yR,List.take_append_of_le_length (by simp; rw [iQ]; omega),List.take_take,Nat.min_self];rw [List.drop_eq_getElem_cons (by rw [iQ]; exact hlt),hge];simp only [hZ];omega
     refine .sr ?_
     first | refine .tq (bG rfl rfl (by omega)) rfl ?_ | refine .tq (bJ rfl rfl (by omega)) rfl ?_ | refine .tq (cX rfl rfl) rfl ?_
     refine .done (.seq (.condT rfl (Wp.skip (.seq (Wp.block (.sr ?_))))));refine Rg.ix hsi trivial rfl rfl Tryz.underlying25 cU (by omega) rfl ?_;intro bt77 ot77 ht77;rw [Int.toNat_natCast,bW Mn.len kids i hlt] at ht77;refine .t2 (bD rfl ht77 (by rw [Mn.len]; exact cU)) ?_;refine Rg.wd trivial (cM Tryz.zeroValue27 rfl) rfl ?_;rintro _ wab12 ⟨b12,rfl,qb12,f,j⟩;refine Rg.wn trivial (cE (cs := kids[i].cells) j rfl rfl rfl (by rw [Mn.len]; exact cU) (by rw [Mn.len]; rfl) (hog)) ?_;rintro _ w81 ⟨hub12,hvb12⟩;have hx81 := f.upd hub12 (Nat.le_of_eq qb12.symm);clear j hub12 f;replace hxx := hxx.ext hx81;replace hsi := hsi.ext hx81;replace ht77 := ht77.ext hx81;clear qb12;refine .done (Wp.region (.m2 rfl ?_));refine .t2 (bD rfl hvb12.cells (by rw [Mn.len]; exact cU)) ?_;refine .m2 rfl (.m2 rfl ?_);refine Rg.wd trivial (aC Tryz.call107 rfl (ih kids[i] (by omega) F _ b m p2 l2 _ (hCi.ext hxx) (hgi.bw (Bw.of hxx hCi.und) fun z hz => hz) (by omega))) rfl ?_;rintro _ wr ⟨hCr,hBr⟩;have hBn := (sT hBi hxx hU).trans hBr;refine .done (Wp.region ?_)
     first | refine .tq (bE rfl rfl (by omega)) rfl ?_ | refine .tq (fX rfl rfl) rfl ?_
     refine .m2 rfl (.done ?_);exact ⟨i + 1,by repeat (first | exact .nil | refine .cons rfl ?_),⟨hlt,by rw [hst]; exact hCr,hBn⟩,by omega⟩
    ·obtain rfl : i = kids.length := by omega
     refine .sr ?_
     first | refine .tq (bG rfl rfl (by omega)) rfl ?_ | refine .tq (bJ rfl rfl (by omega)) rfl ?_ | refine .tq (cX rfl rfl) rfl ?_
     refine .done (.seq (.condF rfl (Wp.exit ?_)));rw [← iQ kids,List.take_length] at hCi;exact ⟨[],trivial,by rw [show (Mn.mk h cv kids).er = .mk h (kL kids) from rfl,hres]; exact hCi,hBi⟩
end Go.Proofs.YtiogccmfmjhipaaGreatDoor.Sym
namespace Go.Proofs.YtiogccmfmjhipaaGreatDoor.Sym
set_option maxRecDepth 20000
open Go.Gx Go.RowKit Go.Lib
open Lexi (iB tok)
open Par Ast
abbrev Md := ByteArray × ByteArray
def iA (m : Md) : List Value := [.string m.1,.string m.2]
theorem eE (m : Md) : (iA m).length = 2 := rfl
def vW : Option Nat → Int
 | none => -1
 | some k => k
theorem vX (o : Option Nat) : (decide (vW o ≥ 0)) = o.isSome := by
 cases o
 ·rfl
 ·simp [vW]
theorem Cg {w : World} {v : Value} {a : List Md} {f : FuncId} {fst cap : List Value} {p : Md → Bool} (hs0 : eT w v 2 a.length (aN iA a)) (hcf : ∀ (args : Array Value) (w : World),(callFunc f args).run Tryz.prog w = .ok (.enter f args) w)
  (hp : ∀ w1,bO w w1 → ∀ m ∈ a,Cl Tryz.prog f (fst ++ ([.agg (iA m).toArray] : List Value) ++ cap).toArray w1 (fun u w2 => u = .bool (p m) ∧ bO w1 w2)) (hlen : a.length < 4611686018427387904) :
  Cl Tryz.prog 226 #[v,.func (.func f) fst.toArray cap.toArray] w (fun u w' => u = .int .i64 (vW (a.findIdx? p)) ∧ bO w w') := by
 have hx := bO.refl w;refine Cl.enter Tryz.func226 rfl Tryz.ntmps226 rfl rfl (.sr (.a2 rfl (.done (.seq (.sr (.m2 rfl (.t2 (bY hs0 Tryz.underlying49 rfl) (.m2 rfl (.done (Wp.block ?_))))))))));refine Wp.loop (ι := Nat) (fun k => [(0,v),(1,.func (.func f) fst.toArray cap.toArray),(7,.int .i64 a.length),(8,.int .i64 k)])
  (fun k w' => k ≤ a.length ∧ (∀ j (h : j < a.length),j < k → p a[j] = false) ∧ bO w w') (fun k => a.length - k) 0 (by repeat (first | exact .nil | refine .cons rfl ?_)) ⟨Nat.zero_le _,fun j _ h => absurd h (Nat.not_lt_zero _),hx⟩ ?_
 clear hx;rintro k w3 ⟨hk,hno,hx⟩
 by_cases hlt : k < a.length
 ·cases hpk : p a[k] with
  | true =>
   refine .sr ?_
   first | refine .tq (bG rfl rfl (by omega)) rfl ?_ | refine .tq (bJ rfl rfl (by omega)) rfl ?_ | refine .tq (cX rfl rfl) rfl ?_
   refine .done (.seq (.condT rfl (Wp.skip (.seq (Wp.block (.sr (.m2 rfl (.a2 rfl (.done (.sr (.m2 rfl (.m2 rfl ?_))))))))))));refine .m2 rfl ?_;refine Rg.ix hs0 trivial rfl rfl Tryz.underlying49 jZ (by omega) rfl ?_;intro bt14 ot14 ht14;replace ht14 := ht14.ext hx;rw [Int.toNat_natCast,bW eE a k hlt] at ht14;refine .t2 (bD rfl ht14 (by exact jZ)) ?_;refine Rg.wd trivial (jK rfl hcf rfl (vs := [.agg (iA a[k]).toArray]) (hp _ hx a[k] (List.getElem_mem hlt))) rfl ?_;rintro _ w1 ⟨rfl,hx1⟩;replace hx := hx.ext hx1;replace ht14 := ht14.ext hx1;rw [hpk];refine .done (.condT rfl (.sr (.m2 rfl (.a2 rfl (.done (Wp.ret ?_))))));exact ⟨[_],⟨rfl,trivial⟩,by rw [List.findIdx?_eq_some_iff_getElem.2 ⟨hlt,hpk,fun j hj => by rw [hno j (by omega) hj]; decide⟩]; rfl,hx⟩
  | false =>
   refine .sr ?_
   first | refine .tq (bG rfl rfl (by omega)) rfl ?_ | refine .tq (bJ rfl rfl (by omega)) rfl ?_ | refine .tq (cX rfl rfl) rfl ?_
   refine .done (.seq (.condT rfl (Wp.skip (.seq (Wp.block (.sr (.m2 rfl (.a2 rfl (.done (.sr (.m2 rfl (.m2 rfl ?_))))))))))));refine .m2 rfl ?_;refine Rg.ix hs0 trivial rfl rfl Tryz.underlying49 jZ (by omega) rfl ?_;intro bt14 ot14 ht14;replace ht14 := ht14.ext hx;rw [Int.toNat_natCast,bW eE a k hlt] at ht14;refine .t2 (bD rfl ht14 (by exact jZ)) ?_;refine Rg.wd trivial (jK rfl hcf rfl (vs := [.agg (iA a[k]).toArray]) (hp _ hx a[k] (List.getElem_mem hlt))) rfl ?_;rintro _ w1 ⟨rfl,hx1⟩;replace hx := hx.ext hx1;replace ht14 := ht14.ext hx1;rw [hpk];refine .done (.condF rfl (Wp.skip (Wp.region ?_)))
   first | refine .tq (bE rfl rfl (by omega)) rfl ?_ | refine .tq (fX rfl rfl) rfl ?_
   refine .m2 rfl (.done ?_);exact ⟨k + 1,by repeat (first | exact .nil | refine .cons rfl ?_),⟨hlt,fun j h hj => by rcases Nat.lt_succ_iff_lt_or_eq.1 hj with c | c; exact hno j h c; subst c; exact hpk,hx⟩,by omega⟩
 ·skip
  refine .sr ?_
  first | refine .tq (bG rfl rfl (by omega)) rfl ?_ | refine .tq (bJ rfl rfl (by omega)) rfl ?_ | refine .tq (cX rfl rfl) rfl ?_
  refine .done (.seq (.condF rfl (Wp.exit (.sr (.a2 rfl (.done (Wp.ret ?_)))))));exact ⟨[_],⟨rfl,trivial⟩,by rw [List.findIdx?_eq_none_iff.2 fun x hx => by obtain ⟨j,hj,rfl⟩ := List.getElem_of_mem hx; exact hno j hj (by omega)]; rfl,hx⟩
theorem Ke {w : World} {v : Value} {a : List Sy} {f : FuncId} {fst cap : List Value} {p : Sy → Bool} (hs0 : eT w v 6 a.length (aN lN a)) (hcf : ∀ (args : Array Value) (w : World),(callFunc f args).run Tryz.prog w = .ok (.enter f args) w)
  (hp : ∀ w1,bO w w1 → ∀ m ∈ a,Cl Tryz.prog f (fst ++ ([.agg (lN m).toArray] : List Value) ++ cap).toArray w1 (fun u w2 => u = .bool (p m) ∧ bO w1 w2)) (hlen : a.length < 4611686018427387904) :
  Cl Tryz.prog 59 #[v,.func (.func f) fst.toArray cap.toArray] w (fun u w' => u = .int .i64 (vW (a.findIdx? p)) ∧ bO w w') := by
 have hx := bO.refl w;refine Cl.enter Tryz.func59 rfl Tryz.ntmps59 rfl rfl (.sr (.a2 rfl (.done (.seq (.sr (.m2 rfl (.t2 (bY hs0 Tryz.underlying53 rfl) (.m2 rfl (.done (Wp.block ?_))))))))));refine Wp.loop (ι := Nat) (fun k => [(0,v),(1,.func (.func f) fst.toArray cap.toArray),(7,.int .i64 a.length),(8,.int .i64 k)])
  (fun k w' => k ≤ a.length ∧ (∀ j (h : j < a.length),j < k → p a[j] = false) ∧ bO w w') (fun k => a.length - k) 0 (by repeat (first | exact .nil | refine .cons rfl ?_)) ⟨Nat.zero_le _,fun j _ h => absurd h (Nat.not_lt_zero _),hx⟩ ?_
 clear hx;rintro k w3 ⟨hk,hno,hx⟩
 by_cases hlt : k < a.length
 ·cases hpk : p a[k] with
  | true =>
   refine .sr ?_
   first | refine .tq (bG rfl rfl (by omega)) rfl ?_ | refine .tq (bJ rfl rfl (by omega)) rfl ?_ | refine .tq (cX rfl rfl) rfl ?_
   refine .done (.seq (.condT rfl (Wp.skip (.seq (Wp.block (.sr (.m2 rfl (.a2 rfl (.done (.sr (.m2 rfl (.m2 rfl ?_))))))))))));refine .m2 rfl ?_;refine Rg.ix hs0 trivial rfl rfl Tryz.underlying53 eL (by omega) rfl ?_;intro bt14 ot14 ht14;replace ht14 := ht14.ext hx;rw [Int.toNat_natCast,bW dW a k hlt] at ht14;refine .t2 (bD rfl ht14 (by exact eL)) ?_;refine Rg.wd trivial (jK rfl hcf rfl (vs := [.agg (lN a[k]).toArray]) (hp _ hx a[k] (List.getElem_mem hlt))) rfl ?_;rintro _ w1 ⟨rfl,hx1⟩;replace hx := hx.ext hx1;replace ht14 := ht14.ext hx1;rw [hpk];refine .done (.condT rfl (.sr (.m2 rfl (.a2 rfl (.done (Wp.ret ?_))))));exact ⟨[_],⟨rfl,trivial⟩,by rw [List.findIdx?_eq_some_iff_getElem.2 ⟨hlt,hpk,fun j hj => by rw [hno j (by omega) hj]; decide⟩]; rfl,hx⟩
  | false =>
   refine .sr ?_
   first | refine .tq (bG rfl rfl (by omega)) rfl ?_ | refine .tq (bJ rfl rfl (by omega)) rfl ?_ | refine .tq (cX rfl rfl) rfl ?_
   refine .done (.seq (.condT rfl (Wp.skip (.seq (Wp.block (.sr (.m2 rfl (.a2 rfl (.done (.sr (.m2 rfl (.m2 rfl ?_))))))))))));refine .m2 rfl ?_;refine Rg.ix hs0 trivial rfl rfl Tryz.underlying53 eL (by omega) rfl ?_;intro bt14 ot14 ht14;replace ht14 := ht14.ext hx;rw [Int.toNat_natCast,bW dW a k hlt] at ht14;refine .t2 (bD rfl ht14 (by exact eL)) ?_;refine Rg.wd trivial (jK rfl hcf rfl (vs := [.agg (lN a[k]).toArray]) (hp _ hx a[k] (List.getElem_mem hlt))) rfl ?_;rintro _ w1 ⟨rfl,hx1⟩;replace hx := hx.ext hx1;replace ht14 := ht14.ext hx1;rw [hpk];refine .done (.condF rfl (Wp.skip (Wp.region ?_)))
   first | refine .tq (bE rfl rfl (by omega)) rfl ?_ | refine .tq (fX rfl rfl) rfl ?_
   refine .m2 rfl (.done ?_);exact ⟨k + 1,by repeat (first | exact .nil | refine .cons rfl ?_),⟨hlt,fun j h hj => by rcases Nat.lt_succ_iff_lt_or_eq.1 hj with c | c; exact hno j h c; subst c; exact hpk,hx⟩,by omega⟩
 ·skip
  refine .sr ?_
  first | refine .tq (bG rfl rfl (by omega)) rfl ?_ | refine .tq (bJ rfl rfl (by omega)) rfl ?_ | refine .tq (cX rfl rfl) rfl ?_
  refine .done (.seq (.condF rfl (Wp.exit (.sr (.a2 rfl (.done (Wp.ret ?_)))))));exact ⟨[_],⟨rfl,trivial⟩,by rw [List.findIdx?_eq_none_iff.2 fun x hx => by obtain ⟨j,hj,rfl⟩ := List.getElem_of_mem hx; exact hno j hj (by omega)]; rfl,hx⟩
theorem oN {w : World} {v : Value} {a : List Md} {f : FuncId} {fst cap : List Value} {p : Md → Bool} (hs0 : eT w v 2 a.length (aN iA a)) (hcf : ∀ (args : Array Value) (w : World),(callFunc f args).run Tryz.prog w = .ok (.enter f args) w)
  (hp : ∀ w1,bO w w1 → ∀ m ∈ a,Cl Tryz.prog f (fst ++ ([.agg (iA m).toArray] : List Value) ++ cap).toArray w1 (fun u w2 => u = .bool (p m) ∧ bO w1 w2)) (hlen : a.length < 4611686018427387904) :
  Cl Tryz.prog 162 #[v,.func (.func f) fst.toArray cap.toArray] w (fun u w' => u = .bool (a.any p) ∧ bO w w') := by
 have hx := bO.refl w;refine Cl.enter Tryz.func162 rfl Tryz.ntmps162 rfl rfl (.sr (.a2 rfl (.done (.sr (.m2 rfl (.m2 rfl (Rg.wd trivial (aC Tryz.call226 rfl (Cg hs0 hcf hp hlen)) rfl ?_)))))));rintro _ w1 ⟨rfl,hx1⟩;replace hx := hx.ext hx1;refine .t2 (lV rfl rfl) ?_;rw [vX,List.findIdx?_isSome];refine .a2 rfl (.done (Wp.ret ?_));exact ⟨[_],⟨rfl,trivial⟩,rfl,hx⟩
def lD (s : ByteArray) : Bool := decide (0 < s.size) && decide (s.size ≤ 30) && decide ((tok s).1 = (s.size : Int)) && decide ((tok s).2 = (103 : Int))
theorem qK {w : World} {s : ByteArray} (hA : iB w) : Cl Tryz.prog 165 #[.string s] w (fun u w' => u = .bool (lD s) ∧ bO w w') := by
 have hx := bO.refl w;unfold lD
 by_cases h0 : 0 < s.size
 ·by_cases h1 : s.size ≤ 30
  ·by_cases h2 : ((tok s).1 : Int) = s.size
   ·skip
    refine Cl.enter Tryz.func165 rfl Tryz.ntmps165 rfl rfl (.sr (.a2 rfl (.done (.seq (.sr (.m2 rfl (.t2 (cN Tryz.underlying9 rfl) ?_)))))));refine .t2 (aQ rfl rfl (by omega)) ?_;refine .m2 rfl ?_
    first | refine .gd (aL rfl) rfl ?_ | refine .so rfl rfl ?_
    refine .g2 (cN Tryz.underlying9 rfl) ?_;refine .g2 (iH rfl rfl (by omega)) ?_;refine .t2 (aP rfl rfl) (.done (.condF rfl (Wp.skip (.sr (.m2 rfl ?_)))));refine Rg.wd trivial (aC Tryz.call51 rfl (Lexi.rO (by omega) h0 (hA.ext hx))) rfl ?_;rintro _ w1 ⟨rfl,hx1⟩;replace hx := hx.ext hx1;refine .m2 rfl (.t2 (aV rfl rfl) (.t2 (aV rfl rfl) (.a2 rfl (.a2 rfl (.done (.sr (.m2 rfl (.m2 rfl (.t2 (cN Tryz.underlying9 rfl) (.t2 (aX rfl rfl h2) (.m2 rfl ?_)))))))))))
    first | refine .gd (aL rfl) rfl ?_ | refine .so rfl rfl ?_
    refine .g2 (jQ rfl rfl) (.t2 (aM rfl rfl) (.a2 rfl (.done (Wp.ret ?_))));exact ⟨[_],⟨rfl,trivial⟩,by simp [h0,h1,h2]; rfl,hx⟩
   ·skip
    refine Cl.enter Tryz.func165 rfl Tryz.ntmps165 rfl rfl (.sr (.a2 rfl (.done (.seq (.sr (.m2 rfl (.t2 (cN Tryz.underlying9 rfl) ?_)))))));refine .t2 (aQ rfl rfl (by omega)) ?_;refine .m2 rfl ?_
    first | refine .gd (aL rfl) rfl ?_ | refine .so rfl rfl ?_
    refine .g2 (cN Tryz.underlying9 rfl) ?_;refine .g2 (iH rfl rfl (by omega)) ?_;refine .t2 (aP rfl rfl) (.done (.condF rfl (Wp.skip (.sr (.m2 rfl ?_)))));refine Rg.wd trivial (aC Tryz.call51 rfl (Lexi.rO (by omega) h0 (hA.ext hx))) rfl ?_;rintro _ w1 ⟨rfl,hx1⟩;replace hx := hx.ext hx1;refine .m2 rfl (.t2 (aV rfl rfl) (.t2 (aV rfl rfl) (.a2 rfl (.a2 rfl (.done (.sr (.m2 rfl (.m2 rfl (.t2 (cN Tryz.underlying9 rfl) (.t2 (aQ rfl rfl h2) (.m2 rfl (.so rfl rfl ?_))))))))))));refine .so rfl rfl (.t2 (aP rfl rfl) (.a2 rfl (.done (Wp.ret ?_))));exact ⟨[_],⟨rfl,trivial⟩,by simp [h2]; rfl,hx⟩
  ·skip
   refine Cl.enter Tryz.func165 rfl Tryz.ntmps165 rfl rfl (.sr (.a2 rfl (.done (.seq (.sr (.m2 rfl (.t2 (cN Tryz.underlying9 rfl) ?_)))))));refine .t2 (aQ rfl rfl (by omega)) ?_;refine .m2 rfl ?_
   first | refine .gd (aL rfl) rfl ?_ | refine .so rfl rfl ?_
   refine .g2 (cN Tryz.underlying9 rfl) ?_;refine .g2 (kF rfl rfl (by omega)) ?_;refine .t2 (aP rfl rfl) (.done (.condT rfl (.sr (.a2 rfl (.done (Wp.ret ?_))))));exact ⟨[_],⟨rfl,trivial⟩,by simp [h1]; rfl,hx⟩
 ·skip
  refine Cl.enter Tryz.func165 rfl Tryz.ntmps165 rfl rfl (.sr (.a2 rfl (.done (.seq (.sr (.m2 rfl (.t2 (cN Tryz.underlying9 rfl) ?_)))))));refine .t2 (aX rfl rfl (by omega)) ?_;refine .m2 rfl (.so rfl rfl (.so rfl rfl (.so rfl rfl (.t2 (aM rfl rfl) (.done (.condT rfl (.sr (.a2 rfl (.done (Wp.ret ?_))))))))));exact ⟨[_],⟨rfl,trivial⟩,by simp [h0]; rfl,hx⟩
theorem pI {w : World} {m : Md} : Cl Tryz.prog 163 #[.agg (iA m).toArray] w (fun u w' => u = .bool (decide ((2000 : Int) < m.2.size)) ∧ bO w w') := by
 have hx := bO.refl w;refine Cl.enter Tryz.func163 rfl Tryz.ntmps163 rfl rfl (.sr (Rg.wd trivial (bA (cs := iA m) rfl rfl) rfl ?_));rintro _ w1 ⟨b1,rfl,q1,hx1,hv1⟩;replace hx := hx.ext hx1;refine .a2 rfl (.done (.sr (.t2 (aA rJ rfl) (.t2 (aB iC rfl (hv1.g 1 rfl)) (.t2 (cN Tryz.underlying9 rfl) (.t2 (Fc rfl rfl) (.a2 rfl (.done (Wp.ret ?_)))))))));exact ⟨[_],⟨rfl,trivial⟩,rfl,hx⟩
theorem uH {w : World} {m : Md} (hA : iB w) : Cl Tryz.prog 164 #[.agg (iA m).toArray] w (fun u w' => u = .bool (!lD m.1) ∧ bO w w') := by
 have hx := bO.refl w;refine Cl.enter Tryz.func164 rfl Tryz.ntmps164 rfl rfl (.sr (Rg.wd trivial (bA (cs := iA m) rfl rfl) rfl ?_));rintro _ w1 ⟨b1,rfl,q1,hx1,hv1⟩;replace hx := hx.ext hx1;refine .a2 rfl (.done (.sr (.t2 (aA oW rfl) (.t2 (aB iC rfl (hv1.g 0 rfl)) (Rg.wd trivial (aC Tryz.call165 rfl (qK (hA.ext hx))) rfl ?_)))));rintro _ w2 ⟨rfl,hx2⟩;replace hx := hx.ext hx2;replace hv1 := hv1.ext hx2;refine .t2 (bT rfl) (.a2 rfl (.done (Wp.ret ?_)));exact ⟨[_],⟨rfl,trivial⟩,rfl,hx⟩
def Eg (ms : List Md) (nm : ByteArray) : Option Nat := ms.findIdx? fun m => decide (m.1 = nm)
theorem Eh {w : World} {m : Md} {nm : ByteArray} {b : Nat} (hv : bR w b [.string nm] 9) : Cl Tryz.prog 227 #[.agg (iA m).toArray,.pointer (some ⟨b,0,none⟩)] w (fun u w' => u = .bool (decide (m.1 = nm)) ∧ bO w w') := by
 have hx := bO.refl w;refine Cl.enter Tryz.func227 rfl Tryz.ntmps227 rfl rfl (.sr (Rg.wd trivial (bA (cs := iA m) rfl rfl) rfl ?_));rintro _ w1 ⟨b1,rfl,q1,hx1,hv1⟩;replace hx := hx.ext hx1;replace hv := hv.ext hx1;refine .a2 rfl (.done (.sr (.t2 (aA oW rfl) (.t2 (aB iC rfl (hv1.g 0 rfl)) (.t2 (aB iC rfl (hv.g 0 rfl)) (.t2 (lW rfl rfl) (.a2 rfl (.done (Wp.ret ?_)))))))));exact ⟨[_],⟨rfl,trivial⟩,rfl,hx⟩
theorem sH {w : World} {v : Value} {a : List Md} {nm : ByteArray} (hs0 : eT w v 2 a.length (aN iA a)) (hlen : a.length < 4611686018427387904) :
  Cl Tryz.prog 166 #[v,.string nm] w (fun u w' => u = .int .i64 (vW (Eg a nm)) ∧ bO w w') := by
 have hx := bO.refl w;refine Cl.enter Tryz.func166 rfl Tryz.ntmps166 rfl rfl (.sr (Rg.wd trivial (bA (cs := [.string nm]) rfl rfl) rfl ?_));rintro _ w1 ⟨b3,rfl,q3,hx1,hv3⟩;replace hx := hx.ext hx1;refine .a2 rfl (.done (.sr (.m2 rfl (.t2 (aK (us := []) (vs := [.pointer (some ⟨b3,0,none⟩)]) rfl rfl) (Rg.wd trivial (aC Tryz.call226 rfl (Cg (fst := []) (cap := [.pointer (some ⟨b3,0,none⟩)]) (hs0.ext hx) Tryz.call227 (fun w1 x1 m _ => Eh (hv3.ext x1)) hlen)) rfl ?_)))));rintro _ w2 ⟨rfl,hx2⟩;replace hx := hx.ext hx2;replace hv3 := hv3.ext hx2;refine .a2 rfl (.done (Wp.ret ?_));exact ⟨[_],⟨rfl,trivial⟩,rfl,hx⟩
def Ei (ms : List Md) (i : Nat) : Bool := (Eg (ms.take i) (ms.getD i (.empty,.empty)).1).isSome
def sI (ms : List Md) : Bool := (List.range ms.length).any (Ei ms)
def lL (ms : List Md) : Int := if 8 < ms.length ∨ (ms.any fun m => decide ((2000 : Int) < m.2.size)) = true then 2 else if (ms.any fun m => !lD m.1) = true then 3 else if sI ms = true then 6 else 0
theorem pZ {w : World} {v : Value} {ms : List Md} (hA : iB w) (hs0 : eT w v 2 ms.length (aN iA ms)) (hlen : ms.length < 4611686018427387904) :
  Cl Tryz.prog 106 #[v] w (fun u w' => u = .int .i64 (lL ms) ∧ bO w w') := by
 have hx := bO.refl w;unfold lL
 by_cases h8 : 8 < ms.length
 ·rw [if_pos (.inl h8)]
  refine Cl.enter Tryz.func106 rfl Tryz.ntmps106 rfl rfl (.sr (.a2 rfl (.done (.seq (.sr (.m2 rfl (.t2 (bY hs0 Tryz.underlying49 rfl) ?_)))))));refine .t2 (kF rfl rfl (by omega)) ?_;refine .m2 rfl (.so rfl rfl (.so rfl rfl (.t2 (aM rfl rfl) (.done (.condT rfl (.sr (.a2 rfl (.done (Wp.ret ?_)))))))));exact ⟨[_],⟨rfl,trivial⟩,rfl,hx⟩
 ·cases h2 : (ms.any fun m => decide ((2000 : Int) < m.2.size)) with
  | true =>
   rw [if_pos (.inr rfl)];refine Cl.enter Tryz.func106 rfl Tryz.ntmps106 rfl rfl (.sr (.a2 rfl (.done (.seq (.sr (.m2 rfl (.t2 (bY hs0 Tryz.underlying49 rfl) ?_)))))));refine .t2 (iH rfl rfl (by omega)) ?_;refine .m2 rfl (.g2 (aL rfl) (Rg.wd ⟨_,rfl,rfl⟩ (aC Tryz.call162 rfl (oN (fst := []) (cap := []) (hs0.ext hx) Tryz.call163 (fun w1 x1 m _ => pI) hlen)) rfl ?_));rintro _ w1 ⟨rfl,hx1⟩;replace hx := hx.ext hx1;rw [h2];refine .t2 (aP rfl rfl) (.done (.condT rfl (.sr (.a2 rfl (.done (Wp.ret ?_))))));exact ⟨[_],⟨rfl,trivial⟩,rfl,hx⟩
  | false =>
   rw [if_neg (by rintro (h | h); exact h8 h; cases h)]
   cases h3 : (ms.any fun m => !lD m.1) with
   | true =>
    rw [if_pos rfl];refine Cl.enter Tryz.func106 rfl Tryz.ntmps106 rfl rfl (.sr (.a2 rfl (.done (.seq (.sr (.m2 rfl (.t2 (bY hs0 Tryz.underlying49 rfl) ?_)))))));refine .t2 (iH rfl rfl (by omega)) ?_;refine .m2 rfl (.g2 (aL rfl) (Rg.wd ⟨_,rfl,rfl⟩ (aC Tryz.call162 rfl (oN (fst := []) (cap := []) (hs0.ext hx) Tryz.call163 (fun w1 x1 m _ => pI) hlen)) rfl ?_));rintro _ w1 ⟨rfl,hx1⟩;replace hx := hx.ext hx1;rw [h2];refine .t2 (aP rfl rfl) (.done (.condF rfl (Wp.skip (.seq (.sr (.m2 rfl (Rg.wd trivial (aC Tryz.call162 rfl (oN (fst := []) (cap := []) (hs0.ext hx) Tryz.call164 (fun w1 x1 m _ => uH ((hA.ext hx).ext x1)) hlen)) rfl ?_)))))));rintro _ w2 ⟨rfl,hx2⟩;replace hx := hx.ext hx2;rw [h3];refine .done (.condT rfl (.sr (.a2 rfl (.done (Wp.ret ?_)))));exact ⟨[_],⟨rfl,trivial⟩,rfl,hx⟩
   | false =>
    rw [if_neg (by intro h; cases h)];refine Cl.enter Tryz.func106 rfl Tryz.ntmps106 rfl rfl (.sr (.a2 rfl (.done (.seq (.sr (.m2 rfl (.t2 (bY hs0 Tryz.underlying49 rfl) ?_)))))));refine .t2 (iH rfl rfl (by omega)) ?_;refine .m2 rfl (.g2 (aL rfl) (Rg.wd ⟨_,rfl,rfl⟩ (aC Tryz.call162 rfl (oN (fst := []) (cap := []) (hs0.ext hx) Tryz.call163 (fun w1 x1 m _ => pI) hlen)) rfl ?_));rintro _ w1 ⟨rfl,hx1⟩;replace hx := hx.ext hx1;rw [h2];refine .t2 (aP rfl rfl) (.done (.condF rfl (Wp.skip (.seq (.sr (.m2 rfl (Rg.wd trivial (aC Tryz.call162 rfl (oN (fst := []) (cap := []) (hs0.ext hx) Tryz.call164 (fun w1 x1 m _ => uH ((hA.ext hx).ext x1)) hlen)) rfl ?_)))))));rintro _ w2 ⟨rfl,hx2⟩;replace hx := hx.ext hx2;rw [h3];refine .done (.condF rfl (Wp.skip (.seq (.sr (.m2 rfl (.t2 (bY hs0 Tryz.underlying49 rfl) (.m2 rfl (.done (Wp.block ?_)))))))));refine Wp.loop (ι := Nat) (fun k => [(0,v),(14,v),(15,.int .i64 ms.length),(16,.int .i64 k)])
     (fun k w' => k ≤ ms.length ∧ (∀ j,j < k → Ei ms j = false) ∧ bO w w') (fun k => ms.length - k) 0 (by repeat (first | exact .nil | refine .cons rfl ?_)) ⟨Nat.zero_le _,fun j h => absurd h (Nat.not_lt_zero _),hx⟩ ?_
    clear hx;rintro k w3 ⟨hk,hno,hx⟩
    by_cases hlt : k < ms.length
    ·have hs3 := hs0.ext hx
     have hgd : ms.getD k (.empty,.empty) = ms[k] := by simp [List.getD,hlt]
     cases hd : Ei ms k with
     | true =>
      refine .sr ?_
      first | refine .tq (bG rfl rfl (by omega)) rfl ?_ | refine .tq (bJ rfl rfl (by omega)) rfl ?_ | refine .tq (cX rfl rfl) rfl ?_
      refine .done (.seq (.condT rfl (Wp.skip (.seq (Wp.block (.sr (.m2 rfl ?_)))))));refine Rg.ix hs3 trivial rfl rfl Tryz.underlying49 jZ (by omega) rfl ?_;intro bt19 ot19 ht19;rw [Int.toNat_natCast,bW eE ms k hlt] at ht19;refine .t2 (bD rfl ht19 (by exact jZ)) ?_;refine Rg.wd trivial (cM Tryz.zeroValue52 rfl) rfl ?_;rintro _ wab4 ⟨b4,rfl,qb4,a,b⟩;refine .a2 rfl (Rg.wn trivial (cE (cs := iA ms[k]) b rfl rfl rfl (jZ) (rfl) (rfl)) ?_);rintro _ w3 ⟨hub4,hvb4⟩;have hx3 := a.upd hub4 (Nat.le_of_eq qb4.symm);clear b hub4 a;replace hx := hx.ext hx3;replace hs3 := hs3.ext hx3;replace ht19 := ht19.ext hx3;clear qb4;refine .done ?_;refine Wp.seq (Wp.draw [0,1,2,3,4,5,6] [] mixed (by kernel_rfl) (by kernel_rfl) ?_);intro w4 hx4 _;replace hx := hx.ext hx4;replace hs3 := hs3.ext hx4;replace ht19 := ht19.ext hx4;replace hvb4 := hvb4.ext hx4;refine .m2 rfl (.m2 rfl ?_);refine Rg.sl hs3 trivial rfl Tryz.underlying49 jZ rfl rfl (by omega) rfl ?_;intro vt23 ht23;rw [show ((k : Int).toNat - (0 : Int).toNat) = (ms.take k).length from by simp; omega,show ((aN iA ms).drop ((0 : Int).toNat * 2)).take ((ms.take k).length * 2) = aN iA (ms.take k) from by rw [show (ms.take k).length = k from by simp; omega]; simpa using kX eE ms k] at ht23;refine .t2 (aA oW rfl) (.t2 (aB iC rfl (hvb4.g 0 rfl)) ?_);refine Rg.wdB trivial rfl (aC Tryz.call166 rfl (sH ht23 (by simp; omega))) rfl (fun _ _ h => h.2.below) ?_;rintro _ w5 ⟨rfl,hx5⟩;replace hx := hx.ext hx5;replace hs3 := hs3.ext hx5;replace ht19 := ht19.ext hx5;replace hvb4 := hvb4.ext hx5;replace ht23 := ht23.ext hx5;refine .t2 (lV rfl rfl) ?_;rw [vX,show (Eg (ms.take k) ms[k].1).isSome = true from by rw [← hd]; unfold Ei; rw [hgd]];refine .done (.condT rfl (.sr (.a2 rfl (.done (Wp.ret ?_)))));rw [if_pos (show sI ms = true from List.any_eq_true.2 ⟨k,List.mem_range.2 hlt,hd⟩)];exact ⟨[_],⟨rfl,trivial⟩,rfl,hx⟩
     | false =>
      refine .sr ?_
      first | refine .tq (bG rfl rfl (by omega)) rfl ?_ | refine .tq (bJ rfl rfl (by omega)) rfl ?_ | refine .tq (cX rfl rfl) rfl ?_
      refine .done (.seq (.condT rfl (Wp.skip (.seq (Wp.block (.sr (.m2 rfl ?_)))))));refine Rg.ix hs3 trivial rfl rfl Tryz.underlying49 jZ (by omega) rfl ?_;intro bt19 ot19 ht19;rw [Int.toNat_natCast,bW eE ms k hlt] at ht19;refine .t2 (bD rfl ht19 (by exact jZ)) ?_;refine Rg.wd trivial (cM Tryz.zeroValue52 rfl) rfl ?_;rintro _ wab4 ⟨b4,rfl,qb4,a,b⟩;refine .a2 rfl (Rg.wn trivial (cE (cs := iA ms[k]) b rfl rfl rfl (jZ) (rfl) (rfl)) ?_);rintro _ w3 ⟨hub4,hvb4⟩;have hx3 := a.upd hub4 (Nat.le_of_eq qb4.symm);clear b hub4 a;replace hx := hx.ext hx3;replace hs3 := hs3.ext hx3;replace ht19 := ht19.ext hx3;clear qb4;refine .done ?_;refine Wp.seq (Wp.draw [0,1,2,3,4,5,6] [] mixed (by kernel_rfl) (by kernel_rfl) ?_);intro w4 hx4 _;replace hx := hx.ext hx4;replace hs3 := hs3.ext hx4;replace ht19 := ht19.ext hx4;replace hvb4 := hvb4.ext hx4;refine .m2 rfl (.m2 rfl ?_);refine Rg.sl hs3 trivial rfl Tryz.underlying49 jZ rfl rfl (by omega) rfl ?_;intro vt23 ht23;rw [show ((k : Int).toNat - (0 : Int).toNat) = (ms.take k).length from by simp; omega,show ((aN iA ms).drop ((0 : Int).toNat * 2)).take ((ms.take k).length * 2) = aN iA (ms.take k) from by rw [show (ms.take k).length = k from by simp; omega]; simpa using kX eE ms k] at ht23;refine .t2 (aA oW rfl) (.t2 (aB iC rfl (hvb4.g 0 rfl)) ?_);refine Rg.wdB trivial rfl (aC Tryz.call166 rfl (sH ht23 (by simp; omega))) rfl (fun _ _ h => h.2.below) ?_;rintro _ w5 ⟨rfl,hx5⟩;replace hx := hx.ext hx5;replace hs3 := hs3.ext hx5;replace ht19 := ht19.ext hx5;replace hvb4 := hvb4.ext hx5;replace ht23 := ht23.ext hx5;refine .t2 (lV rfl rfl) ?_;rw [vX,show (Eg (ms.take k) ms[k].1).isSome = false from by rw [← hd]; unfold Ei; rw [hgd]];refine .done (.condF rfl (Wp.skip (Wp.region ?_)))
      first | refine .tq (bE rfl rfl (by omega)) rfl ?_ | refine .tq (fX rfl rfl) rfl ?_
      refine .m2 rfl (.done ?_);exact ⟨k + 1,by repeat (first | exact .nil | refine .cons rfl ?_),⟨hlt,fun j hj => by rcases Nat.lt_succ_iff_lt_or_eq.1 hj with c | c; exact hno j c; subst c; exact hd,hx⟩,by omega⟩
    ·skip
     refine .sr ?_
     first | refine .tq (bG rfl rfl (by omega)) rfl ?_ | refine .tq (bJ rfl rfl (by omega)) rfl ?_ | refine .tq (cX rfl rfl) rfl ?_
     refine .done (.seq (.condF rfl (Wp.exit (.sr (.a2 rfl (.done (Wp.ret ?_)))))));rw [if_neg (show ¬ sI ms = true from fun h => by obtain ⟨j,hj,hj2⟩ := List.any_eq_true.1 h; rw [hno j (by have := List.mem_range.1 hj; omega)] at hj2; cases hj2)];exact ⟨[_],⟨rfl,trivial⟩,rfl,hx⟩
def N1 (p : Md) : Md := (p.1,p.2.extract 0 (min p.2.size 250))
def pJ (ms : List Md) : List Md := (ms.take 3).map N1
theorem Hj (p : Md) : (N1 p).2.size ≤ 250 := by simp only [N1,ByteArray.size_extract]; omega
theorem sJ (ms : List Md) : (pJ ms).length = min ms.length 3 := by simp [pJ,Nat.min_comm]
theorem Ej {ms : List Md} {p : Md} (h : p ∈ pJ ms) : p.2.size ≤ 250 := by
 obtain ⟨q,_,rfl⟩ := List.mem_map.1 h;exact Hj q
theorem Mr {w : World} {s : ByteArray} : Cl Tryz.prog 43 #[.string s] w (fun u w' => eT w' u 2 1 (aN iA [("main".toUTF8,s)]) ∧ bO w w') := by
 have hx := bO.refl w;refine Cl.enter Tryz.func43 rfl Tryz.ntmps43 rfl rfl (.sr (.a2 rfl (.done (.sr (.m2 rfl (.t2 (bV (xN _ _) rfl) (Rg.wd trivial (aD (F3 _ _) rfl) rfl ?_)))))));rintro _ w1 ⟨bb,rfl,qb,hx1,hvb⟩;replace hx := hx.ext hx1;refine .a2 rfl (.done (Wp.ret ?_));exact ⟨[_],⟨rfl,trivial⟩,dL hvb rfl,hx⟩
theorem A3 {w : World} {v : Value} {ms : List Md} (hsv : eT w v 2 ms.length (aN iA ms)) :
  Cl Tryz.prog 27 #[v] w (fun u w' => eT w' u 2 (pJ ms).length (aN iA (pJ ms)) ∧ (∀ z,u.ownBlock = some z → w.heap.size ≤ z) ∧ bO w w') := by
 have hx := bO.refl w;obtain ⟨i,hi,hz,hsi,hby⟩ := K7;have hl3 : (pJ ms).length = (ms.take 3).length := by simp [pJ]
 have hmin : min ms.length 3 = (ms.take 3).length := by simp [Nat.min_comm]
 refine Cl.enter Tryz.func27 rfl Tryz.ntmps27 rfl rfl (.sr (.a2 rfl (.done (.sr (.a2 rfl (.done (.seq (.sr (.m2 rfl (.m2 rfl (.t2 (bY hsv Tryz.underlying49 rfl) (.t2 (Fd rfl rfl) ?_))))))))))));rw [show min (ms.length : Int) 3 = ((ms.take 3).length : Int) from by omega];refine Rg.sl hsv trivial rfl Tryz.underlying49 jZ rfl rfl (by omega) rfl ?_;intro vt10 ht10;have hcut : ((aN iA ms).drop ((0 : Int).toNat * 2)).take ((ms.take 3).length * 2) = aN iA (ms.take 3) := by
  rw [show ((0 : Int).toNat * 2) = 0 from rfl,List.drop_zero,kX eE]
  congr 1
  rw [← hmin]
  rcases Nat.le_total ms.length 3 with h | h
  ·rw [Nat.min_eq_left h,List.take_of_length_le h,List.take_length]
  ·rw [Nat.min_eq_right h]
 rw [show (((ms.take 3).length : Int).toNat - (0 : Int).toNat) = (ms.take 3).length from by omega,hcut] at ht10;refine .t2 (bY ht10 Tryz.underlying49 rfl) (.m2 rfl (.done (Wp.block ?_)));obtain ⟨m3,hm3⟩ : ∃ q,ms.take 3 = q := ⟨_,rfl⟩;have hfe : pJ ms = m3.map N1 := by rw [← hm3]; rfl
 have hl4 : m3.length ≤ 3 := by rw [← hm3]; simp; omega
 rw [hm3] at ht10 ⊢;rw [hfe];clear hcut;refine Wp.loop (ι := Nat × Value) (fun j => [(3,j.2),(10,vt10),(11,.int .i64 m3.length),(12,.int .i64 j.1)])
  (fun j w' => j.1 ≤ m3.length ∧ w'.ownsRow w.heap.size 52 2 j.2 j.1 (aN iA ((m3.take j.1).map N1)) ∧ bO w w')
  (fun j => m3.length - j.1) (0,.slice none 0 0) (by repeat (first | exact .nil | refine .cons rfl ?_)) ⟨Nat.zero_le _,jH _ _ _ _,hx⟩ ?_
 clear hx;rintro ⟨k,vr⟩ w3 ⟨hk,hown,hx⟩;simp only at hk hown ⊢;have hs3 := ht10.ext hx
 by_cases hlt : k < m3.length
 ·skip
  refine .sr ?_
  first | refine .tq (bG rfl rfl (by omega)) rfl ?_ | refine .tq (bJ rfl rfl (by omega)) rfl ?_ | refine .tq (cX rfl rfl) rfl ?_
  refine .done (.seq (.condT rfl (Wp.skip (.seq (Wp.block ?_)))));have hq := bO.refl w3;refine .sr ?_;refine Rg.ix hs3 trivial rfl rfl Tryz.underlying49 jZ (by omega) rfl ?_;intro bt14 ot14 ht14;rw [Int.toNat_natCast,bW eE m3 k hlt] at ht14;refine .t2 (bD rfl ht14 jZ) (Rg.wd trivial (cM Tryz.zeroValue52 rfl) rfl ?_);rintro _ wab5 ⟨b5,rfl,qb5,a,b⟩;refine Rg.wn trivial (cE (cs := iA m3[k]) b rfl rfl rfl (jZ) (rfl) (rfl)) ?_;rintro _ w1 ⟨hub5,hvb5⟩;have hx1 := a.upd hub5 (Nat.le_of_eq qb5.symm);clear b hub5 a;replace hx := hx.ext hx1;replace hs3 := hs3.ext hx1;replace hq := hq.ext hx1;replace ht14 := ht14.ext hx1;clear qb5;refine .done ?_;refine Wp.draw [0,1,2,3,4,5,6,7,8,9] [1] mixed (by kernel_rfl) (by kernel_rfl) ?_;intro w2 hx2 _;replace hx := hx.ext hx2;replace hs3 := hs3.ext hx2;replace hq := hq.ext hx2;replace ht14 := ht14.ext hx2;replace hvb5 := hvb5.ext hx2;refine .m2 rfl (.t2 (aA oW rfl) (.t2 (aB iC rfl (hvb5.g 0 rfl)) (.t2 (aA rJ rfl) (.t2 (aB iC rfl (hvb5.g 1 rfl)) (Rg.wdB trivial rfl (aC Tryz.call16 rfl (yO (n := 250))) rfl (fun _ _ h => h.2.below) ?_)))));rintro _ w3 ⟨rfl,hx3⟩;replace hx := hx.ext hx3;replace hs3 := hs3.ext hx3;replace hq := hq.ext hx3;replace ht14 := ht14.ext hx3;replace hvb5 := hvb5.ext hx3;refine .t2 (bV (xN _ _) rfl) ?_;refine Rg.wdB trivial rfl (aD (F3 _ _) rfl) rfl (fun _ _ h => by obtain ⟨_,_,_,h,_⟩ := h; exact h.below) ?_;rintro _ w4 ⟨bb,rfl,qb,hx4,hvb⟩;replace hx := hx.ext hx4;replace hs3 := hs3.ext hx4;replace hq := hq.ext hx4;replace ht14 := ht14.ext hx4;replace hvb5 := hvb5.ext hx4;replace hown := cZ hown hq;refine rD trivial rfl (kP w.heap.size Tryz.underlying49 hi hz hsi hby rfl (by decide) rfl rfl hown rfl (fun j u hu => by rw [Go.Gx.cL]; exact hvb.cells j u hu) (by simp [Value.oneCell']) (by unfold maxLen; omega) (by omega) hx.le) rfl (by rfl) ?_;rintro v2 wc ⟨hown2,hgr,p2,l2,c2,rfl⟩;replace hx := lZ hx hown hgr;refine .a2 rfl (.done (Wp.region ?_))
  first | refine .tq (bE rfl rfl (by omega)) rfl ?_ | refine .tq (fX rfl rfl) rfl ?_
  refine .m2 rfl (.done ?_);refine ⟨(k + 1,.slice p2 l2 c2),by repeat (first | exact .nil | refine .cons rfl ?_),⟨hlt,?_,hx⟩,by simp only; omega⟩;rw [List.take_succ_eq_append_getElem hlt,List.map_append,eX];exact hown2
 ·have e0 : k = m3.length := by omega
  subst e0;rw [List.take_length] at hown;refine .sr ?_
  first | refine .tq (bG rfl rfl (by omega)) rfl ?_ | refine .tq (bJ rfl rfl (by omega)) rfl ?_ | refine .tq (cX rfl rfl) rfl ?_
  refine .done (.seq (.condF rfl (Wp.exit (.sr (.m2 rfl (.a2 rfl (.done (Wp.ret ?_))))))));exact ⟨[_],⟨rfl,trivial⟩,by rw [List.length_map]; exact fT hown,fun z hz => Ast.qN hown hz,hx⟩
theorem eM {F : Fs} {w w' : World} {B e size n : Nat} {v : Value} {xs : List Value} (h : w.ownsRow B e size v n xs) (k : Bw F w w') (hb : jT F v) : w'.ownsRow B e size v n xs := by
 obtain ⟨h1,h2⟩ := h;refine ⟨h1,h2.imp id ?_⟩;rintro ⟨g,cap,cur,rfl,hB,hh,h3⟩;exact ⟨g,cap,cur,rfl,hB,(k.block g (hb g rfl)).trans hh,h3⟩
theorem Ch {F : Fs} {w w' : World} {B e size n : Nat} {v v' : Value} {xs ys : List Value} (hU : lR F w.heap.size) (hB : B ≤ w.heap.size) (hrow : w.ownsRow B e size v n xs) (hn : ∀ z,v.ownBlock = some z → ¬ F z) (hl : ys.length = size) (hap : xQ w e size n 1 v (xs ++ ys) v' w') :
  w'.ownsRow B e size v' (n + 1) (xs ++ ys) ∧ Bw F w w' ∧ (∀ w0,w0.heap.size = B → bO w0 w → bO w0 w') ∧ (∀ z,v'.ownBlock = some z → ¬ F z) := by
 obtain ⟨g,cap,sp,rfl,h1,h2,h3,h4,h5⟩ := hap;have hk : (xs ++ ys).length = (n + 1) * size := by rw [List.length_append,hrow.1,hl,Nat.add_mul,Nat.one_mul]
 rcases h5 with ⟨⟨c,rfl⟩,hu⟩ | ⟨hg,hx⟩
 ·have hge : B ≤ g := qN hrow rfl
  refine ⟨bN hge hk h1 h2 h3 h4,Bw.upd hu (hn g rfl),fun w0 h0 x => x.upd hu (by omega),fun z hz => by cases hz; exact hn g rfl⟩
 ·refine ⟨bN (Nat.le_trans hB hg) hk h1 h2 h3 h4,Bw.of hx hU,fun w0 h0 x => x.ext hx,fun z hz hf => ?_⟩
  cases hz
  have := hU g hf;omega
abbrev Dm := Int × Dg
def N2 (p : Dm) : List Value := [.int .i64 p.2.1,.int .i64 p.1,.int .i64 p.2.2.1,.int .i64 p.2.2.2,.string ⟨#[]⟩]
theorem Kf (p : Dm) : (N2 p).length = 5 := rfl
structure yU (w wl : World) (K : Fs) (mns : List Mn) (lv dv : Value) (ds : List Dm) : Prop where
 nk : ∀ g ∈ mns,jY K wl g
 lo : ∀ z,K z → w.heap.size ≤ z ∧ z < wl.heap.size
 r6 : wl.ownsRow w.heap.size 27 7 lv mns.length (aN Mn.cells mns)
 r7 : wl.ownsRow w.heap.size 80 5 dv ds.length (aN N2 ds)
 n6 : ∀ z,lv.ownBlock = some z → ¬ K z
 n7 : ∀ z,dv.ownBlock = some z → ¬ K z
 n67 : ∀ z,dv.ownBlock = some z → lv.ownBlock ≠ some z
 x : bO w wl
theorem yU.ext {w wl w' : World} {K : Fs} {mns : List Mn} {lv dv : Value} {ds : List Dm} (h : yU w wl K mns lv dv ds) (x : bO wl w') : yU w w' K mns lv dv ds :=
 ⟨fun g hg => (h.nk g hg).bw (Bw.of x fun z hz => (h.lo z hz).2) fun z hz => hz,fun z hz => ⟨(h.lo z hz).1,Nat.lt_of_lt_of_le (h.lo z hz).2 x.le⟩,cZ h.r6 x,cZ h.r7 x,h.n6,h.n7,h.n67,h.x.ext x⟩
theorem yU.und {w wl : World} {K : Fs} {mns : List Mn} {lv dv : Value} {ds : List Dm} (h : yU w wl K mns lv dv ds) : lR K wl.heap.size := fun z hz => (h.lo z hz).2
theorem yU.more {w wl w' : World} {K K' : Fs} {mns : List Mn} {lv dv : Value} {ds : List Dm} (h : yU w wl K mns lv dv ds) (x : bO wl w') (hk : ∀ z,K' z → wl.heap.size ≤ z ∧ z < w'.heap.size) : yU w w' (fun z => K z ∨ K' z) mns lv dv ds := by
 have h2 := h.ext x;refine ⟨fun g hg => (h2.nk g hg).mono fun z hz => .inl hz,fun z hz => ?_,h2.r6,h2.r7,fun z hz hf => ?_,fun z hz hf => ?_,h.n67,h2.x⟩
 ·rcases hz with hz | hz
  ·exact h2.lo z hz
  ·have := hk z hz; have := h.x.le; omega
 ·rcases hf with hf | hf
  ·exact h.n6 z hz hf
  ·have := gZ h.r6 hz; have := hk z hf; omega
 ·rcases hf with hf | hf
  ·exact h.n7 z hz hf
  ·have := gZ h.r7 hz; have := hk z hf; omega
theorem yU.push6 {w wl w' : World} {K : Fs} {mns : List Mn} {lv dv v' : Value} {ds : List Dm} {g : Mn} (h : yU w wl K mns lv dv ds) (hg : jY K wl g) (hap : xQ wl 27 7 mns.length 1 lv (aN Mn.cells mns ++ g.cells) v' w') :
  yU w w' K (mns ++ [g]) v' dv ds ∧ Bw K wl w' := by
 have hd : ∀ z,dv.ownBlock = some z → z < wl.heap.size := fun z hz => gZ h.r7 hz;obtain ⟨h1,h2,h3,h4⟩ := Ch (F := fun z => K z ∨ dv.ownBlock = some z) (ys := g.cells) (fun z hz => hz.elim (h.und z) (hd z)) h.x.le h.r6 (fun z hz hf => hf.elim (h.n6 z hz) fun e => h.n67 z e hz) (Mn.len g) hap;rw [← iK] at h1;have hb : Bw K wl w' := h2.sub fun z hz => .inl hz;refine ⟨⟨fun q hq => ?_,fun z hz => ⟨(h.lo z hz).1,Nat.lt_of_lt_of_le (h.lo z hz).2 h2.size⟩,by rw [List.length_append]; exact h1,eM h.r7 h2 (fun z hz => .inr hz),fun z hz hf => h4 z hz (.inl hf),h.n7,fun z hz e => h4 z e (.inr hz),h3 _ rfl h.x⟩,hb⟩
 rcases List.mem_append.1 hq with hq | hq
 ·exact (h.nk q hq).bw hb fun z hz => hz
 ·obtain rfl : q = g := by simpa using hq
  exact hg.bw hb fun z hz => hz
theorem yU.push7 {w wl w' : World} {K : Fs} {mns : List Mn} {lv dv v' : Value} {ds : List Dm} {p : Dm} (h : yU w wl K mns lv dv ds) (hap : xQ wl 80 5 ds.length 1 dv (aN N2 ds ++ N2 p) v' w') :
  yU w w' K mns lv v' (ds ++ [p]) ∧ Bw K wl w' := by
 have hd : ∀ z,lv.ownBlock = some z → z < wl.heap.size := fun z hz => gZ h.r6 hz;obtain ⟨h1,h2,h3,h4⟩ := Ch (F := fun z => K z ∨ lv.ownBlock = some z) (ys := N2 p) (fun z hz => hz.elim (h.und z) (hd z)) h.x.le h.r7 (fun z hz hf => hf.elim (h.n7 z hz) fun e => h.n67 z hz e) (Kf p) hap;rw [← iK] at h1;have hb : Bw K wl w' := h2.sub fun z hz => .inl hz;exact ⟨⟨fun q hq => (h.nk q hq).bw hb fun z hz => hz,fun z hz => ⟨(h.lo z hz).1,Nat.lt_of_lt_of_le (h.lo z hz).2 h2.size⟩,eM h.r6 h2 (fun z hz => .inr hz),by rw [List.length_append]; exact h1,h.n6,fun z hz hf => h4 z hz (.inl hf),fun z hz e => h4 z hz (.inr e),h3 _ rfl h.x⟩,hb⟩
def Hk (ms : List Md) (mns : List Mn) : Prop := mns.length ≤ ms.length ∧ ∀ i (h : i < mns.length) (h2 : i < ms.length),∃ t,fP ms[i].2 t ∧ mns[i].er = mL ms[i].2 t
theorem Hk.push {ms : List Md} {mns : List Mn} {g : Mn} {t : Tr} (h : Hk ms mns) (hl : mns.length < ms.length) (hp : fP ms[mns.length].2 t) (he : g.er = mL ms[mns.length].2 t) : Hk ms (mns ++ [g]) := by
 refine ⟨by simp; omega,fun i h1 h2 => ?_⟩
 by_cases hi : i < mns.length
 ·rw [List.getElem_append_left hi]
  exact h.2 i hi h2
 ·obtain rfl : i = mns.length := by simp at h1; omega
  exact ⟨t,hp,by simpa using he⟩
structure PaR (w : World) (ms : List Md) (u : Value) (w' : World) (K : Fs) (mns : List Mn) (lv dv : Value) (ds : List Dm) : Prop where
 ue : u = .tuple #[lv,dv,.int .i64 0]
 tr : Hk ms mns
 len : mns.length = ms.length
 pa : yU w w' K mns lv dv ds
theorem gN {ms : List Md} (h : lL ms = 0) : ms.length ≤ 8 ∧ ∀ m ∈ ms,m.2.size ≤ 2000 := by
 unfold lL at h
 by_cases h1 : 8 < ms.length ∨ (ms.any fun m => decide ((2000 : Int) < m.2.size)) = true
 ·rw [if_pos h1] at h; omega
 ·refine ⟨by omega,fun m hm => ?_⟩
  have h2 : ¬ (ms.any fun m => decide ((2000 : Int) < m.2.size)) = true := fun c => h1 (.inr c);rw [List.any_eq_true] at h2;apply Nat.le_of_not_lt;intro c;exact h2 ⟨m,hm,decide_eq_true (by omega)⟩
theorem qA {w : World} {v : Value} {ms : List Md} (hA : iB w) (hE : Er w) (hs0 : eT w v 2 ms.length (aN iA ms)) (hlen : ms.length < 4611686018427387904) :
  Cl Tryz.prog 57 #[v] w (fun u w' => (lL ms ≠ 0 ∧ u = .tuple #[.slice none 0 0,.slice none 0 0,.int .i64 (lL ms)] ∧ bO w w') ∨ (lL ms = 0 ∧ ∃ K mns lv dv ds,PaR w ms u w' K mns lv dv ds)) := by
 have hx := bO.refl w;obtain ⟨e,he⟩ : ∃ e,lL ms = e := ⟨_,rfl⟩
 by_cases h0 : e = 0
 ·skip
  refine Cl.enter Tryz.func57 rfl Tryz.ntmps57 rfl rfl (.sr (.a2 rfl (.a2 rfl (.a2 rfl (.done (.seq (.sr (.m2 rfl (Rg.wd trivial (aC Tryz.call106 rfl (pZ hA hs0 hlen)) rfl ?_)))))))));rintro _ w1 ⟨rfl,hx1⟩;replace hx := hx.ext hx1;rw [he];refine .a2 rfl (.done (.sr (.m2 rfl ?_)));refine .t2 (eG rfl rfl (by omega)) ?_;refine .done (.condF rfl (Wp.skip (.sr (.a2 rfl (.done (.sr (.a2 rfl (.done (.seq (.sr (.m2 rfl (.t2 (bY hs0 Tryz.underlying49 rfl) ?_))))))))))));refine .m2 rfl (.done (Wp.block ?_));obtain ⟨hl8,hsz⟩ := gN (he.trans h0);refine Wp.loop (ι := List Mn × Value × Value × List Dm) (fun j => [(6,j.2.1),(7,j.2.2.1),(20,v),(21,.int .i64 ms.length),(22,.int .i64 j.1.length)])
   (fun j w' => Hk ms j.1 ∧ j.2.2.2.length ≤ j.1.length * 1000000 ∧ ∃ K,yU w w' K j.1 j.2.1 j.2.2.1 j.2.2.2)
   (fun j => ms.length - j.1.length) ([],.slice none 0 0,.slice none 0 0,[]) (by repeat (first | exact .nil | refine .cons rfl ?_))
   ⟨⟨Nat.zero_le _,fun i h => absurd h (Nat.not_lt_zero _)⟩,Nat.zero_le _,fun _ => False,⟨fun g hg => absurd hg (List.not_mem_nil),fun z hz => hz.elim,jH _ _ _ _,jH _ _ _ _,fun z hz hf => hf,fun z hz hf => hf,fun z hz => (by cases hz),hx⟩⟩ ?_
  clear hx;rintro ⟨mns,lv,dv,ds⟩ w3 ⟨hT,hdl,K,hP⟩;simp only at hT hdl hP ⊢;have hTl := hT.1
  by_cases hlt : mns.length < ms.length
  ·have hs3 := hs0.ext hP.x
   have hsz1 := hsz _ (List.getElem_mem hlt);obtain ⟨⟨nm,src⟩,hmd⟩ : ∃ q,ms[mns.length] = q := ⟨_,rfl⟩;rw [hmd] at hsz1;simp only at hsz1;refine .sr ?_
   first | refine .tq (bG rfl rfl (by omega)) rfl ?_ | refine .tq (bJ rfl rfl (by omega)) rfl ?_ | refine .tq (cX rfl rfl) rfl ?_
   refine .done (.seq (.condT rfl (Wp.skip (.seq (Wp.block (.sr (.m2 rfl ?_)))))));refine Rg.ix hs3 trivial rfl rfl Tryz.underlying49 jZ (by omega) rfl ?_;intro bt25 ot25 ht25;rw [Int.toNat_natCast,bW eE ms mns.length hlt,hmd] at ht25;refine .t2 (bD rfl ht25 jZ) (Rg.wd trivial (cM Tryz.zeroValue52 rfl) rfl ?_);rintro _ wab9 ⟨b9,rfl,qb9,k,l⟩;refine .a2 rfl (Rg.wn trivial (cE (cs := [.string nm,.string src]) l rfl rfl rfl (jZ) (rfl) (rfl)) ?_);rintro _ w2 ⟨hub9,hvb9⟩;have hx2 := k.upd hub9 (Nat.le_of_eq qb9.symm);clear l hub9 k;replace hP := hP.ext hx2;replace hs3 := hs3.ext hx2;replace ht25 := ht25.ext hx2;clear qb9;refine .done ?_;obtain ⟨i27,hi27,hz27,hsi27,hby27⟩ := K6;obtain ⟨i80,hi80,hz80,hsi80,hby80⟩ := K8;refine .sr (.t2 (aA rJ rfl) (.t2 (aB iC rfl (hvb9.g 1 rfl)) (Rg.wd trivial (aC Tryz.call18 rfl (yN hsz1 (hA.ext hP.x) (eD hE hP.x))) rfl ?_)));rintro _ w3 ⟨t,mn,dl,dsi,K',hPA⟩;obtain rfl := hPA.ue;have hx3 := hPA.ext;have hpt := hPA.pt;have her := hPA.er;replace hP := hP.more hx3 hPA.lo;have hm : jY (fun z => K z ∨ K' z) w3 mn := hPA.ok.mono fun z hz => .inr hz;have hbl : jT (fun z => K z ∨ K' z) dl := hPA.bl.mono fun z hz => .inr hz;have hsd := hPA.sl;have hdf := hPA.few;clear hPA;obtain ⟨KK,hKK⟩ : ∃ q : Fs,(fun z => K z ∨ K' z) = q := ⟨_,rfl⟩;rw [hKK] at hP hm hbl;replace hs3 := hs3.ext hx3;replace hvb9 := hvb9.ext hx3;have hq := bO.refl w3;have hKu := hP.und;refine .m2 rfl (.t2 (aV rfl rfl) (.t2 (aV rfl rfl) (.t2 (aV rfl rfl) ?_)));obtain ⟨hh,cv,kids⟩ := mn;obtain ⟨pc,cc,rfl⟩ : ∃ p q,cv = .slice p kids.length q := by
    cases hm with | mk a _ _ _ => obtain ⟨_,p,c,rfl,_⟩ := a; exact ⟨p,c,rfl⟩
   have hog : (Mn.mk hh (.slice pc kids.length cc) kids).cells.all (·.oneCell') = true := rfl;refine Rg.wd trivial (cM Tryz.zeroValue27 rfl) rfl ?_;rintro _ wab10 ⟨b10,rfl,qb10,b,d⟩;refine Rg.wn trivial (cE (cs := (Mn.mk hh (.slice pc kids.length cc) kids).cells) d rfl rfl rfl (by rw [Mn.len]; exact cU) (by rw [Mn.len]; rfl) (hog)) ?_;rintro _ w4 ⟨hub10,hvb10⟩;have hx4 := b.upd hub10 (Nat.le_of_eq qb10.symm);clear d hub10 b;replace hP := hP.ext hx4;replace hsd := hsd.ext hx4;replace hq := hq.ext hx4;clear qb10;refine .a2 rfl (.a2 rfl (.done (.sr (.m2 rfl ?_))));refine .t2 (bD rfl hvb10.cells (by rw [Mn.len]; exact cU)) ?_;refine Rg.wd trivial (aD (F0 _ _ _ _ _ _ _ _ _) rfl) rfl ?_;rintro _ w5 ⟨bb,rfl,qb,hx5,hvb⟩;replace hP := hP.ext hx5;replace hsd := hsd.ext hx5;replace hq := hq.ext hx5;replace hvb10 := hvb10.ext hx5;refine Rg.wd trivial (eN Tryz.underlying25 hi27 hz27 hsi27 hby27 rfl rfl rfl (rE hP.r6 (Nat.zero_le _)) (dL hvb rfl) (by simp [Value.oneCell']) (by decide) (by unfold maxLen; omega) (by omega)) rfl ?_;rintro v2 wc hap;obtain ⟨hP2,hB2⟩ := hP.push6 (g := .mk hh (.slice pc kids.length cc) kids) (hm.bw (Bw.of hq hKu) fun z hz => hz) hap;replace hsd := kH hsd hB2 hbl;clear hP;refine .a2 rfl (.done (.sr (.m2 rfl (.t2 (bY hsd Tryz.underlying28 rfl) (.m2 rfl (.done (Wp.block ?_)))))));refine Wp.loop (ι := Nat × Value) (fun j => [(6,v2),(7,j.2),(8,.int .i64 mns.length),(20,v),(21,.int .i64 ms.length),(22,.int .i64 mns.length),(38,dl),(39,.int .i64 dsi.length),(40,.int .i64 j.1)])
    (fun j w' => j.1 ≤ dsi.length ∧ yU w w' KK (mns ++ [.mk hh (.slice pc kids.length cc) kids]) v2 j.2 (ds ++ (dsi.take j.1).map fun q => ((mns.length : Int),q)) ∧ eT w' dl 5 dsi.length (aN fF dsi))
    (fun j => dsi.length - j.1) (0,dv) (by repeat (first | exact .nil | refine .cons rfl ?_)) ⟨Nat.zero_le _,by simpa using hP2,hsd⟩ ?_
   clear hP2 hsd;rintro ⟨j,dv2⟩ w5 ⟨hj,hP3,hsd⟩;simp only at hj hP3 ⊢
   by_cases hlt2 : j < dsi.length
   ·have hkk := hP3.und
    obtain ⟨⟨q1,q2,q3⟩,hdq⟩ : ∃ q,dsi[j] = q := ⟨_,rfl⟩;have hdl2 : (ds ++ (dsi.take j).map fun q => ((mns.length : Int),q)).length ≤ ds.length + j := by simp; omega
    refine .sr ?_
    first | refine .tq (bG rfl rfl (by omega)) rfl ?_ | refine .tq (bJ rfl rfl (by omega)) rfl ?_ | refine .tq (cX rfl rfl) rfl ?_
    refine .done (.seq (.condT rfl (Wp.skip (.seq (Wp.block (.sr ?_))))));have hq5 := bO.refl w5;refine Rg.ix hsd trivial rfl rfl Tryz.underlying28 lF (by omega) rfl ?_;intro bt42 ot42 ht42;rw [Int.toNat_natCast,bW dO dsi j hlt2,hdq] at ht42;refine .t2 (bD rfl ht42 lF) (Rg.wd trivial (cM Tryz.zeroValue80 rfl) rfl ?_);rintro _ wab14 ⟨b14,rfl,qb14,m,f⟩
    
    refine Rg.wn trivial (cE (cs := [.int .i64 q1,.int .i64 0,.int .i64 q2,.int .i64 q3,.string ⟨#[]⟩]) f rfl rfl rfl (lF) (rfl) (rfl)) ?_;rintro _ w41 ⟨hub14,hvb14⟩;have hx41 := m.upd hub14 (Nat.le_of_eq qb14.symm);clear f hub14;replace ht42 := ht42.ext hx41;refine .done (.sr (.m2 rfl (.t2 (aA zU rfl) (Rg.wn trivial (cC hvb14 bB rfl rfl rfl rfl rfl) ?_))));rintro _ w42 ⟨huS,hvS⟩;simp only [List.set] at hvS;have hx42 := hx41.upd huS (Nat.le_of_eq qb14.symm);replace hP3 := hP3.ext hx42;replace hsd := hsd.ext hx42;clear hvb14 huS;refine .done (Wp.region (.m2 rfl ?_));refine .t2 (bD rfl hvS.cells (by exact lF)) ?_;refine Rg.wd trivial (aD (F2 _ _ _ _ _) rfl) rfl ?_;rintro _ w43 ⟨bb2,rfl,qb2,hx43,hvb2⟩;replace hP3 := hP3.ext hx43;replace hsd := hsd.ext hx43;replace hvS := hvS.ext hx43;refine Rg.wd trivial (eN Tryz.underlying28 hi80 hz80 hsi80 hby80 rfl rfl rfl (rE hP3.r7 (Nat.zero_le _)) (dL hvb2 rfl) (by simp [Value.oneCell']) (by decide) (by unfold maxLen; omega) (by omega)) rfl ?_;rintro v3 wd hap;obtain ⟨hP4,hB4⟩ := hP3.push7 (p := ((mns.length : Int),q1,q2,q3)) hap;replace hsd := kH hsd hB4 hbl;clear hP3;refine .a2 rfl (.done (Wp.region ?_))
    first | refine .tq (bE rfl rfl (by omega)) rfl ?_ | refine .tq (fX rfl rfl) rfl ?_
    refine .m2 rfl (.done ?_);refine ⟨(j + 1,v3),by repeat (first | exact .nil | refine .cons rfl ?_),⟨hlt2,?_,hsd⟩,by simp only; omega⟩;rw [List.take_succ_eq_append_getElem hlt2,List.map_append,← List.append_assoc,hdq];exact hP4
   ·have e0 : j = dsi.length := by omega
    subst e0;rw [List.take_length] at hP3;refine .sr ?_
    first | refine .tq (bG rfl rfl (by omega)) rfl ?_ | refine .tq (bJ rfl rfl (by omega)) rfl ?_ | refine .tq (cX rfl rfl) rfl ?_
    refine .done (.seq (.condF rfl (Wp.exit (Wp.region ?_))))
    first | refine .tq (bE rfl rfl (by omega)) rfl ?_ | refine .tq (fX rfl rfl) rfl ?_
    refine .m2 rfl (.done ?_);refine ⟨(mns ++ [.mk hh (.slice pc kids.length cc) kids],v2,dv2,ds ++ dsi.map fun q => ((mns.length : Int),q)),by simp only [List.length_append,List.length_singleton]; repeat (first | exact .nil | refine .cons rfl ?_),⟨hT.push hlt (by rw [hmd]; exact hpt) (by rw [hmd]; exact her),by simp only [List.length_append,List.length_map,List.length_singleton]; omega,KK,hP3⟩,by simp only [List.length_append,List.length_singleton]; omega⟩
  ·skip
   refine .sr ?_
   first | refine .tq (bG rfl rfl (by omega)) rfl ?_ | refine .tq (bJ rfl rfl (by omega)) rfl ?_ | refine .tq (cX rfl rfl) rfl ?_
   refine .done (.seq (.condF rfl (Wp.exit (.sr (.m2 rfl (.m2 rfl (.a2 rfl (.a2 rfl (.a2 rfl (.done (Wp.ret ?_)))))))))));exact ⟨[_,_,_],⟨rfl,rfl,rfl,trivial⟩,.inr ⟨h0,K,mns,lv,dv,ds,rfl,hT,by omega,hP⟩⟩
 ·skip
  refine Cl.enter Tryz.func57 rfl Tryz.ntmps57 rfl rfl (.sr (.a2 rfl (.a2 rfl (.a2 rfl (.done (.seq (.sr (.m2 rfl (Rg.wd trivial (aC Tryz.call106 rfl (pZ hA hs0 hlen)) rfl ?_)))))))));rintro _ w1 ⟨rfl,hx1⟩;replace hx := hx.ext hx1;rw [he];refine .a2 rfl (.done (.sr (.m2 rfl ?_)));refine .t2 (eR rfl rfl (by omega)) ?_;refine .done (.condT rfl (.sr (.m2 rfl (.a2 rfl (.a2 rfl (.a2 rfl (.done (Wp.ret ?_))))))));exact ⟨[_,_,_],⟨rfl,rfl,rfl,trivial⟩,.inl ⟨by omega,rfl,hx⟩⟩
end Go.Proofs.YtiogccmfmjhipaaGreatDoor.Sym
