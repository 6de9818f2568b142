/- Tokens as plain data: white space or a comment put between two tokens. No program. -/
import Derived.Test.YtiogccmfmjhipaaGreatDoorXb
import Derived.Test.YtiogccmfmjhipaaGreatDoorXi
set_option linter.unusedVariables false
set_option linter.unusedSimpArgs false
namespace Go.Proofs.YtiogccmfmjhipaaGreatDoor.Lexi
end Go.Proofs.YtiogccmfmjhipaaGreatDoor.Lexi
namespace Go.Proofs.YtiogccmfmjhipaaGreatDoor.Ast
open Par
open Lexi (aH bt)
variable {src src' : ByteArray} {d : Nat}
end Go.Proofs.YtiogccmfmjhipaaGreatDoor.Ast
namespace Go.Proofs.YtiogccmfmjhipaaGreatDoor.Par
set_option maxRecDepth 20000
open Go.Gx Go.RowKit Go.Lib
open Lexi (Asc aH)
open Ast
theorem dZ {w w' : World} (h : Er w) (x : Ext w w') : Er w' := by
 obtain ⟨a,b,h⟩ := h;exact ⟨a,b,x.cell h⟩
end Go.Proofs.YtiogccmfmjhipaaGreatDoor.Par
namespace Go.Proofs.YtiogccmfmjhipaaGreatDoor.Par
set_option maxRecDepth 20000
open Go.Gx Go.RowKit Go.Lib
open Lexi (Asc aH Ct zR Lr)
open Ast
theorem Ad {w : World} {a : Int} {n : Nat} (hn : 0 < n) (hn2 : n ≤ 1000000) : Cl Tryz.prog 21 #[.int .i64 a,.int .i64 n] w (fun u w' => (∃ k : Nat,u = .int .i64 k ∧ k < n ∧ (k : Int) = a % n) ∧ Ext w w') := by
 have hx := Ext.refl w;have hm := Int.emod_nonneg a (show (n : Int) ≠ 0 by omega);have hm2 := Int.emod_lt_of_pos a (show (0 : Int) < n by omega);have ht : a.tmod n = a % n ∨ (a.tmod n < 0 ∧ a.tmod n + n = a % n) := by
  by_cases h0 : 0 ≤ a
  ·left; exact Int.tmod_eq_emod_of_nonneg h0
  ·have e1 := Int.tmod_eq_emod (a := a) (b := n)
   split at e1
   ·left; simpa using e1
   ·right
    have : ((n : Int).natAbs : Int) = n := by omega
    omega
 by_cases hneg : a.tmod n < 0
 ·skip
  refine Cl.enter Tryz.func21 rfl Tryz.ntmps21 rfl rfl (.sr (.a2 rfl (.done (.sr (.m2 rfl (.m2 rfl ?_))))));refine .t2 (Eu rfl rfl (by omega)) ?_;refine .a2 rfl (.done (.seq (.sr (.m2 rfl ?_))));refine .t2 (bG rfl rfl (by omega)) ?_;refine .done (.condT rfl (Wp.region (.m2 rfl (.m2 rfl ?_))));refine .t2 (bE rfl rfl (by omega)) ?_;refine .a2 rfl (.done (.sr (.m2 rfl (.a2 rfl (.done (Wp.ret ?_))))));have e : a.tmod n + n = a % n := by
   rcases ht with h | h
   ·rw [h] at hneg; exact absurd hneg (by omega)
   ·exact h.2
  refine ⟨[_],⟨rfl,trivial⟩,⟨(a % n).toNat,?_,by omega,by omega⟩,hx⟩;rw [Int.toNat_of_nonneg hm,e]; rfl
 ·skip
  refine Cl.enter Tryz.func21 rfl Tryz.ntmps21 rfl rfl (.sr (.a2 rfl (.done (.sr (.m2 rfl (.m2 rfl ?_))))));refine .t2 (Eu rfl rfl (by omega)) ?_;refine .a2 rfl (.done (.seq (.sr (.m2 rfl ?_))));refine .t2 (bJ rfl rfl (by omega)) ?_;refine .done (.condF rfl (Wp.skip (.sr (.m2 rfl (.a2 rfl (.done (Wp.ret ?_)))))));have e : a.tmod n = a % n := by
   rcases ht with h | h
   ·rw [h] at hneg; exact h
   ·exact absurd h.1 hneg
  refine ⟨[_],⟨rfl,trivial⟩,⟨(a % n).toNat,?_,by omega,by omega⟩,hx⟩;rw [Int.toNat_of_nonneg hm,e]; rfl
mutual
def anc : An → Nat
 | .mk _ ks => gW ks + 1
def gW : List An → Nat
 | [] => 0
 | a :: l => anc a + gW l
end
theorem xV (l : List An) : l.length ≤ gW l := by
 induction l with
 | nil => exact Nat.le_refl _
 | cons a l ih => cases a; simp only [gW,anc,List.length_cons]; omega
theorem xW {l : List An} {a : An} (h : a ∈ l) : anc a ≤ gW l := by
 induction l with
 | nil => cases h
 | cons b l ih =>
  rcases List.mem_cons.1 h with rfl | h
  ·simp only [gW]; omega
  ·have := ih h; simp only [gW]; omega
theorem xX (a b : List An) : gW (a ++ b) = gW a + gW b := by
 induction a with
 | nil => simp [gW]
 | cons x a ih => simp only [List.cons_append,gW,ih]; omega
theorem Jl (src : ByteArray) (h : Hd) (ns : List An) (ds : List Dg) : anc (xM src h ns ds).1 ≤ gW ns + 1 := by
 unfold xM
 split
 ·split
  ·simp only [anc,gW]; omega
  ·simp only [anc,gW]; omega
 split
 ·simp only [anc,gW]; omega
 ·simp only [anc]; omega
mutual
theorem Br (src : ByteArray) : ∀ (t : Tr) (off : Int) (ds : List Dg),anc (gO src t off ds).1 ≤ t.cnt
 | .mk k x ks,off,ds => by
  rw [gO,Tr.cnt];have h1 := Jl src (lD (dJ src ks (sC k off) [] off ds).1) (dJ src ks (sC k off) [] off ds).2.1 (dJ src ks (sC k off) [] off ds).2.2.2;have h2 := rM src ks (sC k off) [] off ds;simp only [gW] at h2
  show anc (xM _ _ _ _).1 ≤ _
  omega
theorem rM (src : ByteArray) : ∀ (l : List Tr) (h : Hd) (ns : List An) (off : Int) (ds : List Dg),gW (dJ src l h ns off ds).2.1 ≤ gW ns + fG l
 | [],h,ns,off,ds => by rw [dJ]; simp [fG]
 | t :: l,h,ns,off,ds => by
  rw [dJ,fG]
  split
  ·have := rM src l (gG h off ds (kd t) (tx t)).1 ns (gG h off ds (kd t) (tx t)).2.1 (gG h off ds (kd t) (tx t)).2.2
   simp only;omega
  ·have h1 := Br src t off ds
   have h2 := rM src l (ext h (gO src t off ds).1.hd.st (gO src t off ds).1.hd.en) (ns ++ [(gO src t off ds).1]) (gO src t off ds).2.1 (gO src t off ds).2.2;rw [xX] at h2;simp only [gW] at h2;simp only;omega
end
theorem oQ (s : ByteArray) (t : Tr) : anc (lX s t) ≤ t.cnt := by
 have := Br s t 0 [];unfold lX
 cases h : (gO s t 0 []).1 with
 | mk a ks => rw [h] at this; exact this
theorem vC (l : List Mn) (k : Nat) (h : k < l.length) : (kB l)[k]'(by rw [iJ]; exact h) = l[k].er := by simp [uT]
end Go.Proofs.YtiogccmfmjhipaaGreatDoor.Par
namespace Go.Proofs.YtiogccmfmjhipaaGreatDoor.Sym
open Par Ast
structure Sy where
 k : Int
 m : Int
 s : Int
 p : Int
 n : ByteArray
 pub : Bool
def lC (y : Sy) : List Value := [.int .i64 y.k,.int .i64 y.m,.int .i64 y.s,.int .i64 y.p,.string y.n,.bool y.pub]
theorem dS (y : Sy) : (lC y).length = 6 := rfl
def Ae (k : Int) : Int := if k = 11 then 9 else if k = 13 then 10 else if k = 14 then 11 else if k = 15 then 12 else if k = 16 then 13 else 0
def cT (h : Hd) (lp : Bool) : Int :=
 if h.kind = 7 then 6 else if h.ns < 0 then 0 else if (h.kind = 13 ∧ lp = true) ∨ h.kind = 44 then 14
 else if 3 ≤ h.kind ∧ h.kind ≤ 9 then h.kind - 3 + 2 else Ae h.kind
def iF (h : Hd) : Int := if h.kind = 7 then h.st else h.ns
def vD (k : Int) : Bool := decide (2 ≤ k) && decide (k ≤ 8)
def Ly (a b : Int) : Int := IntKind.i64.wrap ((BitVec.ofInt 64 a &&& BitVec.ofInt 64 b).toNat : Nat)
def rN (h : Hd) : Bool := decide (h.kind ≤ 9) && decide (Ly h.value 1 ≠ 0)
def hY (h : Hd) (lp : Bool) : Bool := (decide (h.kind = 12) && lp) || decide (h.kind = 9) || decide (h.kind = 38)
def nW (m : Int) (h : Hd) (p : Int) (lp : Bool) : Sy := ⟨cT h lp,m,iF h,p,h.text,rN h⟩
def eO (m : Int) (h : Hd) (p : Int) (lp : Bool) (acc : List Sy) : List Sy := if cT h lp = 0 then acc else acc ++ [nW m h p lp]
def gL (h : Hd) (p : Int) (lp : Bool) (acc : List Sy) : Int := if cT h lp ≠ 0 ∧ vD (cT h lp) = true then acc.length else p
mutual
def oC (m : Int) : An → Int → Bool → List Sy → List Sy
 | .mk h ks,p,lp,acc => fK m ks (gL h p lp acc) (hY h lp) (eO m h p lp acc)
def fK (m : Int) : List An → Int → Bool → List Sy → List Sy
 | [],_,_,acc => acc
 | a :: l,p,lp,acc => fK m l p lp (oC m a p lp acc)
end
theorem rO (m : Int) (h : Hd) (p : Int) (lp : Bool) (acc : List Sy) : acc.length ≤ (eO m h p lp acc).length ∧ (eO m h p lp acc).length ≤ acc.length + 1 := by
 unfold eO
 split <;> simp
mutual
theorem vE (m : Int) : ∀ (a : An) (p : Int) (lp : Bool) (acc : List Sy),(oC m a p lp acc).length ≤ acc.length + anc a
 | .mk h ks,p,lp,acc => by
  rw [oC,anc];have h1 := nX m ks (gL h p lp acc) (hY h lp) (eO m h p lp acc);have h2 := rO m h p lp acc;omega
theorem nX (m : Int) : ∀ (l : List An) (p : Int) (lp : Bool) (acc : List Sy),(fK m l p lp acc).length ≤ acc.length + gW l
 | [],p,lp,acc => by rw [fK]; omega
 | a :: l,p,lp,acc => by
  rw [fK,gW];have h1 := nX m l p lp (oC m a p lp acc);have h2 := vE m a p lp acc;omega
end
theorem Dq (m : Int) (l : List An) (p : Int) (lp : Bool) (acc : List Sy) (i : Nat) (h : i < l.length) : fK m (l.take (i + 1)) p lp acc = oC m l[i] p lp (fK m (l.take i) p lp acc) := by
 induction l generalizing acc i with
 | nil => exact absurd h (Nat.not_lt_zero _)
 | cons a l ih =>
  cases i with
  | zero => simp [fK]
  | succ i =>
   simp only [List.take_succ_cons,fK,List.getElem_cons_succ];exact ih _ i (by simpa using h)
end Go.Proofs.YtiogccmfmjhipaaGreatDoor.Sym
namespace Go.Proofs.YtiogccmfmjhipaaGreatDoor.Sym
set_option maxRecDepth 20000
open Go.Gx Go.RowKit Go.Lib
open Lexi (Asc)
open Par Ast
section
variable {n : Nat} {L : Env} {w : World} {d : Option Tmp} {ty : TypeId} {pos : String} {af : Array Edge} {g : Option (Nat × Bool)}
theorem Lz {t t' : TypeId} {x y : Operand} {u v : Int} (hx : cE L x = some (.int .i64 u)) (hy : cE L y = some (.int .i64 v)) : Tm Tryz.prog n ⟨d,.binOp .and t x y t',ty,pos,af,g⟩ L w (.int .i64 (Ly u v)) := fun a ha w' _ => by
 simp only [execOp,eqGuard,binOp,Op.intBits,ha.eval hx,ha.eval hy];rfl
end
theorem Dr {w : World} {k : Int} : Cl Tryz.prog 169 #[.int .i64 k] w (fun u w' => u = .bool (vD k) ∧ w = w') := by
 unfold vD
 by_cases h1 : 2 ≤ k
 ·rw [decide_eq_true h1]
  refine Cl.enter Tryz.func169 rfl Tryz.ntmps169 rfl rfl (.sr (.a2 rfl (.done (.sr (.m2 rfl ?_)))));refine .t2 (gD rfl rfl (by omega)) ?_;refine .m2 rfl ?_
  first | refine .gd (aL rfl) rfl ?_ | refine .so rfl rfl ?_
  refine .g2 (Em rfl rfl) (.t2 (aM rfl rfl) (.a2 rfl (.done (Wp.ret ?_))));exact ⟨[_],⟨rfl,trivial⟩,rfl,rfl⟩
 ·rw [decide_eq_false h1]
  refine Cl.enter Tryz.func169 rfl Tryz.ntmps169 rfl rfl (.sr (.a2 rfl (.done (.sr (.m2 rfl ?_)))));refine .t2 (iU rfl rfl (by omega)) ?_;refine .m2 rfl (.so rfl rfl (.so rfl rfl (.t2 (aP rfl rfl) (.a2 rfl (.done (Wp.ret ?_))))));exact ⟨[_],⟨rfl,trivial⟩,rfl,rfl⟩
theorem oR {w : World} {h : Hd} {cv : Value} : Cl Tryz.prog 168 #[.agg (h.cells cv).toArray] w (fun u w' => u = .int .i64 (iF h) ∧ Ext w w') := by
 have hx := Ext.refl w;unfold iF
 by_cases h1 : h.kind = 7
 ·rw [if_pos h1]
  refine Cl.enter Tryz.func168 rfl Tryz.ntmps168 rfl rfl (.sr (Rg.wd trivial (bA (cs := h.cells cv) rfl rfl) rfl ?_));rintro _ w1 ⟨b1,rfl,q1,hx1,hv1⟩;replace hx := hx.ext hx1;refine .a2 rfl (.done (.seq (.sr (.t2 (aA bK rfl) (.t2 (aB bB rfl (hv1.g 0 rfl)) (.t2 (aX rfl rfl h1) (.done (.condT rfl (.sr (.t2 (aA fU rfl) (.t2 (aB bB rfl (hv1.g 3 rfl)) (.a2 rfl ?_))))))))))));refine .done (Wp.ret ?_);exact ⟨[_],⟨rfl,trivial⟩,rfl,hx⟩
 ·rw [if_neg h1]
  refine Cl.enter Tryz.func168 rfl Tryz.ntmps168 rfl rfl (.sr (Rg.wd trivial (bA (cs := h.cells cv) rfl rfl) rfl ?_));rintro _ w1 ⟨b1,rfl,q1,hx1,hv1⟩;replace hx := hx.ext hx1;refine .a2 rfl (.done (.seq (.sr (.t2 (aA bK rfl) (.t2 (aB bB rfl (hv1.g 0 rfl)) (.t2 (aQ rfl rfl h1) (.done (.condF rfl (Wp.skip (.sr (.t2 (aA gQ rfl) (.t2 (aB bB rfl (hv1.g 5 rfl)) ?_))))))))))));refine .a2 rfl (.done (Wp.ret ?_));exact ⟨[_],⟨rfl,trivial⟩,rfl,hx⟩
def eB : List (Int × Int) := [(11,9),(13,10),(14,11),(15,12),(16,13)]
def rP (p : Int × Int) : List Value := [.int .i64 p.1,.int .i64 p.2]
theorem rQ (p : Int × Int) : (rP p).length = 2 := rfl
theorem vF (k : Int) (i : Nat) (hi : i < eB.length) (hn : ∀ j (h : j < eB.length),j < i → (eB[j]).1 ≠ k) (he : (eB[i]).1 = k) : Ae k = (eB[i]).2 := by
 have h5 : eB.length = 5 := rfl
 rcases i with _ | _ | _ | _ | _ | i
 ·obtain rfl : (11 : Int) = k := he; rfl
 ·obtain rfl : (13 : Int) = k := he; rfl
 ·obtain rfl : (14 : Int) = k := he; rfl
 ·obtain rfl : (15 : Int) = k := he; rfl
 ·obtain rfl : (16 : Int) = k := he; rfl
 ·omega
theorem oS (k : Int) (hn : ∀ j (h : j < eB.length),(eB[j]).1 ≠ k) : Ae k = 0 := by
 have h0 : (11 : Int) ≠ k := hn 0 (by decide);have h1 : (13 : Int) ≠ k := hn 1 (by decide);have h2 : (14 : Int) ≠ k := hn 2 (by decide);have h3 : (15 : Int) ≠ k := hn 3 (by decide);have h4 : (16 : Int) ≠ k := hn 4 (by decide);unfold Ae;rw [if_neg (Ne.symm h0),if_neg (Ne.symm h1),if_neg (Ne.symm h2),if_neg (Ne.symm h3),if_neg (Ne.symm h4)]
theorem jN (a b : Int) (w : World) : (Instr.build 226 [(0,.int .i64 a),(1,.int .i64 b)].toArray).run Tryz.prog w = .ok (.agg #[.int .i64 a,.int .i64 b]) w := by kernel_rfl
theorem Gp (w : World) : (Instr.buildSlice 227 5 [(0,.agg #[.int .i64 11,.int .i64 9]),(1,.agg #[.int .i64 13,.int .i64 10]),(2,.agg #[.int .i64 14,.int .i64 11]),(3,.agg #[.int .i64 15,.int .i64 12]),(4,.agg #[.int .i64 16,.int .i64 13])].toArray).run Tryz.prog w = .ok (.slice (some ⟨w.heap.size,0,none⟩) 5 5) (w.alloc (.cells (aN rP eB).toArray 226)) := by kernel_rfl
theorem kZ {w : World} {h : Hd} {cv : Value} {lp : Bool} : Cl Tryz.prog 167 #[.agg (h.cells cv).toArray,.bool lp] w (fun u w' => u = .int .i64 (cT h lp) ∧ Ext w w') := by
 have hx := Ext.refl w;unfold cT
 by_cases h1 : h.kind = 7
 ·rw [if_pos h1]
  refine Cl.enter Tryz.func167 rfl Tryz.ntmps167 rfl rfl (.sr (Rg.wd trivial (bA (cs := h.cells cv) rfl rfl) rfl ?_));rintro _ w1 ⟨b2,rfl,q2,hx1,hv2⟩;replace hx := hx.ext hx1;refine .a2 rfl (.done (.seq (Wp.block (.sr (.t2 (aA bK rfl) (.t2 (aB bB rfl (hv2.g 0 rfl)) (.t2 (aX rfl rfl h1) (.a2 rfl (.done (.condT rfl (.sr (.a2 rfl ?_))))))))))));refine .done (Wp.ret ?_);exact ⟨[_],⟨rfl,trivial⟩,rfl,hx⟩
 ·rw [if_neg h1]
  by_cases h2 : h.ns < 0
  ·rw [if_pos h2]
   refine Cl.enter Tryz.func167 rfl Tryz.ntmps167 rfl rfl (.sr (Rg.wd trivial (bA (cs := h.cells cv) rfl rfl) rfl ?_));rintro _ w1 ⟨b2,rfl,q2,hx1,hv2⟩;replace hx := hx.ext hx1;refine .a2 rfl (.done (.seq (Wp.block (.sr (.t2 (aA bK rfl) (.t2 (aB bB rfl (hv2.g 0 rfl)) (.t2 (aQ rfl rfl h1) (.a2 rfl (.done (.condF rfl (.sr (.t2 (aA gQ rfl) ?_))))))))))));refine .t2 (aB bB rfl (hv2.g 5 rfl)) (.t2 (bG rfl rfl h2) (.a2 rfl (.done (.condT rfl (.sr (.a2 rfl (.done (Wp.ret ?_))))))));exact ⟨[_],⟨rfl,trivial⟩,rfl,hx⟩
  ·rw [if_neg h2]
   by_cases h3 : h.kind = 13
   ·cases lp with
    | true =>
     rw [if_pos (.inl ⟨h3,rfl⟩)];refine Cl.enter Tryz.func167 rfl Tryz.ntmps167 rfl rfl (.sr (Rg.wd trivial (bA (cs := h.cells cv) rfl rfl) rfl ?_));rintro _ w1 ⟨b2,rfl,q2,hx1,hv2⟩;replace hx := hx.ext hx1;refine .a2 rfl (.done (.seq (Wp.block (.sr (.t2 (aA bK rfl) (.t2 (aB bB rfl (hv2.g 0 rfl)) (.t2 (aQ rfl rfl h1) (.a2 rfl (.done (.condF rfl (.sr (.t2 (aA gQ rfl) ?_))))))))))));refine .t2 (aB bB rfl (hv2.g 5 rfl)) ?_;refine .t2 (bJ rfl rfl (by omega)) ?_;refine .a2 rfl (.done (.condF rfl (.sr (.t2 (aA bK rfl) (.t2 (aB bB rfl (hv2.g 0 rfl)) ?_)))));refine .t2 (aX rfl rfl (by omega)) ?_;refine .m2 rfl ?_
     first | refine .gd (aL rfl) rfl ?_ | refine .so rfl rfl ?_
     refine .t2 (aM rfl rfl) (.m2 rfl (.so rfl rfl (.so rfl rfl (.so rfl rfl (.t2 (aM rfl rfl) (.a2 rfl (.done (.condT rfl (.sr (.a2 rfl (.done (Wp.ret ?_))))))))))));exact ⟨[_],⟨rfl,trivial⟩,rfl,hx⟩
    | false =>
     rw [if_neg (by rintro (h | h); exact absurd h.2 (by decide); omega),if_neg (by omega)];refine Cl.enter Tryz.func167 rfl Tryz.ntmps167 rfl rfl (.sr (Rg.wd trivial (bA (cs := h.cells cv) rfl rfl) rfl ?_));rintro _ w1 ⟨b2,rfl,q2,hx1,hv2⟩;replace hx := hx.ext hx1;refine .a2 rfl (.done (.seq (Wp.block (.sr (.t2 (aA bK rfl) (.t2 (aB bB rfl (hv2.g 0 rfl)) (.t2 (aQ rfl rfl h1) (.a2 rfl (.done (.condF rfl (.sr (.t2 (aA gQ rfl) ?_))))))))))));refine .t2 (aB bB rfl (hv2.g 5 rfl)) ?_;refine .t2 (bJ rfl rfl (by omega)) ?_;refine .a2 rfl (.done (.condF rfl (.sr (.t2 (aA bK rfl) (.t2 (aB bB rfl (hv2.g 0 rfl)) ?_)))));refine .t2 (aX rfl rfl (by omega)) ?_;refine .m2 rfl ?_
     first | refine .gd (aL rfl) rfl ?_ | refine .so rfl rfl ?_
     refine .t2 (aM rfl rfl) (.m2 rfl ?_)
     first | refine .gd (aA bK rfl) rfl ?_ | refine .so rfl rfl ?_
     refine .g2 (aB bB rfl (hv2.g 0 rfl)) ?_;refine .g2 (aQ rfl rfl (by omega)) ?_;refine .t2 (aP rfl rfl) (.a2 rfl (.done (.condF rfl (.sr (.t2 (aA bK rfl) (.t2 (aB bB rfl (hv2.g 0 rfl)) ?_))))));refine .t2 (gD rfl rfl (by omega)) ?_;refine .m2 rfl ?_
     first | refine .gd (aA bK rfl) rfl ?_ | refine .so rfl rfl ?_
     refine .g2 (aB bB rfl (hv2.g 0 rfl)) ?_;refine .g2 (lH rfl rfl (by omega)) ?_;refine .t2 (aM rfl rfl) (.a2 rfl (.done (.condF rfl (Wp.skip (.sr (.t2 (bR (v := .agg #[.int .i64 11,.int .i64 9]) (pv := [(0,.int .i64 11),(1,.int .i64 9)]) (jN _ _) rfl) (.t2 (bR (v := .agg #[.int .i64 13,.int .i64 10]) (pv := [(0,.int .i64 13),(1,.int .i64 10)]) (jN _ _) rfl) (.t2 (bR (v := .agg #[.int .i64 14,.int .i64 11]) (pv := [(0,.int .i64 14),(1,.int .i64 11)]) (jN _ _) rfl) (.t2 (bR (v := .agg #[.int .i64 15,.int .i64 12]) (pv := [(0,.int .i64 15),(1,.int .i64 12)]) (jN _ _) rfl) (.t2 (bR (v := .agg #[.int .i64 16,.int .i64 13]) (pv := [(0,.int .i64 16),(1,.int .i64 13)]) (jN _ _) rfl) (Rg.wd trivial (aD (pv := [(0,.agg #[.int .i64 11,.int .i64 9]),(1,.agg #[.int .i64 13,.int .i64 10]),(2,.agg #[.int .i64 14,.int .i64 11]),(3,.agg #[.int .i64 15,.int .i64 12]),(4,.agg #[.int .i64 16,.int .i64 13])]) (cs := aN rP eB) Gp rfl) rfl ?_)))))))))));rintro _ w2 ⟨bb,rfl,qb,hx2,hvb⟩;replace hx := hx.ext hx2;replace hv2 := hv2.ext hx2;have hsl : SlC w2 (.slice (some ⟨bb,0,none⟩) 5 5) 2 eB.length (aN rP eB) := dH hvb rfl;refine .a2 rfl (.done (.seq (.sr (.m2 rfl (.t2 (bV hsl Tryz.underlying227 rfl) (.m2 rfl (.done (Wp.block ?_))))))));refine Wp.loop (ι := Nat) (fun i => [(2,.pointer (some ⟨b2,0,none⟩)),(47,.slice (some ⟨bb,0,none⟩) 5 5),(48,.int .i64 eB.length),(49,.int .i64 i)])
      (fun i w' => i ≤ eB.length ∧ (∀ j (hq : j < eB.length),j < i → (eB[j]).1 ≠ h.kind) ∧ Ext w2 w') (fun i => eB.length - i) 0 (by repeat (first | exact .nil | refine .cons rfl ?_)) ⟨Nat.zero_le _,fun j _ hj => absurd hj (Nat.not_lt_zero _),Ext.refl _⟩ ?_
     rintro i wl ⟨hi,hno,hy⟩;replace hx := hx.ext hy;replace hv2 := hv2.ext hy;replace hsl := hsl.ext hy;have ht5 : eB.length = 5 := rfl
     by_cases hlt : i < eB.length
     ·skip
      refine .sr ?_
      first | refine .tq (bG rfl rfl (by omega)) rfl ?_ | refine .tq (bJ rfl rfl (by omega)) rfl ?_ | refine .tq (cU rfl rfl) rfl ?_
      refine .done (.seq (.condT rfl (Wp.skip (.seq (Wp.block (.sr ?_))))));refine Rg.ix hsl trivial rfl rfl Tryz.underlying227 nK (by omega) rfl ?_;intro bt51 ot51 ht51;rw [Int.toNat_natCast,bT rQ eB i hlt] at ht51;refine .t2 (bD rfl ht51 (by exact nK)) ?_;refine Rg.wd trivial (cJ Tryz.zeroValue226 rfl) rfl ?_;rintro _ wab7 ⟨b7,rfl,qb7,a,b⟩;refine Rg.wn trivial (cB (cs := (rP eB[i])) b rfl rfl rfl (nK) (rfl) (rfl)) ?_;rintro _ w41 ⟨hub7,hvb7⟩;have hx41 := a.upd hub7 (Nat.le_of_eq qb7.symm);clear b hub7 a;replace hx := hx.ext hx41;replace hy := hy.ext hx41;replace hv2 := hv2.ext hx41;replace hsl := hsl.ext hx41;replace ht51 := ht51.ext hx41;clear qb7;refine .done ?_
      by_cases he : (eB[i]).1 = h.kind
      ·skip
       refine .sr ?_;refine .t2 (dX Tryz.underlying226 bB rfl rfl (by omega)) ?_;refine .t2 (aB bB rfl (hvb7.g 0 rfl)) (.t2 (aA bK rfl) (.t2 (aB bB rfl (hv2.g 0 rfl)) (.t2 (aX rfl rfl he) (.done (.condT rfl (.sr ?_))))));refine .t2 (dX Tryz.underlying226 bB rfl rfl (by omega)) ?_;refine .t2 (aB bB rfl (hvb7.g 1 rfl)) (.a2 rfl (.done (Wp.ret ?_)));exact ⟨[_],⟨rfl,trivial⟩,by rw [vF h.kind i hlt hno he] <;> rfl,hx⟩
      ·skip
       refine .sr ?_;refine .t2 (dX Tryz.underlying226 bB rfl rfl (by omega)) ?_;refine .t2 (aB bB rfl (hvb7.g 0 rfl)) (.t2 (aA bK rfl) (.t2 (aB bB rfl (hv2.g 0 rfl)) (.t2 (aQ rfl rfl he) (.done (.condF rfl (Wp.skip (Wp.region ?_)))))))
       first | refine .tq (bE rfl rfl (by omega)) rfl ?_ | refine .tq (fR rfl rfl) rfl ?_
       refine .m2 rfl (.done ?_);refine ⟨i + 1,by repeat (first | exact .nil | refine .cons rfl ?_),⟨hlt,fun j hj hji => ?_,hy⟩,by omega⟩
       rcases Nat.lt_succ_iff_lt_or_eq.1 hji with c | c
       ·exact hno j hj c
       ·subst c; exact he
     ·skip
      refine .sr ?_
      first | refine .tq (bG rfl rfl (by omega)) rfl ?_ | refine .tq (bJ rfl rfl (by omega)) rfl ?_ | refine .tq (cU rfl rfl) rfl ?_
      refine .done (.seq (.condF rfl (Wp.exit (.sr (.a2 rfl (.done (Wp.ret ?_)))))));exact ⟨[_],⟨rfl,trivial⟩,by rw [oS h.kind fun j hj => hno j hj (by omega)] <;> rfl,hx⟩
   ·by_cases h4 : h.kind = 44
    ·rw [if_pos (.inr h4)]
     refine Cl.enter Tryz.func167 rfl Tryz.ntmps167 rfl rfl (.sr (Rg.wd trivial (bA (cs := h.cells cv) rfl rfl) rfl ?_));rintro _ w1 ⟨b2,rfl,q2,hx1,hv2⟩;replace hx := hx.ext hx1;refine .a2 rfl (.done (.seq (Wp.block (.sr (.t2 (aA bK rfl) (.t2 (aB bB rfl (hv2.g 0 rfl)) (.t2 (aQ rfl rfl h1) (.a2 rfl (.done (.condF rfl (.sr (.t2 (aA gQ rfl) ?_))))))))))));refine .t2 (aB bB rfl (hv2.g 5 rfl)) ?_;refine .t2 (bJ rfl rfl (by omega)) ?_;refine .a2 rfl (.done (.condF rfl (.sr (.t2 (aA bK rfl) (.t2 (aB bB rfl (hv2.g 0 rfl)) ?_)))));refine .t2 (aQ rfl rfl (by omega)) ?_;refine .m2 rfl (.so rfl rfl (.t2 (aP rfl rfl) (.m2 rfl ?_)))
     first | refine .gd (aA bK rfl) rfl ?_ | refine .so rfl rfl ?_
     refine .g2 (aB bB rfl (hv2.g 0 rfl)) ?_;refine .g2 (aX rfl rfl (by omega)) ?_;refine .t2 (aP rfl rfl) (.a2 rfl (.done (.condT rfl (.sr (.a2 rfl (.done (Wp.ret ?_)))))));exact ⟨[_],⟨rfl,trivial⟩,rfl,hx⟩
    ·rw [if_neg (by rintro (h | h); exact h3 h.1; exact h4 h)]
     by_cases h5 : 3 ≤ h.kind
     ·by_cases h6 : h.kind ≤ 9
      ·rw [if_pos ⟨h5,h6⟩]
       refine Cl.enter Tryz.func167 rfl Tryz.ntmps167 rfl rfl (.sr (Rg.wd trivial (bA (cs := h.cells cv) rfl rfl) rfl ?_));rintro _ w1 ⟨b2,rfl,q2,hx1,hv2⟩;replace hx := hx.ext hx1;refine .a2 rfl (.done (.seq (Wp.block (.sr (.t2 (aA bK rfl) (.t2 (aB bB rfl (hv2.g 0 rfl)) (.t2 (aQ rfl rfl h1) (.a2 rfl (.done (.condF rfl (.sr (.t2 (aA gQ rfl) ?_))))))))))));refine .t2 (aB bB rfl (hv2.g 5 rfl)) ?_;refine .t2 (bJ rfl rfl (by omega)) ?_;refine .a2 rfl (.done (.condF rfl (.sr (.t2 (aA bK rfl) (.t2 (aB bB rfl (hv2.g 0 rfl)) ?_)))));refine .t2 (aQ rfl rfl (by omega)) ?_;refine .m2 rfl (.so rfl rfl (.t2 (aP rfl rfl) (.m2 rfl ?_)))
       first | refine .gd (aA bK rfl) rfl ?_ | refine .so rfl rfl ?_
       refine .g2 (aB bB rfl (hv2.g 0 rfl)) ?_;refine .g2 (aQ rfl rfl (by omega)) ?_;refine .t2 (aP rfl rfl) (.a2 rfl (.done (.condF rfl (.sr (.t2 (aA bK rfl) (.t2 (aB bB rfl (hv2.g 0 rfl)) ?_))))));refine .t2 (gD rfl rfl (by omega)) ?_;refine .m2 rfl ?_
       first | refine .gd (aA bK rfl) rfl ?_ | refine .so rfl rfl ?_
       refine .g2 (aB bB rfl (hv2.g 0 rfl)) ?_;refine .g2 (mR rfl rfl (by omega)) ?_;refine .t2 (aM rfl rfl) (.a2 rfl (.done (.condT rfl (.sr (.t2 (aA bK rfl) (.t2 (aB bB rfl (hv2.g 0 rfl)) ?_))))));refine .t2 (dW rfl rfl (by omega)) ?_;refine .t2 (bE rfl rfl (by omega)) ?_;refine .a2 rfl (.done (Wp.ret ?_));exact ⟨[_],⟨rfl,trivial⟩,rfl,hx⟩
      ·rw [if_neg (fun hh => h6 hh.2)]
       refine Cl.enter Tryz.func167 rfl Tryz.ntmps167 rfl rfl (.sr (Rg.wd trivial (bA (cs := h.cells cv) rfl rfl) rfl ?_));rintro _ w1 ⟨b2,rfl,q2,hx1,hv2⟩;replace hx := hx.ext hx1;refine .a2 rfl (.done (.seq (Wp.block (.sr (.t2 (aA bK rfl) (.t2 (aB bB rfl (hv2.g 0 rfl)) (.t2 (aQ rfl rfl h1) (.a2 rfl (.done (.condF rfl (.sr (.t2 (aA gQ rfl) ?_))))))))))));refine .t2 (aB bB rfl (hv2.g 5 rfl)) ?_;refine .t2 (bJ rfl rfl (by omega)) ?_;refine .a2 rfl (.done (.condF rfl (.sr (.t2 (aA bK rfl) (.t2 (aB bB rfl (hv2.g 0 rfl)) ?_)))));refine .t2 (aQ rfl rfl (by omega)) ?_;refine .m2 rfl (.so rfl rfl (.t2 (aP rfl rfl) (.m2 rfl ?_)))
       first | refine .gd (aA bK rfl) rfl ?_ | refine .so rfl rfl ?_
       refine .g2 (aB bB rfl (hv2.g 0 rfl)) ?_;refine .g2 (aQ rfl rfl (by omega)) ?_;refine .t2 (aP rfl rfl) (.a2 rfl (.done (.condF rfl (.sr (.t2 (aA bK rfl) (.t2 (aB bB rfl (hv2.g 0 rfl)) ?_))))));refine .t2 (gD rfl rfl (by omega)) ?_;refine .m2 rfl ?_
       first | refine .gd (aA bK rfl) rfl ?_ | refine .so rfl rfl ?_
       refine .g2 (aB bB rfl (hv2.g 0 rfl)) ?_;refine .g2 (lH rfl rfl (by omega)) ?_;refine .t2 (aM rfl rfl) (.a2 rfl (.done (.condF rfl (Wp.skip (.sr (.t2 (bR (v := .agg #[.int .i64 11,.int .i64 9]) (pv := [(0,.int .i64 11),(1,.int .i64 9)]) (jN _ _) rfl) (.t2 (bR (v := .agg #[.int .i64 13,.int .i64 10]) (pv := [(0,.int .i64 13),(1,.int .i64 10)]) (jN _ _) rfl) (.t2 (bR (v := .agg #[.int .i64 14,.int .i64 11]) (pv := [(0,.int .i64 14),(1,.int .i64 11)]) (jN _ _) rfl) (.t2 (bR (v := .agg #[.int .i64 15,.int .i64 12]) (pv := [(0,.int .i64 15),(1,.int .i64 12)]) (jN _ _) rfl) (.t2 (bR (v := .agg #[.int .i64 16,.int .i64 13]) (pv := [(0,.int .i64 16),(1,.int .i64 13)]) (jN _ _) rfl) (Rg.wd trivial (aD (pv := [(0,.agg #[.int .i64 11,.int .i64 9]),(1,.agg #[.int .i64 13,.int .i64 10]),(2,.agg #[.int .i64 14,.int .i64 11]),(3,.agg #[.int .i64 15,.int .i64 12]),(4,.agg #[.int .i64 16,.int .i64 13])]) (cs := aN rP eB) Gp rfl) rfl ?_)))))))))));rintro _ w2 ⟨bb,rfl,qb,hx2,hvb⟩;replace hx := hx.ext hx2;replace hv2 := hv2.ext hx2;have hsl : SlC w2 (.slice (some ⟨bb,0,none⟩) 5 5) 2 eB.length (aN rP eB) := dH hvb rfl;refine .a2 rfl (.done (.seq (.sr (.m2 rfl (.t2 (bV hsl Tryz.underlying227 rfl) (.m2 rfl (.done (Wp.block ?_))))))));refine Wp.loop (ι := Nat) (fun i => [(2,.pointer (some ⟨b2,0,none⟩)),(47,.slice (some ⟨bb,0,none⟩) 5 5),(48,.int .i64 eB.length),(49,.int .i64 i)])
        (fun i w' => i ≤ eB.length ∧ (∀ j (hq : j < eB.length),j < i → (eB[j]).1 ≠ h.kind) ∧ Ext w2 w') (fun i => eB.length - i) 0 (by repeat (first | exact .nil | refine .cons rfl ?_)) ⟨Nat.zero_le _,fun j _ hj => absurd hj (Nat.not_lt_zero _),Ext.refl _⟩ ?_
       rintro i wl ⟨hi,hno,hy⟩;replace hx := hx.ext hy;replace hv2 := hv2.ext hy;replace hsl := hsl.ext hy;have ht5 : eB.length = 5 := rfl
       by_cases hlt : i < eB.length
       ·skip
        refine .sr ?_
        first | refine .tq (bG rfl rfl (by omega)) rfl ?_ | refine .tq (bJ rfl rfl (by omega)) rfl ?_ | refine .tq (cU rfl rfl) rfl ?_
        refine .done (.seq (.condT rfl (Wp.skip (.seq (Wp.block (.sr ?_))))));refine Rg.ix hsl trivial rfl rfl Tryz.underlying227 nK (by omega) rfl ?_;intro bt51 ot51 ht51;rw [Int.toNat_natCast,bT rQ eB i hlt] at ht51;refine .t2 (bD rfl ht51 (by exact nK)) ?_;refine Rg.wd trivial (cJ Tryz.zeroValue226 rfl) rfl ?_;rintro _ wab7 ⟨b7,rfl,qb7,a,b⟩;refine Rg.wn trivial (cB (cs := (rP eB[i])) b rfl rfl rfl (nK) (rfl) (rfl)) ?_;rintro _ w41 ⟨hub7,hvb7⟩;have hx41 := a.upd hub7 (Nat.le_of_eq qb7.symm);clear b hub7 a;replace hx := hx.ext hx41;replace hy := hy.ext hx41;replace hv2 := hv2.ext hx41;replace hsl := hsl.ext hx41;replace ht51 := ht51.ext hx41;clear qb7;refine .done ?_
        by_cases he : (eB[i]).1 = h.kind
        ·skip
         refine .sr ?_;refine .t2 (dX Tryz.underlying226 bB rfl rfl (by omega)) ?_;refine .t2 (aB bB rfl (hvb7.g 0 rfl)) (.t2 (aA bK rfl) (.t2 (aB bB rfl (hv2.g 0 rfl)) (.t2 (aX rfl rfl he) (.done (.condT rfl (.sr ?_))))));refine .t2 (dX Tryz.underlying226 bB rfl rfl (by omega)) ?_;refine .t2 (aB bB rfl (hvb7.g 1 rfl)) (.a2 rfl (.done (Wp.ret ?_)));exact ⟨[_],⟨rfl,trivial⟩,by rw [vF h.kind i hlt hno he] <;> rfl,hx⟩
        ·skip
         refine .sr ?_;refine .t2 (dX Tryz.underlying226 bB rfl rfl (by omega)) ?_;refine .t2 (aB bB rfl (hvb7.g 0 rfl)) (.t2 (aA bK rfl) (.t2 (aB bB rfl (hv2.g 0 rfl)) (.t2 (aQ rfl rfl he) (.done (.condF rfl (Wp.skip (Wp.region ?_)))))))
         first | refine .tq (bE rfl rfl (by omega)) rfl ?_ | refine .tq (fR rfl rfl) rfl ?_
         refine .m2 rfl (.done ?_);refine ⟨i + 1,by repeat (first | exact .nil | refine .cons rfl ?_),⟨hlt,fun j hj hji => ?_,hy⟩,by omega⟩
         rcases Nat.lt_succ_iff_lt_or_eq.1 hji with c | c
         ·exact hno j hj c
         ·subst c; exact he
       ·skip
        refine .sr ?_
        first | refine .tq (bG rfl rfl (by omega)) rfl ?_ | refine .tq (bJ rfl rfl (by omega)) rfl ?_ | refine .tq (cU rfl rfl) rfl ?_
        refine .done (.seq (.condF rfl (Wp.exit (.sr (.a2 rfl (.done (Wp.ret ?_)))))));exact ⟨[_],⟨rfl,trivial⟩,by rw [oS h.kind fun j hj => hno j hj (by omega)] <;> rfl,hx⟩
     ·rw [if_neg (fun hh => h5 hh.1)]
      refine Cl.enter Tryz.func167 rfl Tryz.ntmps167 rfl rfl (.sr (Rg.wd trivial (bA (cs := h.cells cv) rfl rfl) rfl ?_));rintro _ w1 ⟨b2,rfl,q2,hx1,hv2⟩;replace hx := hx.ext hx1;refine .a2 rfl (.done (.seq (Wp.block (.sr (.t2 (aA bK rfl) (.t2 (aB bB rfl (hv2.g 0 rfl)) (.t2 (aQ rfl rfl h1) (.a2 rfl (.done (.condF rfl (.sr (.t2 (aA gQ rfl) ?_))))))))))));refine .t2 (aB bB rfl (hv2.g 5 rfl)) ?_;refine .t2 (bJ rfl rfl (by omega)) ?_;refine .a2 rfl (.done (.condF rfl (.sr (.t2 (aA bK rfl) (.t2 (aB bB rfl (hv2.g 0 rfl)) ?_)))));refine .t2 (aQ rfl rfl (by omega)) ?_;refine .m2 rfl (.so rfl rfl (.t2 (aP rfl rfl) (.m2 rfl ?_)))
      first | refine .gd (aA bK rfl) rfl ?_ | refine .so rfl rfl ?_
      refine .g2 (aB bB rfl (hv2.g 0 rfl)) ?_;refine .g2 (aQ rfl rfl (by omega)) ?_;refine .t2 (aP rfl rfl) (.a2 rfl (.done (.condF rfl (.sr (.t2 (aA bK rfl) (.t2 (aB bB rfl (hv2.g 0 rfl)) ?_))))));refine .t2 (iU rfl rfl (by omega)) ?_;refine .m2 rfl (.so rfl rfl (.so rfl rfl (.so rfl rfl (.t2 (aP rfl rfl) (.a2 rfl (.done (.condF rfl (Wp.skip (.sr (.t2 (bR (v := .agg #[.int .i64 11,.int .i64 9]) (pv := [(0,.int .i64 11),(1,.int .i64 9)]) (jN _ _) rfl) (.t2 (bR (v := .agg #[.int .i64 13,.int .i64 10]) (pv := [(0,.int .i64 13),(1,.int .i64 10)]) (jN _ _) rfl) (.t2 (bR (v := .agg #[.int .i64 14,.int .i64 11]) (pv := [(0,.int .i64 14),(1,.int .i64 11)]) (jN _ _) rfl) ?_))))))))))));refine .t2 (bR (v := .agg #[.int .i64 15,.int .i64 12]) (pv := [(0,.int .i64 15),(1,.int .i64 12)]) (jN _ _) rfl) (.t2 (bR (v := .agg #[.int .i64 16,.int .i64 13]) (pv := [(0,.int .i64 16),(1,.int .i64 13)]) (jN _ _) rfl) (Rg.wd trivial (aD (pv := [(0,.agg #[.int .i64 11,.int .i64 9]),(1,.agg #[.int .i64 13,.int .i64 10]),(2,.agg #[.int .i64 14,.int .i64 11]),(3,.agg #[.int .i64 15,.int .i64 12]),(4,.agg #[.int .i64 16,.int .i64 13])]) (cs := aN rP eB) Gp rfl) rfl ?_));rintro _ w2 ⟨bb,rfl,qb,hx2,hvb⟩;replace hx := hx.ext hx2;replace hv2 := hv2.ext hx2;have hsl : SlC w2 (.slice (some ⟨bb,0,none⟩) 5 5) 2 eB.length (aN rP eB) := dH hvb rfl;refine .a2 rfl (.done (.seq (.sr (.m2 rfl (.t2 (bV hsl Tryz.underlying227 rfl) (.m2 rfl (.done (Wp.block ?_))))))));refine Wp.loop (ι := Nat) (fun i => [(2,.pointer (some ⟨b2,0,none⟩)),(47,.slice (some ⟨bb,0,none⟩) 5 5),(48,.int .i64 eB.length),(49,.int .i64 i)])
       (fun i w' => i ≤ eB.length ∧ (∀ j (hq : j < eB.length),j < i → (eB[j]).1 ≠ h.kind) ∧ Ext w2 w') (fun i => eB.length - i) 0 (by repeat (first | exact .nil | refine .cons rfl ?_)) ⟨Nat.zero_le _,fun j _ hj => absurd hj (Nat.not_lt_zero _),Ext.refl _⟩ ?_
      rintro i wl ⟨hi,hno,hy⟩;replace hx := hx.ext hy;replace hv2 := hv2.ext hy;replace hsl := hsl.ext hy;have ht5 : eB.length = 5 := rfl
      by_cases hlt : i < eB.length
      ·skip
       refine .sr ?_
       first | refine .tq (bG rfl rfl (by omega)) rfl ?_ | refine .tq (bJ rfl rfl (by omega)) rfl ?_ | refine .tq (cU rfl rfl) rfl ?_
       refine .done (.seq (.condT rfl (Wp.skip (.seq (Wp.block (.sr ?_))))));refine Rg.ix hsl trivial rfl rfl Tryz.underlying227 nK (by omega) rfl ?_;intro bt51 ot51 ht51;rw [Int.toNat_natCast,bT rQ eB i hlt] at ht51;refine .t2 (bD rfl ht51 (by exact nK)) ?_;refine Rg.wd trivial (cJ Tryz.zeroValue226 rfl) rfl ?_;rintro _ wab7 ⟨b7,rfl,qb7,a,b⟩;refine Rg.wn trivial (cB (cs := (rP eB[i])) b rfl rfl rfl (nK) (rfl) (rfl)) ?_;rintro _ w41 ⟨hub7,hvb7⟩;have hx41 := a.upd hub7 (Nat.le_of_eq qb7.symm);clear b hub7 a;replace hx := hx.ext hx41;replace hy := hy.ext hx41;replace hv2 := hv2.ext hx41;replace hsl := hsl.ext hx41;replace ht51 := ht51.ext hx41;clear qb7;refine .done ?_
       by_cases he : (eB[i]).1 = h.kind
       ·skip
        refine .sr ?_;refine .t2 (dX Tryz.underlying226 bB rfl rfl (by omega)) ?_;refine .t2 (aB bB rfl (hvb7.g 0 rfl)) (.t2 (aA bK rfl) (.t2 (aB bB rfl (hv2.g 0 rfl)) (.t2 (aX rfl rfl he) (.done (.condT rfl (.sr ?_))))));refine .t2 (dX Tryz.underlying226 bB rfl rfl (by omega)) ?_;refine .t2 (aB bB rfl (hvb7.g 1 rfl)) (.a2 rfl (.done (Wp.ret ?_)));exact ⟨[_],⟨rfl,trivial⟩,by rw [vF h.kind i hlt hno he] <;> rfl,hx⟩
       ·skip
        refine .sr ?_;refine .t2 (dX Tryz.underlying226 bB rfl rfl (by omega)) ?_;refine .t2 (aB bB rfl (hvb7.g 0 rfl)) (.t2 (aA bK rfl) (.t2 (aB bB rfl (hv2.g 0 rfl)) (.t2 (aQ rfl rfl he) (.done (.condF rfl (Wp.skip (Wp.region ?_)))))))
        first | refine .tq (bE rfl rfl (by omega)) rfl ?_ | refine .tq (fR rfl rfl) rfl ?_
        refine .m2 rfl (.done ?_);refine ⟨i + 1,by repeat (first | exact .nil | refine .cons rfl ?_),⟨hlt,fun j hj hji => ?_,hy⟩,by omega⟩
        rcases Nat.lt_succ_iff_lt_or_eq.1 hji with c | c
        ·exact hno j hj c
        ·subst c; exact he
      ·skip
       refine .sr ?_
       first | refine .tq (bG rfl rfl (by omega)) rfl ?_ | refine .tq (bJ rfl rfl (by omega)) rfl ?_ | refine .tq (cU rfl rfl) rfl ?_
       refine .done (.seq (.condF rfl (Wp.exit (.sr (.a2 rfl (.done (Wp.ret ?_)))))));exact ⟨[_],⟨rfl,trivial⟩,by rw [oS h.kind fun j hj => hno j hj (by omega)] <;> rfl,hx⟩
structure CvV (F : Fs) (w : World) (b : Nat) (m : Int) (acc : List Sy) (dv : Value) : Prop where
 und : Und F w.heap.size
 var : Var w b [.int .i64 m,dv] 163
 row : w.ownsRow 0 59 6 dv acc.length (aN lC acc)
 nb : ¬ F b
 nd : ∀ z,dv.ownBlock = some z → ¬ F z
def Cv (F : Fs) (w : World) (b : Nat) (m : Int) (acc : List Sy) : Prop := ∃ dv,CvV F w b m acc dv
theorem CvV.ext {F : Fs} {w w' : World} {b : Nat} {m : Int} {acc : List Sy} {dv : Value} (h : CvV F w b m acc dv) (x : Ext w w') : CvV F w' b m acc dv :=
 ⟨fun z hz => Nat.lt_of_lt_of_le (h.und z hz) x.le,h.var.ext x,cW h.row x,h.nb,h.nd⟩
theorem Cv.ext {F : Fs} {w w' : World} {b : Nat} {m : Int} {acc : List Sy} (h : Cv F w b m acc) (x : Ext w w') : Cv F w' b m acc := ⟨_,h.choose_spec.ext x⟩
theorem Cv.und {F : Fs} {w : World} {b : Nat} {m : Int} {acc : List Sy} (h : Cv F w b m acc) : Und F w.heap.size := h.choose_spec.und
theorem Cv.sub {F G : Fs} {w : World} {b : Nat} {m : Int} {acc : List Sy} (h : Cv G w b m acc) (hs : ∀ z,F z → G z) : Cv F w b m acc := by
 obtain ⟨dv,h⟩ := h;exact ⟨dv,fun z hz => h.und z (hs z hz),h.var,h.row,fun hb => h.nb (hs _ hb),fun z hz hf => h.nd z hz (hs _ hf)⟩
theorem Cv.add {F : Fs} {w w' : World} {b k : Nat} {m : Int} {acc : List Sy} (h : Cv F w b m acc) (x : Ext w w') (hk : w.heap.size ≤ k) (hk' : k < w'.heap.size) : Cv (fun z => F z ∨ z = k) w' b m acc := by
 obtain ⟨dv,h⟩ := h;have hb := h.var.lt;refine ⟨dv,fun z hz => ?_,h.var.ext x,cW h.row x,fun hz => ?_,fun z hz hf => ?_⟩
 ·rcases hz with hz | rfl
  ·exact Nat.lt_of_lt_of_le (h.und z hz) x.le
  ·exact hk'
 ·rcases hz with hz | rfl
  ·exact h.nb hz
  ·omega
 ·rcases hf with hf | rfl
  ·exact h.nd z hz hf
  ·have := gT h.row hz
   omega
theorem CvV.app {F : Fs} {w w' : World} {b : Nat} {m : Int} {acc : List Sy} {dv v' : Value} {d : Sy} (h : CvV F w b m acc dv) (hap : AppR w 59 6 acc.length 1 dv (aN lC acc ++ lC d) v' w') :
  ∃ gk capk spk,v' = .slice (some ⟨gk,0,none⟩) (acc.length + 1) capk ∧ acc.length + 1 ≤ capk ∧ capk ≤ maxLen ∧ spk.length = (capk - (acc.length + 1)) * 6 ∧ Var w' gk (aN lC (acc ++ [d]) ++ spk) 59 ∧ Var w' b [.int .i64 m,dv] 163 ∧ Bw F w w' ∧ ¬ F gk := by
 obtain ⟨gk,capk,spk,rfl,h1,h2,h3,h4,h5⟩ := hap;rw [← iD] at h4;have hfr : ¬ F gk := by
  rcases h5 with ⟨⟨c,e⟩,_⟩ | ⟨e,_⟩
  ·exact h.nd gk (by rw [e]; rfl)
  ·exact fun hf => by have := h.und gk hf; omega
 have hb := h.var.lt;refine ⟨gk,capk,spk,rfl,h1,h2,h3,h4,?_,?_,hfr⟩
 ·rcases h5 with ⟨⟨c,e⟩,hu⟩ | ⟨_,hx⟩
  ·refine h.var.upd hu fun e2 => ?_
   subst e2;exact fB h.row h.var (by decide) (by rw [e]; simp [Value.ownBlock])
  ·exact h.var.ext hx
 ·rcases h5 with ⟨⟨c,e⟩,hu⟩ | ⟨_,hx⟩
  ·exact Bw.upd hu hfr
  ·exact Bw.of hx h.und
theorem CvV.push {F : Fs} {w w' : World} {b gk capk : Nat} {m : Int} {acc : List Sy} {spk : List Value} (hF : Und F w.heap.size) (nb : ¬ F b) (hB : Bw F w w') (hv : Var w' b [.int .i64 m,.slice (some ⟨gk,0,none⟩) acc.length capk] 163) (h1 : acc.length ≤ capk) (h2 : capk ≤ maxLen) (h3 : spk.length = (capk - acc.length) * 6) (hk : Var w' gk (aN lC acc ++ spk) 59) (hfr : ¬ F gk) :
  Cv F w' b m acc :=
 ⟨_,fun z hz => Nat.lt_of_lt_of_le (hF z hz) hB.size,hv,bM (Nat.zero_le _) (aY dS _) h1 h2 h3 hk,nb,fun z hz => by cases hz; exact hfr⟩
theorem Gq : ∀ (n : Nat) (g : Mn),anc g.er ≤ n → ∀ (F : Fs) (w : World) (b : Nat) (m p : Int) (lp : Bool) (acc : List Sy),Cv F w b m acc → NOk F w g → acc.length + anc g.er ≤ 1000000 →
  Cl Tryz.prog 107 #[.pointer (some ⟨b,0,none⟩),.agg g.cells.toArray,.int .i64 p,.bool lp] w (fun u w' => Cv F w' b m (oC m g.er p lp acc) ∧ Bw F w w') := by
 intro n
 induction n with
 | zero =>
  intro g hn
  cases g
  simp [Mn.er,anc] at hn
 | succ n ih =>
  intro g hn F w b m p lp acc hC hg hl;obtain ⟨h,cv,kids⟩ := g;obtain ⟨hs,hone,hbk,hkk⟩ : SlC w cv 7 kids.length (aN Mn.cells kids) ∧ cv.oneCell' = true ∧ jL F cv ∧ ∀ g ∈ kids,NOk F w g := by cases hg with | mk a b c d => exact ⟨a,b,c,d⟩
  simp only [Mn.er,anc] at hn hl;have hU := hC.und;have hx := Ext.refl w;obtain ⟨k,hk⟩ : ∃ k,cT h lp = k := ⟨_,rfl⟩;refine Cl.enter Tryz.func107 rfl Tryz.ntmps107 rfl rfl (.sr (Rg.wd trivial (bA (cs := h.cells cv) rfl rfl) rfl ?_));rintro _ w1 ⟨b5,rfl,q5,hx1,hv5⟩;have hC5 := hC.add hx1 (Nat.le_of_eq q5.symm) hv5.lt;replace hx := hx.ext hx1;refine .done ?_;have hU5 := hC5.und;refine Wp.seq (Wp.cut (fun L w' => Gx.Sub [(0,.pointer (some ⟨b,0,none⟩)),(5,.pointer (some ⟨b5,0,none⟩)),(2,.int .i64 (gL h p lp acc)),(3,.bool lp)] L ∧ Cv (fun z => F z ∨ z = b5) w' b m (eO m h p lp acc) ∧ Bw (fun z => F z ∨ z = b5) w1 w') ?_ ?_)
  ·skip
   refine .sr ?_;refine .t2 (bD rfl hv5.cells (by exact cR)) ?_;refine .m2 rfl (Rg.wd trivial (aC Tryz.call167 rfl kZ) rfl ?_);rintro _ w2 ⟨rfl,hx2⟩;have hB := Bw.of hx2 hU5;rw [hk];replace hv5 := hv5.ext hx2;replace hC5 := hC5.ext hx2;refine .a2 rfl (.done ?_);obtain ⟨bz,hbz⟩ : ∃ bz,decide (k ≠ 0) = bz := ⟨_,rfl⟩;refine .sr (.m2 rfl (.t2 (sX rfl rfl) ?_));rw [hbz];refine .done ?_
   by_cases h0 : k = 0
   ·obtain rfl : bz = false := by rw [← hbz]; simpa using h0
    refine .condF rfl (Wp.skip ?_);have e1 : eO m h p lp acc = acc := by unfold eO; rw [if_pos (by rw [hk]; exact h0)]
    have e2 : gL h p lp acc = p := by unfold gL; rw [if_neg (by rw [hk]; exact fun hh => hh.1 h0)]
    rw [e1,e2];exact ⟨by repeat (first | exact .nil | refine .cons rfl ?_),hC5,hB⟩
   ·obtain rfl : bz = true := by rw [← hbz]; simpa using h0
    have e1 : eO m h p lp acc = acc ++ [nW m h p lp] := by unfold eO; rw [if_neg (by rw [hk]; exact h0)]
    refine .condT rfl ?_;refine Wp.seq (Wp.cut (fun L w' => Gx.Sub [(0,.pointer (some ⟨b,0,none⟩)),(5,.pointer (some ⟨b5,0,none⟩)),(2,.int .i64 p),(3,.bool lp),(8,.int .i64 k),(9,.bool (rN h))] L ∧ w2 = w') ?_ ?_)
    ·by_cases hpk : h.kind ≤ 9
     ·skip
      refine Wp.region (.t2 (aA bK rfl) (.t2 (aB bB rfl (hv5.g 0 rfl)) ?_));refine .t2 (mR rfl rfl (by omega)) ?_;refine .m2 rfl ?_
      first | refine .gd (aA kV rfl) rfl ?_ | refine .so rfl rfl ?_
      refine .g2 (aB bB rfl (hv5.g 1 rfl)) (.g2 (Lz rfl rfl) (.g2 (sX rfl rfl) (.t2 (aM rfl rfl) ?_)));rw [show decide (Ly h.value 1 ≠ 0) = rN h from by unfold rN; rw [decide_eq_true hpk]; rfl];refine .a2 rfl (.done ?_);exact ⟨by repeat (first | exact .nil | refine .cons rfl ?_),rfl⟩
     ·skip
      refine Wp.region (.t2 (aA bK rfl) (.t2 (aB bB rfl (hv5.g 0 rfl)) ?_));refine .t2 (lH rfl rfl (by omega)) ?_;refine .m2 rfl (.so rfl rfl (.so rfl rfl (.so rfl rfl (.so rfl rfl (.t2 (aP rfl rfl) ?_)))));rw [show false = rN h from by unfold rN; rw [decide_eq_false hpk]; rfl];refine .a2 rfl (.done ?_);exact ⟨by repeat (first | exact .nil | refine .cons rfl ?_),rfl⟩
    ·rintro L' _ ⟨hs',rfl⟩
     refine Wp.sub hs' ?_;obtain ⟨i59,hi59,hz59,hsi59,hby59⟩ := Fd;obtain ⟨dv,D⟩ := hC5;have hsy : lC (nW m h p lp) = [.int .i64 k,.int .i64 m,.int .i64 (iF h),.int .i64 p,.string h.text,.bool (rN h)] := by rw [← hk]; rfl
     refine Wp.seq (Wp.drawV (fun w' => Var w' b [.int .i64 m,dv] 163 ∧ Var w' b5 (h.cells cv) 27) [0,1,2,3,4,5,6,7,8,9,10,12,13,14,15,11,16,17,18,19,20,21] [0] mixed (by kernel_rfl) (by kernel_rfl) ?_);intro w3 hx3 hh3;replace hv5 := hv5.ext hx3;replace D := D.ext hx3;replace hB := sD hB hx3 hU5;refine ⟨⟨D.var,hv5⟩,?_⟩;refine Rv.tm trivial rfl (ts fun wz hkz => by exact aL rfl) rfl ?_;refine Rv.tm trivial rfl (ts fun wz hkz => by exact aL rfl) rfl ?_;refine Rv.tm trivial rfl (ts fun wz hkz => by exact aF rfl) rfl ?_;refine Rv.tm trivial rfl (ts fun wz hkz => by exact aA jB rfl) rfl ?_;refine Rv.tm trivial rfl (ts fun wz hkz => by have y1 := hkz.1.cells; exact aB sG rfl (bC.get (i := 1) y1 rfl)) rfl ?_;refine Rv.tm trivial rfl (ts fun wz hkz => by exact aL rfl) rfl ?_;refine Rv.tm trivial rfl (ts fun wz hkz => by exact aL rfl) rfl ?_;refine Rv.tm trivial rfl (ts fun wz hkz => by exact aF rfl) rfl ?_;refine Rv.tm trivial rfl (ts fun wz hkz => by exact aA A4 rfl) rfl ?_;refine Rv.tm trivial rfl (ts fun wz hkz => by have y1 := hkz.1.cells; exact aB bB rfl (bC.get (i := 0) y1 rfl)) rfl ?_;refine Rv.tm trivial rfl (ts fun wz hkz => by have y5 := hkz.2.cells; exact bD rfl y5 (by exact cR)) rfl ?_;refine Rv.tm trivial rfl (ts fun wz hkz => by exact aL rfl) rfl ?_;refine Rv.tm trivial rfl (ts fun wz hkz => by exact aA mW rfl) rfl ?_;refine Rv.tm trivial rfl (ts fun wz hkz => by have y5 := hkz.2.cells; exact aB gY rfl (bC.get (i := 2) y5 rfl)) rfl ?_;refine Rv.tm trivial rfl (ts fun wz hkz => by exact aL rfl) rfl ?_;refine Rv.wd trivial rfl (aC Tryz.call168 rfl oR) rfl (fun _ _ hr => ⟨D.var.ext hr.2,hv5.ext hr.2⟩) ?_;rintro _ w4 ⟨rfl,hx4⟩;replace hB := sD hB hx4 hU5;replace hv5 := hv5.ext hx4;replace D := D.ext hx4;refine Rv.tm trivial rfl (ts fun wz hkz => by exact bR (kI _ _ _ _ _ _) rfl) rfl ?_;refine Rv.wd trivial rfl (aD (qV _ _ _ _ _ _) rfl) rfl (fun _ _ hr => by obtain ⟨_,_,_,hr,_⟩ := hr; exact ⟨D.var.ext hr,hv5.ext hr⟩) ?_;rintro _ w5 ⟨bb,rfl,qb,hx5,hvb⟩
     replace hB := sD hB hx5 hU5;replace hv5 := hv5.ext hx5;replace D := D.ext hx5;refine Rv.wd trivial rfl (eI Tryz.underlying53 hi59 hz59 hsi59 hby59 rfl rfl rfl D.row (dH hvb rfl) (by simp [Value.oneCell']) (by decide) (by unfold maxLen; omega) (by omega)) rfl (fun v2 wP hap => by obtain ⟨_,_,_,_,_,_,_,_,h6,h7,_⟩ := D.app (d := nW m h p lp) (v' := v2) (w' := wP) (by rw [hsy]; exact hap); exact ⟨h6,aE hv5 h7 (.inr rfl)⟩) ?_;rintro v2 wP hap;obtain ⟨gk,capk,spk,rfl,g1,g2,g3,hvk,hvP,hBP,hfr⟩ := D.app (d := nW m h p lp) (v' := v2) (w' := wP) (by rw [hsy]; exact hap);have hne : gk ≠ b := Var.ne hvk hvP (by decide);have hBz := hB.trans hBP;clear hB;refine Rv.tm trivial rfl (ts fun wz hkz => by exact aF rfl) rfl ?_;refine Rv.tm trivial rfl (ts fun wz hkz => by exact aA jB rfl) rfl ?_;refine Rv.wnB (fun _ => True) trivial rfl (bZ hvP sG rfl rfl rfl rfl rfl) (by rfl) (fun _ _ _ => trivial) ?_;rintro _ wS ⟨huS,hvS⟩;simp only [List.set] at hvS;have hBS := hBz.trans (Bw.upd huS D.nb);have hC6 : Cv (fun z => F z ∨ z = b5) wS b m (acc ++ [nW m h p lp]) := CvV.push D.und D.nb (hBP.trans (Bw.upd huS D.nb)) (by simpa using hvS) (by simpa using g1) g2 (by simpa using g3) (hvk.upd huS hne) hfr;clear hvS hvk;refine Rv.done (.sr (.m2 rfl (Rg.wd trivial (aC Tryz.call169 rfl Dr) rfl ?_)));rintro _ _ ⟨rfl,rfl⟩;refine .done ?_
     cases hc : vD k with
     | true =>
      obtain ⟨dw,D2⟩ := hC6;have e2 : gL h p lp acc = acc.length := by unfold gL; rw [if_pos ⟨by rw [hk]; exact h0,by rw [hk]; exact hc⟩]
      have hs2 := fN D2.row;refine .condT rfl (Wp.region (.m2 rfl (.t2 (aF rfl) (.t2 (aA jB rfl) (.t2 (aB sG rfl (D2.var.g 1 rfl)) (.t2 (bV hs2 Tryz.underlying53 rfl) ?_))))));refine .t2 (dW rfl rfl (by simp; omega)) ?_;rw [show (((acc ++ [nW m h p lp]).length : Nat) : Int) - 1 = acc.length from by simp];refine .a2 rfl (.done ?_);rw [e1,e2];exact ⟨by repeat (first | exact .nil | refine .cons rfl ?_),⟨dw,D2⟩,hBS⟩
     | false =>
      have e2 : gL h p lp acc = p := by unfold gL; rw [if_neg (by rw [hk,hc]; exact fun hh => absurd hh.2 (by decide))]
      refine .condF rfl (Wp.skip ?_);rw [e1,e2];exact ⟨by repeat (first | exact .nil | refine .cons rfl ?_),hC6,hBS⟩
  ·rintro L' wJ ⟨l,hC7,hB7⟩
   refine Wp.sub l ?_;have hv7 := aE hv5 hB7 (.inr rfl);have hB8 : Bw F w wJ := (Bw.of hx hU).trans (hB7.sub fun z hz => .inl hz);have hC8 : Cv F wJ b m (eO m h p lp acc) := hC7.sub fun z hz => .inl hz;clear hC7 hC5 hv5;refine Wp.seq (Wp.cut (fun L w' => Gx.Sub [(0,.pointer (some ⟨b,0,none⟩)),(5,.pointer (some ⟨b5,0,none⟩)),(2,.int .i64 (gL h p lp acc)),(3,.bool lp),(10,.bool (hY h lp))] L ∧ wJ = w') ?_ ?_)
   ·have hcase : (h.kind = 12 ∧ lp = true ∧ hY h lp = true) ∨ (h.kind = 12 ∧ lp = false ∧ hY h lp = false) ∨ (h.kind = 9 ∧ hY h lp = true) ∨ (h.kind = 38 ∧ hY h lp = true) ∨ (h.kind ≠ 12 ∧ h.kind ≠ 9 ∧ h.kind ≠ 38 ∧ hY h lp = false) := by
     by_cases c1 : h.kind = 12
     ·cases lp
      ·exact .inr (.inl ⟨c1,rfl,by simp [hY,c1]⟩)
      ·exact .inl ⟨c1,rfl,by simp [hY,c1]⟩
     ·by_cases c2 : h.kind = 9
      ·exact .inr (.inr (.inl ⟨c2,by simp [hY,c2]⟩))
      ·by_cases c3 : h.kind = 38
       ·exact .inr (.inr (.inr (.inl ⟨c3,by simp [hY,c3]⟩)))
       ·exact .inr (.inr (.inr (.inr ⟨c1,c2,c3,by simp [hY,c1,c2,c3]⟩)))
    (rcases hcase with ⟨c1,rfl,hloc⟩ | ⟨c1,rfl,hloc⟩ | ⟨c1,hloc⟩ | ⟨c1,hloc⟩ | ⟨c1,c2,c3,hloc⟩) <;> rw [hloc]
    ·skip
     refine Wp.region (.t2 (aA bK rfl) (.t2 (aB bB rfl (hv7.g 0 rfl)) ?_));refine .t2 (aX rfl rfl (by omega)) ?_;refine .m2 rfl ?_
     first | refine .gd (aL rfl) rfl ?_ | refine .so rfl rfl ?_
     refine .t2 (aM rfl rfl) (.m2 rfl (.so rfl rfl (.so rfl rfl (.so rfl rfl (.t2 (aM rfl rfl) (.m2 rfl (.so rfl rfl (.so rfl rfl (.so rfl rfl (.t2 (aM rfl rfl) (.a2 rfl (.done ?_))))))))))));exact ⟨by repeat (first | exact .nil | refine .cons rfl ?_),rfl⟩
    ·skip
     refine Wp.region (.t2 (aA bK rfl) (.t2 (aB bB rfl (hv7.g 0 rfl)) ?_));refine .t2 (aX rfl rfl (by omega)) ?_;refine .m2 rfl ?_
     first | refine .gd (aL rfl) rfl ?_ | refine .so rfl rfl ?_
     refine .t2 (aM rfl rfl) (.m2 rfl ?_)
     first | refine .gd (aA bK rfl) rfl ?_ | refine .so rfl rfl ?_
     refine .g2 (aB bB rfl (hv7.g 0 rfl)) ?_;refine .g2 (aQ rfl rfl (by omega)) ?_;refine .t2 (aP rfl rfl) (.m2 rfl ?_)
     first | refine .gd (aA bK rfl) rfl ?_ | refine .so rfl rfl ?_
     refine .g2 (aB bB rfl (hv7.g 0 rfl)) ?_;refine .g2 (aQ rfl rfl (by omega)) ?_;refine .t2 (aP rfl rfl) (.a2 rfl (.done ?_));exact ⟨by repeat (first | exact .nil | refine .cons rfl ?_),rfl⟩
    ·skip
     refine Wp.region (.t2 (aA bK rfl) (.t2 (aB bB rfl (hv7.g 0 rfl)) ?_));refine .t2 (aQ rfl rfl (by omega)) ?_;refine .m2 rfl (.so rfl rfl (.t2 (aP rfl rfl) (.m2 rfl ?_)))
     first | refine .gd (aA bK rfl) rfl ?_ | refine .so rfl rfl ?_
     refine .g2 (aB bB rfl (hv7.g 0 rfl)) ?_;refine .g2 (aX rfl rfl (by omega)) ?_;refine .t2 (aP rfl rfl) (.m2 rfl (.so rfl rfl (.so rfl rfl (.so rfl rfl (.t2 (aM rfl rfl) (.a2 rfl (.done ?_)))))));exact ⟨by repeat (first | exact .nil | refine .cons rfl ?_),rfl⟩
    ·skip
     refine Wp.region (.t2 (aA bK rfl) (.t2 (aB bB rfl (hv7.g 0 rfl)) ?_));refine .t2 (aQ rfl rfl (by omega)) ?_;refine .m2 rfl (.so rfl rfl (.t2 (aP rfl rfl) (.m2 rfl ?_)))
     first | refine .gd (aA bK rfl) rfl ?_ | refine .so rfl rfl ?_
     refine .g2 (aB bB rfl (hv7.g 0 rfl)) ?_;refine .g2 (aQ rfl rfl (by omega)) ?_;refine .t2 (aP rfl rfl) (.m2 rfl ?_)
     first | refine .gd (aA bK rfl) rfl ?_ | refine .so rfl rfl ?_
     refine .g2 (aB bB rfl (hv7.g 0 rfl)) ?_;refine .g2 (aX rfl rfl (by omega)) ?_;refine .t2 (aP rfl rfl) (.a2 rfl (.done ?_));exact ⟨by repeat (first | exact .nil | refine .cons rfl ?_),rfl⟩
    ·skip
     refine Wp.region (.t2 (aA bK rfl) (.t2 (aB bB rfl (hv7.g 0 rfl)) ?_));refine .t2 (aQ rfl rfl (by omega)) ?_;refine .m2 rfl (.so rfl rfl (.t2 (aP rfl rfl) (.m2 rfl ?_)))
     first | refine .gd (aA bK rfl) rfl ?_ | refine .so rfl rfl ?_
     refine .g2 (aB bB rfl (hv7.g 0 rfl)) ?_;refine .g2 (aQ rfl rfl (by omega)) ?_;refine .t2 (aP rfl rfl) (.m2 rfl ?_)
     first | refine .gd (aA bK rfl) rfl ?_ | refine .so rfl rfl ?_
     refine .g2 (aB bB rfl (hv7.g 0 rfl)) ?_;refine .g2 (aQ rfl rfl (by omega)) ?_;refine .t2 (aP rfl rfl) (.a2 rfl (.done ?_));exact ⟨by repeat (first | exact .nil | refine .cons rfl ?_),rfl⟩
   ·rintro L' _ ⟨hs',rfl⟩
    refine Wp.sub hs' ?_;have hs9 : SlC wJ cv 7 kids.length (aN Mn.cells kids) := jX hs hB8 hbk;refine .sr (.t2 (aA qR rfl) (.t2 (aB yY rfl (hv7.g 6 rfl)) (.t2 (bV hs9 Tryz.underlying25 rfl) (.m2 rfl (.done (Wp.block ?_))))));obtain ⟨p2,hp2⟩ : ∃ q,gL h p lp acc = q := ⟨_,rfl⟩;obtain ⟨l2,hl2⟩ : ∃ q,hY h lp = q := ⟨_,rfl⟩;obtain ⟨acc2,hacc2⟩ : ∃ q,eO m h p lp acc = q := ⟨_,rfl⟩;have hlen2 : acc2.length ≤ acc.length + 1 := by rw [← hacc2]; exact (rO _ _ _ _ _).2
    have hres : oC m (.mk h (kB kids)) p lp acc = fK m (kB kids) p2 l2 acc2 := by rw [oC,hp2,hl2,hacc2]
    rw [hp2,hl2];rw [hacc2] at hC8;have hkl := xV (kB kids);rw [iJ] at hkl;refine Wp.loop (ι := Nat) (fun i => [(0,.pointer (some ⟨b,0,none⟩)),(2,.int .i64 p2),(10,.bool l2),(73,cv),(74,.int .i64 kids.length),(75,.int .i64 i)])
     (fun i w' => i ≤ kids.length ∧ Cv F w' b m (fK m ((kB kids).take i) p2 l2 acc2) ∧ Bw F w w') (fun i => kids.length - i) 0 (by repeat (first | exact .nil | refine .cons rfl ?_)) ⟨Nat.zero_le _,hC8,hB8⟩ ?_
    rintro i wl ⟨hi,hCi,hBi⟩;have hsi := jX hs hBi hbk
    by_cases hlt : i < kids.length
    ·have hge : (kB kids)[i]'(by rw [iJ]; exact hlt) = kids[i].er := vC kids i hlt
     have hcm : anc kids[i].er ≤ gW (kB kids) := xW (by rw [← hge]; exact List.getElem_mem _);have hgi : NOk F wl kids[i] := NOk.bw (hkk _ (List.getElem_mem hlt)) hBi fun z hz => hz;have hog := hgi.oneL;have hxx := Ext.refl wl;have hvl := nX m ((kB kids).take (i + 1)) p2 l2 acc2;have hst := Dq m (kB kids) p2 l2 acc2 i (by rw [iJ]; exact hlt);rw [hge] at hst;have hv0 := nX m ((kB kids).take i) p2 l2 acc2;have hsum : gW ((kB kids).take i) + anc kids[i].er ≤ gW (kB kids) := by
      have e : kB kids = (kB kids).take i ++ (kB kids).drop i := (List.take_append_drop _ _).symm;rw [e,xX,List.take_append_of_le_length (by simp; rw [iJ]; omega),List.take_take,Nat.min_self];rw [List.drop_eq_getElem_cons (by rw [iJ]; exact hlt),hge];simp only [gW];omega
     refine .sr ?_
     first | refine .tq (bG rfl rfl (by omega)) rfl ?_ | refine .tq (bJ rfl rfl (by omega)) rfl ?_ | refine .tq (cU rfl rfl) rfl ?_
     refine .done (.seq (.condT rfl (Wp.skip (.seq (Wp.block (.sr ?_))))));refine Rg.ix hsi trivial rfl rfl Tryz.underlying25 cR (by omega) rfl ?_;intro bt77 ot77 ht77;rw [Int.toNat_natCast,bT Mn.len kids i hlt] at ht77;refine .t2 (bD rfl ht77 (by rw [Mn.len]; exact cR)) ?_;refine Rg.wd trivial (cJ Tryz.zeroValue27 rfl) rfl ?_;rintro _ wab12 ⟨b12,rfl,qb12,f,j⟩;refine Rg.wn trivial (cB (cs := kids[i].cells) j rfl rfl rfl (by rw [Mn.len]; exact cR) (by rw [Mn.len]; rfl) (hog)) ?_;rintro _ w81 ⟨hub12,hvb12⟩;have hx81 := f.upd hub12 (Nat.le_of_eq qb12.symm);clear j hub12 f;replace hxx := hxx.ext hx81;replace hsi := hsi.ext hx81;replace ht77 := ht77.ext hx81;clear qb12;refine .done (Wp.region (.m2 rfl ?_));refine .t2 (bD rfl hvb12.cells (by rw [Mn.len]; exact cR)) ?_;refine .m2 rfl (.m2 rfl ?_);refine Rg.wd trivial (aC Tryz.call107 rfl (ih kids[i] (by omega) F _ b m p2 l2 _ (hCi.ext hxx) (hgi.bw (Bw.of hxx hCi.und) fun z hz => hz) (by omega))) rfl ?_;rintro _ wr ⟨hCr,hBr⟩;have hBn := (sD hBi hxx hU).trans hBr;refine .done (Wp.region ?_)
     first | refine .tq (bE rfl rfl (by omega)) rfl ?_ | refine .tq (fR rfl rfl) rfl ?_
     refine .m2 rfl (.done ?_);exact ⟨i + 1,by repeat (first | exact .nil | refine .cons rfl ?_),⟨hlt,by rw [hst]; exact hCr,hBn⟩,by omega⟩
    ·obtain rfl : i = kids.length := by omega
     refine .sr ?_
     first | refine .tq (bG rfl rfl (by omega)) rfl ?_ | refine .tq (bJ rfl rfl (by omega)) rfl ?_ | refine .tq (cU rfl rfl) rfl ?_
     refine .done (.seq (.condF rfl (Wp.exit ?_)));rw [← iJ kids,List.take_length] at hCi;exact ⟨[],trivial,by rw [show (Mn.mk h cv kids).er = .mk h (kB kids) from rfl,hres]; exact hCi,hBi⟩
end Go.Proofs.YtiogccmfmjhipaaGreatDoor.Sym
namespace Go.Proofs.YtiogccmfmjhipaaGreatDoor.Sym
set_option maxRecDepth 20000
open Go.Gx Go.RowKit Go.Lib
open Lexi (Asc tok)
open Par Ast
abbrev Md := ByteArray × ByteArray
def gX (m : Md) : List Value := [.string m.1,.string m.2]
theorem eA (m : Md) : (gX m).length = 2 := rfl
def vG : Option Nat → Int
 | none => -1
 | some k => k
theorem vH (o : Option Nat) : (decide (vG o ≥ 0)) = o.isSome := by
 cases o
 ·rfl
 ·simp [vG]
theorem Bs {w : World} {v : Value} {a : List Md} {f : FuncId} {fst cap : List Value} {p : Md → Bool} (hs0 : SlC w v 2 a.length (aN gX a)) (hcf : ∀ (args : Array Value) (w : World),(callFunc f args).run Tryz.prog w = .ok (.enter f args) w)
  (hp : ∀ w1,Ext w w1 → ∀ m ∈ a,Cl Tryz.prog f (fst ++ ([.agg (gX m).toArray] : List Value) ++ cap).toArray w1 (fun u w2 => u = .bool (p m) ∧ Ext w1 w2)) (hlen : a.length < 4611686018427387904) :
  Cl Tryz.prog 226 #[v,.func (.func f) fst.toArray cap.toArray] w (fun u w' => u = .int .i64 (vG (a.findIdx? p)) ∧ Ext w w') := by
 have hx := Ext.refl w;refine Cl.enter Tryz.func226 rfl Tryz.ntmps226 rfl rfl (.sr (.a2 rfl (.done (.seq (.sr (.m2 rfl (.t2 (bV hs0 Tryz.underlying49 rfl) (.m2 rfl (.done (Wp.block ?_))))))))));refine Wp.loop (ι := Nat) (fun k => [(0,v),(1,.func (.func f) fst.toArray cap.toArray),(7,.int .i64 a.length),(8,.int .i64 k)])
  (fun k w' => k ≤ a.length ∧ (∀ j (h : j < a.length),j < k → p a[j] = false) ∧ Ext w w') (fun k => a.length - k) 0 (by repeat (first | exact .nil | refine .cons rfl ?_)) ⟨Nat.zero_le _,fun j _ h => absurd h (Nat.not_lt_zero _),hx⟩ ?_
 clear hx;rintro k w3 ⟨hk,hno,hx⟩
 by_cases hlt : k < a.length
 ·cases hpk : p a[k] with
  | true =>
   refine .sr ?_
   first | refine .tq (bG rfl rfl (by omega)) rfl ?_ | refine .tq (bJ rfl rfl (by omega)) rfl ?_ | refine .tq (cU rfl rfl) rfl ?_
   refine .done (.seq (.condT rfl (Wp.skip (.seq (Wp.block (.sr (.m2 rfl (.a2 rfl (.done (.sr (.m2 rfl (.m2 rfl ?_))))))))))));refine .m2 rfl ?_;refine Rg.ix hs0 trivial rfl rfl Tryz.underlying49 jP (by omega) rfl ?_;intro bt14 ot14 ht14;replace ht14 := ht14.ext hx;rw [Int.toNat_natCast,bT eA a k hlt] at ht14;refine .t2 (bD rfl ht14 (by exact jP)) ?_;refine Rg.wd trivial (jC rfl hcf rfl (vs := [.agg (gX a[k]).toArray]) (hp _ hx a[k] (List.getElem_mem hlt))) rfl ?_;rintro _ w1 ⟨rfl,hx1⟩;replace hx := hx.ext hx1;replace ht14 := ht14.ext hx1;rw [hpk];refine .done (.condT rfl (.sr (.m2 rfl (.a2 rfl (.done (Wp.ret ?_))))));exact ⟨[_],⟨rfl,trivial⟩,by rw [List.findIdx?_eq_some_iff_getElem.2 ⟨hlt,hpk,fun j hj => by rw [hno j (by omega) hj]; decide⟩]; rfl,hx⟩
  | false =>
   refine .sr ?_
   first | refine .tq (bG rfl rfl (by omega)) rfl ?_ | refine .tq (bJ rfl rfl (by omega)) rfl ?_ | refine .tq (cU rfl rfl) rfl ?_
   refine .done (.seq (.condT rfl (Wp.skip (.seq (Wp.block (.sr (.m2 rfl (.a2 rfl (.done (.sr (.m2 rfl (.m2 rfl ?_))))))))))));refine .m2 rfl ?_;refine Rg.ix hs0 trivial rfl rfl Tryz.underlying49 jP (by omega) rfl ?_;intro bt14 ot14 ht14;replace ht14 := ht14.ext hx;rw [Int.toNat_natCast,bT eA a k hlt] at ht14;refine .t2 (bD rfl ht14 (by exact jP)) ?_;refine Rg.wd trivial (jC rfl hcf rfl (vs := [.agg (gX a[k]).toArray]) (hp _ hx a[k] (List.getElem_mem hlt))) rfl ?_;rintro _ w1 ⟨rfl,hx1⟩;replace hx := hx.ext hx1;replace ht14 := ht14.ext hx1;rw [hpk];refine .done (.condF rfl (Wp.skip (Wp.region ?_)))
   first | refine .tq (bE rfl rfl (by omega)) rfl ?_ | refine .tq (fR rfl rfl) rfl ?_
   refine .m2 rfl (.done ?_);exact ⟨k + 1,by repeat (first | exact .nil | refine .cons rfl ?_),⟨hlt,fun j h hj => by rcases Nat.lt_succ_iff_lt_or_eq.1 hj with c | c; exact hno j h c; subst c; exact hpk,hx⟩,by omega⟩
 ·skip
  refine .sr ?_
  first | refine .tq (bG rfl rfl (by omega)) rfl ?_ | refine .tq (bJ rfl rfl (by omega)) rfl ?_ | refine .tq (cU rfl rfl) rfl ?_
  refine .done (.seq (.condF rfl (Wp.exit (.sr (.a2 rfl (.done (Wp.ret ?_)))))));exact ⟨[_],⟨rfl,trivial⟩,by rw [List.findIdx?_eq_none_iff.2 fun x hx => by obtain ⟨j,hj,rfl⟩ := List.getElem_of_mem hx; exact hno j hj (by omega)]; rfl,hx⟩
theorem Jm {w : World} {v : Value} {a : List Sy} {f : FuncId} {fst cap : List Value} {p : Sy → Bool} (hs0 : SlC w v 6 a.length (aN lC a)) (hcf : ∀ (args : Array Value) (w : World),(callFunc f args).run Tryz.prog w = .ok (.enter f args) w)
  (hp : ∀ w1,Ext w w1 → ∀ m ∈ a,Cl Tryz.prog f (fst ++ ([.agg (lC m).toArray] : List Value) ++ cap).toArray w1 (fun u w2 => u = .bool (p m) ∧ Ext w1 w2)) (hlen : a.length < 4611686018427387904) :
  Cl Tryz.prog 59 #[v,.func (.func f) fst.toArray cap.toArray] w (fun u w' => u = .int .i64 (vG (a.findIdx? p)) ∧ Ext w w') := by
 have hx := Ext.refl w;refine Cl.enter Tryz.func59 rfl Tryz.ntmps59 rfl rfl (.sr (.a2 rfl (.done (.seq (.sr (.m2 rfl (.t2 (bV hs0 Tryz.underlying53 rfl) (.m2 rfl (.done (Wp.block ?_))))))))));refine Wp.loop (ι := Nat) (fun k => [(0,v),(1,.func (.func f) fst.toArray cap.toArray),(7,.int .i64 a.length),(8,.int .i64 k)])
  (fun k w' => k ≤ a.length ∧ (∀ j (h : j < a.length),j < k → p a[j] = false) ∧ Ext w w') (fun k => a.length - k) 0 (by repeat (first | exact .nil | refine .cons rfl ?_)) ⟨Nat.zero_le _,fun j _ h => absurd h (Nat.not_lt_zero _),hx⟩ ?_
 clear hx;rintro k w3 ⟨hk,hno,hx⟩
 by_cases hlt : k < a.length
 ·cases hpk : p a[k] with
  | true =>
   refine .sr ?_
   first | refine .tq (bG rfl rfl (by omega)) rfl ?_ | refine .tq (bJ rfl rfl (by omega)) rfl ?_ | refine .tq (cU rfl rfl) rfl ?_
   refine .done (.seq (.condT rfl (Wp.skip (.seq (Wp.block (.sr (.m2 rfl (.a2 rfl (.done (.sr (.m2 rfl (.m2 rfl ?_))))))))))));refine .m2 rfl ?_;refine Rg.ix hs0 trivial rfl rfl Tryz.underlying53 eG (by omega) rfl ?_;intro bt14 ot14 ht14;replace ht14 := ht14.ext hx;rw [Int.toNat_natCast,bT dS a k hlt] at ht14;refine .t2 (bD rfl ht14 (by exact eG)) ?_;refine Rg.wd trivial (jC rfl hcf rfl (vs := [.agg (lC a[k]).toArray]) (hp _ hx a[k] (List.getElem_mem hlt))) rfl ?_;rintro _ w1 ⟨rfl,hx1⟩;replace hx := hx.ext hx1;replace ht14 := ht14.ext hx1;rw [hpk];refine .done (.condT rfl (.sr (.m2 rfl (.a2 rfl (.done (Wp.ret ?_))))));exact ⟨[_],⟨rfl,trivial⟩,by rw [List.findIdx?_eq_some_iff_getElem.2 ⟨hlt,hpk,fun j hj => by rw [hno j (by omega) hj]; decide⟩]; rfl,hx⟩
  | false =>
   refine .sr ?_
   first | refine .tq (bG rfl rfl (by omega)) rfl ?_ | refine .tq (bJ rfl rfl (by omega)) rfl ?_ | refine .tq (cU rfl rfl) rfl ?_
   refine .done (.seq (.condT rfl (Wp.skip (.seq (Wp.block (.sr (.m2 rfl (.a2 rfl (.done (.sr (.m2 rfl (.m2 rfl ?_))))))))))));refine .m2 rfl ?_;refine Rg.ix hs0 trivial rfl rfl Tryz.underlying53 eG (by omega) rfl ?_;intro bt14 ot14 ht14;replace ht14 := ht14.ext hx;rw [Int.toNat_natCast,bT dS a k hlt] at ht14;refine .t2 (bD rfl ht14 (by exact eG)) ?_;refine Rg.wd trivial (jC rfl hcf rfl (vs := [.agg (lC a[k]).toArray]) (hp _ hx a[k] (List.getElem_mem hlt))) rfl ?_;rintro _ w1 ⟨rfl,hx1⟩;replace hx := hx.ext hx1;replace ht14 := ht14.ext hx1;rw [hpk];refine .done (.condF rfl (Wp.skip (Wp.region ?_)))
   first | refine .tq (bE rfl rfl (by omega)) rfl ?_ | refine .tq (fR rfl rfl) rfl ?_
   refine .m2 rfl (.done ?_);exact ⟨k + 1,by repeat (first | exact .nil | refine .cons rfl ?_),⟨hlt,fun j h hj => by rcases Nat.lt_succ_iff_lt_or_eq.1 hj with c | c; exact hno j h c; subst c; exact hpk,hx⟩,by omega⟩
 ·skip
  refine .sr ?_
  first | refine .tq (bG rfl rfl (by omega)) rfl ?_ | refine .tq (bJ rfl rfl (by omega)) rfl ?_ | refine .tq (cU rfl rfl) rfl ?_
  refine .done (.seq (.condF rfl (Wp.exit (.sr (.a2 rfl (.done (Wp.ret ?_)))))));exact ⟨[_],⟨rfl,trivial⟩,by rw [List.findIdx?_eq_none_iff.2 fun x hx => by obtain ⟨j,hj,rfl⟩ := List.getElem_of_mem hx; exact hno j hj (by omega)]; rfl,hx⟩
theorem nY {w : World} {v : Value} {a : List Md} {f : FuncId} {fst cap : List Value} {p : Md → Bool} (hs0 : SlC w v 2 a.length (aN gX a)) (hcf : ∀ (args : Array Value) (w : World),(callFunc f args).run Tryz.prog w = .ok (.enter f args) w)
  (hp : ∀ w1,Ext w w1 → ∀ m ∈ a,Cl Tryz.prog f (fst ++ ([.agg (gX m).toArray] : List Value) ++ cap).toArray w1 (fun u w2 => u = .bool (p m) ∧ Ext w1 w2)) (hlen : a.length < 4611686018427387904) :
  Cl Tryz.prog 162 #[v,.func (.func f) fst.toArray cap.toArray] w (fun u w' => u = .bool (a.any p) ∧ Ext w w') := by
 have hx := Ext.refl w;refine Cl.enter Tryz.func162 rfl Tryz.ntmps162 rfl rfl (.sr (.a2 rfl (.done (.sr (.m2 rfl (.m2 rfl (Rg.wd trivial (aC Tryz.call226 rfl (Bs hs0 hcf hp hlen)) rfl ?_)))))));rintro _ w1 ⟨rfl,hx1⟩;replace hx := hx.ext hx1;refine .t2 (lI rfl rfl) ?_;rw [vH,List.findIdx?_isSome];refine .a2 rfl (.done (Wp.ret ?_));exact ⟨[_],⟨rfl,trivial⟩,rfl,hx⟩
def kS (s : ByteArray) : Bool := decide (0 < s.size) && decide (s.size ≤ 30) && decide ((tok s).1 = (s.size : Int)) && decide ((tok s).2 = (103 : Int))
theorem pU {w : World} {s : ByteArray} (hA : Asc w) : Cl Tryz.prog 165 #[.string s] w (fun u w' => u = .bool (kS s) ∧ Ext w w') := by
 have hx := Ext.refl w;unfold kS
 by_cases h0 : 0 < s.size
 ·by_cases h1 : s.size ≤ 30
  ·by_cases h2 : ((tok s).1 : Int) = s.size
   ·skip
    refine Cl.enter Tryz.func165 rfl Tryz.ntmps165 rfl rfl (.sr (.a2 rfl (.done (.seq (.sr (.m2 rfl (.t2 (cK Tryz.underlying9 rfl) ?_)))))));refine .t2 (aQ rfl rfl (by omega)) ?_;refine .m2 rfl ?_
    first | refine .gd (aL rfl) rfl ?_ | refine .so rfl rfl ?_
    refine .g2 (cK Tryz.underlying9 rfl) ?_;refine .g2 (iA rfl rfl (by omega)) ?_;refine .t2 (aP rfl rfl) (.done (.condF rfl (Wp.skip (.sr (.m2 rfl ?_)))));refine Rg.wd trivial (aC Tryz.call51 rfl (Lexi.qY (by omega) h0 (hA.ext hx))) rfl ?_;rintro _ w1 ⟨rfl,hx1⟩;replace hx := hx.ext hx1;refine .m2 rfl (.t2 (aV rfl rfl) (.t2 (aV rfl rfl) (.a2 rfl (.a2 rfl (.done (.sr (.m2 rfl (.m2 rfl (.t2 (cK Tryz.underlying9 rfl) (.t2 (aX rfl rfl h2) (.m2 rfl ?_)))))))))))
    first | refine .gd (aL rfl) rfl ?_ | refine .so rfl rfl ?_
    refine .g2 (jI rfl rfl) (.t2 (aM rfl rfl) (.a2 rfl (.done (Wp.ret ?_))));exact ⟨[_],⟨rfl,trivial⟩,by simp [h0,h1,h2]; rfl,hx⟩
   ·skip
    refine Cl.enter Tryz.func165 rfl Tryz.ntmps165 rfl rfl (.sr (.a2 rfl (.done (.seq (.sr (.m2 rfl (.t2 (cK Tryz.underlying9 rfl) ?_)))))));refine .t2 (aQ rfl rfl (by omega)) ?_;refine .m2 rfl ?_
    first | refine .gd (aL rfl) rfl ?_ | refine .so rfl rfl ?_
    refine .g2 (cK Tryz.underlying9 rfl) ?_;refine .g2 (iA rfl rfl (by omega)) ?_;refine .t2 (aP rfl rfl) (.done (.condF rfl (Wp.skip (.sr (.m2 rfl ?_)))));refine Rg.wd trivial (aC Tryz.call51 rfl (Lexi.qY (by omega) h0 (hA.ext hx))) rfl ?_;rintro _ w1 ⟨rfl,hx1⟩;replace hx := hx.ext hx1;refine .m2 rfl (.t2 (aV rfl rfl) (.t2 (aV rfl rfl) (.a2 rfl (.a2 rfl (.done (.sr (.m2 rfl (.m2 rfl (.t2 (cK Tryz.underlying9 rfl) (.t2 (aQ rfl rfl h2) (.m2 rfl (.so rfl rfl ?_))))))))))));refine .so rfl rfl (.t2 (aP rfl rfl) (.a2 rfl (.done (Wp.ret ?_))));exact ⟨[_],⟨rfl,trivial⟩,by simp [h2]; rfl,hx⟩
  ·skip
   refine Cl.enter Tryz.func165 rfl Tryz.ntmps165 rfl rfl (.sr (.a2 rfl (.done (.seq (.sr (.m2 rfl (.t2 (cK Tryz.underlying9 rfl) ?_)))))));refine .t2 (aQ rfl rfl (by omega)) ?_;refine .m2 rfl ?_
   first | refine .gd (aL rfl) rfl ?_ | refine .so rfl rfl ?_
   refine .g2 (cK Tryz.underlying9 rfl) ?_;refine .g2 (jV rfl rfl (by omega)) ?_;refine .t2 (aP rfl rfl) (.done (.condT rfl (.sr (.a2 rfl (.done (Wp.ret ?_))))));exact ⟨[_],⟨rfl,trivial⟩,by simp [h1]; rfl,hx⟩
 ·skip
  refine Cl.enter Tryz.func165 rfl Tryz.ntmps165 rfl rfl (.sr (.a2 rfl (.done (.seq (.sr (.m2 rfl (.t2 (cK Tryz.underlying9 rfl) ?_)))))));refine .t2 (aX rfl rfl (by omega)) ?_;refine .m2 rfl (.so rfl rfl (.so rfl rfl (.so rfl rfl (.t2 (aM rfl rfl) (.done (.condT rfl (.sr (.a2 rfl (.done (Wp.ret ?_))))))))));exact ⟨[_],⟨rfl,trivial⟩,by simp [h0]; rfl,hx⟩
theorem oT {w : World} {m : Md} : Cl Tryz.prog 163 #[.agg (gX m).toArray] w (fun u w' => u = .bool (decide ((2000 : Int) < m.2.size)) ∧ Ext w w') := by
 have hx := Ext.refl w;refine Cl.enter Tryz.func163 rfl Tryz.ntmps163 rfl rfl (.sr (Rg.wd trivial (bA (cs := gX m) rfl rfl) rfl ?_));rintro _ w1 ⟨b1,rfl,q1,hx1,hv1⟩;replace hx := hx.ext hx1;refine .a2 rfl (.done (.sr (.t2 (aA qS rfl) (.t2 (aB gY rfl (hv1.g 1 rfl)) (.t2 (cK Tryz.underlying9 rfl) (.t2 (En rfl rfl) (.a2 rfl (.done (Wp.ret ?_)))))))));exact ⟨[_],⟨rfl,trivial⟩,rfl,hx⟩
theorem tS {w : World} {m : Md} (hA : Asc w) : Cl Tryz.prog 164 #[.agg (gX m).toArray] w (fun u w' => u = .bool (!kS m.1) ∧ Ext w w') := by
 have hx := Ext.refl w;refine Cl.enter Tryz.func164 rfl Tryz.ntmps164 rfl rfl (.sr (Rg.wd trivial (bA (cs := gX m) rfl rfl) rfl ?_));rintro _ w1 ⟨b1,rfl,q1,hx1,hv1⟩;replace hx := hx.ext hx1;refine .a2 rfl (.done (.sr (.t2 (aA oH rfl) (.t2 (aB gY rfl (hv1.g 0 rfl)) (Rg.wd trivial (aC Tryz.call165 rfl (pU (hA.ext hx))) rfl ?_)))));rintro _ w2 ⟨rfl,hx2⟩;replace hx := hx.ext hx2;replace hv1 := hv1.ext hx2;refine .t2 (bN rfl) (.a2 rfl (.done (Wp.ret ?_)));exact ⟨[_],⟨rfl,trivial⟩,rfl,hx⟩
def Ds (ms : List Md) (nm : ByteArray) : Option Nat := ms.findIdx? fun m => decide (m.1 = nm)
theorem Dt {w : World} {m : Md} {nm : ByteArray} {b : Nat} (hv : Var w b [.string nm] 9) : Cl Tryz.prog 227 #[.agg (gX m).toArray,.pointer (some ⟨b,0,none⟩)] w (fun u w' => u = .bool (decide (m.1 = nm)) ∧ Ext w w') := by
 have hx := Ext.refl w;refine Cl.enter Tryz.func227 rfl Tryz.ntmps227 rfl rfl (.sr (Rg.wd trivial (bA (cs := gX m) rfl rfl) rfl ?_));rintro _ w1 ⟨b1,rfl,q1,hx1,hv1⟩;replace hx := hx.ext hx1;replace hv := hv.ext hx1;refine .a2 rfl (.done (.sr (.t2 (aA oH rfl) (.t2 (aB gY rfl (hv1.g 0 rfl)) (.t2 (aB gY rfl (hv.g 0 rfl)) (.t2 (lJ rfl rfl) (.a2 rfl (.done (Wp.ret ?_)))))))));exact ⟨[_],⟨rfl,trivial⟩,rfl,hx⟩
theorem rR {w : World} {v : Value} {a : List Md} {nm : ByteArray} (hs0 : SlC w v 2 a.length (aN gX a)) (hlen : a.length < 4611686018427387904) :
  Cl Tryz.prog 166 #[v,.string nm] w (fun u w' => u = .int .i64 (vG (Ds a nm)) ∧ Ext w w') := by
 have hx := Ext.refl w;refine Cl.enter Tryz.func166 rfl Tryz.ntmps166 rfl rfl (.sr (Rg.wd trivial (bA (cs := [.string nm]) rfl rfl) rfl ?_));rintro _ w1 ⟨b3,rfl,q3,hx1,hv3⟩;replace hx := hx.ext hx1;refine .a2 rfl (.done (.sr (.m2 rfl (.t2 (aK (us := []) (vs := [.pointer (some ⟨b3,0,none⟩)]) rfl rfl) (Rg.wd trivial (aC Tryz.call226 rfl (Bs (fst := []) (cap := [.pointer (some ⟨b3,0,none⟩)]) (hs0.ext hx) Tryz.call227 (fun w1 x1 m _ => Dt (hv3.ext x1)) hlen)) rfl ?_)))));rintro _ w2 ⟨rfl,hx2⟩;replace hx := hx.ext hx2;replace hv3 := hv3.ext hx2;refine .a2 rfl (.done (Wp.ret ?_));exact ⟨[_],⟨rfl,trivial⟩,rfl,hx⟩
def Du (ms : List Md) (i : Nat) : Bool := (Ds (ms.take i) (ms.getD i (.empty,.empty)).1).isSome
def rS (ms : List Md) : Bool := (List.range ms.length).any (Du ms)
def lA (ms : List Md) : Int := if 8 < ms.length ∨ (ms.any fun m => decide ((2000 : Int) < m.2.size)) = true then 2 else if (ms.any fun m => !kS m.1) = true then 3 else if rS ms = true then 6 else 0
theorem pK {w : World} {v : Value} {ms : List Md} (hA : Asc w) (hs0 : SlC w v 2 ms.length (aN gX ms)) (hlen : ms.length < 4611686018427387904) :
  Cl Tryz.prog 106 #[v] w (fun u w' => u = .int .i64 (lA ms) ∧ Ext w w') := by
 have hx := Ext.refl w;unfold lA
 by_cases h8 : 8 < ms.length
 ·rw [if_pos (.inl h8)]
  refine Cl.enter Tryz.func106 rfl Tryz.ntmps106 rfl rfl (.sr (.a2 rfl (.done (.seq (.sr (.m2 rfl (.t2 (bV hs0 Tryz.underlying49 rfl) ?_)))))));refine .t2 (jV rfl rfl (by omega)) ?_;refine .m2 rfl (.so rfl rfl (.so rfl rfl (.t2 (aM rfl rfl) (.done (.condT rfl (.sr (.a2 rfl (.done (Wp.ret ?_)))))))));exact ⟨[_],⟨rfl,trivial⟩,rfl,hx⟩
 ·cases h2 : (ms.any fun m => decide ((2000 : Int) < m.2.size)) with
  | true =>
   rw [if_pos (.inr rfl)];refine Cl.enter Tryz.func106 rfl Tryz.ntmps106 rfl rfl (.sr (.a2 rfl (.done (.seq (.sr (.m2 rfl (.t2 (bV hs0 Tryz.underlying49 rfl) ?_)))))));refine .t2 (iA rfl rfl (by omega)) ?_;refine .m2 rfl (.g2 (aL rfl) (Rg.wd ⟨_,rfl,rfl⟩ (aC Tryz.call162 rfl (nY (fst := []) (cap := []) (hs0.ext hx) Tryz.call163 (fun w1 x1 m _ => oT) hlen)) rfl ?_));rintro _ w1 ⟨rfl,hx1⟩;replace hx := hx.ext hx1;rw [h2];refine .t2 (aP rfl rfl) (.done (.condT rfl (.sr (.a2 rfl (.done (Wp.ret ?_))))));exact ⟨[_],⟨rfl,trivial⟩,rfl,hx⟩
  | false =>
   rw [if_neg (by rintro (h | h); exact h8 h; cases h)]
   cases h3 : (ms.any fun m => !kS m.1) with
   | true =>
    rw [if_pos rfl];refine Cl.enter Tryz.func106 rfl Tryz.ntmps106 rfl rfl (.sr (.a2 rfl (.done (.seq (.sr (.m2 rfl (.t2 (bV hs0 Tryz.underlying49 rfl) ?_)))))));refine .t2 (iA rfl rfl (by omega)) ?_;refine .m2 rfl (.g2 (aL rfl) (Rg.wd ⟨_,rfl,rfl⟩ (aC Tryz.call162 rfl (nY (fst := []) (cap := []) (hs0.ext hx) Tryz.call163 (fun w1 x1 m _ => oT) hlen)) rfl ?_));rintro _ w1 ⟨rfl,hx1⟩;replace hx := hx.ext hx1;rw [h2];refine .t2 (aP rfl rfl) (.done (.condF rfl (Wp.skip (.seq (.sr (.m2 rfl (Rg.wd trivial (aC Tryz.call162 rfl (nY (fst := []) (cap := []) (hs0.ext hx) Tryz.call164 (fun w1 x1 m _ => tS ((hA.ext hx).ext x1)) hlen)) rfl ?_)))))));rintro _ w2 ⟨rfl,hx2⟩;replace hx := hx.ext hx2;rw [h3];refine .done (.condT rfl (.sr (.a2 rfl (.done (Wp.ret ?_)))));exact ⟨[_],⟨rfl,trivial⟩,rfl,hx⟩
   | false =>
    rw [if_neg (by intro h; cases h)];refine Cl.enter Tryz.func106 rfl Tryz.ntmps106 rfl rfl (.sr (.a2 rfl (.done (.seq (.sr (.m2 rfl (.t2 (bV hs0 Tryz.underlying49 rfl) ?_)))))));refine .t2 (iA rfl rfl (by omega)) ?_;refine .m2 rfl (.g2 (aL rfl) (Rg.wd ⟨_,rfl,rfl⟩ (aC Tryz.call162 rfl (nY (fst := []) (cap := []) (hs0.ext hx) Tryz.call163 (fun w1 x1 m _ => oT) hlen)) rfl ?_));rintro _ w1 ⟨rfl,hx1⟩;replace hx := hx.ext hx1;rw [h2];refine .t2 (aP rfl rfl) (.done (.condF rfl (Wp.skip (.seq (.sr (.m2 rfl (Rg.wd trivial (aC Tryz.call162 rfl (nY (fst := []) (cap := []) (hs0.ext hx) Tryz.call164 (fun w1 x1 m _ => tS ((hA.ext hx).ext x1)) hlen)) rfl ?_)))))));rintro _ w2 ⟨rfl,hx2⟩;replace hx := hx.ext hx2;rw [h3];refine .done (.condF rfl (Wp.skip (.seq (.sr (.m2 rfl (.t2 (bV hs0 Tryz.underlying49 rfl) (.m2 rfl (.done (Wp.block ?_)))))))));refine Wp.loop (ι := Nat) (fun k => [(0,v),(14,v),(15,.int .i64 ms.length),(16,.int .i64 k)])
     (fun k w' => k ≤ ms.length ∧ (∀ j,j < k → Du ms j = false) ∧ Ext w w') (fun k => ms.length - k) 0 (by repeat (first | exact .nil | refine .cons rfl ?_)) ⟨Nat.zero_le _,fun j h => absurd h (Nat.not_lt_zero _),hx⟩ ?_
    clear hx;rintro k w3 ⟨hk,hno,hx⟩
    by_cases hlt : k < ms.length
    ·have hs3 := hs0.ext hx
     have hgd : ms.getD k (.empty,.empty) = ms[k] := by simp [List.getD,hlt]
     cases hd : Du ms k with
     | true =>
      refine .sr ?_
      first | refine .tq (bG rfl rfl (by omega)) rfl ?_ | refine .tq (bJ rfl rfl (by omega)) rfl ?_ | refine .tq (cU rfl rfl) rfl ?_
      refine .done (.seq (.condT rfl (Wp.skip (.seq (Wp.block (.sr (.m2 rfl ?_)))))));refine Rg.ix hs3 trivial rfl rfl Tryz.underlying49 jP (by omega) rfl ?_;intro bt19 ot19 ht19;rw [Int.toNat_natCast,bT eA ms k hlt] at ht19;refine .t2 (bD rfl ht19 (by exact jP)) ?_;refine Rg.wd trivial (cJ Tryz.zeroValue52 rfl) rfl ?_;rintro _ wab4 ⟨b4,rfl,qb4,a,b⟩;refine .a2 rfl (Rg.wn trivial (cB (cs := gX ms[k]) b rfl rfl rfl (jP) (rfl) (rfl)) ?_);rintro _ w3 ⟨hub4,hvb4⟩;have hx3 := a.upd hub4 (Nat.le_of_eq qb4.symm);clear b hub4 a;replace hx := hx.ext hx3;replace hs3 := hs3.ext hx3;replace ht19 := ht19.ext hx3;clear qb4;refine .done ?_;refine Wp.seq (Wp.draw [0,1,2,3,4,5,6] [] mixed (by kernel_rfl) (by kernel_rfl) ?_);intro w4 hx4 _;replace hx := hx.ext hx4;replace hs3 := hs3.ext hx4;replace ht19 := ht19.ext hx4;replace hvb4 := hvb4.ext hx4;refine .m2 rfl (.m2 rfl ?_);refine Rg.sl hs3 trivial rfl Tryz.underlying49 jP rfl rfl (by omega) rfl ?_;intro vt23 ht23;rw [show ((k : Int).toNat - (0 : Int).toNat) = (ms.take k).length from by simp; omega,show ((aN gX ms).drop ((0 : Int).toNat * 2)).take ((ms.take k).length * 2) = aN gX (ms.take k) from by rw [show (ms.take k).length = k from by simp; omega]; simpa using kN eA ms k] at ht23;refine .t2 (aA oH rfl) (.t2 (aB gY rfl (hvb4.g 0 rfl)) ?_);refine Rg.wdB trivial rfl (aC Tryz.call166 rfl (rR ht23 (by simp; omega))) rfl (fun _ _ h => h.2.below) ?_;rintro _ w5 ⟨rfl,hx5⟩;replace hx := hx.ext hx5;replace hs3 := hs3.ext hx5;replace ht19 := ht19.ext hx5;replace hvb4 := hvb4.ext hx5;replace ht23 := ht23.ext hx5;refine .t2 (lI rfl rfl) ?_;rw [vH,show (Ds (ms.take k) ms[k].1).isSome = true from by rw [← hd]; unfold Du; rw [hgd]];refine .done (.condT rfl (.sr (.a2 rfl (.done (Wp.ret ?_)))));rw [if_pos (show rS ms = true from List.any_eq_true.2 ⟨k,List.mem_range.2 hlt,hd⟩)];exact ⟨[_],⟨rfl,trivial⟩,rfl,hx⟩
     | false =>
      refine .sr ?_
      first | refine .tq (bG rfl rfl (by omega)) rfl ?_ | refine .tq (bJ rfl rfl (by omega)) rfl ?_ | refine .tq (cU rfl rfl) rfl ?_
      refine .done (.seq (.condT rfl (Wp.skip (.seq (Wp.block (.sr (.m2 rfl ?_)))))));refine Rg.ix hs3 trivial rfl rfl Tryz.underlying49 jP (by omega) rfl ?_;intro bt19 ot19 ht19;rw [Int.toNat_natCast,bT eA ms k hlt] at ht19;refine .t2 (bD rfl ht19 (by exact jP)) ?_;refine Rg.wd trivial (cJ Tryz.zeroValue52 rfl) rfl ?_;rintro _ wab4 ⟨b4,rfl,qb4,a,b⟩;refine .a2 rfl (Rg.wn trivial (cB (cs := gX ms[k]) b rfl rfl rfl (jP) (rfl) (rfl)) ?_);rintro _ w3 ⟨hub4,hvb4⟩;have hx3 := a.upd hub4 (Nat.le_of_eq qb4.symm);clear b hub4 a;replace hx := hx.ext hx3;replace hs3 := hs3.ext hx3;replace ht19 := ht19.ext hx3;clear qb4;refine .done ?_;refine Wp.seq (Wp.draw [0,1,2,3,4,5,6] [] mixed (by kernel_rfl) (by kernel_rfl) ?_);intro w4 hx4 _;replace hx := hx.ext hx4;replace hs3 := hs3.ext hx4;replace ht19 := ht19.ext hx4;replace hvb4 := hvb4.ext hx4;refine .m2 rfl (.m2 rfl ?_);refine Rg.sl hs3 trivial rfl Tryz.underlying49 jP rfl rfl (by omega) rfl ?_;intro vt23 ht23;rw [show ((k : Int).toNat - (0 : Int).toNat) = (ms.take k).length from by simp; omega,show ((aN gX ms).drop ((0 : Int).toNat * 2)).take ((ms.take k).length * 2) = aN gX (ms.take k) from by rw [show (ms.take k).length = k from by simp; omega]; simpa using kN eA ms k] at ht23;refine .t2 (aA oH rfl) (.t2 (aB gY rfl (hvb4.g 0 rfl)) ?_);refine Rg.wdB trivial rfl (aC Tryz.call166 rfl (rR ht23 (by simp; omega))) rfl (fun _ _ h => h.2.below) ?_;rintro _ w5 ⟨rfl,hx5⟩;replace hx := hx.ext hx5;replace hs3 := hs3.ext hx5;replace ht19 := ht19.ext hx5;replace hvb4 := hvb4.ext hx5;replace ht23 := ht23.ext hx5;refine .t2 (lI rfl rfl) ?_;rw [vH,show (Ds (ms.take k) ms[k].1).isSome = false from by rw [← hd]; unfold Du; rw [hgd]];refine .done (.condF rfl (Wp.skip (Wp.region ?_)))
      first | refine .tq (bE rfl rfl (by omega)) rfl ?_ | refine .tq (fR rfl rfl) rfl ?_
      refine .m2 rfl (.done ?_);exact ⟨k + 1,by repeat (first | exact .nil | refine .cons rfl ?_),⟨hlt,fun j hj => by rcases Nat.lt_succ_iff_lt_or_eq.1 hj with c | c; exact hno j c; subst c; exact hd,hx⟩,by omega⟩
    ·skip
     refine .sr ?_
     first | refine .tq (bG rfl rfl (by omega)) rfl ?_ | refine .tq (bJ rfl rfl (by omega)) rfl ?_ | refine .tq (cU rfl rfl) rfl ?_
     refine .done (.seq (.condF rfl (Wp.exit (.sr (.a2 rfl (.done (Wp.ret ?_)))))));rw [if_neg (show ¬ rS ms = true from fun h => by obtain ⟨j,hj,hj2⟩ := List.any_eq_true.1 h; rw [hno j (by have := List.mem_range.1 hj; omega)] at hj2; cases hj2)];exact ⟨[_],⟨rfl,trivial⟩,rfl,hx⟩
def Mw (p : Md) : Md := (p.1,p.2.extract 0 (min p.2.size 250))
def oU (ms : List Md) : List Md := (ms.take 3).map Mw
theorem Gr (p : Md) : (Mw p).2.size ≤ 250 := by simp only [Mw,ByteArray.size_extract]; omega
theorem rT (ms : List Md) : (oU ms).length = min ms.length 3 := by simp [oU,Nat.min_comm]
theorem Dv {ms : List Md} {p : Md} (h : p ∈ oU ms) : p.2.size ≤ 250 := by
 obtain ⟨q,_,rfl⟩ := List.mem_map.1 h;exact Gr q
theorem L0 {w : World} {s : ByteArray} : Cl Tryz.prog 43 #[.string s] w (fun u w' => SlC w' u 2 1 (aN gX [("main".toUTF8,s)]) ∧ Ext w w') := by
 have hx := Ext.refl w;refine Cl.enter Tryz.func43 rfl Tryz.ntmps43 rfl rfl (.sr (.a2 rfl (.done (.sr (.m2 rfl (.t2 (bR (wV _ _) rfl) (Rg.wd trivial (aD (Fc _ _) rfl) rfl ?_)))))));rintro _ w1 ⟨bb,rfl,qb,hx1,hvb⟩;replace hx := hx.ext hx1;refine .a2 rfl (.done (Wp.ret ?_));exact ⟨[_],⟨rfl,trivial⟩,dH hvb rfl,hx⟩
theorem Af {w : World} {v : Value} {ms : List Md} (hsv : SlC w v 2 ms.length (aN gX ms)) :
  Cl Tryz.prog 27 #[v] w (fun u w' => SlC w' u 2 (oU ms).length (aN gX (oU ms)) ∧ (∀ z,u.ownBlock = some z → w.heap.size ≤ z) ∧ Ext w w') := by
 have hx := Ext.refl w;obtain ⟨i,hi,hz,hsi,hby⟩ := Kd;have hl3 : (oU ms).length = (ms.take 3).length := by simp [oU]
 have hmin : min ms.length 3 = (ms.take 3).length := by simp [Nat.min_comm]
 refine Cl.enter Tryz.func27 rfl Tryz.ntmps27 rfl rfl (.sr (.a2 rfl (.done (.sr (.a2 rfl (.done (.seq (.sr (.m2 rfl (.m2 rfl (.t2 (bV hsv Tryz.underlying49 rfl) (.t2 (Eo rfl rfl) ?_))))))))))));rw [show min (ms.length : Int) 3 = ((ms.take 3).length : Int) from by omega];refine Rg.sl hsv trivial rfl Tryz.underlying49 jP rfl rfl (by omega) rfl ?_;intro vt10 ht10;have hcut : ((aN gX ms).drop ((0 : Int).toNat * 2)).take ((ms.take 3).length * 2) = aN gX (ms.take 3) := by
  rw [show ((0 : Int).toNat * 2) = 0 from rfl,List.drop_zero,kN eA]
  congr 1
  rw [← hmin]
  rcases Nat.le_total ms.length 3 with h | h
  ·rw [Nat.min_eq_left h,List.take_of_length_le h,List.take_length]
  ·rw [Nat.min_eq_right h]
 rw [show (((ms.take 3).length : Int).toNat - (0 : Int).toNat) = (ms.take 3).length from by omega,hcut] at ht10;refine .t2 (bV ht10 Tryz.underlying49 rfl) (.m2 rfl (.done (Wp.block ?_)));obtain ⟨m3,hm3⟩ : ∃ q,ms.take 3 = q := ⟨_,rfl⟩;have hfe : oU ms = m3.map Mw := by rw [← hm3]; rfl
 have hl4 : m3.length ≤ 3 := by rw [← hm3]; simp; omega
 rw [hm3] at ht10 ⊢;rw [hfe];clear hcut;refine Wp.loop (ι := Nat × Value) (fun j => [(3,j.2),(10,vt10),(11,.int .i64 m3.length),(12,.int .i64 j.1)])
  (fun j w' => j.1 ≤ m3.length ∧ w'.ownsRow w.heap.size 52 2 j.2 j.1 (aN gX ((m3.take j.1).map Mw)) ∧ Ext w w')
  (fun j => m3.length - j.1) (0,.slice none 0 0) (by repeat (first | exact .nil | refine .cons rfl ?_)) ⟨Nat.zero_le _,iZ _ _ _ _,hx⟩ ?_
 clear hx;rintro ⟨k,vr⟩ w3 ⟨hk,hown,hx⟩;simp only at hk hown ⊢;have hs3 := ht10.ext hx
 by_cases hlt : k < m3.length
 ·skip
  refine .sr ?_
  first | refine .tq (bG rfl rfl (by omega)) rfl ?_ | refine .tq (bJ rfl rfl (by omega)) rfl ?_ | refine .tq (cU rfl rfl) rfl ?_
  refine .done (.seq (.condT rfl (Wp.skip (.seq (Wp.block ?_)))));have hq := Ext.refl w3;refine .sr ?_;refine Rg.ix hs3 trivial rfl rfl Tryz.underlying49 jP (by omega) rfl ?_;intro bt14 ot14 ht14;rw [Int.toNat_natCast,bT eA m3 k hlt] at ht14;refine .t2 (bD rfl ht14 jP) (Rg.wd trivial (cJ Tryz.zeroValue52 rfl) rfl ?_);rintro _ wab5 ⟨b5,rfl,qb5,a,b⟩;refine Rg.wn trivial (cB (cs := gX m3[k]) b rfl rfl rfl (jP) (rfl) (rfl)) ?_;rintro _ w1 ⟨hub5,hvb5⟩;have hx1 := a.upd hub5 (Nat.le_of_eq qb5.symm);clear b hub5 a;replace hx := hx.ext hx1;replace hs3 := hs3.ext hx1;replace hq := hq.ext hx1;replace ht14 := ht14.ext hx1;clear qb5;refine .done ?_;refine Wp.draw [0,1,2,3,4,5,6,7,8,9] [1] mixed (by kernel_rfl) (by kernel_rfl) ?_;intro w2 hx2 _;replace hx := hx.ext hx2;replace hs3 := hs3.ext hx2;replace hq := hq.ext hx2;replace ht14 := ht14.ext hx2;replace hvb5 := hvb5.ext hx2;refine .m2 rfl (.t2 (aA oH rfl) (.t2 (aB gY rfl (hvb5.g 0 rfl)) (.t2 (aA qS rfl) (.t2 (aB gY rfl (hvb5.g 1 rfl)) (Rg.wdB trivial rfl (aC Tryz.call16 rfl (xU (n := 250))) rfl (fun _ _ h => h.2.below) ?_)))));rintro _ w3 ⟨rfl,hx3⟩;replace hx := hx.ext hx3;replace hs3 := hs3.ext hx3;replace hq := hq.ext hx3;replace ht14 := ht14.ext hx3;replace hvb5 := hvb5.ext hx3;refine .t2 (bR (wV _ _) rfl) ?_;refine Rg.wdB trivial rfl (aD (Fc _ _) rfl) rfl (fun _ _ h => by obtain ⟨_,_,_,h,_⟩ := h; exact h.below) ?_;rintro _ w4 ⟨bb,rfl,qb,hx4,hvb⟩;replace hx := hx.ext hx4;replace hs3 := hs3.ext hx4;replace hq := hq.ext hx4;replace ht14 := ht14.ext hx4;replace hvb5 := hvb5.ext hx4;replace hown := cW hown hq;refine qM trivial rfl (kF w.heap.size Tryz.underlying49 hi hz hsi hby rfl (by decide) rfl rfl hown rfl (fun j u hu => by rw [Go.Gx.cI]; exact hvb.cells j u hu) (by simp [Value.oneCell']) (by unfold maxLen; omega) (by omega) hx.le) rfl (by rfl) ?_;rintro v2 wc ⟨hown2,hgr,p2,l2,c2,rfl⟩;replace hx := lL hx hown hgr;refine .a2 rfl (.done (Wp.region ?_))
  first | refine .tq (bE rfl rfl (by omega)) rfl ?_ | refine .tq (fR rfl rfl) rfl ?_
  refine .m2 rfl (.done ?_);refine ⟨(k + 1,.slice p2 l2 c2),by repeat (first | exact .nil | refine .cons rfl ?_),⟨hlt,?_,hx⟩,by simp only; omega⟩;rw [List.take_succ_eq_append_getElem hlt,List.map_append,eR];exact hown2
 ·have e0 : k = m3.length := by omega
  subst e0;rw [List.take_length] at hown;refine .sr ?_
  first | refine .tq (bG rfl rfl (by omega)) rfl ?_ | refine .tq (bJ rfl rfl (by omega)) rfl ?_ | refine .tq (cU rfl rfl) rfl ?_
  refine .done (.seq (.condF rfl (Wp.exit (.sr (.m2 rfl (.a2 rfl (.done (Wp.ret ?_))))))));exact ⟨[_],⟨rfl,trivial⟩,by rw [List.length_map]; exact fN hown,fun z hz => Ast.pX hown hz,hx⟩
theorem eH {F : Fs} {w w' : World} {B e size n : Nat} {v : Value} {xs : List Value} (h : w.ownsRow B e size v n xs) (k : Bw F w w') (hb : jL F v) : w'.ownsRow B e size v n xs := by
 obtain ⟨h1,h2⟩ := h;refine ⟨h1,h2.imp id ?_⟩;rintro ⟨g,cap,cur,rfl,hB,hh,h3⟩;exact ⟨g,cap,cur,rfl,hB,(k.block g (hb g rfl)).trans hh,h3⟩
theorem Bt {F : Fs} {w w' : World} {B e size n : Nat} {v v' : Value} {xs ys : List Value} (hU : Und F w.heap.size) (hB : B ≤ w.heap.size) (hrow : w.ownsRow B e size v n xs) (hn : ∀ z,v.ownBlock = some z → ¬ F z) (hl : ys.length = size) (hap : AppR w e size n 1 v (xs ++ ys) v' w') :
  w'.ownsRow B e size v' (n + 1) (xs ++ ys) ∧ Bw F w w' ∧ (∀ w0,w0.heap.size = B → Ext w0 w → Ext w0 w') ∧ (∀ z,v'.ownBlock = some z → ¬ F z) := by
 obtain ⟨g,cap,sp,rfl,h1,h2,h3,h4,h5⟩ := hap;have hk : (xs ++ ys).length = (n + 1) * size := by rw [List.length_append,hrow.1,hl,Nat.add_mul,Nat.one_mul]
 rcases h5 with ⟨⟨c,rfl⟩,hu⟩ | ⟨hg,hx⟩
 ·have hge : B ≤ g := pX hrow rfl
  refine ⟨bM hge hk h1 h2 h3 h4,Bw.upd hu (hn g rfl),fun w0 h0 x => x.upd hu (by omega),fun z hz => by cases hz; exact hn g rfl⟩
 ·refine ⟨bM (Nat.le_trans hB hg) hk h1 h2 h3 h4,Bw.of hx hU,fun w0 h0 x => x.ext hx,fun z hz hf => ?_⟩
  cases hz
  have := hU g hf;omega
abbrev Dm := Int × Dg
def Mx (p : Dm) : List Value := [.int .i64 p.2.1,.int .i64 p.1,.int .i64 p.2.2.1,.int .i64 p.2.2.2,.string ⟨#[]⟩]
theorem Jn (p : Dm) : (Mx p).length = 5 := rfl
structure PaI (w wl : World) (K : Fs) (mns : List Mn) (lv dv : Value) (ds : List Dm) : Prop where
 nk : ∀ g ∈ mns,NOk K wl g
 lo : ∀ z,K z → w.heap.size ≤ z ∧ z < wl.heap.size
 r6 : wl.ownsRow w.heap.size 27 7 lv mns.length (aN Mn.cells mns)
 r7 : wl.ownsRow w.heap.size 80 5 dv ds.length (aN Mx ds)
 n6 : ∀ z,lv.ownBlock = some z → ¬ K z
 n7 : ∀ z,dv.ownBlock = some z → ¬ K z
 n67 : ∀ z,dv.ownBlock = some z → lv.ownBlock ≠ some z
 x : Ext w wl
theorem PaI.ext {w wl w' : World} {K : Fs} {mns : List Mn} {lv dv : Value} {ds : List Dm} (h : PaI w wl K mns lv dv ds) (x : Ext wl w') : PaI w w' K mns lv dv ds :=
 ⟨fun g hg => (h.nk g hg).bw (Bw.of x fun z hz => (h.lo z hz).2) fun z hz => hz,fun z hz => ⟨(h.lo z hz).1,Nat.lt_of_lt_of_le (h.lo z hz).2 x.le⟩,cW h.r6 x,cW h.r7 x,h.n6,h.n7,h.n67,h.x.ext x⟩
theorem PaI.und {w wl : World} {K : Fs} {mns : List Mn} {lv dv : Value} {ds : List Dm} (h : PaI w wl K mns lv dv ds) : Und K wl.heap.size := fun z hz => (h.lo z hz).2
theorem PaI.more {w wl w' : World} {K K' : Fs} {mns : List Mn} {lv dv : Value} {ds : List Dm} (h : PaI w wl K mns lv dv ds) (x : Ext wl w') (hk : ∀ z,K' z → wl.heap.size ≤ z ∧ z < w'.heap.size) : PaI w w' (fun z => K z ∨ K' z) mns lv dv ds := by
 have h2 := h.ext x;refine ⟨fun g hg => (h2.nk g hg).mono fun z hz => .inl hz,fun z hz => ?_,h2.r6,h2.r7,fun z hz hf => ?_,fun z hz hf => ?_,h.n67,h2.x⟩
 ·rcases hz with hz | hz
  ·exact h2.lo z hz
  ·have := hk z hz; have := h.x.le; omega
 ·rcases hf with hf | hf
  ·exact h.n6 z hz hf
  ·have := gT h.r6 hz; have := hk z hf; omega
 ·rcases hf with hf | hf
  ·exact h.n7 z hz hf
  ·have := gT h.r7 hz; have := hk z hf; omega
theorem PaI.push6 {w wl w' : World} {K : Fs} {mns : List Mn} {lv dv v' : Value} {ds : List Dm} {g : Mn} (h : PaI w wl K mns lv dv ds) (hg : NOk K wl g) (hap : AppR wl 27 7 mns.length 1 lv (aN Mn.cells mns ++ g.cells) v' w') :
  PaI w w' K (mns ++ [g]) v' dv ds ∧ Bw K wl w' := by
 have hd : ∀ z,dv.ownBlock = some z → z < wl.heap.size := fun z hz => gT h.r7 hz;obtain ⟨h1,h2,h3,h4⟩ := Bt (F := fun z => K z ∨ dv.ownBlock = some z) (ys := g.cells) (fun z hz => hz.elim (h.und z) (hd z)) h.x.le h.r6 (fun z hz hf => hf.elim (h.n6 z hz) fun e => h.n67 z e hz) (Mn.len g) hap;rw [← iD] at h1;have hb : Bw K wl w' := h2.sub fun z hz => .inl hz;refine ⟨⟨fun q hq => ?_,fun z hz => ⟨(h.lo z hz).1,Nat.lt_of_lt_of_le (h.lo z hz).2 h2.size⟩,by rw [List.length_append]; exact h1,eH h.r7 h2 (fun z hz => .inr hz),fun z hz hf => h4 z hz (.inl hf),h.n7,fun z hz e => h4 z e (.inr hz),h3 _ rfl h.x⟩,hb⟩
 rcases List.mem_append.1 hq with hq | hq
 ·exact (h.nk q hq).bw hb fun z hz => hz
 ·obtain rfl : q = g := by simpa using hq
  exact hg.bw hb fun z hz => hz
theorem PaI.push7 {w wl w' : World} {K : Fs} {mns : List Mn} {lv dv v' : Value} {ds : List Dm} {p : Dm} (h : PaI w wl K mns lv dv ds) (hap : AppR wl 80 5 ds.length 1 dv (aN Mx ds ++ Mx p) v' w') :
  PaI w w' K mns lv v' (ds ++ [p]) ∧ Bw K wl w' := by
 have hd : ∀ z,lv.ownBlock = some z → z < wl.heap.size := fun z hz => gT h.r6 hz;obtain ⟨h1,h2,h3,h4⟩ := Bt (F := fun z => K z ∨ lv.ownBlock = some z) (ys := Mx p) (fun z hz => hz.elim (h.und z) (hd z)) h.x.le h.r7 (fun z hz hf => hf.elim (h.n7 z hz) fun e => h.n67 z hz e) (Jn p) hap;rw [← iD] at h1;have hb : Bw K wl w' := h2.sub fun z hz => .inl hz;exact ⟨⟨fun q hq => (h.nk q hq).bw hb fun z hz => hz,fun z hz => ⟨(h.lo z hz).1,Nat.lt_of_lt_of_le (h.lo z hz).2 h2.size⟩,eH h.r6 h2 (fun z hz => .inr hz),by rw [List.length_append]; exact h1,h.n6,fun z hz hf => h4 z hz (.inl hf),fun z hz e => h4 z hz (.inr e),h3 _ rfl h.x⟩,hb⟩
def Trs (ms : List Md) (mns : List Mn) : Prop := mns.length ≤ ms.length ∧ ∀ i (h : i < mns.length) (h2 : i < ms.length),∃ t,fJ ms[i].2 t ∧ mns[i].er = lX ms[i].2 t
theorem Trs.push {ms : List Md} {mns : List Mn} {g : Mn} {t : Tr} (h : Trs ms mns) (hl : mns.length < ms.length) (hp : fJ ms[mns.length].2 t) (he : g.er = lX ms[mns.length].2 t) : Trs ms (mns ++ [g]) := by
 refine ⟨by simp; omega,fun i h1 h2 => ?_⟩
 by_cases hi : i < mns.length
 ·rw [List.getElem_append_left hi]
  exact h.2 i hi h2
 ·obtain rfl : i = mns.length := by simp at h1; omega
  exact ⟨t,hp,by simpa using he⟩
structure PaR (w : World) (ms : List Md) (u : Value) (w' : World) (K : Fs) (mns : List Mn) (lv dv : Value) (ds : List Dm) : Prop where
 ue : u = .tuple #[lv,dv,.int .i64 0]
 tr : Trs ms mns
 len : mns.length = ms.length
 pa : PaI w w' K mns lv dv ds
theorem gH {ms : List Md} (h : lA ms = 0) : ms.length ≤ 8 ∧ ∀ m ∈ ms,m.2.size ≤ 2000 := by
 unfold lA at h
 by_cases h1 : 8 < ms.length ∨ (ms.any fun m => decide ((2000 : Int) < m.2.size)) = true
 ·rw [if_pos h1] at h; omega
 ·refine ⟨by omega,fun m hm => ?_⟩
  have h2 : ¬ (ms.any fun m => decide ((2000 : Int) < m.2.size)) = true := fun c => h1 (.inr c);rw [List.any_eq_true] at h2;apply Nat.le_of_not_lt;intro c;exact h2 ⟨m,hm,decide_eq_true (by omega)⟩
theorem pL {w : World} {v : Value} {ms : List Md} (hA : Asc w) (hE : Er w) (hs0 : SlC w v 2 ms.length (aN gX ms)) (hlen : ms.length < 4611686018427387904) :
  Cl Tryz.prog 57 #[v] w (fun u w' => (lA ms ≠ 0 ∧ u = .tuple #[.slice none 0 0,.slice none 0 0,.int .i64 (lA ms)] ∧ Ext w w') ∨ (lA ms = 0 ∧ ∃ K mns lv dv ds,PaR w ms u w' K mns lv dv ds)) := by
 have hx := Ext.refl w;obtain ⟨e,he⟩ : ∃ e,lA ms = e := ⟨_,rfl⟩
 by_cases h0 : e = 0
 ·skip
  refine Cl.enter Tryz.func57 rfl Tryz.ntmps57 rfl rfl (.sr (.a2 rfl (.a2 rfl (.a2 rfl (.done (.seq (.sr (.m2 rfl (Rg.wd trivial (aC Tryz.call106 rfl (pK hA hs0 hlen)) rfl ?_)))))))));rintro _ w1 ⟨rfl,hx1⟩;replace hx := hx.ext hx1;rw [he];refine .a2 rfl (.done (.sr (.m2 rfl ?_)));refine .t2 (eC rfl rfl (by omega)) ?_;refine .done (.condF rfl (Wp.skip (.sr (.a2 rfl (.done (.sr (.a2 rfl (.done (.seq (.sr (.m2 rfl (.t2 (bV hs0 Tryz.underlying49 rfl) ?_))))))))))));refine .m2 rfl (.done (Wp.block ?_));obtain ⟨hl8,hsz⟩ := gH (he.trans h0);refine Wp.loop (ι := List Mn × Value × Value × List Dm) (fun j => [(6,j.2.1),(7,j.2.2.1),(20,v),(21,.int .i64 ms.length),(22,.int .i64 j.1.length)])
   (fun j w' => Trs ms j.1 ∧ j.2.2.2.length ≤ j.1.length * 1000000 ∧ ∃ K,PaI w w' K j.1 j.2.1 j.2.2.1 j.2.2.2)
   (fun j => ms.length - j.1.length) ([],.slice none 0 0,.slice none 0 0,[]) (by repeat (first | exact .nil | refine .cons rfl ?_))
   ⟨⟨Nat.zero_le _,fun i h => absurd h (Nat.not_lt_zero _)⟩,Nat.zero_le _,fun _ => False,⟨fun g hg => absurd hg (List.not_mem_nil),fun z hz => hz.elim,iZ _ _ _ _,iZ _ _ _ _,fun z hz hf => hf,fun z hz hf => hf,fun z hz => (by cases hz),hx⟩⟩ ?_
  clear hx;rintro ⟨mns,lv,dv,ds⟩ w3 ⟨hT,hdl,K,hP⟩;simp only at hT hdl hP ⊢;have hTl := hT.1
  by_cases hlt : mns.length < ms.length
  ·have hs3 := hs0.ext hP.x
   have hsz1 := hsz _ (List.getElem_mem hlt);obtain ⟨⟨nm,src⟩,hmd⟩ : ∃ q,ms[mns.length] = q := ⟨_,rfl⟩;rw [hmd] at hsz1;simp only at hsz1;refine .sr ?_
   first | refine .tq (bG rfl rfl (by omega)) rfl ?_ | refine .tq (bJ rfl rfl (by omega)) rfl ?_ | refine .tq (cU rfl rfl) rfl ?_
   refine .done (.seq (.condT rfl (Wp.skip (.seq (Wp.block (.sr (.m2 rfl ?_)))))));refine Rg.ix hs3 trivial rfl rfl Tryz.underlying49 jP (by omega) rfl ?_;intro bt25 ot25 ht25;rw [Int.toNat_natCast,bT eA ms mns.length hlt,hmd] at ht25;refine .t2 (bD rfl ht25 jP) (Rg.wd trivial (cJ Tryz.zeroValue52 rfl) rfl ?_);rintro _ wab9 ⟨b9,rfl,qb9,k,l⟩;refine .a2 rfl (Rg.wn trivial (cB (cs := [.string nm,.string src]) l rfl rfl rfl (jP) (rfl) (rfl)) ?_);rintro _ w2 ⟨hub9,hvb9⟩;have hx2 := k.upd hub9 (Nat.le_of_eq qb9.symm);clear l hub9 k;replace hP := hP.ext hx2;replace hs3 := hs3.ext hx2;replace ht25 := ht25.ext hx2;clear qb9;refine .done ?_;obtain ⟨i27,hi27,hz27,hsi27,hby27⟩ := Kc;obtain ⟨i80,hi80,hz80,hsi80,hby80⟩ := Ke;refine .sr (.t2 (aA qS rfl) (.t2 (aB gY rfl (hvb9.g 1 rfl)) (Rg.wd trivial (aC Tryz.call18 rfl (xT hsz1 (hA.ext hP.x) (dZ hE hP.x))) rfl ?_)));rintro _ w3 ⟨t,mn,dl,dsi,K',hPA⟩;obtain rfl := hPA.ue;have hx3 := hPA.ext;have hpt := hPA.pt;have her := hPA.er;replace hP := hP.more hx3 hPA.lo;have hm : NOk (fun z => K z ∨ K' z) w3 mn := hPA.ok.mono fun z hz => .inr hz;have hbl : jL (fun z => K z ∨ K' z) dl := hPA.bl.mono fun z hz => .inr hz;have hsd := hPA.sl;have hdf := hPA.few;clear hPA;obtain ⟨KK,hKK⟩ : ∃ q : Fs,(fun z => K z ∨ K' z) = q := ⟨_,rfl⟩;rw [hKK] at hP hm hbl;replace hs3 := hs3.ext hx3;replace hvb9 := hvb9.ext hx3;have hq := Ext.refl w3;have hKu := hP.und;refine .m2 rfl (.t2 (aV rfl rfl) (.t2 (aV rfl rfl) (.t2 (aV rfl rfl) ?_)));obtain ⟨hh,cv,kids⟩ := mn;obtain ⟨pc,cc,rfl⟩ : ∃ p q,cv = .slice p kids.length q := by
    cases hm with | mk a _ _ _ => obtain ⟨_,p,c,rfl,_⟩ := a; exact ⟨p,c,rfl⟩
   have hog : (Mn.mk hh (.slice pc kids.length cc) kids).cells.all (·.oneCell') = true := rfl;refine Rg.wd trivial (cJ Tryz.zeroValue27 rfl) rfl ?_;rintro _ wab10 ⟨b10,rfl,qb10,b,d⟩;refine Rg.wn trivial (cB (cs := (Mn.mk hh (.slice pc kids.length cc) kids).cells) d rfl rfl rfl (by rw [Mn.len]; exact cR) (by rw [Mn.len]; rfl) (hog)) ?_;rintro _ w4 ⟨hub10,hvb10⟩;have hx4 := b.upd hub10 (Nat.le_of_eq qb10.symm);clear d hub10 b;replace hP := hP.ext hx4;replace hsd := hsd.ext hx4;replace hq := hq.ext hx4;clear qb10;refine .a2 rfl (.a2 rfl (.done (.sr (.m2 rfl ?_))));refine .t2 (bD rfl hvb10.cells (by rw [Mn.len]; exact cR)) ?_;refine Rg.wd trivial (aD (Fa _ _ _ _ _ _ _ _ _) rfl) rfl ?_;rintro _ w5 ⟨bb,rfl,qb,hx5,hvb⟩;replace hP := hP.ext hx5;replace hsd := hsd.ext hx5;replace hq := hq.ext hx5;replace hvb10 := hvb10.ext hx5;refine Rg.wd trivial (eI Tryz.underlying25 hi27 hz27 hsi27 hby27 rfl rfl rfl (qN hP.r6 (Nat.zero_le _)) (dH hvb rfl) (by simp [Value.oneCell']) (by decide) (by unfold maxLen; omega) (by omega)) rfl ?_;rintro v2 wc hap;obtain ⟨hP2,hB2⟩ := hP.push6 (g := .mk hh (.slice pc kids.length cc) kids) (hm.bw (Bw.of hq hKu) fun z hz => hz) hap;replace hsd := jX hsd hB2 hbl;clear hP;refine .a2 rfl (.done (.sr (.m2 rfl (.t2 (bV hsd Tryz.underlying28 rfl) (.m2 rfl (.done (Wp.block ?_)))))));refine Wp.loop (ι := Nat × Value) (fun j => [(6,v2),(7,j.2),(8,.int .i64 mns.length),(20,v),(21,.int .i64 ms.length),(22,.int .i64 mns.length),(38,dl),(39,.int .i64 dsi.length),(40,.int .i64 j.1)])
    (fun j w' => j.1 ≤ dsi.length ∧ PaI w w' KK (mns ++ [.mk hh (.slice pc kids.length cc) kids]) v2 j.2 (ds ++ (dsi.take j.1).map fun q => ((mns.length : Int),q)) ∧ SlC w' dl 5 dsi.length (aN eZ dsi))
    (fun j => dsi.length - j.1) (0,dv) (by repeat (first | exact .nil | refine .cons rfl ?_)) ⟨Nat.zero_le _,by simpa using hP2,hsd⟩ ?_
   clear hP2 hsd;rintro ⟨j,dv2⟩ w5 ⟨hj,hP3,hsd⟩;simp only at hj hP3 ⊢
   by_cases hlt2 : j < dsi.length
   ·have hkk := hP3.und
    obtain ⟨⟨q1,q2,q3⟩,hdq⟩ : ∃ q,dsi[j] = q := ⟨_,rfl⟩;have hdl2 : (ds ++ (dsi.take j).map fun q => ((mns.length : Int),q)).length ≤ ds.length + j := by simp; omega
    refine .sr ?_
    first | refine .tq (bG rfl rfl (by omega)) rfl ?_ | refine .tq (bJ rfl rfl (by omega)) rfl ?_ | refine .tq (cU rfl rfl) rfl ?_
    refine .done (.seq (.condT rfl (Wp.skip (.seq (Wp.block (.sr ?_))))));have hq5 := Ext.refl w5;refine Rg.ix hsd trivial rfl rfl Tryz.underlying28 kU (by omega) rfl ?_;intro bt42 ot42 ht42;rw [Int.toNat_natCast,bT dK dsi j hlt2,hdq] at ht42;refine .t2 (bD rfl ht42 kU) (Rg.wd trivial (cJ Tryz.zeroValue80 rfl) rfl ?_);rintro _ wab14 ⟨b14,rfl,qb14,m,f⟩
    
    refine Rg.wn trivial (cB (cs := [.int .i64 q1,.int .i64 0,.int .i64 q2,.int .i64 q3,.string ⟨#[]⟩]) f rfl rfl rfl (kU) (rfl) (rfl)) ?_;rintro _ w41 ⟨hub14,hvb14⟩;have hx41 := m.upd hub14 (Nat.le_of_eq qb14.symm);clear f hub14;replace ht42 := ht42.ext hx41;refine .done (.sr (.m2 rfl (.t2 (aA yZ rfl) (Rg.wn trivial (bZ hvb14 bB rfl rfl rfl rfl rfl) ?_))));rintro _ w42 ⟨huS,hvS⟩;simp only [List.set] at hvS;have hx42 := hx41.upd huS (Nat.le_of_eq qb14.symm);replace hP3 := hP3.ext hx42;replace hsd := hsd.ext hx42;clear hvb14 huS;refine .done (Wp.region (.m2 rfl ?_));refine .t2 (bD rfl hvS.cells (by exact kU)) ?_;refine Rg.wd trivial (aD (Fb _ _ _ _ _) rfl) rfl ?_;rintro _ w43 ⟨bb2,rfl,qb2,hx43,hvb2⟩;replace hP3 := hP3.ext hx43;replace hsd := hsd.ext hx43;replace hvS := hvS.ext hx43;refine Rg.wd trivial (eI Tryz.underlying28 hi80 hz80 hsi80 hby80 rfl rfl rfl (qN hP3.r7 (Nat.zero_le _)) (dH hvb2 rfl) (by simp [Value.oneCell']) (by decide) (by unfold maxLen; omega) (by omega)) rfl ?_;rintro v3 wd hap;obtain ⟨hP4,hB4⟩ := hP3.push7 (p := ((mns.length : Int),q1,q2,q3)) hap;replace hsd := jX hsd hB4 hbl;clear hP3;refine .a2 rfl (.done (Wp.region ?_))
    first | refine .tq (bE rfl rfl (by omega)) rfl ?_ | refine .tq (fR rfl rfl) rfl ?_
    refine .m2 rfl (.done ?_);refine ⟨(j + 1,v3),by repeat (first | exact .nil | refine .cons rfl ?_),⟨hlt2,?_,hsd⟩,by simp only; omega⟩;rw [List.take_succ_eq_append_getElem hlt2,List.map_append,← List.append_assoc,hdq];exact hP4
   ·have e0 : j = dsi.length := by omega
    subst e0;rw [List.take_length] at hP3;refine .sr ?_
    first | refine .tq (bG rfl rfl (by omega)) rfl ?_ | refine .tq (bJ rfl rfl (by omega)) rfl ?_ | refine .tq (cU rfl rfl) rfl ?_
    refine .done (.seq (.condF rfl (Wp.exit (Wp.region ?_))))
    first | refine .tq (bE rfl rfl (by omega)) rfl ?_ | refine .tq (fR rfl rfl) rfl ?_
    refine .m2 rfl (.done ?_);refine ⟨(mns ++ [.mk hh (.slice pc kids.length cc) kids],v2,dv2,ds ++ dsi.map fun q => ((mns.length : Int),q)),by simp only [List.length_append,List.length_singleton]; repeat (first | exact .nil | refine .cons rfl ?_),⟨hT.push hlt (by rw [hmd]; exact hpt) (by rw [hmd]; exact her),by simp only [List.length_append,List.length_map,List.length_singleton]; omega,KK,hP3⟩,by simp only [List.length_append,List.length_singleton]; omega⟩
  ·skip
   refine .sr ?_
   first | refine .tq (bG rfl rfl (by omega)) rfl ?_ | refine .tq (bJ rfl rfl (by omega)) rfl ?_ | refine .tq (cU rfl rfl) rfl ?_
   refine .done (.seq (.condF rfl (Wp.exit (.sr (.m2 rfl (.m2 rfl (.a2 rfl (.a2 rfl (.a2 rfl (.done (Wp.ret ?_)))))))))));exact ⟨[_,_,_],⟨rfl,rfl,rfl,trivial⟩,.inr ⟨h0,K,mns,lv,dv,ds,rfl,hT,by omega,hP⟩⟩
 ·skip
  refine Cl.enter Tryz.func57 rfl Tryz.ntmps57 rfl rfl (.sr (.a2 rfl (.a2 rfl (.a2 rfl (.done (.seq (.sr (.m2 rfl (Rg.wd trivial (aC Tryz.call106 rfl (pK hA hs0 hlen)) rfl ?_)))))))));rintro _ w1 ⟨rfl,hx1⟩;replace hx := hx.ext hx1;rw [he];refine .a2 rfl (.done (.sr (.m2 rfl ?_)));refine .t2 (eM rfl rfl (by omega)) ?_;refine .done (.condT rfl (.sr (.m2 rfl (.a2 rfl (.a2 rfl (.a2 rfl (.done (Wp.ret ?_))))))));exact ⟨[_,_,_],⟨rfl,rfl,rfl,trivial⟩,.inl ⟨by omega,rfl,hx⟩⟩
end Go.Proofs.YtiogccmfmjhipaaGreatDoor.Sym
