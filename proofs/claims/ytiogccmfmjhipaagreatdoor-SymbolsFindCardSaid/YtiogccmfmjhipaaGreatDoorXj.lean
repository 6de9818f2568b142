/- Tokens as plain data: white space or a comment put between two tokens. No program. -/
import Derived.Test.YtiogccmfmjhipaaGreatDoorXb
import Derived.Test.YtiogccmfmjhipaaGreatDoorXi
set_option linter.unusedVariables false
set_option linter.unusedSimpArgs false
namespace Go.Proofs.YtiogccmfmjhipaaGreatDoor.Lexi
end Go.Proofs.YtiogccmfmjhipaaGreatDoor.Lexi
namespace Go.Proofs.YtiogccmfmjhipaaGreatDoor.Ast
open Par
open Lexi (toks bt)
variable {src src' : ByteArray} {d : Nat}
end Go.Proofs.YtiogccmfmjhipaaGreatDoor.Ast
namespace Go.Proofs.YtiogccmfmjhipaaGreatDoor.Par
set_option maxRecDepth 20000
open Go.Gx Go.RowKit Go.Lib
open Lexi (Asc toks)
open Ast
theorem er_ext {w w' : World} (h : Er w) (x : Ext w w') : Er w' := by
 obtain ⟨a,b,h⟩ := h
 exact ⟨a,b,x.cell h⟩
def exS : ByteArray := ⟨#[99,111,110,115,116,32,99,58,32,105,110,116,32,61,32,59]⟩
theorem ex_run : ((run body 40 file ⟨toks exS,[],false,0⟩).map fun r => ((cvt exS (.mk 1 nob r.kids) 0 []).2.2,(cvt exS (.mk 1 nob r.kids) 0 []).1.kids.map fun a => a.hd.kind)) = some ([(1,14,14)],[8]) := by decide +kernel
end Go.Proofs.YtiogccmfmjhipaaGreatDoor.Par
namespace Go.Proofs.YtiogccmfmjhipaaGreatDoor.Par
set_option maxRecDepth 20000
open Go.Gx Go.RowKit Go.Lib
open Lexi (Asc toks catT tcs tcs_at)
open Ast
theorem mod_ok {w : World} {a : Int} {n : Nat} (hn : 0 < n) (hn2 : n ≤ 1000000) : Cl Tryz.prog 21 #[.int .i64 a,.int .i64 n] w (fun u w' => (∃ k : Nat,u = .int .i64 k ∧ k < n ∧ (k : Int) = a % n) ∧ Ext w w') := by
 have hx := Ext.refl w
 have hm := Int.emod_nonneg a (show (n : Int) ≠ 0 by omega)
 have hm2 := Int.emod_lt_of_pos a (show (0 : Int) < n by omega)
 have ht : a.tmod n = a % n ∨ (a.tmod n < 0 ∧ a.tmod n + n = a % n) := by
  by_cases h0 : 0 ≤ a
  ·left; exact Int.tmod_eq_emod_of_nonneg h0
  ·have e1 := Int.tmod_eq_emod (a := a) (b := n)
   split at e1
   ·left; simpa using e1
   ·right
    have : ((n : Int).natAbs : Int) = n := by omega
    omega
 by_cases hneg : a.tmod n < 0
 ·skip
  refine Cl.enter Tryz.func21 rfl Tryz.ntmps21 rfl rfl (.sr (.a2 rfl (.done (.sr (.m2 rfl (.m2 rfl ?_))))))
  refine .t2 (t_remI rfl rfl (by omega)) ?_
  refine .a2 rfl (.done (.seq (.sr (.m2 rfl ?_))))
  refine .t2 (t_lssT rfl rfl (by omega)) ?_
  refine .done (.condT rfl (Wp.region (.m2 rfl (.m2 rfl ?_))))
  refine .t2 (t_addI rfl rfl (by omega)) ?_
  refine .a2 rfl (.done (.sr (.m2 rfl (.a2 rfl (.done (Wp.ret ?_))))))
  have e : a.tmod n + n = a % n := by
   rcases ht with h | h
   ·rw [h] at hneg; exact absurd hneg (by omega)
   ·exact h.2
  refine ⟨[_],⟨rfl,trivial⟩,⟨(a % n).toNat,?_,by omega,by omega⟩,hx⟩
  rw [Int.toNat_of_nonneg hm,e]; rfl
 ·skip
  refine Cl.enter Tryz.func21 rfl Tryz.ntmps21 rfl rfl (.sr (.a2 rfl (.done (.sr (.m2 rfl (.m2 rfl ?_))))))
  refine .t2 (t_remI rfl rfl (by omega)) ?_
  refine .a2 rfl (.done (.seq (.sr (.m2 rfl ?_))))
  refine .t2 (t_lssF rfl rfl (by omega)) ?_
  refine .done (.condF rfl (Wp.skip (.sr (.m2 rfl (.a2 rfl (.done (Wp.ret ?_)))))))
  have e : a.tmod n = a % n := by
   rcases ht with h | h
   ·rw [h] at hneg; exact h
   ·exact absurd h.1 hneg
  refine ⟨[_],⟨rfl,trivial⟩,⟨(a % n).toNat,?_,by omega,by omega⟩,hx⟩
  rw [Int.toNat_of_nonneg hm,e]; rfl
mutual
def anc : An → Nat
 | .mk _ ks => ancL ks + 1
def ancL : List An → Nat
 | [] => 0
 | a :: l => anc a + ancL l
end
theorem ancL_len (l : List An) : l.length ≤ ancL l := by
 induction l with
 | nil => exact Nat.le_refl _
 | cons a l ih => cases a; simp only [ancL,anc,List.length_cons]; omega
theorem ancL_mem {l : List An} {a : An} (h : a ∈ l) : anc a ≤ ancL l := by
 induction l with
 | nil => cases h
 | cons b l ih =>
  rcases List.mem_cons.1 h with rfl | h
  ·simp only [ancL]; omega
  ·have := ih h; simp only [ancL]; omega
theorem ancL_app (a b : List An) : ancL (a ++ b) = ancL a + ancL b := by
 induction a with
 | nil => simp [ancL]
 | cons x a ih => simp only [List.cons_append,ancL,ih]; omega
theorem fin_anc (src : ByteArray) (h : Hd) (ns : List An) (ds : List Dg) : anc (fin src h ns ds).1 ≤ ancL ns + 1 := by
 unfold fin
 split
 ·split
  ·simp only [anc,ancL]; omega
  ·simp only [anc,ancL]; omega
 split
 ·simp only [anc,ancL]; omega
 ·simp only [anc]; omega
mutual
theorem cvt_anc (src : ByteArray) : ∀ (t : Tr) (off : Int) (ds : List Dg),anc (cvt src t off ds).1 ≤ t.cnt
 | .mk k x ks,off,ds => by
  rw [cvt,Tr.cnt]
  have h1 := fin_anc src (endH (cvtL src ks (hd0 k off) [] off ds).1) (cvtL src ks (hd0 k off) [] off ds).2.1 (cvtL src ks (hd0 k off) [] off ds).2.2.2
  have h2 := cvtL_anc src ks (hd0 k off) [] off ds
  simp only [ancL] at h2
  show anc (fin _ _ _ _).1 ≤ _
  omega
theorem cvtL_anc (src : ByteArray) : ∀ (l : List Tr) (h : Hd) (ns : List An) (off : Int) (ds : List Dg),ancL (cvtL src l h ns off ds).2.1 ≤ ancL ns + cntL l
 | [],h,ns,off,ds => by rw [cvtL]; simp [cntL]
 | t :: l,h,ns,off,ds => by
  rw [cvtL,cntL]
  split
  ·have := cvtL_anc src l (tokS h off ds (kd t) (tx t)).1 ns (tokS h off ds (kd t) (tx t)).2.1 (tokS h off ds (kd t) (tx t)).2.2
   simp only
   omega
  ·have h1 := cvt_anc src t off ds
   have h2 := cvtL_anc src l (ext h (cvt src t off ds).1.hd.st (cvt src t off ds).1.hd.en) (ns ++ [(cvt src t off ds).1]) (cvt src t off ds).2.1 (cvt src t off ds).2.2
   rw [ancL_app] at h2
   simp only [ancL] at h2
   simp only
   omega
end
theorem astOf_anc (s : ByteArray) (t : Tr) : anc (astOf s t) ≤ t.cnt := by
 have := cvt_anc s t 0 []
 unfold astOf
 cases h : (cvt s t 0 []).1 with
 | mk a ks => rw [h] at this; exact this
theorem mnL_at (l : List Mn) (k : Nat) (h : k < l.length) : (mnL l)[k]'(by rw [mnL_len]; exact h) = l[k].er := by simp [mnL_map]
end Go.Proofs.YtiogccmfmjhipaaGreatDoor.Par
namespace Go.Proofs.YtiogccmfmjhipaaGreatDoor.Sym
open Par Ast
structure Sy where
 k : Int
 m : Int
 s : Int
 p : Int
 n : ByteArray
 pub : Bool
def syc (y : Sy) : List Value := [.int .i64 y.k,.int .i64 y.m,.int .i64 y.s,.int .i64 y.p,.string y.n,.bool y.pub]
theorem syc_len (y : Sy) : (syc y).length = 6 := rfl
def tabK (k : Int) : Int := if k = 11 then 9 else if k = 13 then 10 else if k = 14 then 11 else if k = 15 then 12 else if k = 16 then 13 else 0
def symKind (h : Hd) (lp : Bool) : Int :=
 if h.kind = 7 then 6 else if h.ns < 0 then 0 else if (h.kind = 13 ∧ lp = true) ∨ h.kind = 44 then 14
 else if 3 ≤ h.kind ∧ h.kind ≤ 9 then h.kind - 3 + 2 else tabK h.kind
def declSt (h : Hd) : Int := if h.kind = 7 then h.st else h.ns
def isCont (k : Int) : Bool := decide (2 ≤ k) && decide (k ≤ 8)
def andI (a b : Int) : Int := IntKind.i64.wrap ((BitVec.ofInt 64 a &&& BitVec.ofInt 64 b).toNat : Nat)
def pubOf (h : Hd) : Bool := decide (h.kind ≤ 9) && decide (andI h.value 1 ≠ 0)
def locOf (h : Hd) (lp : Bool) : Bool := (decide (h.kind = 12) && lp) || decide (h.kind = 9) || decide (h.kind = 38)
def symOf (m : Int) (h : Hd) (p : Int) (lp : Bool) : Sy := ⟨symKind h lp,m,declSt h,p,h.text,pubOf h⟩
def accOf (m : Int) (h : Hd) (p : Int) (lp : Bool) (acc : List Sy) : List Sy := if symKind h lp = 0 then acc else acc ++ [symOf m h p lp]
def parOf (h : Hd) (p : Int) (lp : Bool) (acc : List Sy) : Int := if symKind h lp ≠ 0 ∧ isCont (symKind h lp) = true then acc.length else p
mutual
def vis (m : Int) : An → Int → Bool → List Sy → List Sy
 | .mk h ks,p,lp,acc => visL m ks (parOf h p lp acc) (locOf h lp) (accOf m h p lp acc)
def visL (m : Int) : List An → Int → Bool → List Sy → List Sy
 | [],_,_,acc => acc
 | a :: l,p,lp,acc => visL m l p lp (vis m a p lp acc)
end
theorem accOf_le (m : Int) (h : Hd) (p : Int) (lp : Bool) (acc : List Sy) : acc.length ≤ (accOf m h p lp acc).length ∧ (accOf m h p lp acc).length ≤ acc.length + 1 := by
 unfold accOf
 split <;> simp
mutual
theorem vis_len (m : Int) : ∀ (a : An) (p : Int) (lp : Bool) (acc : List Sy),(vis m a p lp acc).length ≤ acc.length + anc a
 | .mk h ks,p,lp,acc => by
  rw [vis,anc]
  have h1 := visL_len m ks (parOf h p lp acc) (locOf h lp) (accOf m h p lp acc)
  have h2 := accOf_le m h p lp acc
  omega
theorem visL_len (m : Int) : ∀ (l : List An) (p : Int) (lp : Bool) (acc : List Sy),(visL m l p lp acc).length ≤ acc.length + ancL l
 | [],p,lp,acc => by rw [visL]; omega
 | a :: l,p,lp,acc => by
  rw [visL,ancL]
  have h1 := visL_len m l p lp (vis m a p lp acc)
  have h2 := vis_len m a p lp acc
  omega
end
theorem visL_take (m : Int) (l : List An) (p : Int) (lp : Bool) (acc : List Sy) (i : Nat) (h : i < l.length) : visL m (l.take (i + 1)) p lp acc = vis m l[i] p lp (visL m (l.take i) p lp acc) := by
 induction l generalizing acc i with
 | nil => exact absurd h (Nat.not_lt_zero _)
 | cons a l ih =>
  cases i with
  | zero => simp [visL]
  | succ i =>
   simp only [List.take_succ_cons,visL,List.getElem_cons_succ]
   exact ih _ i (by simpa using h)
end Go.Proofs.YtiogccmfmjhipaaGreatDoor.Sym
namespace Go.Proofs.YtiogccmfmjhipaaGreatDoor.Sym
set_option maxRecDepth 20000
open Go.Gx Go.RowKit Go.Lib
open Lexi (Asc)
open Par Ast
section
variable {n : Nat} {L : Env} {w : World} {d : Option Tmp} {ty : TypeId} {pos : String} {af : Array Edge} {g : Option (Nat × Bool)}
theorem t_andI {t t' : TypeId} {x y : Operand} {u v : Int} (hx : evO L x = some (.int .i64 u)) (hy : evO L y = some (.int .i64 v)) : Tm Tryz.prog n ⟨d,.binOp .and t x y t',ty,pos,af,g⟩ L w (.int .i64 (andI u v)) := fun a ha w' _ => by
 simp only [execOp,eqGuard,binOp,Op.intBits,ha.eval hx,ha.eval hy]
 rfl
end
theorem isCont_ok {w : World} {k : Int} : Cl Tryz.prog 169 #[.int .i64 k] w (fun u w' => u = .bool (isCont k) ∧ w = w') := by
 unfold isCont
 by_cases h1 : 2 ≤ k
 ·rw [decide_eq_true h1]
  refine Cl.enter Tryz.func169 rfl Tryz.ntmps169 rfl rfl (.sr (.a2 rfl (.done (.sr (.m2 rfl ?_)))))
  refine .t2 (t_geqT rfl rfl (by omega)) ?_
  refine .m2 rfl ?_
  first | refine .gd (t_move rfl) rfl ?_ | refine .so rfl rfl ?_
  refine .g2 (t_leq rfl rfl) (.t2 (t_pickT rfl rfl) (.a2 rfl (.done (Wp.ret ?_))))
  exact ⟨[_],⟨rfl,trivial⟩,rfl,rfl⟩
 ·rw [decide_eq_false h1]
  refine Cl.enter Tryz.func169 rfl Tryz.ntmps169 rfl rfl (.sr (.a2 rfl (.done (.sr (.m2 rfl ?_)))))
  refine .t2 (t_geqF rfl rfl (by omega)) ?_
  refine .m2 rfl (.so rfl rfl (.so rfl rfl (.t2 (t_pickF rfl rfl) (.a2 rfl (.done (Wp.ret ?_))))))
  exact ⟨[_],⟨rfl,trivial⟩,rfl,rfl⟩
theorem declSt_ok {w : World} {h : Hd} {cv : Value} : Cl Tryz.prog 168 #[.agg (h.cells cv).toArray] w (fun u w' => u = .int .i64 (declSt h) ∧ Ext w w') := by
 have hx := Ext.refl w
 unfold declSt
 by_cases h1 : h.kind = 7
 ·rw [if_pos h1]
  refine Cl.enter Tryz.func168 rfl Tryz.ntmps168 rfl rfl (.sr (Rg.wd trivial (w_boxed (cs := h.cells cv) rfl rfl) rfl ?_))
  rintro _ w1 ⟨b1,rfl,q1,hx1,hv1⟩
  replace hx := hx.ext hx1
  refine .a2 rfl (.done (.seq (.sr (.t2 (t_fieldAddr fa27_0 rfl) (.t2 (t_load ty3 rfl (hv1.g 0 rfl)) (.t2 (t_eqlT rfl rfl h1) (.done (.condT rfl (.sr (.t2 (t_fieldAddr fa27_3 rfl) (.t2 (t_load ty3 rfl (hv1.g 3 rfl)) (.a2 rfl ?_))))))))))))
  refine .done (Wp.ret ?_)
  exact ⟨[_],⟨rfl,trivial⟩,rfl,hx⟩
 ·rw [if_neg h1]
  refine Cl.enter Tryz.func168 rfl Tryz.ntmps168 rfl rfl (.sr (Rg.wd trivial (w_boxed (cs := h.cells cv) rfl rfl) rfl ?_))
  rintro _ w1 ⟨b1,rfl,q1,hx1,hv1⟩
  replace hx := hx.ext hx1
  refine .a2 rfl (.done (.seq (.sr (.t2 (t_fieldAddr fa27_0 rfl) (.t2 (t_load ty3 rfl (hv1.g 0 rfl)) (.t2 (t_eqlF rfl rfl h1) (.done (.condF rfl (Wp.skip (.sr (.t2 (t_fieldAddr fa27_5 rfl) (.t2 (t_load ty3 rfl (hv1.g 5 rfl)) ?_))))))))))))
  refine .a2 rfl (.done (Wp.ret ?_))
  exact ⟨[_],⟨rfl,trivial⟩,rfl,hx⟩
def tabs : List (Int × Int) := [(11,9),(13,10),(14,11),(15,12),(16,13)]
def tabc (p : Int × Int) : List Value := [.int .i64 p.1,.int .i64 p.2]
theorem tabc_len (p : Int × Int) : (tabc p).length = 2 := rfl
theorem tabK_at (k : Int) (i : Nat) (hi : i < tabs.length) (hn : ∀ j (h : j < tabs.length),j < i → (tabs[j]).1 ≠ k) (he : (tabs[i]).1 = k) : tabK k = (tabs[i]).2 := by
 have h5 : tabs.length = 5 := rfl
 rcases i with _ | _ | _ | _ | _ | i
 ·obtain rfl : (11 : Int) = k := he; rfl
 ·obtain rfl : (13 : Int) = k := he; rfl
 ·obtain rfl : (14 : Int) = k := he; rfl
 ·obtain rfl : (15 : Int) = k := he; rfl
 ·obtain rfl : (16 : Int) = k := he; rfl
 ·omega
theorem tabK_none (k : Int) (hn : ∀ j (h : j < tabs.length),(tabs[j]).1 ≠ k) : tabK k = 0 := by
 have h0 : (11 : Int) ≠ k := hn 0 (by decide)
 have h1 : (13 : Int) ≠ k := hn 1 (by decide)
 have h2 : (14 : Int) ≠ k := hn 2 (by decide)
 have h3 : (15 : Int) ≠ k := hn 3 (by decide)
 have h4 : (16 : Int) ≠ k := hn 4 (by decide)
 unfold tabK
 rw [if_neg (Ne.symm h0),if_neg (Ne.symm h1),if_neg (Ne.symm h2),if_neg (Ne.symm h3),if_neg (Ne.symm h4)]
theorem bd226 (a b : Int) (w : World) : (Instr.build 226 [(0,.int .i64 a),(1,.int .i64 b)].toArray).run Tryz.prog w = .ok (.agg #[.int .i64 a,.int .i64 b]) w := by kernel_rfl
theorem bs227 (w : World) : (Instr.buildSlice 227 5 [(0,.agg #[.int .i64 11,.int .i64 9]),(1,.agg #[.int .i64 13,.int .i64 10]),(2,.agg #[.int .i64 14,.int .i64 11]),(3,.agg #[.int .i64 15,.int .i64 12]),(4,.agg #[.int .i64 16,.int .i64 13])].toArray).run Tryz.prog w = .ok (.slice (some ⟨w.heap.size,0,none⟩) 5 5) (w.alloc (.cells (encs tabc tabs).toArray 226)) := by kernel_rfl
theorem symKind_ok {w : World} {h : Hd} {cv : Value} {lp : Bool} : Cl Tryz.prog 167 #[.agg (h.cells cv).toArray,.bool lp] w (fun u w' => u = .int .i64 (symKind h lp) ∧ Ext w w') := by
 have hx := Ext.refl w
 unfold symKind
 by_cases h1 : h.kind = 7
 ·rw [if_pos h1]
  refine Cl.enter Tryz.func167 rfl Tryz.ntmps167 rfl rfl (.sr (Rg.wd trivial (w_boxed (cs := h.cells cv) rfl rfl) rfl ?_))
  rintro _ w1 ⟨b2,rfl,q2,hx1,hv2⟩
  replace hx := hx.ext hx1
  refine .a2 rfl (.done (.seq (Wp.block (.sr (.t2 (t_fieldAddr fa27_0 rfl) (.t2 (t_load ty3 rfl (hv2.g 0 rfl)) (.t2 (t_eqlT rfl rfl h1) (.a2 rfl (.done (.condT rfl (.sr (.a2 rfl ?_))))))))))))
  refine .done (Wp.ret ?_)
  exact ⟨[_],⟨rfl,trivial⟩,rfl,hx⟩
 ·rw [if_neg h1]
  by_cases h2 : h.ns < 0
  ·rw [if_pos h2]
   refine Cl.enter Tryz.func167 rfl Tryz.ntmps167 rfl rfl (.sr (Rg.wd trivial (w_boxed (cs := h.cells cv) rfl rfl) rfl ?_))
   rintro _ w1 ⟨b2,rfl,q2,hx1,hv2⟩
   replace hx := hx.ext hx1
   refine .a2 rfl (.done (.seq (Wp.block (.sr (.t2 (t_fieldAddr fa27_0 rfl) (.t2 (t_load ty3 rfl (hv2.g 0 rfl)) (.t2 (t_eqlF rfl rfl h1) (.a2 rfl (.done (.condF rfl (.sr (.t2 (t_fieldAddr fa27_5 rfl) ?_))))))))))))
   refine .t2 (t_load ty3 rfl (hv2.g 5 rfl)) (.t2 (t_lssT rfl rfl h2) (.a2 rfl (.done (.condT rfl (.sr (.a2 rfl (.done (Wp.ret ?_))))))))
   exact ⟨[_],⟨rfl,trivial⟩,rfl,hx⟩
  ·rw [if_neg h2]
   by_cases h3 : h.kind = 13
   ·cases lp with
    | true =>
     rw [if_pos (.inl ⟨h3,rfl⟩)]
     refine Cl.enter Tryz.func167 rfl Tryz.ntmps167 rfl rfl (.sr (Rg.wd trivial (w_boxed (cs := h.cells cv) rfl rfl) rfl ?_))
     rintro _ w1 ⟨b2,rfl,q2,hx1,hv2⟩
     replace hx := hx.ext hx1
     refine .a2 rfl (.done (.seq (Wp.block (.sr (.t2 (t_fieldAddr fa27_0 rfl) (.t2 (t_load ty3 rfl (hv2.g 0 rfl)) (.t2 (t_eqlF rfl rfl h1) (.a2 rfl (.done (.condF rfl (.sr (.t2 (t_fieldAddr fa27_5 rfl) ?_))))))))))))
     refine .t2 (t_load ty3 rfl (hv2.g 5 rfl)) ?_
     refine .t2 (t_lssF rfl rfl (by omega)) ?_
     refine .a2 rfl (.done (.condF rfl (.sr (.t2 (t_fieldAddr fa27_0 rfl) (.t2 (t_load ty3 rfl (hv2.g 0 rfl)) ?_)))))
     refine .t2 (t_eqlT rfl rfl (by omega)) ?_
     refine .m2 rfl ?_
     first | refine .gd (t_move rfl) rfl ?_ | refine .so rfl rfl ?_
     refine .t2 (t_pickT rfl rfl) (.m2 rfl (.so rfl rfl (.so rfl rfl (.so rfl rfl (.t2 (t_pickT rfl rfl) (.a2 rfl (.done (.condT rfl (.sr (.a2 rfl (.done (Wp.ret ?_))))))))))))
     exact ⟨[_],⟨rfl,trivial⟩,rfl,hx⟩
    | false =>
     rw [if_neg (by rintro (h | h); exact absurd h.2 (by decide); omega),if_neg (by omega)]
     refine Cl.enter Tryz.func167 rfl Tryz.ntmps167 rfl rfl (.sr (Rg.wd trivial (w_boxed (cs := h.cells cv) rfl rfl) rfl ?_))
     rintro _ w1 ⟨b2,rfl,q2,hx1,hv2⟩
     replace hx := hx.ext hx1
     refine .a2 rfl (.done (.seq (Wp.block (.sr (.t2 (t_fieldAddr fa27_0 rfl) (.t2 (t_load ty3 rfl (hv2.g 0 rfl)) (.t2 (t_eqlF rfl rfl h1) (.a2 rfl (.done (.condF rfl (.sr (.t2 (t_fieldAddr fa27_5 rfl) ?_))))))))))))
     refine .t2 (t_load ty3 rfl (hv2.g 5 rfl)) ?_
     refine .t2 (t_lssF rfl rfl (by omega)) ?_
     refine .a2 rfl (.done (.condF rfl (.sr (.t2 (t_fieldAddr fa27_0 rfl) (.t2 (t_load ty3 rfl (hv2.g 0 rfl)) ?_)))))
     refine .t2 (t_eqlT rfl rfl (by omega)) ?_
     refine .m2 rfl ?_
     first | refine .gd (t_move rfl) rfl ?_ | refine .so rfl rfl ?_
     refine .t2 (t_pickT rfl rfl) (.m2 rfl ?_)
     first | refine .gd (t_fieldAddr fa27_0 rfl) rfl ?_ | refine .so rfl rfl ?_
     refine .g2 (t_load ty3 rfl (hv2.g 0 rfl)) ?_
     refine .g2 (t_eqlF rfl rfl (by omega)) ?_
     refine .t2 (t_pickF rfl rfl) (.a2 rfl (.done (.condF rfl (.sr (.t2 (t_fieldAddr fa27_0 rfl) (.t2 (t_load ty3 rfl (hv2.g 0 rfl)) ?_))))))
     refine .t2 (t_geqT rfl rfl (by omega)) ?_
     refine .m2 rfl ?_
     first | refine .gd (t_fieldAddr fa27_0 rfl) rfl ?_ | refine .so rfl rfl ?_
     refine .g2 (t_load ty3 rfl (hv2.g 0 rfl)) ?_
     refine .g2 (t_leqF rfl rfl (by omega)) ?_
     refine .t2 (t_pickT rfl rfl) (.a2 rfl (.done (.condF rfl (Wp.skip (.sr (.t2 (t_build (v := .agg #[.int .i64 11,.int .i64 9]) (pv := [(0,.int .i64 11),(1,.int .i64 9)]) (bd226 _ _) rfl) (.t2 (t_build (v := .agg #[.int .i64 13,.int .i64 10]) (pv := [(0,.int .i64 13),(1,.int .i64 10)]) (bd226 _ _) rfl) (.t2 (t_build (v := .agg #[.int .i64 14,.int .i64 11]) (pv := [(0,.int .i64 14),(1,.int .i64 11)]) (bd226 _ _) rfl) (.t2 (t_build (v := .agg #[.int .i64 15,.int .i64 12]) (pv := [(0,.int .i64 15),(1,.int .i64 12)]) (bd226 _ _) rfl) (.t2 (t_build (v := .agg #[.int .i64 16,.int .i64 13]) (pv := [(0,.int .i64 16),(1,.int .i64 13)]) (bd226 _ _) rfl) (Rg.wd trivial (w_buildSlice (pv := [(0,.agg #[.int .i64 11,.int .i64 9]),(1,.agg #[.int .i64 13,.int .i64 10]),(2,.agg #[.int .i64 14,.int .i64 11]),(3,.agg #[.int .i64 15,.int .i64 12]),(4,.agg #[.int .i64 16,.int .i64 13])]) (cs := encs tabc tabs) bs227 rfl) rfl ?_)))))))))))
     rintro _ w2 ⟨bb,rfl,qb,hx2,hvb⟩
     replace hx := hx.ext hx2
     replace hv2 := hv2.ext hx2
     have hsl : SlC w2 (.slice (some ⟨bb,0,none⟩) 5 5) 2 tabs.length (encs tabc tabs) := slc_var hvb rfl
     refine .a2 rfl (.done (.seq (.sr (.m2 rfl (.t2 (t_lenC hsl Tryz.underlying227 rfl) (.m2 rfl (.done (Wp.block ?_))))))))
     refine Wp.loop (ι := Nat) (fun i => [(2,.pointer (some ⟨b2,0,none⟩)),(47,.slice (some ⟨bb,0,none⟩) 5 5),(48,.int .i64 tabs.length),(49,.int .i64 i)])
      (fun i w' => i ≤ tabs.length ∧ (∀ j (hq : j < tabs.length),j < i → (tabs[j]).1 ≠ h.kind) ∧ Ext w2 w') (fun i => tabs.length - i) 0 (by repeat (first | exact .nil | refine .cons rfl ?_)) ⟨Nat.zero_le _,fun j _ hj => absurd hj (Nat.not_lt_zero _),Ext.refl _⟩ ?_
     rintro i wl ⟨hi,hno,hy⟩
     replace hx := hx.ext hy
     replace hv2 := hv2.ext hy
     replace hsl := hsl.ext hy
     have ht5 : tabs.length = 5 := rfl
     by_cases hlt : i < tabs.length
     ·skip
      refine .sr ?_
      first | refine .tq (t_lssT rfl rfl (by omega)) rfl ?_ | refine .tq (t_lssF rfl rfl (by omega)) rfl ?_ | refine .tq (t_lss rfl rfl) rfl ?_
      refine .done (.seq (.condT rfl (Wp.skip (.seq (Wp.block (.sr ?_))))))
      refine Rg.ix hsl trivial rfl rfl Tryz.underlying227 ty226 (by omega) rfl ?_
      intro bt51 ot51 ht51
      rw [Int.toNat_natCast,encs_at tabc_len tabs i hlt] at ht51
      refine .t2 (t_loadA rfl ht51 (by exact ty226)) ?_
      refine Rg.wd trivial (w_new Tryz.zeroValue226 rfl) rfl ?_
      rintro _ wab7 ⟨b7,rfl,qb7,hxab7,hvab7⟩
      refine Rg.wn trivial (w_put (cs := (tabc tabs[i])) hvab7 rfl rfl rfl (ty226) (rfl) (rfl)) ?_
      rintro _ w41 ⟨hub7,hvb7⟩
      have hx41 := hxab7.upd hub7 (Nat.le_of_eq qb7.symm)
      clear hvab7 hub7 hxab7
      replace hx := hx.ext hx41
      replace hy := hy.ext hx41
      replace hv2 := hv2.ext hx41
      replace hsl := hsl.ext hx41
      replace ht51 := ht51.ext hx41
      clear qb7
      refine .done ?_
      by_cases he : (tabs[i]).1 = h.kind
      ·skip
       refine .sr ?_
       refine .t2 (t_indexAddrA Tryz.underlying226 ty3 rfl rfl (by omega)) ?_
       refine .t2 (t_load ty3 rfl (hvb7.g 0 rfl)) (.t2 (t_fieldAddr fa27_0 rfl) (.t2 (t_load ty3 rfl (hv2.g 0 rfl)) (.t2 (t_eqlT rfl rfl he) (.done (.condT rfl (.sr ?_))))))
       refine .t2 (t_indexAddrA Tryz.underlying226 ty3 rfl rfl (by omega)) ?_
       refine .t2 (t_load ty3 rfl (hvb7.g 1 rfl)) (.a2 rfl (.done (Wp.ret ?_)))
       exact ⟨[_],⟨rfl,trivial⟩,by rw [tabK_at h.kind i hlt hno he] <;> rfl,hx⟩
      ·skip
       refine .sr ?_
       refine .t2 (t_indexAddrA Tryz.underlying226 ty3 rfl rfl (by omega)) ?_
       refine .t2 (t_load ty3 rfl (hvb7.g 0 rfl)) (.t2 (t_fieldAddr fa27_0 rfl) (.t2 (t_load ty3 rfl (hv2.g 0 rfl)) (.t2 (t_eqlF rfl rfl he) (.done (.condF rfl (Wp.skip (Wp.region ?_)))))))
       first | refine .tq (t_addI rfl rfl (by omega)) rfl ?_ | refine .tq (t_add rfl rfl) rfl ?_
       refine .m2 rfl (.done ?_)
       refine ⟨i + 1,by repeat (first | exact .nil | refine .cons rfl ?_),⟨hlt,fun j hj hji => ?_,hy⟩,by omega⟩
       rcases Nat.lt_succ_iff_lt_or_eq.1 hji with c | c
       ·exact hno j hj c
       ·subst c; exact he
     ·skip
      refine .sr ?_
      first | refine .tq (t_lssT rfl rfl (by omega)) rfl ?_ | refine .tq (t_lssF rfl rfl (by omega)) rfl ?_ | refine .tq (t_lss rfl rfl) rfl ?_
      refine .done (.seq (.condF rfl (Wp.exit (.sr (.a2 rfl (.done (Wp.ret ?_)))))))
      exact ⟨[_],⟨rfl,trivial⟩,by rw [tabK_none h.kind fun j hj => hno j hj (by omega)] <;> rfl,hx⟩
   ·by_cases h4 : h.kind = 44
    ·rw [if_pos (.inr h4)]
     refine Cl.enter Tryz.func167 rfl Tryz.ntmps167 rfl rfl (.sr (Rg.wd trivial (w_boxed (cs := h.cells cv) rfl rfl) rfl ?_))
     rintro _ w1 ⟨b2,rfl,q2,hx1,hv2⟩
     replace hx := hx.ext hx1
     refine .a2 rfl (.done (.seq (Wp.block (.sr (.t2 (t_fieldAddr fa27_0 rfl) (.t2 (t_load ty3 rfl (hv2.g 0 rfl)) (.t2 (t_eqlF rfl rfl h1) (.a2 rfl (.done (.condF rfl (.sr (.t2 (t_fieldAddr fa27_5 rfl) ?_))))))))))))
     refine .t2 (t_load ty3 rfl (hv2.g 5 rfl)) ?_
     refine .t2 (t_lssF rfl rfl (by omega)) ?_
     refine .a2 rfl (.done (.condF rfl (.sr (.t2 (t_fieldAddr fa27_0 rfl) (.t2 (t_load ty3 rfl (hv2.g 0 rfl)) ?_)))))
     refine .t2 (t_eqlF rfl rfl (by omega)) ?_
     refine .m2 rfl (.so rfl rfl (.t2 (t_pickF rfl rfl) (.m2 rfl ?_)))
     first | refine .gd (t_fieldAddr fa27_0 rfl) rfl ?_ | refine .so rfl rfl ?_
     refine .g2 (t_load ty3 rfl (hv2.g 0 rfl)) ?_
     refine .g2 (t_eqlT rfl rfl (by omega)) ?_
     refine .t2 (t_pickF rfl rfl) (.a2 rfl (.done (.condT rfl (.sr (.a2 rfl (.done (Wp.ret ?_)))))))
     exact ⟨[_],⟨rfl,trivial⟩,rfl,hx⟩
    ·rw [if_neg (by rintro (h | h); exact h3 h.1; exact h4 h)]
     by_cases h5 : 3 ≤ h.kind
     ·by_cases h6 : h.kind ≤ 9
      ·rw [if_pos ⟨h5,h6⟩]
       refine Cl.enter Tryz.func167 rfl Tryz.ntmps167 rfl rfl (.sr (Rg.wd trivial (w_boxed (cs := h.cells cv) rfl rfl) rfl ?_))
       rintro _ w1 ⟨b2,rfl,q2,hx1,hv2⟩
       replace hx := hx.ext hx1
       refine .a2 rfl (.done (.seq (Wp.block (.sr (.t2 (t_fieldAddr fa27_0 rfl) (.t2 (t_load ty3 rfl (hv2.g 0 rfl)) (.t2 (t_eqlF rfl rfl h1) (.a2 rfl (.done (.condF rfl (.sr (.t2 (t_fieldAddr fa27_5 rfl) ?_))))))))))))
       refine .t2 (t_load ty3 rfl (hv2.g 5 rfl)) ?_
       refine .t2 (t_lssF rfl rfl (by omega)) ?_
       refine .a2 rfl (.done (.condF rfl (.sr (.t2 (t_fieldAddr fa27_0 rfl) (.t2 (t_load ty3 rfl (hv2.g 0 rfl)) ?_)))))
       refine .t2 (t_eqlF rfl rfl (by omega)) ?_
       refine .m2 rfl (.so rfl rfl (.t2 (t_pickF rfl rfl) (.m2 rfl ?_)))
       first | refine .gd (t_fieldAddr fa27_0 rfl) rfl ?_ | refine .so rfl rfl ?_
       refine .g2 (t_load ty3 rfl (hv2.g 0 rfl)) ?_
       refine .g2 (t_eqlF rfl rfl (by omega)) ?_
       refine .t2 (t_pickF rfl rfl) (.a2 rfl (.done (.condF rfl (.sr (.t2 (t_fieldAddr fa27_0 rfl) (.t2 (t_load ty3 rfl (hv2.g 0 rfl)) ?_))))))
       refine .t2 (t_geqT rfl rfl (by omega)) ?_
       refine .m2 rfl ?_
       first | refine .gd (t_fieldAddr fa27_0 rfl) rfl ?_ | refine .so rfl rfl ?_
       refine .g2 (t_load ty3 rfl (hv2.g 0 rfl)) ?_
       refine .g2 (t_leqT rfl rfl (by omega)) ?_
       refine .t2 (t_pickT rfl rfl) (.a2 rfl (.done (.condT rfl (.sr (.t2 (t_fieldAddr fa27_0 rfl) (.t2 (t_load ty3 rfl (hv2.g 0 rfl)) ?_))))))
       refine .t2 (t_subI rfl rfl (by omega)) ?_
       refine .t2 (t_addI rfl rfl (by omega)) ?_
       refine .a2 rfl (.done (Wp.ret ?_))
       exact ⟨[_],⟨rfl,trivial⟩,rfl,hx⟩
      ·rw [if_neg (fun hh => h6 hh.2)]
       refine Cl.enter Tryz.func167 rfl Tryz.ntmps167 rfl rfl (.sr (Rg.wd trivial (w_boxed (cs := h.cells cv) rfl rfl) rfl ?_))
       rintro _ w1 ⟨b2,rfl,q2,hx1,hv2⟩
       replace hx := hx.ext hx1
       refine .a2 rfl (.done (.seq (Wp.block (.sr (.t2 (t_fieldAddr fa27_0 rfl) (.t2 (t_load ty3 rfl (hv2.g 0 rfl)) (.t2 (t_eqlF rfl rfl h1) (.a2 rfl (.done (.condF rfl (.sr (.t2 (t_fieldAddr fa27_5 rfl) ?_))))))))))))
       refine .t2 (t_load ty3 rfl (hv2.g 5 rfl)) ?_
       refine .t2 (t_lssF rfl rfl (by omega)) ?_
       refine .a2 rfl (.done (.condF rfl (.sr (.t2 (t_fieldAddr fa27_0 rfl) (.t2 (t_load ty3 rfl (hv2.g 0 rfl)) ?_)))))
       refine .t2 (t_eqlF rfl rfl (by omega)) ?_
       refine .m2 rfl (.so rfl rfl (.t2 (t_pickF rfl rfl) (.m2 rfl ?_)))
       first | refine .gd (t_fieldAddr fa27_0 rfl) rfl ?_ | refine .so rfl rfl ?_
       refine .g2 (t_load ty3 rfl (hv2.g 0 rfl)) ?_
       refine .g2 (t_eqlF rfl rfl (by omega)) ?_
       refine .t2 (t_pickF rfl rfl) (.a2 rfl (.done (.condF rfl (.sr (.t2 (t_fieldAddr fa27_0 rfl) (.t2 (t_load ty3 rfl (hv2.g 0 rfl)) ?_))))))
       refine .t2 (t_geqT rfl rfl (by omega)) ?_
       refine .m2 rfl ?_
       first | refine .gd (t_fieldAddr fa27_0 rfl) rfl ?_ | refine .so rfl rfl ?_
       refine .g2 (t_load ty3 rfl (hv2.g 0 rfl)) ?_
       refine .g2 (t_leqF rfl rfl (by omega)) ?_
       refine .t2 (t_pickT rfl rfl) (.a2 rfl (.done (.condF rfl (Wp.skip (.sr (.t2 (t_build (v := .agg #[.int .i64 11,.int .i64 9]) (pv := [(0,.int .i64 11),(1,.int .i64 9)]) (bd226 _ _) rfl) (.t2 (t_build (v := .agg #[.int .i64 13,.int .i64 10]) (pv := [(0,.int .i64 13),(1,.int .i64 10)]) (bd226 _ _) rfl) (.t2 (t_build (v := .agg #[.int .i64 14,.int .i64 11]) (pv := [(0,.int .i64 14),(1,.int .i64 11)]) (bd226 _ _) rfl) (.t2 (t_build (v := .agg #[.int .i64 15,.int .i64 12]) (pv := [(0,.int .i64 15),(1,.int .i64 12)]) (bd226 _ _) rfl) (.t2 (t_build (v := .agg #[.int .i64 16,.int .i64 13]) (pv := [(0,.int .i64 16),(1,.int .i64 13)]) (bd226 _ _) rfl) (Rg.wd trivial (w_buildSlice (pv := [(0,.agg #[.int .i64 11,.int .i64 9]),(1,.agg #[.int .i64 13,.int .i64 10]),(2,.agg #[.int .i64 14,.int .i64 11]),(3,.agg #[.int .i64 15,.int .i64 12]),(4,.agg #[.int .i64 16,.int .i64 13])]) (cs := encs tabc tabs) bs227 rfl) rfl ?_)))))))))))
       rintro _ w2 ⟨bb,rfl,qb,hx2,hvb⟩
       replace hx := hx.ext hx2
       replace hv2 := hv2.ext hx2
       have hsl : SlC w2 (.slice (some ⟨bb,0,none⟩) 5 5) 2 tabs.length (encs tabc tabs) := slc_var hvb rfl
       refine .a2 rfl (.done (.seq (.sr (.m2 rfl (.t2 (t_lenC hsl Tryz.underlying227 rfl) (.m2 rfl (.done (Wp.block ?_))))))))
       refine Wp.loop (ι := Nat) (fun i => [(2,.pointer (some ⟨b2,0,none⟩)),(47,.slice (some ⟨bb,0,none⟩) 5 5),(48,.int .i64 tabs.length),(49,.int .i64 i)])
        (fun i w' => i ≤ tabs.length ∧ (∀ j (hq : j < tabs.length),j < i → (tabs[j]).1 ≠ h.kind) ∧ Ext w2 w') (fun i => tabs.length - i) 0 (by repeat (first | exact .nil | refine .cons rfl ?_)) ⟨Nat.zero_le _,fun j _ hj => absurd hj (Nat.not_lt_zero _),Ext.refl _⟩ ?_
       rintro i wl ⟨hi,hno,hy⟩
       replace hx := hx.ext hy
       replace hv2 := hv2.ext hy
       replace hsl := hsl.ext hy
       have ht5 : tabs.length = 5 := rfl
       by_cases hlt : i < tabs.length
       ·skip
        refine .sr ?_
        first | refine .tq (t_lssT rfl rfl (by omega)) rfl ?_ | refine .tq (t_lssF rfl rfl (by omega)) rfl ?_ | refine .tq (t_lss rfl rfl) rfl ?_
        refine .done (.seq (.condT rfl (Wp.skip (.seq (Wp.block (.sr ?_))))))
        refine Rg.ix hsl trivial rfl rfl Tryz.underlying227 ty226 (by omega) rfl ?_
        intro bt51 ot51 ht51
        rw [Int.toNat_natCast,encs_at tabc_len tabs i hlt] at ht51
        refine .t2 (t_loadA rfl ht51 (by exact ty226)) ?_
        refine Rg.wd trivial (w_new Tryz.zeroValue226 rfl) rfl ?_
        rintro _ wab7 ⟨b7,rfl,qb7,hxab7,hvab7⟩
        refine Rg.wn trivial (w_put (cs := (tabc tabs[i])) hvab7 rfl rfl rfl (ty226) (rfl) (rfl)) ?_
        rintro _ w41 ⟨hub7,hvb7⟩
        have hx41 := hxab7.upd hub7 (Nat.le_of_eq qb7.symm)
        clear hvab7 hub7 hxab7
        replace hx := hx.ext hx41
        replace hy := hy.ext hx41
        replace hv2 := hv2.ext hx41
        replace hsl := hsl.ext hx41
        replace ht51 := ht51.ext hx41
        clear qb7
        refine .done ?_
        by_cases he : (tabs[i]).1 = h.kind
        ·skip
         refine .sr ?_
         refine .t2 (t_indexAddrA Tryz.underlying226 ty3 rfl rfl (by omega)) ?_
         refine .t2 (t_load ty3 rfl (hvb7.g 0 rfl)) (.t2 (t_fieldAddr fa27_0 rfl) (.t2 (t_load ty3 rfl (hv2.g 0 rfl)) (.t2 (t_eqlT rfl rfl he) (.done (.condT rfl (.sr ?_))))))
         refine .t2 (t_indexAddrA Tryz.underlying226 ty3 rfl rfl (by omega)) ?_
         refine .t2 (t_load ty3 rfl (hvb7.g 1 rfl)) (.a2 rfl (.done (Wp.ret ?_)))
         exact ⟨[_],⟨rfl,trivial⟩,by rw [tabK_at h.kind i hlt hno he] <;> rfl,hx⟩
        ·skip
         refine .sr ?_
         refine .t2 (t_indexAddrA Tryz.underlying226 ty3 rfl rfl (by omega)) ?_
         refine .t2 (t_load ty3 rfl (hvb7.g 0 rfl)) (.t2 (t_fieldAddr fa27_0 rfl) (.t2 (t_load ty3 rfl (hv2.g 0 rfl)) (.t2 (t_eqlF rfl rfl he) (.done (.condF rfl (Wp.skip (Wp.region ?_)))))))
         first | refine .tq (t_addI rfl rfl (by omega)) rfl ?_ | refine .tq (t_add rfl rfl) rfl ?_
         refine .m2 rfl (.done ?_)
         refine ⟨i + 1,by repeat (first | exact .nil | refine .cons rfl ?_),⟨hlt,fun j hj hji => ?_,hy⟩,by omega⟩
         rcases Nat.lt_succ_iff_lt_or_eq.1 hji with c | c
         ·exact hno j hj c
         ·subst c; exact he
       ·skip
        refine .sr ?_
        first | refine .tq (t_lssT rfl rfl (by omega)) rfl ?_ | refine .tq (t_lssF rfl rfl (by omega)) rfl ?_ | refine .tq (t_lss rfl rfl) rfl ?_
        refine .done (.seq (.condF rfl (Wp.exit (.sr (.a2 rfl (.done (Wp.ret ?_)))))))
        exact ⟨[_],⟨rfl,trivial⟩,by rw [tabK_none h.kind fun j hj => hno j hj (by omega)] <;> rfl,hx⟩
     ·rw [if_neg (fun hh => h5 hh.1)]
      refine Cl.enter Tryz.func167 rfl Tryz.ntmps167 rfl rfl (.sr (Rg.wd trivial (w_boxed (cs := h.cells cv) rfl rfl) rfl ?_))
      rintro _ w1 ⟨b2,rfl,q2,hx1,hv2⟩
      replace hx := hx.ext hx1
      refine .a2 rfl (.done (.seq (Wp.block (.sr (.t2 (t_fieldAddr fa27_0 rfl) (.t2 (t_load ty3 rfl (hv2.g 0 rfl)) (.t2 (t_eqlF rfl rfl h1) (.a2 rfl (.done (.condF rfl (.sr (.t2 (t_fieldAddr fa27_5 rfl) ?_))))))))))))
      refine .t2 (t_load ty3 rfl (hv2.g 5 rfl)) ?_
      refine .t2 (t_lssF rfl rfl (by omega)) ?_
      refine .a2 rfl (.done (.condF rfl (.sr (.t2 (t_fieldAddr fa27_0 rfl) (.t2 (t_load ty3 rfl (hv2.g 0 rfl)) ?_)))))
      refine .t2 (t_eqlF rfl rfl (by omega)) ?_
      refine .m2 rfl (.so rfl rfl (.t2 (t_pickF rfl rfl) (.m2 rfl ?_)))
      first | refine .gd (t_fieldAddr fa27_0 rfl) rfl ?_ | refine .so rfl rfl ?_
      refine .g2 (t_load ty3 rfl (hv2.g 0 rfl)) ?_
      refine .g2 (t_eqlF rfl rfl (by omega)) ?_
      refine .t2 (t_pickF rfl rfl) (.a2 rfl (.done (.condF rfl (.sr (.t2 (t_fieldAddr fa27_0 rfl) (.t2 (t_load ty3 rfl (hv2.g 0 rfl)) ?_))))))
      refine .t2 (t_geqF rfl rfl (by omega)) ?_
      refine .m2 rfl (.so rfl rfl (.so rfl rfl (.so rfl rfl (.t2 (t_pickF rfl rfl) (.a2 rfl (.done (.condF rfl (Wp.skip (.sr (.t2 (t_build (v := .agg #[.int .i64 11,.int .i64 9]) (pv := [(0,.int .i64 11),(1,.int .i64 9)]) (bd226 _ _) rfl) (.t2 (t_build (v := .agg #[.int .i64 13,.int .i64 10]) (pv := [(0,.int .i64 13),(1,.int .i64 10)]) (bd226 _ _) rfl) (.t2 (t_build (v := .agg #[.int .i64 14,.int .i64 11]) (pv := [(0,.int .i64 14),(1,.int .i64 11)]) (bd226 _ _) rfl) ?_))))))))))))
      refine .t2 (t_build (v := .agg #[.int .i64 15,.int .i64 12]) (pv := [(0,.int .i64 15),(1,.int .i64 12)]) (bd226 _ _) rfl) (.t2 (t_build (v := .agg #[.int .i64 16,.int .i64 13]) (pv := [(0,.int .i64 16),(1,.int .i64 13)]) (bd226 _ _) rfl) (Rg.wd trivial (w_buildSlice (pv := [(0,.agg #[.int .i64 11,.int .i64 9]),(1,.agg #[.int .i64 13,.int .i64 10]),(2,.agg #[.int .i64 14,.int .i64 11]),(3,.agg #[.int .i64 15,.int .i64 12]),(4,.agg #[.int .i64 16,.int .i64 13])]) (cs := encs tabc tabs) bs227 rfl) rfl ?_))
      rintro _ w2 ⟨bb,rfl,qb,hx2,hvb⟩
      replace hx := hx.ext hx2
      replace hv2 := hv2.ext hx2
      have hsl : SlC w2 (.slice (some ⟨bb,0,none⟩) 5 5) 2 tabs.length (encs tabc tabs) := slc_var hvb rfl
      refine .a2 rfl (.done (.seq (.sr (.m2 rfl (.t2 (t_lenC hsl Tryz.underlying227 rfl) (.m2 rfl (.done (Wp.block ?_))))))))
      refine Wp.loop (ι := Nat) (fun i => [(2,.pointer (some ⟨b2,0,none⟩)),(47,.slice (some ⟨bb,0,none⟩) 5 5),(48,.int .i64 tabs.length),(49,.int .i64 i)])
       (fun i w' => i ≤ tabs.length ∧ (∀ j (hq : j < tabs.length),j < i → (tabs[j]).1 ≠ h.kind) ∧ Ext w2 w') (fun i => tabs.length - i) 0 (by repeat (first | exact .nil | refine .cons rfl ?_)) ⟨Nat.zero_le _,fun j _ hj => absurd hj (Nat.not_lt_zero _),Ext.refl _⟩ ?_
      rintro i wl ⟨hi,hno,hy⟩
      replace hx := hx.ext hy
      replace hv2 := hv2.ext hy
      replace hsl := hsl.ext hy
      have ht5 : tabs.length = 5 := rfl
      by_cases hlt : i < tabs.length
      ·skip
       refine .sr ?_
       first | refine .tq (t_lssT rfl rfl (by omega)) rfl ?_ | refine .tq (t_lssF rfl rfl (by omega)) rfl ?_ | refine .tq (t_lss rfl rfl) rfl ?_
       refine .done (.seq (.condT rfl (Wp.skip (.seq (Wp.block (.sr ?_))))))
       refine Rg.ix hsl trivial rfl rfl Tryz.underlying227 ty226 (by omega) rfl ?_
       intro bt51 ot51 ht51
       rw [Int.toNat_natCast,encs_at tabc_len tabs i hlt] at ht51
       refine .t2 (t_loadA rfl ht51 (by exact ty226)) ?_
       refine Rg.wd trivial (w_new Tryz.zeroValue226 rfl) rfl ?_
       rintro _ wab7 ⟨b7,rfl,qb7,hxab7,hvab7⟩
       refine Rg.wn trivial (w_put (cs := (tabc tabs[i])) hvab7 rfl rfl rfl (ty226) (rfl) (rfl)) ?_
       rintro _ w41 ⟨hub7,hvb7⟩
       have hx41 := hxab7.upd hub7 (Nat.le_of_eq qb7.symm)
       clear hvab7 hub7 hxab7
       replace hx := hx.ext hx41
       replace hy := hy.ext hx41
       replace hv2 := hv2.ext hx41
       replace hsl := hsl.ext hx41
       replace ht51 := ht51.ext hx41
       clear qb7
       refine .done ?_
       by_cases he : (tabs[i]).1 = h.kind
       ·skip
        refine .sr ?_
        refine .t2 (t_indexAddrA Tryz.underlying226 ty3 rfl rfl (by omega)) ?_
        refine .t2 (t_load ty3 rfl (hvb7.g 0 rfl)) (.t2 (t_fieldAddr fa27_0 rfl) (.t2 (t_load ty3 rfl (hv2.g 0 rfl)) (.t2 (t_eqlT rfl rfl he) (.done (.condT rfl (.sr ?_))))))
        refine .t2 (t_indexAddrA Tryz.underlying226 ty3 rfl rfl (by omega)) ?_
        refine .t2 (t_load ty3 rfl (hvb7.g 1 rfl)) (.a2 rfl (.done (Wp.ret ?_)))
        exact ⟨[_],⟨rfl,trivial⟩,by rw [tabK_at h.kind i hlt hno he] <;> rfl,hx⟩
       ·skip
        refine .sr ?_
        refine .t2 (t_indexAddrA Tryz.underlying226 ty3 rfl rfl (by omega)) ?_
        refine .t2 (t_load ty3 rfl (hvb7.g 0 rfl)) (.t2 (t_fieldAddr fa27_0 rfl) (.t2 (t_load ty3 rfl (hv2.g 0 rfl)) (.t2 (t_eqlF rfl rfl he) (.done (.condF rfl (Wp.skip (Wp.region ?_)))))))
        first | refine .tq (t_addI rfl rfl (by omega)) rfl ?_ | refine .tq (t_add rfl rfl) rfl ?_
        refine .m2 rfl (.done ?_)
        refine ⟨i + 1,by repeat (first | exact .nil | refine .cons rfl ?_),⟨hlt,fun j hj hji => ?_,hy⟩,by omega⟩
        rcases Nat.lt_succ_iff_lt_or_eq.1 hji with c | c
        ·exact hno j hj c
        ·subst c; exact he
      ·skip
       refine .sr ?_
       first | refine .tq (t_lssT rfl rfl (by omega)) rfl ?_ | refine .tq (t_lssF rfl rfl (by omega)) rfl ?_ | refine .tq (t_lss rfl rfl) rfl ?_
       refine .done (.seq (.condF rfl (Wp.exit (.sr (.a2 rfl (.done (Wp.ret ?_)))))))
       exact ⟨[_],⟨rfl,trivial⟩,by rw [tabK_none h.kind fun j hj => hno j hj (by omega)] <;> rfl,hx⟩
structure CvV (F : Fs) (w : World) (b : Nat) (m : Int) (acc : List Sy) (dv : Value) : Prop where
 und : Und F w.heap.size
 var : Var w b [.int .i64 m,dv] 163
 row : w.ownsRow 0 59 6 dv acc.length (encs syc acc)
 nb : ¬ F b
 nd : ∀ z,dv.ownBlock = some z → ¬ F z
def Cv (F : Fs) (w : World) (b : Nat) (m : Int) (acc : List Sy) : Prop := ∃ dv,CvV F w b m acc dv
theorem CvV.ext {F : Fs} {w w' : World} {b : Nat} {m : Int} {acc : List Sy} {dv : Value} (h : CvV F w b m acc dv) (x : Ext w w') : CvV F w' b m acc dv :=
 ⟨fun z hz => Nat.lt_of_lt_of_le (h.und z hz) x.le,h.var.ext x,own_ext h.row x,h.nb,h.nd⟩
theorem Cv.ext {F : Fs} {w w' : World} {b : Nat} {m : Int} {acc : List Sy} (h : Cv F w b m acc) (x : Ext w w') : Cv F w' b m acc := ⟨_,h.choose_spec.ext x⟩
theorem Cv.und {F : Fs} {w : World} {b : Nat} {m : Int} {acc : List Sy} (h : Cv F w b m acc) : Und F w.heap.size := h.choose_spec.und
theorem Cv.sub {F G : Fs} {w : World} {b : Nat} {m : Int} {acc : List Sy} (h : Cv G w b m acc) (hs : ∀ z,F z → G z) : Cv F w b m acc := by
 obtain ⟨dv,h⟩ := h
 exact ⟨dv,fun z hz => h.und z (hs z hz),h.var,h.row,fun hb => h.nb (hs _ hb),fun z hz hf => h.nd z hz (hs _ hf)⟩
theorem Cv.add {F : Fs} {w w' : World} {b k : Nat} {m : Int} {acc : List Sy} (h : Cv F w b m acc) (x : Ext w w') (hk : w.heap.size ≤ k) (hk' : k < w'.heap.size) : Cv (fun z => F z ∨ z = k) w' b m acc := by
 obtain ⟨dv,h⟩ := h
 have hb := h.var.lt
 refine ⟨dv,fun z hz => ?_,h.var.ext x,own_ext h.row x,fun hz => ?_,fun z hz hf => ?_⟩
 ·rcases hz with hz | rfl
  ·exact Nat.lt_of_lt_of_le (h.und z hz) x.le
  ·exact hk'
 ·rcases hz with hz | rfl
  ·exact h.nb hz
  ·omega
 ·rcases hf with hf | rfl
  ·exact h.nd z hz hf
  ·have := own_lt h.row hz
   omega
theorem CvV.app {F : Fs} {w w' : World} {b : Nat} {m : Int} {acc : List Sy} {dv v' : Value} {d : Sy} (h : CvV F w b m acc dv) (hap : AppR w 59 6 acc.length 1 dv (encs syc acc ++ syc d) v' w') :
  ∃ gk capk spk,v' = .slice (some ⟨gk,0,none⟩) (acc.length + 1) capk ∧ acc.length + 1 ≤ capk ∧ capk ≤ maxLen ∧ spk.length = (capk - (acc.length + 1)) * 6 ∧ Var w' gk (encs syc (acc ++ [d]) ++ spk) 59 ∧ Var w' b [.int .i64 m,dv] 163 ∧ Bw F w w' ∧ ¬ F gk := by
 obtain ⟨gk,capk,spk,rfl,h1,h2,h3,h4,h5⟩ := hap
 rw [← encs_snoc] at h4
 have hfr : ¬ F gk := by
  rcases h5 with ⟨⟨c,e⟩,_⟩ | ⟨e,_⟩
  ·exact h.nd gk (by rw [e]; rfl)
  ·exact fun hf => by have := h.und gk hf; omega
 have hb := h.var.lt
 refine ⟨gk,capk,spk,rfl,h1,h2,h3,h4,?_,?_,hfr⟩
 ·rcases h5 with ⟨⟨c,e⟩,hu⟩ | ⟨_,hx⟩
  ·refine h.var.upd hu fun e2 => ?_
   subst e2
   exact own_notin h.row h.var (by decide) (by rw [e]; simp [Value.ownBlock])
  ·exact h.var.ext hx
 ·rcases h5 with ⟨⟨c,e⟩,hu⟩ | ⟨_,hx⟩
  ·exact Bw.upd hu hfr
  ·exact Bw.of hx h.und
theorem CvV.push {F : Fs} {w w' : World} {b gk capk : Nat} {m : Int} {acc : List Sy} {spk : List Value} (hF : Und F w.heap.size) (nb : ¬ F b) (hB : Bw F w w') (hv : Var w' b [.int .i64 m,.slice (some ⟨gk,0,none⟩) acc.length capk] 163) (h1 : acc.length ≤ capk) (h2 : capk ≤ maxLen) (h3 : spk.length = (capk - acc.length) * 6) (hk : Var w' gk (encs syc acc ++ spk) 59) (hfr : ¬ F gk) :
  Cv F w' b m acc :=
 ⟨_,fun z hz => Nat.lt_of_lt_of_le (hF z hz) hB.size,hv,whole_ownG (Nat.zero_le _) (encs_len syc_len _) h1 h2 h3 hk,nb,fun z hz => by cases hz; exact hfr⟩
theorem visit_ok : ∀ (n : Nat) (g : Mn),anc g.er ≤ n → ∀ (F : Fs) (w : World) (b : Nat) (m p : Int) (lp : Bool) (acc : List Sy),Cv F w b m acc → NOk F w g → acc.length + anc g.er ≤ 1000000 →
  Cl Tryz.prog 107 #[.pointer (some ⟨b,0,none⟩),.agg g.cells.toArray,.int .i64 p,.bool lp] w (fun u w' => Cv F w' b m (vis m g.er p lp acc) ∧ Bw F w w') := by
 intro n
 induction n with
 | zero =>
  intro g hn
  cases g
  simp [Mn.er,anc] at hn
 | succ n ih =>
  intro g hn F w b m p lp acc hC hg hl
  obtain ⟨h,cv,kids⟩ := g
  obtain ⟨hs,hone,hbk,hkk⟩ : SlC w cv 7 kids.length (encs Mn.cells kids) ∧ cv.oneCell' = true ∧ blkIn F cv ∧ ∀ g ∈ kids,NOk F w g := by cases hg with | mk a b c d => exact ⟨a,b,c,d⟩
  simp only [Mn.er,anc] at hn hl
  have hU := hC.und
  have hx := Ext.refl w
  obtain ⟨k,hk⟩ : ∃ k,symKind h lp = k := ⟨_,rfl⟩
  refine Cl.enter Tryz.func107 rfl Tryz.ntmps107 rfl rfl (.sr (Rg.wd trivial (w_boxed (cs := h.cells cv) rfl rfl) rfl ?_))
  rintro _ w1 ⟨b5,rfl,q5,hx1,hv5⟩
  have hC5 := hC.add hx1 (Nat.le_of_eq q5.symm) hv5.lt
  replace hx := hx.ext hx1
  refine .done ?_
  have hU5 := hC5.und
  refine Wp.seq (Wp.cut (fun L w' => Gx.Sub [(0,.pointer (some ⟨b,0,none⟩)),(5,.pointer (some ⟨b5,0,none⟩)),(2,.int .i64 (parOf h p lp acc)),(3,.bool lp)] L ∧ Cv (fun z => F z ∨ z = b5) w' b m (accOf m h p lp acc) ∧ Bw (fun z => F z ∨ z = b5) w1 w') ?_ ?_)
  ·skip
   refine .sr ?_
   refine .t2 (t_loadA rfl hv5.cells (by exact ty27)) ?_
   refine .m2 rfl (Rg.wd trivial (w_call Tryz.call167 rfl symKind_ok) rfl ?_)
   rintro _ w2 ⟨rfl,hx2⟩
   have hB := Bw.of hx2 hU5
   rw [hk]
   replace hv5 := hv5.ext hx2
   replace hC5 := hC5.ext hx2
   refine .a2 rfl (.done ?_)
   obtain ⟨bz,hbz⟩ : ∃ bz,decide (k ≠ 0) = bz := ⟨_,rfl⟩
   refine .sr (.m2 rfl (.t2 (t_neq rfl rfl) ?_))
   rw [hbz]
   refine .done ?_
   by_cases h0 : k = 0
   ·obtain rfl : bz = false := by rw [← hbz]; simpa using h0
    refine .condF rfl (Wp.skip ?_)
    have e1 : accOf m h p lp acc = acc := by unfold accOf; rw [if_pos (by rw [hk]; exact h0)]
    have e2 : parOf h p lp acc = p := by unfold parOf; rw [if_neg (by rw [hk]; exact fun hh => hh.1 h0)]
    rw [e1,e2]
    exact ⟨by repeat (first | exact .nil | refine .cons rfl ?_),hC5,hB⟩
   ·obtain rfl : bz = true := by rw [← hbz]; simpa using h0
    have e1 : accOf m h p lp acc = acc ++ [symOf m h p lp] := by unfold accOf; rw [if_neg (by rw [hk]; exact h0)]
    refine .condT rfl ?_
    refine Wp.seq (Wp.cut (fun L w' => Gx.Sub [(0,.pointer (some ⟨b,0,none⟩)),(5,.pointer (some ⟨b5,0,none⟩)),(2,.int .i64 p),(3,.bool lp),(8,.int .i64 k),(9,.bool (pubOf h))] L ∧ w2 = w') ?_ ?_)
    ·by_cases hpk : h.kind ≤ 9
     ·skip
      refine Wp.region (.t2 (t_fieldAddr fa27_0 rfl) (.t2 (t_load ty3 rfl (hv5.g 0 rfl)) ?_))
      refine .t2 (t_leqT rfl rfl (by omega)) ?_
      refine .m2 rfl ?_
      first | refine .gd (t_fieldAddr fa27_1 rfl) rfl ?_ | refine .so rfl rfl ?_
      refine .g2 (t_load ty3 rfl (hv5.g 1 rfl)) (.g2 (t_andI rfl rfl) (.g2 (t_neq rfl rfl) (.t2 (t_pickT rfl rfl) ?_)))
      rw [show decide (andI h.value 1 ≠ 0) = pubOf h from by unfold pubOf; rw [decide_eq_true hpk]; rfl]
      refine .a2 rfl (.done ?_)
      exact ⟨by repeat (first | exact .nil | refine .cons rfl ?_),rfl⟩
     ·skip
      refine Wp.region (.t2 (t_fieldAddr fa27_0 rfl) (.t2 (t_load ty3 rfl (hv5.g 0 rfl)) ?_))
      refine .t2 (t_leqF rfl rfl (by omega)) ?_
      refine .m2 rfl (.so rfl rfl (.so rfl rfl (.so rfl rfl (.so rfl rfl (.t2 (t_pickF rfl rfl) ?_)))))
      rw [show false = pubOf h from by unfold pubOf; rw [decide_eq_false hpk]; rfl]
      refine .a2 rfl (.done ?_)
      exact ⟨by repeat (first | exact .nil | refine .cons rfl ?_),rfl⟩
    ·rintro L' _ ⟨hs',rfl⟩
     refine Wp.sub hs' ?_
     obtain ⟨i59,hi59,hz59,hsi59,hby59⟩ := inf59
     obtain ⟨dv,D⟩ := hC5
     have hsy : syc (symOf m h p lp) = [.int .i64 k,.int .i64 m,.int .i64 (declSt h),.int .i64 p,.string h.text,.bool (pubOf h)] := by rw [← hk]; rfl
     refine Wp.seq (Wp.drawV (fun w' => Var w' b [.int .i64 m,dv] 163 ∧ Var w' b5 (h.cells cv) 27) [0,1,2,3,4,5,6,7,8,9,10,12,13,14,15,11,16,17,18,19,20,21] [0] mixed (by kernel_rfl) (by kernel_rfl) ?_)
     intro w3 hx3 hh3
     replace hv5 := hv5.ext hx3
     replace D := D.ext hx3
     replace hB := bwX hB hx3 hU5
     refine ⟨⟨D.var,hv5⟩,?_⟩
     refine Rv.tm trivial rfl (ts fun wz hkz => by exact t_move rfl) rfl ?_
     refine Rv.tm trivial rfl (ts fun wz hkz => by exact t_move rfl) rfl ?_
     refine Rv.tm trivial rfl (ts fun wz hkz => by exact t_nilCheck rfl) rfl ?_
     refine Rv.tm trivial rfl (ts fun wz hkz => by exact t_fieldAddr fa163_1 rfl) rfl ?_
     refine Rv.tm trivial rfl (ts fun wz hkz => by have y1 := hkz.1.cells; exact t_load ty53 rfl (Cells.get (i := 1) y1 rfl)) rfl ?_
     refine Rv.tm trivial rfl (ts fun wz hkz => by exact t_move rfl) rfl ?_
     refine Rv.tm trivial rfl (ts fun wz hkz => by exact t_move rfl) rfl ?_
     refine Rv.tm trivial rfl (ts fun wz hkz => by exact t_nilCheck rfl) rfl ?_
     refine Rv.tm trivial rfl (ts fun wz hkz => by exact t_fieldAddr fa163_0 rfl) rfl ?_
     refine Rv.tm trivial rfl (ts fun wz hkz => by have y1 := hkz.1.cells; exact t_load ty3 rfl (Cells.get (i := 0) y1 rfl)) rfl ?_
     refine Rv.tm trivial rfl (ts fun wz hkz => by have y5 := hkz.2.cells; exact t_loadA rfl y5 (by exact ty27)) rfl ?_
     refine Rv.tm trivial rfl (ts fun wz hkz => by exact t_move rfl) rfl ?_
     refine Rv.tm trivial rfl (ts fun wz hkz => by exact t_fieldAddr fa27_2 rfl) rfl ?_
     refine Rv.tm trivial rfl (ts fun wz hkz => by have y5 := hkz.2.cells; exact t_load ty9 rfl (Cells.get (i := 2) y5 rfl)) rfl ?_
     refine Rv.tm trivial rfl (ts fun wz hkz => by exact t_move rfl) rfl ?_
     refine Rv.wd trivial rfl (w_call Tryz.call168 rfl declSt_ok) rfl (fun _ _ hr => ⟨D.var.ext hr.2,hv5.ext hr.2⟩) ?_
     rintro _ w4 ⟨rfl,hx4⟩
     replace hB := bwX hB hx4 hU5
     replace hv5 := hv5.ext hx4
     replace D := D.ext hx4
     refine Rv.tm trivial rfl (ts fun wz hkz => by exact t_build (bd59_0_1_2_3_4_5 _ _ _ _ _ _) rfl) rfl ?_
     refine Rv.wd trivial rfl (w_buildSlice (bs53_1 _ _ _ _ _ _) rfl) rfl (fun _ _ hr => by obtain ⟨_,_,_,hr,_⟩ := hr; exact ⟨D.var.ext hr,hv5.ext hr⟩) ?_
     rintro _ w5 ⟨bb,rfl,qb,hx5,hvb⟩
     replace hB := bwX hB hx5 hU5
     replace hv5 := hv5.ext hx5
     replace D := D.ext hx5
     refine Rv.wd trivial rfl (w_appendO Tryz.underlying53 hi59 hz59 hsi59 hby59 rfl rfl rfl D.row (slc_var hvb rfl) (by simp [Value.oneCell']) (by decide) (by unfold maxLen; omega) (by omega)) rfl (fun v2 wP hap => by obtain ⟨_,_,_,_,_,_,_,_,h6,h7,_⟩ := D.app (d := symOf m h p lp) (v' := v2) (w' := wP) (by rw [hsy]; exact hap); exact ⟨h6,var_bw hv5 h7 (.inr rfl)⟩) ?_
     rintro v2 wP hap
     obtain ⟨gk,capk,spk,rfl,g1,g2,g3,hvk,hvP,hBP,hfr⟩ := D.app (d := symOf m h p lp) (v' := v2) (w' := wP) (by rw [hsy]; exact hap)
     have hne : gk ≠ b := Var.ne hvk hvP (by decide)
     have hBz := hB.trans hBP
     clear hB
     refine Rv.tm trivial rfl (ts fun wz hkz => by exact t_nilCheck rfl) rfl ?_
     refine Rv.tm trivial rfl (ts fun wz hkz => by exact t_fieldAddr fa163_1 rfl) rfl ?_
     refine Rv.wnB (fun _ => True) trivial rfl (w_putF hvP ty53 rfl rfl rfl rfl rfl) (by rfl) (fun _ _ _ => trivial) ?_
     rintro _ wS ⟨huS,hvS⟩
     simp only [List.set] at hvS
     have hBS := hBz.trans (Bw.upd huS D.nb)
     have hC6 : Cv (fun z => F z ∨ z = b5) wS b m (acc ++ [symOf m h p lp]) := CvV.push D.und D.nb (hBP.trans (Bw.upd huS D.nb)) (by simpa using hvS) (by simpa using g1) g2 (by simpa using g3) (hvk.upd huS hne) hfr
     clear hvS hvk
     refine Rv.done (.sr (.m2 rfl (Rg.wd trivial (w_call Tryz.call169 rfl isCont_ok) rfl ?_)))
     rintro _ _ ⟨rfl,rfl⟩
     refine .done ?_
     cases hc : isCont k with
     | true =>
      obtain ⟨dw,D2⟩ := hC6
      have e2 : parOf h p lp acc = acc.length := by unfold parOf; rw [if_pos ⟨by rw [hk]; exact h0,by rw [hk]; exact hc⟩]
      have hs2 := own_slc D2.row
      refine .condT rfl (Wp.region (.m2 rfl (.t2 (t_nilCheck rfl) (.t2 (t_fieldAddr fa163_1 rfl) (.t2 (t_load ty53 rfl (D2.var.g 1 rfl)) (.t2 (t_lenC hs2 Tryz.underlying53 rfl) ?_))))))
      refine .t2 (t_subI rfl rfl (by simp; omega)) ?_
      rw [show (((acc ++ [symOf m h p lp]).length : Nat) : Int) - 1 = acc.length from by simp]
      refine .a2 rfl (.done ?_)
      rw [e1,e2]
      exact ⟨by repeat (first | exact .nil | refine .cons rfl ?_),⟨dw,D2⟩,hBS⟩
     | false =>
      have e2 : parOf h p lp acc = p := by unfold parOf; rw [if_neg (by rw [hk,hc]; exact fun hh => absurd hh.2 (by decide))]
      refine .condF rfl (Wp.skip ?_)
      rw [e1,e2]
      exact ⟨by repeat (first | exact .nil | refine .cons rfl ?_),hC6,hBS⟩
  ·rintro L' wJ ⟨hsub,hC7,hB7⟩
   refine Wp.sub hsub ?_
   have hv7 := var_bw hv5 hB7 (.inr rfl)
   have hB8 : Bw F w wJ := (Bw.of hx hU).trans (hB7.sub fun z hz => .inl hz)
   have hC8 : Cv F wJ b m (accOf m h p lp acc) := hC7.sub fun z hz => .inl hz
   clear hC7 hC5 hv5
   refine Wp.seq (Wp.cut (fun L w' => Gx.Sub [(0,.pointer (some ⟨b,0,none⟩)),(5,.pointer (some ⟨b5,0,none⟩)),(2,.int .i64 (parOf h p lp acc)),(3,.bool lp),(10,.bool (locOf h lp))] L ∧ wJ = w') ?_ ?_)
   ·have hcase : (h.kind = 12 ∧ lp = true ∧ locOf h lp = true) ∨ (h.kind = 12 ∧ lp = false ∧ locOf h lp = false) ∨ (h.kind = 9 ∧ locOf h lp = true) ∨ (h.kind = 38 ∧ locOf h lp = true) ∨ (h.kind ≠ 12 ∧ h.kind ≠ 9 ∧ h.kind ≠ 38 ∧ locOf h lp = false) := by
     by_cases c1 : h.kind = 12
     ·cases lp
      ·exact .inr (.inl ⟨c1,rfl,by simp [locOf,c1]⟩)
      ·exact .inl ⟨c1,rfl,by simp [locOf,c1]⟩
     ·by_cases c2 : h.kind = 9
      ·exact .inr (.inr (.inl ⟨c2,by simp [locOf,c2]⟩))
      ·by_cases c3 : h.kind = 38
       ·exact .inr (.inr (.inr (.inl ⟨c3,by simp [locOf,c3]⟩)))
       ·exact .inr (.inr (.inr (.inr ⟨c1,c2,c3,by simp [locOf,c1,c2,c3]⟩)))
    (rcases hcase with ⟨c1,rfl,hloc⟩ | ⟨c1,rfl,hloc⟩ | ⟨c1,hloc⟩ | ⟨c1,hloc⟩ | ⟨c1,c2,c3,hloc⟩) <;> rw [hloc]
    ·skip
     refine Wp.region (.t2 (t_fieldAddr fa27_0 rfl) (.t2 (t_load ty3 rfl (hv7.g 0 rfl)) ?_))
     refine .t2 (t_eqlT rfl rfl (by omega)) ?_
     refine .m2 rfl ?_
     first | refine .gd (t_move rfl) rfl ?_ | refine .so rfl rfl ?_
     refine .t2 (t_pickT rfl rfl) (.m2 rfl (.so rfl rfl (.so rfl rfl (.so rfl rfl (.t2 (t_pickT rfl rfl) (.m2 rfl (.so rfl rfl (.so rfl rfl (.so rfl rfl (.t2 (t_pickT rfl rfl) (.a2 rfl (.done ?_))))))))))))
     exact ⟨by repeat (first | exact .nil | refine .cons rfl ?_),rfl⟩
    ·skip
     refine Wp.region (.t2 (t_fieldAddr fa27_0 rfl) (.t2 (t_load ty3 rfl (hv7.g 0 rfl)) ?_))
     refine .t2 (t_eqlT rfl rfl (by omega)) ?_
     refine .m2 rfl ?_
     first | refine .gd (t_move rfl) rfl ?_ | refine .so rfl rfl ?_
     refine .t2 (t_pickT rfl rfl) (.m2 rfl ?_)
     first | refine .gd (t_fieldAddr fa27_0 rfl) rfl ?_ | refine .so rfl rfl ?_
     refine .g2 (t_load ty3 rfl (hv7.g 0 rfl)) ?_
     refine .g2 (t_eqlF rfl rfl (by omega)) ?_
     refine .t2 (t_pickF rfl rfl) (.m2 rfl ?_)
     first | refine .gd (t_fieldAddr fa27_0 rfl) rfl ?_ | refine .so rfl rfl ?_
     refine .g2 (t_load ty3 rfl (hv7.g 0 rfl)) ?_
     refine .g2 (t_eqlF rfl rfl (by omega)) ?_
     refine .t2 (t_pickF rfl rfl) (.a2 rfl (.done ?_))
     exact ⟨by repeat (first | exact .nil | refine .cons rfl ?_),rfl⟩
    ·skip
     refine Wp.region (.t2 (t_fieldAddr fa27_0 rfl) (.t2 (t_load ty3 rfl (hv7.g 0 rfl)) ?_))
     refine .t2 (t_eqlF rfl rfl (by omega)) ?_
     refine .m2 rfl (.so rfl rfl (.t2 (t_pickF rfl rfl) (.m2 rfl ?_)))
     first | refine .gd (t_fieldAddr fa27_0 rfl) rfl ?_ | refine .so rfl rfl ?_
     refine .g2 (t_load ty3 rfl (hv7.g 0 rfl)) ?_
     refine .g2 (t_eqlT rfl rfl (by omega)) ?_
     refine .t2 (t_pickF rfl rfl) (.m2 rfl (.so rfl rfl (.so rfl rfl (.so rfl rfl (.t2 (t_pickT rfl rfl) (.a2 rfl (.done ?_)))))))
     exact ⟨by repeat (first | exact .nil | refine .cons rfl ?_),rfl⟩
    ·skip
     refine Wp.region (.t2 (t_fieldAddr fa27_0 rfl) (.t2 (t_load ty3 rfl (hv7.g 0 rfl)) ?_))
     refine .t2 (t_eqlF rfl rfl (by omega)) ?_
     refine .m2 rfl (.so rfl rfl (.t2 (t_pickF rfl rfl) (.m2 rfl ?_)))
     first | refine .gd (t_fieldAddr fa27_0 rfl) rfl ?_ | refine .so rfl rfl ?_
     refine .g2 (t_load ty3 rfl (hv7.g 0 rfl)) ?_
     refine .g2 (t_eqlF rfl rfl (by omega)) ?_
     refine .t2 (t_pickF rfl rfl) (.m2 rfl ?_)
     first | refine .gd (t_fieldAddr fa27_0 rfl) rfl ?_ | refine .so rfl rfl ?_
     refine .g2 (t_load ty3 rfl (hv7.g 0 rfl)) ?_
     refine .g2 (t_eqlT rfl rfl (by omega)) ?_
     refine .t2 (t_pickF rfl rfl) (.a2 rfl (.done ?_))
     exact ⟨by repeat (first | exact .nil | refine .cons rfl ?_),rfl⟩
    ·skip
     refine Wp.region (.t2 (t_fieldAddr fa27_0 rfl) (.t2 (t_load ty3 rfl (hv7.g 0 rfl)) ?_))
     refine .t2 (t_eqlF rfl rfl (by omega)) ?_
     refine .m2 rfl (.so rfl rfl (.t2 (t_pickF rfl rfl) (.m2 rfl ?_)))
     first | refine .gd (t_fieldAddr fa27_0 rfl) rfl ?_ | refine .so rfl rfl ?_
     refine .g2 (t_load ty3 rfl (hv7.g 0 rfl)) ?_
     refine .g2 (t_eqlF rfl rfl (by omega)) ?_
     refine .t2 (t_pickF rfl rfl) (.m2 rfl ?_)
     first | refine .gd (t_fieldAddr fa27_0 rfl) rfl ?_ | refine .so rfl rfl ?_
     refine .g2 (t_load ty3 rfl (hv7.g 0 rfl)) ?_
     refine .g2 (t_eqlF rfl rfl (by omega)) ?_
     refine .t2 (t_pickF rfl rfl) (.a2 rfl (.done ?_))
     exact ⟨by repeat (first | exact .nil | refine .cons rfl ?_),rfl⟩
   ·rintro L' _ ⟨hs',rfl⟩
    refine Wp.sub hs' ?_
    have hs9 : SlC wJ cv 7 kids.length (encs Mn.cells kids) := slC_bw hs hB8 hbk
    refine .sr (.t2 (t_fieldAddr fa27_6 rfl) (.t2 (t_load ty25 rfl (hv7.g 6 rfl)) (.t2 (t_lenC hs9 Tryz.underlying25 rfl) (.m2 rfl (.done (Wp.block ?_))))))
    obtain ⟨p2,hp2⟩ : ∃ q,parOf h p lp acc = q := ⟨_,rfl⟩
    obtain ⟨l2,hl2⟩ : ∃ q,locOf h lp = q := ⟨_,rfl⟩
    obtain ⟨acc2,hacc2⟩ : ∃ q,accOf m h p lp acc = q := ⟨_,rfl⟩
    have hlen2 : acc2.length ≤ acc.length + 1 := by rw [← hacc2]; exact (accOf_le _ _ _ _ _).2
    have hres : vis m (.mk h (mnL kids)) p lp acc = visL m (mnL kids) p2 l2 acc2 := by rw [vis,hp2,hl2,hacc2]
    rw [hp2,hl2]
    rw [hacc2] at hC8
    have hkl := ancL_len (mnL kids)
    rw [mnL_len] at hkl
    refine Wp.loop (ι := Nat) (fun i => [(0,.pointer (some ⟨b,0,none⟩)),(2,.int .i64 p2),(10,.bool l2),(73,cv),(74,.int .i64 kids.length),(75,.int .i64 i)])
     (fun i w' => i ≤ kids.length ∧ Cv F w' b m (visL m ((mnL kids).take i) p2 l2 acc2) ∧ Bw F w w') (fun i => kids.length - i) 0 (by repeat (first | exact .nil | refine .cons rfl ?_)) ⟨Nat.zero_le _,hC8,hB8⟩ ?_
    rintro i wl ⟨hi,hCi,hBi⟩
    have hsi := slC_bw hs hBi hbk
    by_cases hlt : i < kids.length
    ·have hge : (mnL kids)[i]'(by rw [mnL_len]; exact hlt) = kids[i].er := mnL_at kids i hlt
     have hcm : anc kids[i].er ≤ ancL (mnL kids) := ancL_mem (by rw [← hge]; exact List.getElem_mem _)
     have hgi : NOk F wl kids[i] := NOk.bw (hkk _ (List.getElem_mem hlt)) hBi fun z hz => hz
     have hog := hgi.oneL
     have hxx := Ext.refl wl
     have hvl := visL_len m ((mnL kids).take (i + 1)) p2 l2 acc2
     have hst := visL_take m (mnL kids) p2 l2 acc2 i (by rw [mnL_len]; exact hlt)
     rw [hge] at hst
     have hv0 := visL_len m ((mnL kids).take i) p2 l2 acc2
     have hsum : ancL ((mnL kids).take i) + anc kids[i].er ≤ ancL (mnL kids) := by
      have e : mnL kids = (mnL kids).take i ++ (mnL kids).drop i := (List.take_append_drop _ _).symm
      rw [e,ancL_app,List.take_append_of_le_length (by simp; rw [mnL_len]; omega),List.take_take,Nat.min_self]
      rw [List.drop_eq_getElem_cons (by rw [mnL_len]; exact hlt),hge]
      simp only [ancL]
      omega
     refine .sr ?_
     first | refine .tq (t_lssT rfl rfl (by omega)) rfl ?_ | refine .tq (t_lssF rfl rfl (by omega)) rfl ?_ | refine .tq (t_lss rfl rfl) rfl ?_
     refine .done (.seq (.condT rfl (Wp.skip (.seq (Wp.block (.sr ?_))))))
     refine Rg.ix hsi trivial rfl rfl Tryz.underlying25 ty27 (by omega) rfl ?_
     intro bt77 ot77 ht77
     rw [Int.toNat_natCast,encs_at Mn.len kids i hlt] at ht77
     refine .t2 (t_loadA rfl ht77 (by rw [Mn.len]; exact ty27)) ?_
     refine Rg.wd trivial (w_new Tryz.zeroValue27 rfl) rfl ?_
     rintro _ wab12 ⟨b12,rfl,qb12,hxab12,hvab12⟩
     refine Rg.wn trivial (w_put (cs := kids[i].cells) hvab12 rfl rfl rfl (by rw [Mn.len]; exact ty27) (by rw [Mn.len]; rfl) (hog)) ?_
     rintro _ w81 ⟨hub12,hvb12⟩
     have hx81 := hxab12.upd hub12 (Nat.le_of_eq qb12.symm)
     clear hvab12 hub12 hxab12
     replace hxx := hxx.ext hx81
     replace hsi := hsi.ext hx81
     replace ht77 := ht77.ext hx81
     clear qb12
     refine .done (Wp.region (.m2 rfl ?_))
     refine .t2 (t_loadA rfl hvb12.cells (by rw [Mn.len]; exact ty27)) ?_
     refine .m2 rfl (.m2 rfl ?_)
     refine Rg.wd trivial (w_call Tryz.call107 rfl (ih kids[i] (by omega) F _ b m p2 l2 _ (hCi.ext hxx) (hgi.bw (Bw.of hxx hCi.und) fun z hz => hz) (by omega))) rfl ?_
     rintro _ wr ⟨hCr,hBr⟩
     have hBn := (bwX hBi hxx hU).trans hBr
     refine .done (Wp.region ?_)
     first | refine .tq (t_addI rfl rfl (by omega)) rfl ?_ | refine .tq (t_add rfl rfl) rfl ?_
     refine .m2 rfl (.done ?_)
     exact ⟨i + 1,by repeat (first | exact .nil | refine .cons rfl ?_),⟨hlt,by rw [hst]; exact hCr,hBn⟩,by omega⟩
    ·obtain rfl : i = kids.length := by omega
     refine .sr ?_
     first | refine .tq (t_lssT rfl rfl (by omega)) rfl ?_ | refine .tq (t_lssF rfl rfl (by omega)) rfl ?_ | refine .tq (t_lss rfl rfl) rfl ?_
     refine .done (.seq (.condF rfl (Wp.exit ?_)))
     rw [← mnL_len kids,List.take_length] at hCi
     exact ⟨[],trivial,by rw [show (Mn.mk h cv kids).er = .mk h (mnL kids) from rfl,hres]; exact hCi,hBi⟩
end Go.Proofs.YtiogccmfmjhipaaGreatDoor.Sym
namespace Go.Proofs.YtiogccmfmjhipaaGreatDoor.Sym
set_option maxRecDepth 20000
open Go.Gx Go.RowKit Go.Lib
open Lexi (Asc tok)
open Par Ast
abbrev Md := ByteArray × ByteArray
def mdc (m : Md) : List Value := [.string m.1,.string m.2]
theorem mdc_len (m : Md) : (mdc m).length = 2 := rfl
def idxO : Option Nat → Int
 | none => -1
 | some k => k
theorem idxO_ge (o : Option Nat) : (decide (idxO o ≥ 0)) = o.isSome := by
 cases o
 ·rfl
 ·simp [idxO]
theorem idxM_ok {w : World} {v : Value} {a : List Md} {f : FuncId} {fst cap : List Value} {p : Md → Bool} (hs0 : SlC w v 2 a.length (encs mdc a)) (hcf : ∀ (args : Array Value) (w : World),(callFunc f args).run Tryz.prog w = .ok (.enter f args) w)
  (hp : ∀ w1,Ext w w1 → ∀ m ∈ a,Cl Tryz.prog f (fst ++ ([.agg (mdc m).toArray] : List Value) ++ cap).toArray w1 (fun u w2 => u = .bool (p m) ∧ Ext w1 w2)) (hlen : a.length < 4611686018427387904) :
  Cl Tryz.prog 226 #[v,.func (.func f) fst.toArray cap.toArray] w (fun u w' => u = .int .i64 (idxO (a.findIdx? p)) ∧ Ext w w') := by
 have hx := Ext.refl w
 refine Cl.enter Tryz.func226 rfl Tryz.ntmps226 rfl rfl (.sr (.a2 rfl (.done (.seq (.sr (.m2 rfl (.t2 (t_lenC hs0 Tryz.underlying49 rfl) (.m2 rfl (.done (Wp.block ?_))))))))))
 refine Wp.loop (ι := Nat) (fun k => [(0,v),(1,.func (.func f) fst.toArray cap.toArray),(7,.int .i64 a.length),(8,.int .i64 k)])
  (fun k w' => k ≤ a.length ∧ (∀ j (h : j < a.length),j < k → p a[j] = false) ∧ Ext w w') (fun k => a.length - k) 0 (by repeat (first | exact .nil | refine .cons rfl ?_)) ⟨Nat.zero_le _,fun j _ h => absurd h (Nat.not_lt_zero _),hx⟩ ?_
 clear hx
 rintro k w3 ⟨hk,hno,hx⟩
 by_cases hlt : k < a.length
 ·cases hpk : p a[k] with
  | true =>
   refine .sr ?_
   first | refine .tq (t_lssT rfl rfl (by omega)) rfl ?_ | refine .tq (t_lssF rfl rfl (by omega)) rfl ?_ | refine .tq (t_lss rfl rfl) rfl ?_
   refine .done (.seq (.condT rfl (Wp.skip (.seq (Wp.block (.sr (.m2 rfl (.a2 rfl (.done (.sr (.m2 rfl (.m2 rfl ?_))))))))))))
   refine .m2 rfl ?_
   refine Rg.ix hs0 trivial rfl rfl Tryz.underlying49 ty52 (by omega) rfl ?_
   intro bt14 ot14 ht14
   replace ht14 := ht14.ext hx
   rw [Int.toNat_natCast,encs_at mdc_len a k hlt] at ht14
   refine .t2 (t_loadA rfl ht14 (by exact ty52)) ?_
   refine Rg.wd trivial (w_callG rfl hcf rfl (vs := [.agg (mdc a[k]).toArray]) (hp _ hx a[k] (List.getElem_mem hlt))) rfl ?_
   rintro _ w1 ⟨rfl,hx1⟩
   replace hx := hx.ext hx1
   replace ht14 := ht14.ext hx1
   rw [hpk]
   refine .done (.condT rfl (.sr (.m2 rfl (.a2 rfl (.done (Wp.ret ?_))))))
   exact ⟨[_],⟨rfl,trivial⟩,by rw [List.findIdx?_eq_some_iff_getElem.2 ⟨hlt,hpk,fun j hj => by rw [hno j (by omega) hj]; decide⟩]; rfl,hx⟩
  | false =>
   refine .sr ?_
   first | refine .tq (t_lssT rfl rfl (by omega)) rfl ?_ | refine .tq (t_lssF rfl rfl (by omega)) rfl ?_ | refine .tq (t_lss rfl rfl) rfl ?_
   refine .done (.seq (.condT rfl (Wp.skip (.seq (Wp.block (.sr (.m2 rfl (.a2 rfl (.done (.sr (.m2 rfl (.m2 rfl ?_))))))))))))
   refine .m2 rfl ?_
   refine Rg.ix hs0 trivial rfl rfl Tryz.underlying49 ty52 (by omega) rfl ?_
   intro bt14 ot14 ht14
   replace ht14 := ht14.ext hx
   rw [Int.toNat_natCast,encs_at mdc_len a k hlt] at ht14
   refine .t2 (t_loadA rfl ht14 (by exact ty52)) ?_
   refine Rg.wd trivial (w_callG rfl hcf rfl (vs := [.agg (mdc a[k]).toArray]) (hp _ hx a[k] (List.getElem_mem hlt))) rfl ?_
   rintro _ w1 ⟨rfl,hx1⟩
   replace hx := hx.ext hx1
   replace ht14 := ht14.ext hx1
   rw [hpk]
   refine .done (.condF rfl (Wp.skip (Wp.region ?_)))
   first | refine .tq (t_addI rfl rfl (by omega)) rfl ?_ | refine .tq (t_add rfl rfl) rfl ?_
   refine .m2 rfl (.done ?_)
   exact ⟨k + 1,by repeat (first | exact .nil | refine .cons rfl ?_),⟨hlt,fun j h hj => by rcases Nat.lt_succ_iff_lt_or_eq.1 hj with c | c; exact hno j h c; subst c; exact hpk,hx⟩,by omega⟩
 ·skip
  refine .sr ?_
  first | refine .tq (t_lssT rfl rfl (by omega)) rfl ?_ | refine .tq (t_lssF rfl rfl (by omega)) rfl ?_ | refine .tq (t_lss rfl rfl) rfl ?_
  refine .done (.seq (.condF rfl (Wp.exit (.sr (.a2 rfl (.done (Wp.ret ?_)))))))
  exact ⟨[_],⟨rfl,trivial⟩,by rw [List.findIdx?_eq_none_iff.2 fun x hx => by obtain ⟨j,hj,rfl⟩ := List.getElem_of_mem hx; exact hno j hj (by omega)]; rfl,hx⟩
theorem idxS_ok {w : World} {v : Value} {a : List Sy} {f : FuncId} {fst cap : List Value} {p : Sy → Bool} (hs0 : SlC w v 6 a.length (encs syc a)) (hcf : ∀ (args : Array Value) (w : World),(callFunc f args).run Tryz.prog w = .ok (.enter f args) w)
  (hp : ∀ w1,Ext w w1 → ∀ m ∈ a,Cl Tryz.prog f (fst ++ ([.agg (syc m).toArray] : List Value) ++ cap).toArray w1 (fun u w2 => u = .bool (p m) ∧ Ext w1 w2)) (hlen : a.length < 4611686018427387904) :
  Cl Tryz.prog 59 #[v,.func (.func f) fst.toArray cap.toArray] w (fun u w' => u = .int .i64 (idxO (a.findIdx? p)) ∧ Ext w w') := by
 have hx := Ext.refl w
 refine Cl.enter Tryz.func59 rfl Tryz.ntmps59 rfl rfl (.sr (.a2 rfl (.done (.seq (.sr (.m2 rfl (.t2 (t_lenC hs0 Tryz.underlying53 rfl) (.m2 rfl (.done (Wp.block ?_))))))))))
 refine Wp.loop (ι := Nat) (fun k => [(0,v),(1,.func (.func f) fst.toArray cap.toArray),(7,.int .i64 a.length),(8,.int .i64 k)])
  (fun k w' => k ≤ a.length ∧ (∀ j (h : j < a.length),j < k → p a[j] = false) ∧ Ext w w') (fun k => a.length - k) 0 (by repeat (first | exact .nil | refine .cons rfl ?_)) ⟨Nat.zero_le _,fun j _ h => absurd h (Nat.not_lt_zero _),hx⟩ ?_
 clear hx
 rintro k w3 ⟨hk,hno,hx⟩
 by_cases hlt : k < a.length
 ·cases hpk : p a[k] with
  | true =>
   refine .sr ?_
   first | refine .tq (t_lssT rfl rfl (by omega)) rfl ?_ | refine .tq (t_lssF rfl rfl (by omega)) rfl ?_ | refine .tq (t_lss rfl rfl) rfl ?_
   refine .done (.seq (.condT rfl (Wp.skip (.seq (Wp.block (.sr (.m2 rfl (.a2 rfl (.done (.sr (.m2 rfl (.m2 rfl ?_))))))))))))
   refine .m2 rfl ?_
   refine Rg.ix hs0 trivial rfl rfl Tryz.underlying53 ty59 (by omega) rfl ?_
   intro bt14 ot14 ht14
   replace ht14 := ht14.ext hx
   rw [Int.toNat_natCast,encs_at syc_len a k hlt] at ht14
   refine .t2 (t_loadA rfl ht14 (by exact ty59)) ?_
   refine Rg.wd trivial (w_callG rfl hcf rfl (vs := [.agg (syc a[k]).toArray]) (hp _ hx a[k] (List.getElem_mem hlt))) rfl ?_
   rintro _ w1 ⟨rfl,hx1⟩
   replace hx := hx.ext hx1
   replace ht14 := ht14.ext hx1
   rw [hpk]
   refine .done (.condT rfl (.sr (.m2 rfl (.a2 rfl (.done (Wp.ret ?_))))))
   exact ⟨[_],⟨rfl,trivial⟩,by rw [List.findIdx?_eq_some_iff_getElem.2 ⟨hlt,hpk,fun j hj => by rw [hno j (by omega) hj]; decide⟩]; rfl,hx⟩
  | false =>
   refine .sr ?_
   first | refine .tq (t_lssT rfl rfl (by omega)) rfl ?_ | refine .tq (t_lssF rfl rfl (by omega)) rfl ?_ | refine .tq (t_lss rfl rfl) rfl ?_
   refine .done (.seq (.condT rfl (Wp.skip (.seq (Wp.block (.sr (.m2 rfl (.a2 rfl (.done (.sr (.m2 rfl (.m2 rfl ?_))))))))))))
   refine .m2 rfl ?_
   refine Rg.ix hs0 trivial rfl rfl Tryz.underlying53 ty59 (by omega) rfl ?_
   intro bt14 ot14 ht14
   replace ht14 := ht14.ext hx
   rw [Int.toNat_natCast,encs_at syc_len a k hlt] at ht14
   refine .t2 (t_loadA rfl ht14 (by exact ty59)) ?_
   refine Rg.wd trivial (w_callG rfl hcf rfl (vs := [.agg (syc a[k]).toArray]) (hp _ hx a[k] (List.getElem_mem hlt))) rfl ?_
   rintro _ w1 ⟨rfl,hx1⟩
   replace hx := hx.ext hx1
   replace ht14 := ht14.ext hx1
   rw [hpk]
   refine .done (.condF rfl (Wp.skip (Wp.region ?_)))
   first | refine .tq (t_addI rfl rfl (by omega)) rfl ?_ | refine .tq (t_add rfl rfl) rfl ?_
   refine .m2 rfl (.done ?_)
   exact ⟨k + 1,by repeat (first | exact .nil | refine .cons rfl ?_),⟨hlt,fun j h hj => by rcases Nat.lt_succ_iff_lt_or_eq.1 hj with c | c; exact hno j h c; subst c; exact hpk,hx⟩,by omega⟩
 ·skip
  refine .sr ?_
  first | refine .tq (t_lssT rfl rfl (by omega)) rfl ?_ | refine .tq (t_lssF rfl rfl (by omega)) rfl ?_ | refine .tq (t_lss rfl rfl) rfl ?_
  refine .done (.seq (.condF rfl (Wp.exit (.sr (.a2 rfl (.done (Wp.ret ?_)))))))
  exact ⟨[_],⟨rfl,trivial⟩,by rw [List.findIdx?_eq_none_iff.2 fun x hx => by obtain ⟨j,hj,rfl⟩ := List.getElem_of_mem hx; exact hno j hj (by omega)]; rfl,hx⟩
theorem hasM_ok {w : World} {v : Value} {a : List Md} {f : FuncId} {fst cap : List Value} {p : Md → Bool} (hs0 : SlC w v 2 a.length (encs mdc a)) (hcf : ∀ (args : Array Value) (w : World),(callFunc f args).run Tryz.prog w = .ok (.enter f args) w)
  (hp : ∀ w1,Ext w w1 → ∀ m ∈ a,Cl Tryz.prog f (fst ++ ([.agg (mdc m).toArray] : List Value) ++ cap).toArray w1 (fun u w2 => u = .bool (p m) ∧ Ext w1 w2)) (hlen : a.length < 4611686018427387904) :
  Cl Tryz.prog 162 #[v,.func (.func f) fst.toArray cap.toArray] w (fun u w' => u = .bool (a.any p) ∧ Ext w w') := by
 have hx := Ext.refl w
 refine Cl.enter Tryz.func162 rfl Tryz.ntmps162 rfl rfl (.sr (.a2 rfl (.done (.sr (.m2 rfl (.m2 rfl (Rg.wd trivial (w_call Tryz.call226 rfl (idxM_ok hs0 hcf hp hlen)) rfl ?_)))))))
 rintro _ w1 ⟨rfl,hx1⟩
 replace hx := hx.ext hx1
 refine .t2 (t_geq rfl rfl) ?_
 rw [idxO_ge,List.findIdx?_isSome]
 refine .a2 rfl (.done (Wp.ret ?_))
 exact ⟨[_],⟨rfl,trivial⟩,rfl,hx⟩
def isId (s : ByteArray) : Bool := decide (0 < s.size) && decide (s.size ≤ 30) && decide ((tok s).1 = (s.size : Int)) && decide ((tok s).2 = (103 : Int))
theorem isId_ok {w : World} {s : ByteArray} (hA : Asc w) : Cl Tryz.prog 165 #[.string s] w (fun u w' => u = .bool (isId s) ∧ Ext w w') := by
 have hx := Ext.refl w
 unfold isId
 by_cases h0 : 0 < s.size
 ·by_cases h1 : s.size ≤ 30
  ·by_cases h2 : ((tok s).1 : Int) = s.size
   ·skip
    refine Cl.enter Tryz.func165 rfl Tryz.ntmps165 rfl rfl (.sr (.a2 rfl (.done (.seq (.sr (.m2 rfl (.t2 (t_len Tryz.underlying9 rfl) ?_)))))))
    refine .t2 (t_eqlF rfl rfl (by omega)) ?_
    refine .m2 rfl ?_
    first | refine .gd (t_move rfl) rfl ?_ | refine .so rfl rfl ?_
    refine .g2 (t_len Tryz.underlying9 rfl) ?_
    refine .g2 (t_gtrF rfl rfl (by omega)) ?_
    refine .t2 (t_pickF rfl rfl) (.done (.condF rfl (Wp.skip (.sr (.m2 rfl ?_)))))
    refine Rg.wd trivial (w_call Tryz.call51 rfl (Lexi.first_ok (by omega) h0 (hA.ext hx))) rfl ?_
    rintro _ w1 ⟨rfl,hx1⟩
    replace hx := hx.ext hx1
    refine .m2 rfl (.t2 (t_extract rfl rfl) (.t2 (t_extract rfl rfl) (.a2 rfl (.a2 rfl (.done (.sr (.m2 rfl (.m2 rfl (.t2 (t_len Tryz.underlying9 rfl) (.t2 (t_eqlT rfl rfl h2) (.m2 rfl ?_)))))))))))
    first | refine .gd (t_move rfl) rfl ?_ | refine .so rfl rfl ?_
    refine .g2 (t_eql rfl rfl) (.t2 (t_pickT rfl rfl) (.a2 rfl (.done (Wp.ret ?_))))
    exact ⟨[_],⟨rfl,trivial⟩,by simp [h0,h1,h2]; rfl,hx⟩
   ·skip
    refine Cl.enter Tryz.func165 rfl Tryz.ntmps165 rfl rfl (.sr (.a2 rfl (.done (.seq (.sr (.m2 rfl (.t2 (t_len Tryz.underlying9 rfl) ?_)))))))
    refine .t2 (t_eqlF rfl rfl (by omega)) ?_
    refine .m2 rfl ?_
    first | refine .gd (t_move rfl) rfl ?_ | refine .so rfl rfl ?_
    refine .g2 (t_len Tryz.underlying9 rfl) ?_
    refine .g2 (t_gtrF rfl rfl (by omega)) ?_
    refine .t2 (t_pickF rfl rfl) (.done (.condF rfl (Wp.skip (.sr (.m2 rfl ?_)))))
    refine Rg.wd trivial (w_call Tryz.call51 rfl (Lexi.first_ok (by omega) h0 (hA.ext hx))) rfl ?_
    rintro _ w1 ⟨rfl,hx1⟩
    replace hx := hx.ext hx1
    refine .m2 rfl (.t2 (t_extract rfl rfl) (.t2 (t_extract rfl rfl) (.a2 rfl (.a2 rfl (.done (.sr (.m2 rfl (.m2 rfl (.t2 (t_len Tryz.underlying9 rfl) (.t2 (t_eqlF rfl rfl h2) (.m2 rfl (.so rfl rfl ?_))))))))))))
    refine .so rfl rfl (.t2 (t_pickF rfl rfl) (.a2 rfl (.done (Wp.ret ?_))))
    exact ⟨[_],⟨rfl,trivial⟩,by simp [h2]; rfl,hx⟩
  ·skip
   refine Cl.enter Tryz.func165 rfl Tryz.ntmps165 rfl rfl (.sr (.a2 rfl (.done (.seq (.sr (.m2 rfl (.t2 (t_len Tryz.underlying9 rfl) ?_)))))))
   refine .t2 (t_eqlF rfl rfl (by omega)) ?_
   refine .m2 rfl ?_
   first | refine .gd (t_move rfl) rfl ?_ | refine .so rfl rfl ?_
   refine .g2 (t_len Tryz.underlying9 rfl) ?_
   refine .g2 (t_gtrT rfl rfl (by omega)) ?_
   refine .t2 (t_pickF rfl rfl) (.done (.condT rfl (.sr (.a2 rfl (.done (Wp.ret ?_))))))
   exact ⟨[_],⟨rfl,trivial⟩,by simp [h1]; rfl,hx⟩
 ·skip
  refine Cl.enter Tryz.func165 rfl Tryz.ntmps165 rfl rfl (.sr (.a2 rfl (.done (.seq (.sr (.m2 rfl (.t2 (t_len Tryz.underlying9 rfl) ?_)))))))
  refine .t2 (t_eqlT rfl rfl (by omega)) ?_
  refine .m2 rfl (.so rfl rfl (.so rfl rfl (.so rfl rfl (.t2 (t_pickT rfl rfl) (.done (.condT rfl (.sr (.a2 rfl (.done (Wp.ret ?_))))))))))
  exact ⟨[_],⟨rfl,trivial⟩,by simp [h0]; rfl,hx⟩
theorem clo163_ok {w : World} {m : Md} : Cl Tryz.prog 163 #[.agg (mdc m).toArray] w (fun u w' => u = .bool (decide ((2000 : Int) < m.2.size)) ∧ Ext w w') := by
 have hx := Ext.refl w
 refine Cl.enter Tryz.func163 rfl Tryz.ntmps163 rfl rfl (.sr (Rg.wd trivial (w_boxed (cs := mdc m) rfl rfl) rfl ?_))
 rintro _ w1 ⟨b1,rfl,q1,hx1,hv1⟩
 replace hx := hx.ext hx1
 refine .a2 rfl (.done (.sr (.t2 (t_fieldAddr fa52_1 rfl) (.t2 (t_load ty9 rfl (hv1.g 1 rfl)) (.t2 (t_len Tryz.underlying9 rfl) (.t2 (t_gtr rfl rfl) (.a2 rfl (.done (Wp.ret ?_)))))))))
 exact ⟨[_],⟨rfl,trivial⟩,rfl,hx⟩
theorem clo164_ok {w : World} {m : Md} (hA : Asc w) : Cl Tryz.prog 164 #[.agg (mdc m).toArray] w (fun u w' => u = .bool (!isId m.1) ∧ Ext w w') := by
 have hx := Ext.refl w
 refine Cl.enter Tryz.func164 rfl Tryz.ntmps164 rfl rfl (.sr (Rg.wd trivial (w_boxed (cs := mdc m) rfl rfl) rfl ?_))
 rintro _ w1 ⟨b1,rfl,q1,hx1,hv1⟩
 replace hx := hx.ext hx1
 refine .a2 rfl (.done (.sr (.t2 (t_fieldAddr fa52_0 rfl) (.t2 (t_load ty9 rfl (hv1.g 0 rfl)) (Rg.wd trivial (w_call Tryz.call165 rfl (isId_ok (hA.ext hx))) rfl ?_)))))
 rintro _ w2 ⟨rfl,hx2⟩
 replace hx := hx.ext hx2
 replace hv1 := hv1.ext hx2
 refine .t2 (t_notB rfl) (.a2 rfl (.done (Wp.ret ?_)))
 exact ⟨[_],⟨rfl,trivial⟩,rfl,hx⟩
def idxN (ms : List Md) (nm : ByteArray) : Option Nat := ms.findIdx? fun m => decide (m.1 = nm)
theorem clo227_ok {w : World} {m : Md} {nm : ByteArray} {b : Nat} (hv : Var w b [.string nm] 9) : Cl Tryz.prog 227 #[.agg (mdc m).toArray,.pointer (some ⟨b,0,none⟩)] w (fun u w' => u = .bool (decide (m.1 = nm)) ∧ Ext w w') := by
 have hx := Ext.refl w
 refine Cl.enter Tryz.func227 rfl Tryz.ntmps227 rfl rfl (.sr (Rg.wd trivial (w_boxed (cs := mdc m) rfl rfl) rfl ?_))
 rintro _ w1 ⟨b1,rfl,q1,hx1,hv1⟩
 replace hx := hx.ext hx1
 replace hv := hv.ext hx1
 refine .a2 rfl (.done (.sr (.t2 (t_fieldAddr fa52_0 rfl) (.t2 (t_load ty9 rfl (hv1.g 0 rfl)) (.t2 (t_load ty9 rfl (hv.g 0 rfl)) (.t2 (t_seql rfl rfl) (.a2 rfl (.done (Wp.ret ?_)))))))))
 exact ⟨[_],⟨rfl,trivial⟩,rfl,hx⟩
theorem indexOf_ok {w : World} {v : Value} {a : List Md} {nm : ByteArray} (hs0 : SlC w v 2 a.length (encs mdc a)) (hlen : a.length < 4611686018427387904) :
  Cl Tryz.prog 166 #[v,.string nm] w (fun u w' => u = .int .i64 (idxO (idxN a nm)) ∧ Ext w w') := by
 have hx := Ext.refl w
 refine Cl.enter Tryz.func166 rfl Tryz.ntmps166 rfl rfl (.sr (Rg.wd trivial (w_boxed (cs := [.string nm]) rfl rfl) rfl ?_))
 rintro _ w1 ⟨b3,rfl,q3,hx1,hv3⟩
 replace hx := hx.ext hx1
 refine .a2 rfl (.done (.sr (.m2 rfl (.t2 (t_makeFuncB (us := []) (vs := [.pointer (some ⟨b3,0,none⟩)]) rfl rfl) (Rg.wd trivial (w_call Tryz.call226 rfl (idxM_ok (fst := []) (cap := [.pointer (some ⟨b3,0,none⟩)]) (hs0.ext hx) Tryz.call227 (fun w1 x1 m _ => clo227_ok (hv3.ext x1)) hlen)) rfl ?_)))))
 rintro _ w2 ⟨rfl,hx2⟩
 replace hx := hx.ext hx2
 replace hv3 := hv3.ext hx2
 refine .a2 rfl (.done (Wp.ret ?_))
 exact ⟨[_],⟨rfl,trivial⟩,rfl,hx⟩
def dupN (ms : List Md) (i : Nat) : Bool := (idxN (ms.take i) (ms.getD i (.empty,.empty)).1).isSome
def anyDup (ms : List Md) : Bool := (List.range ms.length).any (dupN ms)
def valE (ms : List Md) : Int := if 8 < ms.length ∨ (ms.any fun m => decide ((2000 : Int) < m.2.size)) = true then 2 else if (ms.any fun m => !isId m.1) = true then 3 else if anyDup ms = true then 6 else 0
theorem validate_ok {w : World} {v : Value} {ms : List Md} (hA : Asc w) (hs0 : SlC w v 2 ms.length (encs mdc ms)) (hlen : ms.length < 4611686018427387904) :
  Cl Tryz.prog 106 #[v] w (fun u w' => u = .int .i64 (valE ms) ∧ Ext w w') := by
 have hx := Ext.refl w
 unfold valE
 by_cases h8 : 8 < ms.length
 ·rw [if_pos (.inl h8)]
  refine Cl.enter Tryz.func106 rfl Tryz.ntmps106 rfl rfl (.sr (.a2 rfl (.done (.seq (.sr (.m2 rfl (.t2 (t_lenC hs0 Tryz.underlying49 rfl) ?_)))))))
  refine .t2 (t_gtrT rfl rfl (by omega)) ?_
  refine .m2 rfl (.so rfl rfl (.so rfl rfl (.t2 (t_pickT rfl rfl) (.done (.condT rfl (.sr (.a2 rfl (.done (Wp.ret ?_)))))))))
  exact ⟨[_],⟨rfl,trivial⟩,rfl,hx⟩
 ·cases h2 : (ms.any fun m => decide ((2000 : Int) < m.2.size)) with
  | true =>
   rw [if_pos (.inr rfl)]
   refine Cl.enter Tryz.func106 rfl Tryz.ntmps106 rfl rfl (.sr (.a2 rfl (.done (.seq (.sr (.m2 rfl (.t2 (t_lenC hs0 Tryz.underlying49 rfl) ?_)))))))
   refine .t2 (t_gtrF rfl rfl (by omega)) ?_
   refine .m2 rfl (.g2 (t_move rfl) (Rg.wd ⟨_,rfl,rfl⟩ (w_call Tryz.call162 rfl (hasM_ok (fst := []) (cap := []) (hs0.ext hx) Tryz.call163 (fun w1 x1 m _ => clo163_ok) hlen)) rfl ?_))
   rintro _ w1 ⟨rfl,hx1⟩
   replace hx := hx.ext hx1
   rw [h2]
   refine .t2 (t_pickF rfl rfl) (.done (.condT rfl (.sr (.a2 rfl (.done (Wp.ret ?_))))))
   exact ⟨[_],⟨rfl,trivial⟩,rfl,hx⟩
  | false =>
   rw [if_neg (by rintro (h | h); exact h8 h; cases h)]
   cases h3 : (ms.any fun m => !isId m.1) with
   | true =>
    rw [if_pos rfl]
    refine Cl.enter Tryz.func106 rfl Tryz.ntmps106 rfl rfl (.sr (.a2 rfl (.done (.seq (.sr (.m2 rfl (.t2 (t_lenC hs0 Tryz.underlying49 rfl) ?_)))))))
    refine .t2 (t_gtrF rfl rfl (by omega)) ?_
    refine .m2 rfl (.g2 (t_move rfl) (Rg.wd ⟨_,rfl,rfl⟩ (w_call Tryz.call162 rfl (hasM_ok (fst := []) (cap := []) (hs0.ext hx) Tryz.call163 (fun w1 x1 m _ => clo163_ok) hlen)) rfl ?_))
    rintro _ w1 ⟨rfl,hx1⟩
    replace hx := hx.ext hx1
    rw [h2]
    refine .t2 (t_pickF rfl rfl) (.done (.condF rfl (Wp.skip (.seq (.sr (.m2 rfl (Rg.wd trivial (w_call Tryz.call162 rfl (hasM_ok (fst := []) (cap := []) (hs0.ext hx) Tryz.call164 (fun w1 x1 m _ => clo164_ok ((hA.ext hx).ext x1)) hlen)) rfl ?_)))))))
    rintro _ w2 ⟨rfl,hx2⟩
    replace hx := hx.ext hx2
    rw [h3]
    refine .done (.condT rfl (.sr (.a2 rfl (.done (Wp.ret ?_)))))
    exact ⟨[_],⟨rfl,trivial⟩,rfl,hx⟩
   | false =>
    rw [if_neg (by intro h; cases h)]
    refine Cl.enter Tryz.func106 rfl Tryz.ntmps106 rfl rfl (.sr (.a2 rfl (.done (.seq (.sr (.m2 rfl (.t2 (t_lenC hs0 Tryz.underlying49 rfl) ?_)))))))
    refine .t2 (t_gtrF rfl rfl (by omega)) ?_
    refine .m2 rfl (.g2 (t_move rfl) (Rg.wd ⟨_,rfl,rfl⟩ (w_call Tryz.call162 rfl (hasM_ok (fst := []) (cap := []) (hs0.ext hx) Tryz.call163 (fun w1 x1 m _ => clo163_ok) hlen)) rfl ?_))
    rintro _ w1 ⟨rfl,hx1⟩
    replace hx := hx.ext hx1
    rw [h2]
    refine .t2 (t_pickF rfl rfl) (.done (.condF rfl (Wp.skip (.seq (.sr (.m2 rfl (Rg.wd trivial (w_call Tryz.call162 rfl (hasM_ok (fst := []) (cap := []) (hs0.ext hx) Tryz.call164 (fun w1 x1 m _ => clo164_ok ((hA.ext hx).ext x1)) hlen)) rfl ?_)))))))
    rintro _ w2 ⟨rfl,hx2⟩
    replace hx := hx.ext hx2
    rw [h3]
    refine .done (.condF rfl (Wp.skip (.seq (.sr (.m2 rfl (.t2 (t_lenC hs0 Tryz.underlying49 rfl) (.m2 rfl (.done (Wp.block ?_)))))))))
    refine Wp.loop (ι := Nat) (fun k => [(0,v),(14,v),(15,.int .i64 ms.length),(16,.int .i64 k)])
     (fun k w' => k ≤ ms.length ∧ (∀ j,j < k → dupN ms j = false) ∧ Ext w w') (fun k => ms.length - k) 0 (by repeat (first | exact .nil | refine .cons rfl ?_)) ⟨Nat.zero_le _,fun j h => absurd h (Nat.not_lt_zero _),hx⟩ ?_
    clear hx
    rintro k w3 ⟨hk,hno,hx⟩
    by_cases hlt : k < ms.length
    ·have hs3 := hs0.ext hx
     have hgd : ms.getD k (.empty,.empty) = ms[k] := by simp [List.getD,hlt]
     cases hd : dupN ms k with
     | true =>
      refine .sr ?_
      first | refine .tq (t_lssT rfl rfl (by omega)) rfl ?_ | refine .tq (t_lssF rfl rfl (by omega)) rfl ?_ | refine .tq (t_lss rfl rfl) rfl ?_
      refine .done (.seq (.condT rfl (Wp.skip (.seq (Wp.block (.sr (.m2 rfl ?_)))))))
      refine Rg.ix hs3 trivial rfl rfl Tryz.underlying49 ty52 (by omega) rfl ?_
      intro bt19 ot19 ht19
      rw [Int.toNat_natCast,encs_at mdc_len ms k hlt] at ht19
      refine .t2 (t_loadA rfl ht19 (by exact ty52)) ?_
      refine Rg.wd trivial (w_new Tryz.zeroValue52 rfl) rfl ?_
      rintro _ wab4 ⟨b4,rfl,qb4,hxab4,hvab4⟩
      refine .a2 rfl (Rg.wn trivial (w_put (cs := mdc ms[k]) hvab4 rfl rfl rfl (ty52) (rfl) (rfl)) ?_)
      rintro _ w3 ⟨hub4,hvb4⟩
      have hx3 := hxab4.upd hub4 (Nat.le_of_eq qb4.symm)
      clear hvab4 hub4 hxab4
      replace hx := hx.ext hx3
      replace hs3 := hs3.ext hx3
      replace ht19 := ht19.ext hx3
      clear qb4
      refine .done ?_
      refine Wp.seq (Wp.draw [0,1,2,3,4,5,6] [] mixed (by kernel_rfl) (by kernel_rfl) ?_)
      intro w4 hx4 _
      replace hx := hx.ext hx4
      replace hs3 := hs3.ext hx4
      replace ht19 := ht19.ext hx4
      replace hvb4 := hvb4.ext hx4
      refine .m2 rfl (.m2 rfl ?_)
      refine Rg.sl hs3 trivial rfl Tryz.underlying49 ty52 rfl rfl (by omega) rfl ?_
      intro vt23 ht23
      rw [show ((k : Int).toNat - (0 : Int).toNat) = (ms.take k).length from by simp; omega,show ((encs mdc ms).drop ((0 : Int).toNat * 2)).take ((ms.take k).length * 2) = encs mdc (ms.take k) from by rw [show (ms.take k).length = k from by simp; omega]; simpa using encs_take mdc_len ms k] at ht23
      refine .t2 (t_fieldAddr fa52_0 rfl) (.t2 (t_load ty9 rfl (hvb4.g 0 rfl)) ?_)
      refine Rg.wdB trivial rfl (w_call Tryz.call166 rfl (indexOf_ok ht23 (by simp; omega))) rfl (fun _ _ h => h.2.below) ?_
      rintro _ w5 ⟨rfl,hx5⟩
      replace hx := hx.ext hx5
      replace hs3 := hs3.ext hx5
      replace ht19 := ht19.ext hx5
      replace hvb4 := hvb4.ext hx5
      replace ht23 := ht23.ext hx5
      refine .t2 (t_geq rfl rfl) ?_
      rw [idxO_ge,show (idxN (ms.take k) ms[k].1).isSome = true from by rw [← hd]; unfold dupN; rw [hgd]]
      refine .done (.condT rfl (.sr (.a2 rfl (.done (Wp.ret ?_)))))
      rw [if_pos (show anyDup ms = true from List.any_eq_true.2 ⟨k,List.mem_range.2 hlt,hd⟩)]
      exact ⟨[_],⟨rfl,trivial⟩,rfl,hx⟩
     | false =>
      refine .sr ?_
      first | refine .tq (t_lssT rfl rfl (by omega)) rfl ?_ | refine .tq (t_lssF rfl rfl (by omega)) rfl ?_ | refine .tq (t_lss rfl rfl) rfl ?_
      refine .done (.seq (.condT rfl (Wp.skip (.seq (Wp.block (.sr (.m2 rfl ?_)))))))
      refine Rg.ix hs3 trivial rfl rfl Tryz.underlying49 ty52 (by omega) rfl ?_
      intro bt19 ot19 ht19
      rw [Int.toNat_natCast,encs_at mdc_len ms k hlt] at ht19
      refine .t2 (t_loadA rfl ht19 (by exact ty52)) ?_
      refine Rg.wd trivial (w_new Tryz.zeroValue52 rfl) rfl ?_
      rintro _ wab4 ⟨b4,rfl,qb4,hxab4,hvab4⟩
      refine .a2 rfl (Rg.wn trivial (w_put (cs := mdc ms[k]) hvab4 rfl rfl rfl (ty52) (rfl) (rfl)) ?_)
      rintro _ w3 ⟨hub4,hvb4⟩
      have hx3 := hxab4.upd hub4 (Nat.le_of_eq qb4.symm)
      clear hvab4 hub4 hxab4
      replace hx := hx.ext hx3
      replace hs3 := hs3.ext hx3
      replace ht19 := ht19.ext hx3
      clear qb4
      refine .done ?_
      refine Wp.seq (Wp.draw [0,1,2,3,4,5,6] [] mixed (by kernel_rfl) (by kernel_rfl) ?_)
      intro w4 hx4 _
      replace hx := hx.ext hx4
      replace hs3 := hs3.ext hx4
      replace ht19 := ht19.ext hx4
      replace hvb4 := hvb4.ext hx4
      refine .m2 rfl (.m2 rfl ?_)
      refine Rg.sl hs3 trivial rfl Tryz.underlying49 ty52 rfl rfl (by omega) rfl ?_
      intro vt23 ht23
      rw [show ((k : Int).toNat - (0 : Int).toNat) = (ms.take k).length from by simp; omega,show ((encs mdc ms).drop ((0 : Int).toNat * 2)).take ((ms.take k).length * 2) = encs mdc (ms.take k) from by rw [show (ms.take k).length = k from by simp; omega]; simpa using encs_take mdc_len ms k] at ht23
      refine .t2 (t_fieldAddr fa52_0 rfl) (.t2 (t_load ty9 rfl (hvb4.g 0 rfl)) ?_)
      refine Rg.wdB trivial rfl (w_call Tryz.call166 rfl (indexOf_ok ht23 (by simp; omega))) rfl (fun _ _ h => h.2.below) ?_
      rintro _ w5 ⟨rfl,hx5⟩
      replace hx := hx.ext hx5
      replace hs3 := hs3.ext hx5
      replace ht19 := ht19.ext hx5
      replace hvb4 := hvb4.ext hx5
      replace ht23 := ht23.ext hx5
      refine .t2 (t_geq rfl rfl) ?_
      rw [idxO_ge,show (idxN (ms.take k) ms[k].1).isSome = false from by rw [← hd]; unfold dupN; rw [hgd]]
      refine .done (.condF rfl (Wp.skip (Wp.region ?_)))
      first | refine .tq (t_addI rfl rfl (by omega)) rfl ?_ | refine .tq (t_add rfl rfl) rfl ?_
      refine .m2 rfl (.done ?_)
      exact ⟨k + 1,by repeat (first | exact .nil | refine .cons rfl ?_),⟨hlt,fun j hj => by rcases Nat.lt_succ_iff_lt_or_eq.1 hj with c | c; exact hno j c; subst c; exact hd,hx⟩,by omega⟩
    ·skip
     refine .sr ?_
     first | refine .tq (t_lssT rfl rfl (by omega)) rfl ?_ | refine .tq (t_lssF rfl rfl (by omega)) rfl ?_ | refine .tq (t_lss rfl rfl) rfl ?_
     refine .done (.seq (.condF rfl (Wp.exit (.sr (.a2 rfl (.done (Wp.ret ?_)))))))
     rw [if_neg (show ¬ anyDup ms = true from fun h => by obtain ⟨j,hj,hj2⟩ := List.any_eq_true.1 h; rw [hno j (by have := List.mem_range.1 hj; omega)] at hj2; cases hj2)]
     exact ⟨[_],⟨rfl,trivial⟩,rfl,hx⟩
def shM (p : Md) : Md := (p.1,p.2.extract 0 (min p.2.size 250))
def fewM (ms : List Md) : List Md := (ms.take 3).map shM
theorem fewM_len (ms : List Md) : (fewM ms).length = min ms.length 3 := by simp [fewM,Nat.min_comm]
theorem one_ok {w : World} {s : ByteArray} : Cl Tryz.prog 43 #[.string s] w (fun u w' => SlC w' u 2 1 (encs mdc [("main".toUTF8,s)]) ∧ Ext w w') := by
 have hx := Ext.refl w
 refine Cl.enter Tryz.func43 rfl Tryz.ntmps43 rfl rfl (.sr (.a2 rfl (.done (.sr (.m2 rfl (.t2 (t_build (bd52_0_1 _ _) rfl) (Rg.wd trivial (w_buildSlice (bs49_1 _ _) rfl) rfl ?_)))))))
 rintro _ w1 ⟨bb,rfl,qb,hx1,hvb⟩
 replace hx := hx.ext hx1
 refine .a2 rfl (.done (Wp.ret ?_))
 exact ⟨[_],⟨rfl,trivial⟩,slc_var hvb rfl,hx⟩
theorem few_ok {w : World} {v : Value} {ms : List Md} (hsv : SlC w v 2 ms.length (encs mdc ms)) :
  Cl Tryz.prog 27 #[v] w (fun u w' => SlC w' u 2 (fewM ms).length (encs mdc (fewM ms)) ∧ (∀ z,u.ownBlock = some z → w.heap.size ≤ z) ∧ Ext w w') := by
 have hx := Ext.refl w
 obtain ⟨i,hi,hz,hsi,hby⟩ := inf52
 have hl3 : (fewM ms).length = (ms.take 3).length := by simp [fewM]
 have hmin : min ms.length 3 = (ms.take 3).length := by simp [Nat.min_comm]
 refine Cl.enter Tryz.func27 rfl Tryz.ntmps27 rfl rfl (.sr (.a2 rfl (.done (.sr (.a2 rfl (.done (.seq (.sr (.m2 rfl (.m2 rfl (.t2 (t_lenC hsv Tryz.underlying49 rfl) (.t2 (t_minI rfl rfl) ?_))))))))))))
 rw [show min (ms.length : Int) 3 = ((ms.take 3).length : Int) from by omega]
 refine Rg.sl hsv trivial rfl Tryz.underlying49 ty52 rfl rfl (by omega) rfl ?_
 intro vt10 ht10
 have hcut : ((encs mdc ms).drop ((0 : Int).toNat * 2)).take ((ms.take 3).length * 2) = encs mdc (ms.take 3) := by
  rw [show ((0 : Int).toNat * 2) = 0 from rfl,List.drop_zero,encs_take mdc_len]
  congr 1
  rw [← hmin]
  rcases Nat.le_total ms.length 3 with h | h
  ·rw [Nat.min_eq_left h,List.take_of_length_le h,List.take_length]
  ·rw [Nat.min_eq_right h]
 rw [show (((ms.take 3).length : Int).toNat - (0 : Int).toNat) = (ms.take 3).length from by omega,hcut] at ht10
 refine .t2 (t_lenC ht10 Tryz.underlying49 rfl) (.m2 rfl (.done (Wp.block ?_)))
 obtain ⟨m3,hm3⟩ : ∃ q,ms.take 3 = q := ⟨_,rfl⟩
 have hfe : fewM ms = m3.map shM := by rw [← hm3]; rfl
 have hl4 : m3.length ≤ 3 := by rw [← hm3]; simp; omega
 rw [hm3] at ht10 ⊢
 rw [hfe]
 clear hcut
 refine Wp.loop (ι := Nat × Value) (fun j => [(3,j.2),(10,vt10),(11,.int .i64 m3.length),(12,.int .i64 j.1)])
  (fun j w' => j.1 ≤ m3.length ∧ w'.ownsRow w.heap.size 52 2 j.2 j.1 (encs mdc ((m3.take j.1).map shM)) ∧ Ext w w')
  (fun j => m3.length - j.1) (0,.slice none 0 0) (by repeat (first | exact .nil | refine .cons rfl ?_)) ⟨Nat.zero_le _,own_nil _ _ _ _,hx⟩ ?_
 clear hx
 rintro ⟨k,vr⟩ w3 ⟨hk,hown,hx⟩
 simp only at hk hown ⊢
 have hs3 := ht10.ext hx
 by_cases hlt : k < m3.length
 ·skip
  refine .sr ?_
  first | refine .tq (t_lssT rfl rfl (by omega)) rfl ?_ | refine .tq (t_lssF rfl rfl (by omega)) rfl ?_ | refine .tq (t_lss rfl rfl) rfl ?_
  refine .done (.seq (.condT rfl (Wp.skip (.seq (Wp.block ?_)))))
  have hq := Ext.refl w3
  refine .sr ?_
  refine Rg.ix hs3 trivial rfl rfl Tryz.underlying49 ty52 (by omega) rfl ?_
  intro bt14 ot14 ht14
  rw [Int.toNat_natCast,encs_at mdc_len m3 k hlt] at ht14
  refine .t2 (t_loadA rfl ht14 ty52) (Rg.wd trivial (w_new Tryz.zeroValue52 rfl) rfl ?_)
  rintro _ wab5 ⟨b5,rfl,qb5,hxab5,hvab5⟩
  refine Rg.wn trivial (w_put (cs := mdc m3[k]) hvab5 rfl rfl rfl (ty52) (rfl) (rfl)) ?_
  rintro _ w1 ⟨hub5,hvb5⟩
  have hx1 := hxab5.upd hub5 (Nat.le_of_eq qb5.symm)
  clear hvab5 hub5 hxab5
  replace hx := hx.ext hx1
  replace hs3 := hs3.ext hx1
  replace hq := hq.ext hx1
  replace ht14 := ht14.ext hx1
  clear qb5
  refine .done ?_
  refine Wp.draw [0,1,2,3,4,5,6,7,8,9] [1] mixed (by kernel_rfl) (by kernel_rfl) ?_
  intro w2 hx2 _
  replace hx := hx.ext hx2
  replace hs3 := hs3.ext hx2
  replace hq := hq.ext hx2
  replace ht14 := ht14.ext hx2
  replace hvb5 := hvb5.ext hx2
  refine .m2 rfl (.t2 (t_fieldAddr fa52_0 rfl) (.t2 (t_load ty9 rfl (hvb5.g 0 rfl)) (.t2 (t_fieldAddr fa52_1 rfl) (.t2 (t_load ty9 rfl (hvb5.g 1 rfl)) (Rg.wdB trivial rfl (w_call Tryz.call16 rfl (short_ok (n := 250))) rfl (fun _ _ h => h.2.below) ?_)))))
  rintro _ w3 ⟨rfl,hx3⟩
  replace hx := hx.ext hx3
  replace hs3 := hs3.ext hx3
  replace hq := hq.ext hx3
  replace ht14 := ht14.ext hx3
  replace hvb5 := hvb5.ext hx3
  refine .t2 (t_build (bd52_0_1 _ _) rfl) ?_
  refine Rg.wdB trivial rfl (w_buildSlice (bs49_1 _ _) rfl) rfl (fun _ _ h => by obtain ⟨_,_,_,h,_⟩ := h; exact h.below) ?_
  rintro _ w4 ⟨bb,rfl,qb,hx4,hvb⟩
  replace hx := hx.ext hx4
  replace hs3 := hs3.ext hx4
  replace hq := hq.ext hx4
  replace ht14 := ht14.ext hx4
  replace hvb5 := hvb5.ext hx4
  replace hown := own_ext hown hq
  refine rg_wdC trivial rfl (w_append w.heap.size Tryz.underlying49 hi hz hsi hby rfl (by decide) rfl rfl hown rfl (fun j u hu => by rw [Go.Gx.addr_add]; exact hvb.cells j u hu) (by simp [Value.oneCell']) (by unfold maxLen; omega) (by omega) hx.le) rfl (by rfl) ?_
  rintro v2 wc ⟨hown2,hgr,p2,l2,c2,rfl⟩
  replace hx := own_ext3 hx hown hgr
  refine .a2 rfl (.done (Wp.region ?_))
  first | refine .tq (t_addI rfl rfl (by omega)) rfl ?_ | refine .tq (t_add rfl rfl) rfl ?_
  refine .m2 rfl (.done ?_)
  refine ⟨(k + 1,.slice p2 l2 c2),by repeat (first | exact .nil | refine .cons rfl ?_),⟨hlt,?_,hx⟩,by simp only; omega⟩
  rw [List.take_succ_eq_append_getElem hlt,List.map_append,encs_app]
  exact hown2
 ·have e0 : k = m3.length := by omega
  subst e0
  rw [List.take_length] at hown
  refine .sr ?_
  first | refine .tq (t_lssT rfl rfl (by omega)) rfl ?_ | refine .tq (t_lssF rfl rfl (by omega)) rfl ?_ | refine .tq (t_lss rfl rfl) rfl ?_
  refine .done (.seq (.condF rfl (Wp.exit (.sr (.m2 rfl (.a2 rfl (.done (Wp.ret ?_))))))))
  exact ⟨[_],⟨rfl,trivial⟩,by rw [List.length_map]; exact own_slc hown,fun z hz => Ast.own_geA hown hz,hx⟩
theorem own_bw {F : Fs} {w w' : World} {B e size n : Nat} {v : Value} {xs : List Value} (h : w.ownsRow B e size v n xs) (k : Bw F w w') (hb : blkIn F v) : w'.ownsRow B e size v n xs := by
 obtain ⟨h1,h2⟩ := h
 refine ⟨h1,h2.imp id ?_⟩
 rintro ⟨g,cap,cur,rfl,hB,hh,h3⟩
 exact ⟨g,cap,cur,rfl,hB,(k.block g (hb g rfl)).trans hh,h3⟩
theorem app_all {F : Fs} {w w' : World} {B e size n : Nat} {v v' : Value} {xs ys : List Value} (hU : Und F w.heap.size) (hB : B ≤ w.heap.size) (hrow : w.ownsRow B e size v n xs) (hn : ∀ z,v.ownBlock = some z → ¬ F z) (hl : ys.length = size) (hap : AppR w e size n 1 v (xs ++ ys) v' w') :
  w'.ownsRow B e size v' (n + 1) (xs ++ ys) ∧ Bw F w w' ∧ (∀ w0,w0.heap.size = B → Ext w0 w → Ext w0 w') ∧ (∀ z,v'.ownBlock = some z → ¬ F z) := by
 obtain ⟨g,cap,sp,rfl,h1,h2,h3,h4,h5⟩ := hap
 have hk : (xs ++ ys).length = (n + 1) * size := by rw [List.length_append,hrow.1,hl,Nat.add_mul,Nat.one_mul]
 rcases h5 with ⟨⟨c,rfl⟩,hu⟩ | ⟨hg,hx⟩
 ·have hge : B ≤ g := own_geA hrow rfl
  refine ⟨whole_ownG hge hk h1 h2 h3 h4,Bw.upd hu (hn g rfl),fun w0 h0 x => x.upd hu (by omega),fun z hz => by cases hz; exact hn g rfl⟩
 ·refine ⟨whole_ownG (Nat.le_trans hB hg) hk h1 h2 h3 h4,Bw.of hx hU,fun w0 h0 x => x.ext hx,fun z hz hf => ?_⟩
  cases hz
  have := hU g hf
  omega
abbrev Dm := Int × Dg
def dgm (p : Dm) : List Value := [.int .i64 p.2.1,.int .i64 p.1,.int .i64 p.2.2.1,.int .i64 p.2.2.2,.string ⟨#[]⟩]
theorem dgm_len (p : Dm) : (dgm p).length = 5 := rfl
structure PaI (w wl : World) (K : Fs) (mns : List Mn) (lv dv : Value) (ds : List Dm) : Prop where
 nk : ∀ g ∈ mns,NOk K wl g
 lo : ∀ z,K z → w.heap.size ≤ z ∧ z < wl.heap.size
 r6 : wl.ownsRow w.heap.size 27 7 lv mns.length (encs Mn.cells mns)
 r7 : wl.ownsRow w.heap.size 80 5 dv ds.length (encs dgm ds)
 n6 : ∀ z,lv.ownBlock = some z → ¬ K z
 n7 : ∀ z,dv.ownBlock = some z → ¬ K z
 n67 : ∀ z,dv.ownBlock = some z → lv.ownBlock ≠ some z
 x : Ext w wl
theorem PaI.ext {w wl w' : World} {K : Fs} {mns : List Mn} {lv dv : Value} {ds : List Dm} (h : PaI w wl K mns lv dv ds) (x : Ext wl w') : PaI w w' K mns lv dv ds :=
 ⟨fun g hg => (h.nk g hg).bw (Bw.of x fun z hz => (h.lo z hz).2) fun z hz => hz,fun z hz => ⟨(h.lo z hz).1,Nat.lt_of_lt_of_le (h.lo z hz).2 x.le⟩,own_ext h.r6 x,own_ext h.r7 x,h.n6,h.n7,h.n67,h.x.ext x⟩
theorem PaI.und {w wl : World} {K : Fs} {mns : List Mn} {lv dv : Value} {ds : List Dm} (h : PaI w wl K mns lv dv ds) : Und K wl.heap.size := fun z hz => (h.lo z hz).2
theorem PaI.more {w wl w' : World} {K K' : Fs} {mns : List Mn} {lv dv : Value} {ds : List Dm} (h : PaI w wl K mns lv dv ds) (x : Ext wl w') (hk : ∀ z,K' z → wl.heap.size ≤ z ∧ z < w'.heap.size) : PaI w w' (fun z => K z ∨ K' z) mns lv dv ds := by
 have h2 := h.ext x
 refine ⟨fun g hg => (h2.nk g hg).mono fun z hz => .inl hz,fun z hz => ?_,h2.r6,h2.r7,fun z hz hf => ?_,fun z hz hf => ?_,h.n67,h2.x⟩
 ·rcases hz with hz | hz
  ·exact h2.lo z hz
  ·have := hk z hz; have := h.x.le; omega
 ·rcases hf with hf | hf
  ·exact h.n6 z hz hf
  ·have := own_lt h.r6 hz; have := hk z hf; omega
 ·rcases hf with hf | hf
  ·exact h.n7 z hz hf
  ·have := own_lt h.r7 hz; have := hk z hf; omega
theorem PaI.push6 {w wl w' : World} {K : Fs} {mns : List Mn} {lv dv v' : Value} {ds : List Dm} {g : Mn} (h : PaI w wl K mns lv dv ds) (hg : NOk K wl g) (hap : AppR wl 27 7 mns.length 1 lv (encs Mn.cells mns ++ g.cells) v' w') :
  PaI w w' K (mns ++ [g]) v' dv ds ∧ Bw K wl w' := by
 have hd : ∀ z,dv.ownBlock = some z → z < wl.heap.size := fun z hz => own_lt h.r7 hz
 obtain ⟨h1,h2,h3,h4⟩ := app_all (F := fun z => K z ∨ dv.ownBlock = some z) (ys := g.cells) (fun z hz => hz.elim (h.und z) (hd z)) h.x.le h.r6 (fun z hz hf => hf.elim (h.n6 z hz) fun e => h.n67 z e hz) (Mn.len g) hap
 rw [← encs_snoc] at h1
 have hb : Bw K wl w' := h2.sub fun z hz => .inl hz
 refine ⟨⟨fun q hq => ?_,fun z hz => ⟨(h.lo z hz).1,Nat.lt_of_lt_of_le (h.lo z hz).2 h2.size⟩,by rw [List.length_append]; exact h1,own_bw h.r7 h2 (fun z hz => .inr hz),fun z hz hf => h4 z hz (.inl hf),h.n7,fun z hz e => h4 z e (.inr hz),h3 _ rfl h.x⟩,hb⟩
 rcases List.mem_append.1 hq with hq | hq
 ·exact (h.nk q hq).bw hb fun z hz => hz
 ·obtain rfl : q = g := by simpa using hq
  exact hg.bw hb fun z hz => hz
theorem PaI.push7 {w wl w' : World} {K : Fs} {mns : List Mn} {lv dv v' : Value} {ds : List Dm} {p : Dm} (h : PaI w wl K mns lv dv ds) (hap : AppR wl 80 5 ds.length 1 dv (encs dgm ds ++ dgm p) v' w') :
  PaI w w' K mns lv v' (ds ++ [p]) ∧ Bw K wl w' := by
 have hd : ∀ z,lv.ownBlock = some z → z < wl.heap.size := fun z hz => own_lt h.r6 hz
 obtain ⟨h1,h2,h3,h4⟩ := app_all (F := fun z => K z ∨ lv.ownBlock = some z) (ys := dgm p) (fun z hz => hz.elim (h.und z) (hd z)) h.x.le h.r7 (fun z hz hf => hf.elim (h.n7 z hz) fun e => h.n67 z hz e) (dgm_len p) hap
 rw [← encs_snoc] at h1
 have hb : Bw K wl w' := h2.sub fun z hz => .inl hz
 exact ⟨⟨fun q hq => (h.nk q hq).bw hb fun z hz => hz,fun z hz => ⟨(h.lo z hz).1,Nat.lt_of_lt_of_le (h.lo z hz).2 h2.size⟩,own_bw h.r6 h2 (fun z hz => .inr hz),by rw [List.length_append]; exact h1,h.n6,fun z hz hf => h4 z hz (.inl hf),fun z hz e => h4 z hz (.inr e),h3 _ rfl h.x⟩,hb⟩
def Trs (ms : List Md) (mns : List Mn) : Prop := mns.length ≤ ms.length ∧ ∀ i (h : i < mns.length) (h2 : i < ms.length),∃ t,Parsed ms[i].2 t ∧ mns[i].er = astOf ms[i].2 t
theorem Trs.push {ms : List Md} {mns : List Mn} {g : Mn} {t : Tr} (h : Trs ms mns) (hl : mns.length < ms.length) (hp : Parsed ms[mns.length].2 t) (he : g.er = astOf ms[mns.length].2 t) : Trs ms (mns ++ [g]) := by
 refine ⟨by simp; omega,fun i h1 h2 => ?_⟩
 by_cases hi : i < mns.length
 ·rw [List.getElem_append_left hi]
  exact h.2 i hi h2
 ·obtain rfl : i = mns.length := by simp at h1; omega
  exact ⟨t,hp,by simpa using he⟩
structure PaR (w : World) (ms : List Md) (u : Value) (w' : World) (K : Fs) (mns : List Mn) (lv dv : Value) (ds : List Dm) : Prop where
 ue : u = .tuple #[lv,dv,.int .i64 0]
 tr : Trs ms mns
 len : mns.length = ms.length
 pa : PaI w w' K mns lv dv ds
theorem valE_small {ms : List Md} (h : valE ms = 0) : ms.length ≤ 8 ∧ ∀ m ∈ ms,m.2.size ≤ 2000 := by
 unfold valE at h
 by_cases h1 : 8 < ms.length ∨ (ms.any fun m => decide ((2000 : Int) < m.2.size)) = true
 ·rw [if_pos h1] at h; omega
 ·refine ⟨by omega,fun m hm => ?_⟩
  have h2 : ¬ (ms.any fun m => decide ((2000 : Int) < m.2.size)) = true := fun c => h1 (.inr c)
  rw [List.any_eq_true] at h2
  apply Nat.le_of_not_lt
  intro c
  exact h2 ⟨m,hm,decide_eq_true (by omega)⟩
theorem parseAll_ok {w : World} {v : Value} {ms : List Md} (hA : Asc w) (hE : Er w) (hs0 : SlC w v 2 ms.length (encs mdc ms)) (hlen : ms.length < 4611686018427387904) :
  Cl Tryz.prog 57 #[v] w (fun u w' => (valE ms ≠ 0 ∧ u = .tuple #[.slice none 0 0,.slice none 0 0,.int .i64 (valE ms)] ∧ Ext w w') ∨ (valE ms = 0 ∧ ∃ K mns lv dv ds,PaR w ms u w' K mns lv dv ds)) := by
 have hx := Ext.refl w
 obtain ⟨e,he⟩ : ∃ e,valE ms = e := ⟨_,rfl⟩
 by_cases h0 : e = 0
 ·skip
  refine Cl.enter Tryz.func57 rfl Tryz.ntmps57 rfl rfl (.sr (.a2 rfl (.a2 rfl (.a2 rfl (.done (.seq (.sr (.m2 rfl (Rg.wd trivial (w_call Tryz.call106 rfl (validate_ok hA hs0 hlen)) rfl ?_)))))))))
  rintro _ w1 ⟨rfl,hx1⟩
  replace hx := hx.ext hx1
  rw [he]
  refine .a2 rfl (.done (.sr (.m2 rfl ?_)))
  refine .t2 (t_neqF rfl rfl (by omega)) ?_
  refine .done (.condF rfl (Wp.skip (.sr (.a2 rfl (.done (.sr (.a2 rfl (.done (.seq (.sr (.m2 rfl (.t2 (t_lenC hs0 Tryz.underlying49 rfl) ?_))))))))))))
  refine .m2 rfl (.done (Wp.block ?_))
  obtain ⟨hl8,hsz⟩ := valE_small (he.trans h0)
  refine Wp.loop (ι := List Mn × Value × Value × List Dm) (fun j => [(6,j.2.1),(7,j.2.2.1),(20,v),(21,.int .i64 ms.length),(22,.int .i64 j.1.length)])
   (fun j w' => Trs ms j.1 ∧ j.2.2.2.length ≤ j.1.length * 1000000 ∧ ∃ K,PaI w w' K j.1 j.2.1 j.2.2.1 j.2.2.2)
   (fun j => ms.length - j.1.length) ([],.slice none 0 0,.slice none 0 0,[]) (by repeat (first | exact .nil | refine .cons rfl ?_))
   ⟨⟨Nat.zero_le _,fun i h => absurd h (Nat.not_lt_zero _)⟩,Nat.zero_le _,fun _ => False,⟨fun g hg => absurd hg (List.not_mem_nil),fun z hz => hz.elim,own_nil _ _ _ _,own_nil _ _ _ _,fun z hz hf => hf,fun z hz hf => hf,fun z hz => (by cases hz),hx⟩⟩ ?_
  clear hx
  rintro ⟨mns,lv,dv,ds⟩ w3 ⟨hT,hdl,K,hP⟩
  simp only at hT hdl hP ⊢
  have hTl := hT.1
  by_cases hlt : mns.length < ms.length
  ·have hs3 := hs0.ext hP.x
   have hsz1 := hsz _ (List.getElem_mem hlt)
   obtain ⟨⟨nm,src⟩,hmd⟩ : ∃ q,ms[mns.length] = q := ⟨_,rfl⟩
   rw [hmd] at hsz1
   simp only at hsz1
   refine .sr ?_
   first | refine .tq (t_lssT rfl rfl (by omega)) rfl ?_ | refine .tq (t_lssF rfl rfl (by omega)) rfl ?_ | refine .tq (t_lss rfl rfl) rfl ?_
   refine .done (.seq (.condT rfl (Wp.skip (.seq (Wp.block (.sr (.m2 rfl ?_)))))))
   refine Rg.ix hs3 trivial rfl rfl Tryz.underlying49 ty52 (by omega) rfl ?_
   intro bt25 ot25 ht25
   rw [Int.toNat_natCast,encs_at mdc_len ms mns.length hlt,hmd] at ht25
   refine .t2 (t_loadA rfl ht25 ty52) (Rg.wd trivial (w_new Tryz.zeroValue52 rfl) rfl ?_)
   rintro _ wab9 ⟨b9,rfl,qb9,hxab9,hvab9⟩
   refine .a2 rfl (Rg.wn trivial (w_put (cs := [.string nm,.string src]) hvab9 rfl rfl rfl (ty52) (rfl) (rfl)) ?_)
   rintro _ w2 ⟨hub9,hvb9⟩
   have hx2 := hxab9.upd hub9 (Nat.le_of_eq qb9.symm)
   clear hvab9 hub9 hxab9
   replace hP := hP.ext hx2
   replace hs3 := hs3.ext hx2
   replace ht25 := ht25.ext hx2
   clear qb9
   refine .done ?_
   obtain ⟨i27,hi27,hz27,hsi27,hby27⟩ := inf27
   obtain ⟨i80,hi80,hz80,hsi80,hby80⟩ := inf80
   refine .sr (.t2 (t_fieldAddr fa52_1 rfl) (.t2 (t_load ty9 rfl (hvb9.g 1 rfl)) (Rg.wd trivial (w_call Tryz.call18 rfl (astParse_ok hsz1 (hA.ext hP.x) (er_ext hE hP.x))) rfl ?_)))
   rintro _ w3 ⟨t,mn,dl,dsi,K',hPA⟩
   obtain rfl := hPA.ue
   have hx3 := hPA.ext
   have hpt := hPA.pt
   have her := hPA.er
   replace hP := hP.more hx3 hPA.lo
   have hm : NOk (fun z => K z ∨ K' z) w3 mn := hPA.ok.mono fun z hz => .inr hz
   have hbl : blkIn (fun z => K z ∨ K' z) dl := hPA.bl.mono fun z hz => .inr hz
   have hsd := hPA.sl
   have hdf := hPA.few
   clear hPA
   obtain ⟨KK,hKK⟩ : ∃ q : Fs,(fun z => K z ∨ K' z) = q := ⟨_,rfl⟩
   rw [hKK] at hP hm hbl
   replace hs3 := hs3.ext hx3
   replace hvb9 := hvb9.ext hx3
   have hq := Ext.refl w3
   have hKu := hP.und
   refine .m2 rfl (.t2 (t_extract rfl rfl) (.t2 (t_extract rfl rfl) (.t2 (t_extract rfl rfl) ?_)))
   obtain ⟨hh,cv,kids⟩ := mn
   obtain ⟨pc,cc,rfl⟩ : ∃ p q,cv = .slice p kids.length q := by
    cases hm with | mk a _ _ _ => obtain ⟨_,p,c,rfl,_⟩ := a; exact ⟨p,c,rfl⟩
   have hog : (Mn.mk hh (.slice pc kids.length cc) kids).cells.all (·.oneCell') = true := rfl
   refine Rg.wd trivial (w_new Tryz.zeroValue27 rfl) rfl ?_
   rintro _ wab10 ⟨b10,rfl,qb10,hxab10,hvab10⟩
   refine Rg.wn trivial (w_put (cs := (Mn.mk hh (.slice pc kids.length cc) kids).cells) hvab10 rfl rfl rfl (by rw [Mn.len]; exact ty27) (by rw [Mn.len]; rfl) (hog)) ?_
   rintro _ w4 ⟨hub10,hvb10⟩
   have hx4 := hxab10.upd hub10 (Nat.le_of_eq qb10.symm)
   clear hvab10 hub10 hxab10
   replace hP := hP.ext hx4
   replace hsd := hsd.ext hx4
   replace hq := hq.ext hx4
   clear qb10
   refine .a2 rfl (.a2 rfl (.done (.sr (.m2 rfl ?_))))
   refine .t2 (t_loadA rfl hvb10.cells (by rw [Mn.len]; exact ty27)) ?_
   refine Rg.wd trivial (w_buildSlice (bs25_1 _ _ _ _ _ _ _ _ _) rfl) rfl ?_
   rintro _ w5 ⟨bb,rfl,qb,hx5,hvb⟩
   replace hP := hP.ext hx5
   replace hsd := hsd.ext hx5
   replace hq := hq.ext hx5
   replace hvb10 := hvb10.ext hx5
   refine Rg.wd trivial (w_appendO Tryz.underlying25 hi27 hz27 hsi27 hby27 rfl rfl rfl (own_mono hP.r6 (Nat.zero_le _)) (slc_var hvb rfl) (by simp [Value.oneCell']) (by decide) (by unfold maxLen; omega) (by omega)) rfl ?_
   rintro v2 wc hap
   obtain ⟨hP2,hB2⟩ := hP.push6 (g := .mk hh (.slice pc kids.length cc) kids) (hm.bw (Bw.of hq hKu) fun z hz => hz) hap
   replace hsd := slC_bw hsd hB2 hbl
   clear hP
   refine .a2 rfl (.done (.sr (.m2 rfl (.t2 (t_lenC hsd Tryz.underlying28 rfl) (.m2 rfl (.done (Wp.block ?_)))))))
   refine Wp.loop (ι := Nat × Value) (fun j => [(6,v2),(7,j.2),(8,.int .i64 mns.length),(20,v),(21,.int .i64 ms.length),(22,.int .i64 mns.length),(38,dl),(39,.int .i64 dsi.length),(40,.int .i64 j.1)])
    (fun j w' => j.1 ≤ dsi.length ∧ PaI w w' KK (mns ++ [.mk hh (.slice pc kids.length cc) kids]) v2 j.2 (ds ++ (dsi.take j.1).map fun q => ((mns.length : Int),q)) ∧ SlC w' dl 5 dsi.length (encs dgc dsi))
    (fun j => dsi.length - j.1) (0,dv) (by repeat (first | exact .nil | refine .cons rfl ?_)) ⟨Nat.zero_le _,by simpa using hP2,hsd⟩ ?_
   clear hP2 hsd
   rintro ⟨j,dv2⟩ w5 ⟨hj,hP3,hsd⟩
   simp only at hj hP3 ⊢
   by_cases hlt2 : j < dsi.length
   ·have hkk := hP3.und
    obtain ⟨⟨q1,q2,q3⟩,hdq⟩ : ∃ q,dsi[j] = q := ⟨_,rfl⟩
    have hdl2 : (ds ++ (dsi.take j).map fun q => ((mns.length : Int),q)).length ≤ ds.length + j := by simp; omega
    refine .sr ?_
    first | refine .tq (t_lssT rfl rfl (by omega)) rfl ?_ | refine .tq (t_lssF rfl rfl (by omega)) rfl ?_ | refine .tq (t_lss rfl rfl) rfl ?_
    refine .done (.seq (.condT rfl (Wp.skip (.seq (Wp.block (.sr ?_))))))
    have hq5 := Ext.refl w5
    refine Rg.ix hsd trivial rfl rfl Tryz.underlying28 ty80 (by omega) rfl ?_
    intro bt42 ot42 ht42
    rw [Int.toNat_natCast,encs_at dgc_len dsi j hlt2,hdq] at ht42
    refine .t2 (t_loadA rfl ht42 ty80) (Rg.wd trivial (w_new Tryz.zeroValue80 rfl) rfl ?_)
    rintro _ wab14 ⟨b14,rfl,qb14,hxab14,hvab14⟩
    
    refine Rg.wn trivial (w_put (cs := [.int .i64 q1,.int .i64 0,.int .i64 q2,.int .i64 q3,.string ⟨#[]⟩]) hvab14 rfl rfl rfl (ty80) (rfl) (rfl)) ?_
    rintro _ w41 ⟨hub14,hvb14⟩
    have hx41 := hxab14.upd hub14 (Nat.le_of_eq qb14.symm)
    clear hvab14 hub14
    replace ht42 := ht42.ext hx41
    refine .done (.sr (.m2 rfl (.t2 (t_fieldAddr fa80_1 rfl) (Rg.wn trivial (w_putF hvb14 ty3 rfl rfl rfl rfl rfl) ?_))))
    rintro _ w42 ⟨huS,hvS⟩
    simp only [List.set] at hvS
    have hx42 := hx41.upd huS (Nat.le_of_eq qb14.symm)
    replace hP3 := hP3.ext hx42
    replace hsd := hsd.ext hx42
    clear hvb14 huS
    refine .done (Wp.region (.m2 rfl ?_))
    refine .t2 (t_loadA rfl hvS.cells (by exact ty80)) ?_
    refine Rg.wd trivial (w_buildSlice (bs28_1 _ _ _ _ _) rfl) rfl ?_
    rintro _ w43 ⟨bb2,rfl,qb2,hx43,hvb2⟩
    replace hP3 := hP3.ext hx43
    replace hsd := hsd.ext hx43
    replace hvS := hvS.ext hx43
    refine Rg.wd trivial (w_appendO Tryz.underlying28 hi80 hz80 hsi80 hby80 rfl rfl rfl (own_mono hP3.r7 (Nat.zero_le _)) (slc_var hvb2 rfl) (by simp [Value.oneCell']) (by decide) (by unfold maxLen; omega) (by omega)) rfl ?_
    rintro v3 wd hap
    obtain ⟨hP4,hB4⟩ := hP3.push7 (p := ((mns.length : Int),q1,q2,q3)) hap
    replace hsd := slC_bw hsd hB4 hbl
    clear hP3
    refine .a2 rfl (.done (Wp.region ?_))
    first | refine .tq (t_addI rfl rfl (by omega)) rfl ?_ | refine .tq (t_add rfl rfl) rfl ?_
    refine .m2 rfl (.done ?_)
    refine ⟨(j + 1,v3),by repeat (first | exact .nil | refine .cons rfl ?_),⟨hlt2,?_,hsd⟩,by simp only; omega⟩
    rw [List.take_succ_eq_append_getElem hlt2,List.map_append,← List.append_assoc,hdq]
    exact hP4
   ·have e0 : j = dsi.length := by omega
    subst e0
    rw [List.take_length] at hP3
    refine .sr ?_
    first | refine .tq (t_lssT rfl rfl (by omega)) rfl ?_ | refine .tq (t_lssF rfl rfl (by omega)) rfl ?_ | refine .tq (t_lss rfl rfl) rfl ?_
    refine .done (.seq (.condF rfl (Wp.exit (Wp.region ?_))))
    first | refine .tq (t_addI rfl rfl (by omega)) rfl ?_ | refine .tq (t_add rfl rfl) rfl ?_
    refine .m2 rfl (.done ?_)
    refine ⟨(mns ++ [.mk hh (.slice pc kids.length cc) kids],v2,dv2,ds ++ dsi.map fun q => ((mns.length : Int),q)),by simp only [List.length_append,List.length_singleton]; repeat (first | exact .nil | refine .cons rfl ?_),⟨hT.push hlt (by rw [hmd]; exact hpt) (by rw [hmd]; exact her),by simp only [List.length_append,List.length_map,List.length_singleton]; omega,KK,hP3⟩,by simp only [List.length_append,List.length_singleton]; omega⟩
  ·skip
   refine .sr ?_
   first | refine .tq (t_lssT rfl rfl (by omega)) rfl ?_ | refine .tq (t_lssF rfl rfl (by omega)) rfl ?_ | refine .tq (t_lss rfl rfl) rfl ?_
   refine .done (.seq (.condF rfl (Wp.exit (.sr (.m2 rfl (.m2 rfl (.a2 rfl (.a2 rfl (.a2 rfl (.done (Wp.ret ?_)))))))))))
   exact ⟨[_,_,_],⟨rfl,rfl,rfl,trivial⟩,.inr ⟨h0,K,mns,lv,dv,ds,rfl,hT,by omega,hP⟩⟩
 ·skip
  refine Cl.enter Tryz.func57 rfl Tryz.ntmps57 rfl rfl (.sr (.a2 rfl (.a2 rfl (.a2 rfl (.done (.seq (.sr (.m2 rfl (Rg.wd trivial (w_call Tryz.call106 rfl (validate_ok hA hs0 hlen)) rfl ?_)))))))))
  rintro _ w1 ⟨rfl,hx1⟩
  replace hx := hx.ext hx1
  rw [he]
  refine .a2 rfl (.done (.sr (.m2 rfl ?_)))
  refine .t2 (t_neqT rfl rfl (by omega)) ?_
  refine .done (.condT rfl (.sr (.m2 rfl (.a2 rfl (.a2 rfl (.a2 rfl (.done (Wp.ret ?_))))))))
  exact ⟨[_,_,_],⟨rfl,rfl,rfl,trivial⟩,.inl ⟨by omega,rfl,hx⟩⟩
end Go.Proofs.YtiogccmfmjhipaaGreatDoor.Sym
