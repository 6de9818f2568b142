/- The parser: impl. Printed by r6/Nz.py (auto.py). -/
import Derived.Test.YtlndmiegodcfjaaGreatDoorXf
import Derived.Test.YtlndmiegodcfjaaGreatDoorXc
import Derived.Test.YtlndmiegodcfjaaGreatDoorXb
import Derived.Lib.Builder
import Derived.Lib.AtoiAll
set_option linter.unusedVariables false
set_option linter.unusedSimpArgs false
namespace Go.Proofs.YtlndmiegodcfjaaGreatDoor.Par
set_option maxRecDepth 20000
open Go.Gx Go.RowKit Go.Lib
open Lexi (Asc)
section
variable {w0 : World} {tv : Value} {aG : List Tok} {F : Fs} {w w' : World} {bP : Nat} {below : List (Int × List Tr)} {k : Int} {s r : S} {n : Nat}
theorem oN {n : Nat} {s r : S} (h : run body n .before s = some r) : ∃ l t,s.kids = l ++ [t] ∧ r = { s with kids := l ++ [.leaf 0,t],adds := s.adds + 1 } := by
 have key : ∀ rec,bW body rec .before s = some r → ∃ l t,s.kids = l ++ [t] ∧ r = { s with kids := l ++ [.leaf 0,t],adds := s.adds + 1 } := fun rec h => by
  simp only [bW] at h
  split at h
  ·rename_i t ht
   have hne : s.kids ≠ [] := fun e => by rw [e] at ht; cases ht
   refine ⟨s.kids.dropLast,t,?_,(Option.some.inj h).symm⟩;have := List.dropLast_concat_getLast hne;rw [List.getLast?_eq_some_getLast hne] at ht;rw [← Option.some.inj ht];exact this.symm
  ·cases h
 cases n <;> exact key _ h
theorem tE {α : Type} (l : List α) (t x : α) : dQ (l ++ [t]) ((l ++ [t]).length - 1) x = l ++ [x,t] := by
 unfold dQ;rw [show (l ++ [t]).length - 1 = l.length by simp,List.take_left' rfl,List.drop_left' rfl]
theorem pU.whole {gs np caps pos : Nat} {cv : Value} {kl : List Gt} {Q : Fs} {old : List Value} (h : pU w0 tv aG F w bP below k s gs np caps pos cv kl Q old) (hne : s.kids ≠ []) : ∃ gk capk,cv = .slice (some ⟨gk,0,none⟩) kl.length capk ∧ 0 < kl.length := by
 have hkn : kl ≠ [] := fun e => hne (by rw [← h.er,e]; rfl);have hpos : 0 < kl.length := List.length_pos_iff.2 hkn
 rcases bH h.own with ⟨_,h0⟩ | ⟨gk,capk,spk,ek,_,gk1,gk2,gk3,hK⟩
 ·omega
 exact ⟨gk,capk,ek,hpos⟩
theorem Dd {Q : Fs} {w : World} : GOk Q w (.mk 0 fS (.slice none 0 0) []) := .mk ⟨by simp [aK],none,0,rfl,Nat.le_refl _,.inl rfl⟩ rfl (fun b hb => by cases hb) fun g hg => by cases hg
theorem vK {α : Type} {l : List α} {i : Nat} {x g : α} (h : g ∈ dQ l i x) : g ∈ l ∨ g = x := by
 simp only [dQ,List.mem_append,List.mem_cons] at h
 rcases h with h | h | h
 ·exact .inl (List.mem_of_mem_take h)
 ·exact .inr h
 ·exact .inl (List.mem_of_mem_drop h)
theorem Ie (hC : Cx w0 tv aG) (hD : ∀ m,m < n → DN w0 tv aG m) (hp : Ps w0 tv aG F w bP below k s) (hr : run body n (body .impl) s = some r) (hb : r.adds ≤ fR) :
  Cl Tryz.prog 129 #[.pointer (some ⟨bP,0,none⟩)] w (fun u w' => (Nm.impl = Nm.statement → u = .bool r.flag) ∧ Ps w0 tv aG F w' bP below k r ∧ Bw F w w') := by
 have a := Bw.refl F w;have d : ∀ z,F z → F z := fun z h => h;have i := hp.base;have hr : run body n (.seq (.call .typeParams) (.seq (.call .typeExpr) (.seq (.cond (cE [⟨#[102,111,114]⟩]) (.seq .bump (.call .typeExpr)) .before) (.call .members)))) s = some r := hr;refine Cl.enter Tryz.func129 rfl Tryz.ntmps129 rfl rfl (.sr (.m2 rfl ?_));obtain ⟨s1,h1a,h1b⟩ := aI hr;refine Rg.wd trivial (aC Tryz.call155 rfl (bG hD hp h1a (aH h1b hb))) rfl ?_;rintro _ w1 ⟨hst,hp1,hb1⟩;replace a := a.trans (hb1.sub d);clear hp;have hp := hp1;clear hp1;refine .done (.sr (.m2 rfl ?_));obtain ⟨s2,h2a,h2b⟩ := aI h1b;refine Rg.wd trivial (aC Tryz.call131 rfl (bG hD hp h2a (aH h2b hb))) rfl ?_;rintro _ w2 ⟨hst,hp1,hb2⟩;replace a := a.trans (hb2.sub d);clear hp;have hp := hp1;clear hp1;refine .done ?_;obtain ⟨s3,h3a,h3b⟩ := aI h2b;refine .seq ?_
 cases f : (aV [⟨#[102,111,114]⟩] (aO s2.rem)) with
 | true =>
  have hq2 := aX h3a f;refine .sr (.m2 rfl (Rg.wd trivial (aD (aT _) rfl) rfl ?_));rintro _ w3 ⟨bt9,rfl,qt9,hx3,j⟩;replace a := bS a hp.und d hx3;replace hp := hp.extw hx3;obtain ⟨s4,h4a,h4b⟩ := aI hq2;obtain rfl := cN h4a;refine Rg.wd trivial (aC Tryz.call79 rfl (gT hC hp (texts := [⟨#[102,111,114]⟩]) j (by decide) f (aH h4b (aH h3b hb)))) rfl ?_;rintro _ w4 ⟨rfl,hp1,hb4⟩;replace a := a.trans (hb4.sub d);clear hp;have hp := hp1;clear hp1;refine .done (.condT rfl (Wp.region (.m2 rfl (Rg.wd trivial (aC Tryz.call131 rfl (bG hD hp h4b (aH h3b hb))) rfl ?_))));rintro _ w5 ⟨hst,hp1,hb5⟩;replace a := a.trans (hb5.sub d);clear hp;have hp := hp1;clear hp1;refine .done (Wp.region (.m2 rfl (Rg.wd trivial (aC Tryz.call128 rfl (bG hD hp h3b hb)) rfl ?_)));rintro _ w6 ⟨hst,hp1,hb6⟩;replace a := a.trans (hb6.sub d);clear hp;have hp := hp1;clear hp1;refine .done ?_;exact ⟨[],trivial,(fun h => by cases h),hp.sub d i,a⟩
 | false =>
  have hq2 := aU h3a f;refine .sr (.m2 rfl (Rg.wd trivial (aD (aT _) rfl) rfl ?_));rintro _ w3 ⟨bt9,rfl,qt9,hx3,j⟩;replace a := bS a hp.und d hx3;replace hp := hp.extw hx3;refine Rg.wd trivial (aC Tryz.call79 rfl (gU hC hp (texts := [⟨#[102,111,114]⟩]) j (by decide) f)) rfl ?_;rintro _ w4 ⟨rfl,hp1,hb4⟩;replace a := a.trans (hb4.sub d);clear hp;have hp := hp1;clear hp1;refine .done (.condF rfl ?_);have hqk : s2.kids ≠ [] := by
   obtain ⟨lz,tz,e1,_⟩ := oN hq2;rw [e1];simp
  have hqb2 : s2.adds ≤ 1000000000 := aH hq2 (aH h3b hb);refine Wp.seq (Wp.draw [0,1,2,3,4,5,6,7,8,9,10,11] [] mixed (by kernel_rfl) (by kernel_rfl) ?_);intro w5 hx5 _;replace a := bS a hp.und d hx5;replace hp := hp.extw hx5;obtain ⟨gs,np,caps,ppos,cvk,kl,Q,old,tr⟩ := hp.topRow;obtain ⟨gk,capk,rfl,hkpos⟩ := tr.whole hqk;have trcap := tr.cap;have trs := tr.small;have trf := tr.few;have trc := tr.cell;refine .m2 rfl (.t2 (aF rfl) (.t2 (aA eI rfl) (.t2 (aB eH rfl (tr.var.g 2 rfl)) (.m2 rfl (.t2 (aF rfl) (.t2 (aA eI rfl) (.t2 (aB eH rfl (tr.var.g 2 rfl)) (.t2 (dC Tryz.underlying52 rfl) ?_))))))));refine .t2 (eG rfl rfl (by omega)) ?_;refine .t2 (bI Tryz.underlying52 dA rfl rfl (by omega)) ?_;refine .a2 rfl (.done (.sr (.m2 rfl (.t2 (aF rfl) (.t2 (aA gE rfl) (.t2 (aB eH rfl trc) (.t2 (dC Tryz.underlying52 rfl) ?_)))))));refine .t2 (eG rfl rfl (by omega)) ?_;rw [show ((kl.length : Int) - 1) = ((kl.length - 1 : Nat) : Int) from by omega];refine .a2 rfl (.done ?_);have hb0 := a;refine Wp.region (.m2 rfl (.m2 rfl (.t2 (aF rfl) (.t2 (aA gE rfl) (.t2 (aB eH rfl trc) (.m2 rfl (.t2 (cH (mM _) rfl) (Rg.wd trivial (aD (jH _ _ _ _ _) rfl) rfl ?_))))))));rintro _ w6 ⟨vb,rfl,qvb,hx6,hvb⟩;have hgl := tr.row.lt;have hvl := hvb.lt;have hkb : gk < vb ∨ True := .inr trivial;replace a := bS a hp.und d hx6;have hownW := cM tr.own hx6;have hokW : ∀ g ∈ kl,GOk Q w6 g := fun g hg => (tr.ok g hg).bw (Bw.of hx6 tr.undQ) fun z hz => hz;have hneb : some vb ≠ (Value.slice (some ⟨gk,0,none⟩) kl.length capk).ownBlock := fun e => by
   injection e with e
   have e : vb = gk := e;have h5 : gk < _ := jI tr.own (b := gk) rfl;omega
  have hpB := hp.extw hx6;refine Rg.wd trivial (aC Tryz.call167 rfl (xV hownW hokW (by omega) (by omega) hvb hneb)) rfl ?_;rintro u5 w7 ⟨hi1,hi2,hi3⟩;have hgsu : some gs ≠ u5.ownBlock := fun e => (hi3 gs e.symm).elim (fun h => tr.nk h.symm) fun h => by have := hx6.le; omega
  have hrow5 : Var w7 gs old 54 := aE (tr.row.ext hx6) hi2 ⟨Nat.lt_of_lt_of_le hgl hx6.le,hgsu⟩;obtain ⟨p5,n5,c5,rfl⟩ : ∃ p n c,u5 = .slice p n c := by
   rcases bH hi1 with ⟨e,h0⟩ | ⟨g5,c5,s5,e,_⟩
   ·omega
   ·exact ⟨_,_,_,e⟩
  have hu1 : (Value.slice p5 n5 c5).oneCell' = true := rfl;refine .t2 (aF rfl) (.t2 (aA gE rfl) ?_);have hoS : 0 + (((np + 1 : Nat) : Int) - 1).toNat * 3 + 2 = np * 3 + 2 := by omega
  have trl := tr.len;refine Rg.wn trivial (dZ (cs := [.slice p5 n5 c5]) hrow5 rfl rfl rfl eH (by rw [hoS]; simp only [List.length_singleton]; omega) (by intro u hu; simp at hu; subst hu; exact hu1)) ?_;rintro _ w8 ⟨hu8,hvS⟩;rw [hoS] at hvS;have hbT : Bw (fun z => (z < w5.heap.size ∧ some z ≠ (Value.slice p5 n5 c5).ownBlock) ∧ z ≠ gs) w5 w8 := ((Bw.of hx6 fun z hz => hz.1.1).trans (hi2.sub fun z hz => ⟨Nat.lt_of_lt_of_le hz.1.1 hx6.le,hz.1.2⟩)).trans (Bw.upd hu8 fun hh => hh.2 rfl);obtain ⟨hpd,hbd⟩ := tr.next w8 (.slice p5 n5 c5) (dQ kl (kl.length - 1) (.mk 0 fS (.slice none 0 0) [])) _ (s2.adds + 1) hbT (fun z h1 h2 h3 => ⟨⟨h1,h3⟩,h2⟩) hvS (by rw [gO]; exact fK hi1 (Bw.upd (F := fun z => z ≠ gs) hu8 fun hh => hh rfl) fun b hb e => hgsu (by rw [← e,hb])) (fun b hb => (hi3 b hb).imp id fun h => Nat.le_trans hx6.le h) (fun t ht => (vK ht).elim (tr.ok t) fun e => e ▸ Dd) (Nat.le_succ _) (by rw [gO]; omega);have hp1 : Ps w0 tv aG F w8 bP below k s3 := by
   obtain ⟨lz,tz,e1,e2⟩ := oN hq2;have e3 : kS (dQ kl (kl.length - 1) (.mk 0 fS (.slice none 0 0) [])) = lz ++ [.leaf 0,tz] := by
    rw [hZ,oM,← hZ,tr.er,e1,show kl.length - 1 = (lz ++ [tz]).length - 1 from by rw [← e1,← tr.er,hZ,List.length_map],tE];rfl
   rw [e2,← e3];exact hpd
  replace a := (hb0.trans (hbd.sub d));clear hp hpB;have hp := hp1;clear hp1;refine .done (Wp.region (.m2 rfl (Rg.wd trivial (aC Tryz.call128 rfl (bG hD hp h3b hb)) rfl ?_)));rintro _ w9 ⟨hst,hp1,hb9⟩;replace a := a.trans (hb9.sub d);clear hp;have hp := hp1;clear hp1;refine .done ?_;exact ⟨[],trivial,(fun h => by cases h),hp.sub d i,a⟩
end
section
variable {w0 : World} {tv : Value} {aG : List Tok}
theorem vL {l : Nat} (hl : 6 ≤ l) : ∀ (m : Nat) (s r : S),run body m (body (.binary l)) s = some r → False := by
 intro m
 induction m using Nat.strongRecOn generalizing l with
 | _ m ih =>
  intro s r h;have h : run body m (.seq (.call (.binary (l + 1))) (if l = 2 then .cond (cE (aY l)) (.wrap 39 (.seq .bump (.call (.binary (l + 1))))) .skip else .loop (cE (aY l)) (.wrap 39 (.seq .bump (.call (.binary (l + 1))))))) s = some r := by
   have e : body (.binary l) = .seq (.call (.binary (l + 1))) (if l = 2 then .cond (cE (aY l)) (.wrap 39 (.seq .bump (.call (.binary (l + 1))))) .skip else .loop (cE (aY l)) (.wrap 39 (.seq .bump (.call (.binary (l + 1)))))) := by
    show (if l = 5 then _ else _) = _
    rw [if_neg (by omega)]
   rw [e] at h;exact h
  obtain ⟨s1,h1,_⟩ := aI h;obtain ⟨m',hm,h2⟩ := rM h1;exact ih m' hm (l := l + 1) (by omega) s s1 h2
theorem Ig (hC : Cx w0 tv aG) : ∀ m,DN w0 tv aG m := by
 intro m
 induction m using Nat.strongRecOn with
 | _ m ih =>
  intro x F w bP below k s r hp hr hb
  cases x with
  | block => exact F5 hC ih hp hr hb
  | statement => exact vH hC ih hp hr hb
  | letS => exact Ib hC ih hp hr hb
  | returnS => exact Av hC ih hp hr hb
  | unary => exact E9 hC ih hp hr hb
  | arguments => exact vD hC ih hp hr hb
  | postE => exact Fv hC ih hp hr hb
  | primary => exact Aw hC ih hp hr hb
  | ifExpr => exact C6 hC ih hp hr hb
  | matchE => exact C7 hC ih hp hr hb
  | structLit => exact vE hC ih hp hr hb
  | lambda => exact C8 hC ih hp hr hb
  | pattern => exact Ax hC ih hp hr hb
  | item => exact Ic hC ih hp hr hb
  | skipTo => exact Da hC ih hp hr hb
  | use => exact Jh hC ih hp hr hb
  | typeParams => exact sY hC ih hp hr hb
  | typeParam => exact vF hC ih hp hr hb
  | members => exact Ay hC ih hp hr hb
  | impl => exact Ie hC ih hp hr hb
  | typeExpr => exact xK hC ih hp hr hb
  | itemBody kd => exact xM hC ih hp hr hb
  | params cl => exact C9 hC ih hp hr hb
  | dataType kd => exact xL hC ih hp hr hb
  | function b => cases b with
   | true => exact oU hC ih hp hr hb
   | false => exact nY hC ih hp hr hb
  | path b => cases b with
   | true => exact vG hC ih hp hr hb
   | false => exact tB hC ih hp hr hb
  | binary l =>
   match l,hr with
   | 0,hr => exact xN hC ih hp hr hb
   | 1,hr => exact xO hC ih hp hr hb
   | 2,hr => exact xP hC ih hp hr hb
   | 3,hr => exact xQ hC ih hp hr hb
   | 4,hr => exact xR hC ih hp hr hb
   | 5,hr => exact xS hC ih hp hr hb
   | l + 6,hr => exact (vL (by omega) m s r hr).elim
end
end Go.Proofs.YtlndmiegodcfjaaGreatDoor.Par
namespace Go.Proofs.YtlndmiegodcfjaaGreatDoor.Lexi
set_option maxRecDepth 20000
open Go.Gx Go.RowKit Go.Lib
def xW : List (Int × ByteArray) → List Value
 | [] => []
 | t :: l => .int .i64 t.1 :: .string t.2 :: xW l
theorem pW : ∀ a b,xW (a ++ b) = xW a ++ xW b
 | [],b => rfl
 | t :: a,b => by simp [xW,pW a b]
theorem vM : ∀ (l : List (Int × ByteArray)) (k : Nat),(xW l).drop (k * 2) = xW (l.drop k)
 | l,0 => rfl
 | [],k + 1 => by simp [xW]
 | t :: l,k + 1 => by
  rw [show (k + 1) * 2 = k * 2 + 1 + 1 from by omega];simp only [xW,List.drop_succ_cons];exact vM l k
theorem Ii (l : List (Int × ByteArray)) (k : Nat) (h : k < l.length) : ((xW l).drop (k * 2)).take 2 = [.int .i64 l[k].1,.string l[k].2] := by
 rw [vM,List.drop_eq_getElem_cons h]; rfl
theorem vN {w : World} {s : ByteArray} (hs : s.size ≤ 2000) (hA : Asc w) : Cl Tryz.prog 14 #[.string s] w (fun u w' => (∃ v,u = .tuple #[v,.int .i64 0] ∧ SlC w' v 2 (aG s).length (xW (aG s))) ∧ Ext w w') := by
 obtain ⟨i,hi,hz,hsi,hby⟩ := Je;have hx := Ext.refl w;refine Cl.enter Tryz.func14 rfl Tryz.ntmps14 rfl rfl (.sr (.a2 rfl (.a2 rfl (.done (.seq (.sr (.m2 rfl (.t2 (cS Tryz.underlying9 rfl) ?_))))))))
 first | refine .tq (gB rfl rfl (by omega)) rfl ?_ | refine .tq (eN rfl rfl (by omega)) rfl ?_ | refine .tq (jF rfl rfl) rfl ?_
 refine .done (.condF rfl (Wp.skip (.sr (.a2 rfl (.done (.seq (Wp.block ?_)))))));refine Wp.loop (ι := ByteArray × List (Int × ByteArray) × Value) (fun j => [(0,.string j.1),(4,j.2.2)])
  (fun j w' => j.2.1 ++ aG j.1 = aG s ∧ j.1.size + j.2.1.length ≤ 2000 ∧ w'.ownsRow w.heap.size 43 2 j.2.2 j.2.1.length (xW j.2.1) ∧ Ext w w')
  (fun j => j.1.size) (s,[],.slice none 0 0) (by repeat (first | exact .nil | refine .cons rfl ?_)) ⟨rfl,hs,sO _ _ _ _,hx⟩ ?_
 clear hx;rintro ⟨r,l,v⟩ w3 ⟨he,hn,hown,hx⟩;simp only at he hn hown ⊢
 by_cases hlt : 0 < r.size
 ·have hin := kI hlt
  refine .seq (.sr (.m2 rfl (.t2 (cS Tryz.underlying9 rfl) ?_)))
  first | refine .tq (gB rfl rfl (by omega)) rfl ?_ | refine .tq (eN rfl rfl (by omega)) rfl ?_ | refine .tq (jF rfl rfl) rfl ?_
  refine .done (.condT rfl (Wp.skip (Wp.block (.sr (.m2 rfl ?_)))));refine Rg.wd trivial (aC Tryz.call29 rfl (Cy (by omega) hlt (hA.ext hx))) rfl ?_;rintro _ w1 ⟨rfl,hx1⟩;replace hown := cM hown hx1;replace hx := hx.ext hx1;refine .m2 rfl (.t2 (cA rfl rfl) (.t2 (cA rfl rfl) (.a2 rfl (.a2 rfl (.done (.sr (.m2 rfl (.m2 rfl (.m2 rfl (.m2 rfl ?_))))))))));refine .t2 (eK Tryz.underlying9 rfl rfl rfl (by omega)) ?_;refine .t2 (cH (Co _ _) rfl) (Rg.wd trivial (aD (H7 _ _) rfl) rfl ?_);rintro _ wb ⟨bb,rfl,qb,hxb,hvb⟩;replace hx := hx.ext hxb;replace hown := cM hown hxb;refine Rg.wd trivial (uR w.heap.size Tryz.underlying39 hi hz hsi hby rfl (by decide) rfl rfl hown rfl (fun j u hu => by rw [dF]; exact hvb.cells j u hu) (by simp [Value.oneCell']) (by unfold maxLen; omega) (by omega) hx.le) rfl ?_;rintro v2 wc ⟨hown2,hgr,p2,l2,c2,rfl⟩;replace hx := B9 hx hown hgr;refine .a2 rfl (.done (Wp.region (.m2 rfl (.m2 rfl ?_))));refine .t2 (eK Tryz.underlying9 rfl rfl rfl (by omega)) ?_;refine .a2 rfl (.done ?_);refine ⟨(r.extract (tok r).1 r.size,l ++ [((tok r).2,r.extract 0 (tok r).1)],.slice p2 l2 c2),by repeat (first | exact .nil | refine .cons rfl ?_),⟨?_,?_,?_,hx⟩,by simp only [eT]; omega⟩
  ·rw [← he,iR hlt,List.append_assoc]; rfl
  ·simp only [List.length_append,List.length_cons,List.length_nil,eT]; omega
  ·rw [pW,List.length_append]
   exact hown2
 ·have e0 : r.size = 0 := by omega
  rw [jQ e0,List.append_nil] at he;refine .seq (.sr (.m2 rfl (.t2 (cS Tryz.underlying9 rfl) ?_)))
  first | refine .tq (gB rfl rfl (by omega)) rfl ?_ | refine .tq (eN rfl rfl (by omega)) rfl ?_ | refine .tq (jF rfl rfl) rfl ?_
  refine .done (.condF rfl (Wp.exit (.sr (.m2 rfl (.a2 rfl (.a2 rfl (.done (Wp.ret ?_))))))));exact ⟨[_,_],⟨rfl,rfl,trivial⟩,⟨v,rfl,by rw [← he]; exact Ae hown⟩,hx⟩
end Go.Proofs.YtlndmiegodcfjaaGreatDoor.Lexi
namespace Go.Proofs.YtlndmiegodcfjaaGreatDoor.Par
set_option maxRecDepth 20000
open Go.Gx Go.RowKit Go.Lib
open Lexi (Asc)
theorem kM {w : World} {b t : Nat} {cs : List Value} {t0 : TypeId} (h : Var w b cs t) (ht : Ty Tryz.prog t0 cs.length true) : (loadVar t0 ⟨b,0,none⟩).run Tryz.prog w = .ok (.agg cs.toArray) w := by
 have hl : (loadCells ⟨b,0,none⟩ cs.length).run Tryz.prog w = .ok cs.toArray w := run_loadCells_list (P := Tryz.prog) w ⟨b,0,none⟩ cs (fun j v hv => by
  rw [dF]; exact h.cells j v hv)
 simp [loadVar,ht.ag,ht.sz,hl]
def eW (s : ByteArray) (t : Tr) : Prop := ∃ n r,run body n uE ⟨Lexi.aG s,[],false,0⟩ = some r ∧ t = .mk 1 fS r.kids
theorem eW.unique {s : ByteArray} {t u : Tr} (h : eW s t) (h' : eW s u) : t = u := by
 obtain ⟨n,r,h1,rfl⟩ := h;obtain ⟨m,q,h2,rfl⟩ := h';rw [pD h1 h2]
theorem vO (s : ByteArray) : 100 < (Lexi.tok s).2 := by
 unfold Lexi.tok
 repeat' split
 all_goals first | exact (by decide : (100 : Int) < 101) | exact (by decide : (100 : Int) < 102) | exact (by decide : (100 : Int) < 103) | exact (by decide : (100 : Int) < 104) | exact (by decide : (100 : Int) < 105) | exact (by decide : (100 : Int) < 106) | exact (by decide : (100 : Int) < 107) | exact (by decide : (100 : Int) < 108) | (show (100 : Int) < ite _ _ _; split <;> decide)
theorem A5 : ∀ s : ByteArray,∀ t ∈ Lexi.aG s,100 < t.1 := Lexi.iE fun s ih t ht => by
 rcases Nat.eq_zero_or_pos s.size with h | h
 ·rw [Lexi.jQ h] at ht
  cases ht
 ·rw [Lexi.iR h] at ht
  rcases List.mem_cons.1 ht with rfl | ht
  ·exact vO s
  ·refine ih _ ?_ t ht
   have := Lexi.kI h;rw [Lexi.eT];omega
theorem tF (s : ByteArray) : V (Lexi.aG s) := fun t ht => ⟨Lexi.Am s t ht,A5 s t ht⟩
theorem De (l : List Tok) : Lexi.xW l = aK Cz l := by
 induction l with
 | nil => rfl
 | cons t l ih => show _ :: _ :: Lexi.xW l = _ ++ aK Cz l; rw [ih]; rfl
theorem A6 (l : List Tok) : (Lexi.Al l).data.toList = tt l := by
 induction l with
 | nil => rfl
 | cons t l ih => show (t.2 ++ Lexi.Al l).data.toList = _; rw [Lexi.uY,ih]; rfl
theorem zD (s : ByteArray) : tt (Lexi.aG s) = s.data.toList := by rw [← A6,Lexi.Cf]
theorem B_tt (l : List Tok) : B l = (tt l).length := by
 induction l with
 | nil => rfl
 | cons t l ih => simp only [B,tt,List.map_cons,List.sum_cons,List.flatMap_cons,List.length_append] at ih ⊢; rw [ih]; simp
theorem Df (s : ByteArray) : B (Lexi.aG s) = s.size := by rw [B_tt,zD]; simp
theorem parsed (s : ByteArray) : ∃ r,eW s (.mk 1 fS r) ∧ gK r = s.data.toList ∧ qQ r ∧ fN r ≤ 24 * s.size ∧ jG r ≤ 2 * s.size + 7 := by
 obtain ⟨n,r,h1,h2,h3,h4,h5,h6,h7⟩ := rH (Lexi.aG s) (tF s);rw [Df] at h5 h7;exact ⟨r.kids,⟨n,r,h1,rfl⟩,h3.trans (zD s),h4,by omega,h7⟩
theorem vP {l : List Tok} (hv : V l) (h : (aO l).1 = 100) : lG l = [] := by
 induction l with
 | nil => rfl
 | cons t l ih =>
  simp only [aO,lG] at h ⊢
  split at h
  ·rename_i ht
   rw [if_pos ht];exact ih (fun u hu => hv u (List.mem_cons_of_mem _ hu)) h
  ·have := (hv t List.mem_cons_self).2
   omega
theorem Ps.vals {w0 : World} {tv : Value} {aG : List Tok} {F : Fs} {w : World} {bP : Nat} {below : List (Int × List Tr)} {k : Int} {s : S} (hC : Cx w0 tv aG) (hp : Ps w0 tv aG F w bP below k s) : V s.rem := by
 obtain ⟨g,_,_,h2,_⟩ := hp;rw [← h2];exact fun t ht => hC.val t (List.mem_of_mem_drop ht)
def Ij (w : World) (s : ByteArray) (u : Value) (w' : World) : Prop := ∃ g : Gt,u = .tuple #[.agg g.cells.toArray,.int .i64 0] ∧ eW s g.er ∧ GOk (fun z => w.heap.size ≤ z ∧ z < w'.heap.size) w' g ∧ Ext w w'
theorem Dh {w : World} {s : ByteArray} (hs : s.size ≤ 2000) (hA : Asc w) : Cl Tryz.prog 21 #[.string s] w (Ij w s) := by
 obtain ⟨nf,rf,hrun,hrem,_,_,hadd,_,_⟩ := rH (Lexi.aG s) (tF s);rw [Df] at hadd;obtain ⟨s1,hloop,hbump⟩ := aI hrun;obtain rfl := cN hbump;have hbig : s1.bump.adds ≤ fR := by show _ ≤ 1000000000; omega
 have hx := Ext.refl w;refine Cl.enter Tryz.func21 rfl Tryz.ntmps21 rfl rfl (.sr (Rg.wd trivial (dB Tryz.zeroValue54 rfl) rfl ?_));rintro _ w1 ⟨b2,rfl,q2,hx1,hv2⟩;replace hx := hx.ext hx1;have hl2 := hv2.lt;refine .a2 rfl (.done (.sr (.m2 rfl (Rg.wd trivial (aC Tryz.call14 rfl (Lexi.vN hs (hA.ext hx))) rfl ?_))));rintro _ w2 ⟨⟨tv,rfl,htv⟩,hx2⟩;replace hx := hx.ext hx2;replace hv2 := hv2.ext hx2;refine .m2 rfl (.t2 (cA rfl rfl) (.t2 (cA rfl rfl) (.a2 rfl (.a2 rfl (.done (.seq (.sr (.m2 rfl (.t2 (cU rfl rfl rfl) (.done (.condF rfl (Wp.skip ?_))))))))))));have hC : Cx w2 tv (Lexi.aG s) := ⟨hA.ext hx,by rw [← De]; exact htv,by have := Lexi.uZ s; omega,tF s⟩;have hW2 := hx2.le;obtain ⟨tp,tl,tcap,rfl⟩ : ∃ tp tl tcap,tv = .slice tp tl tcap := by
  obtain ⟨_,p,cap,e,_⟩ := htv;exact ⟨p,_,cap,e⟩
 refine .sr (.m2 rfl (.t2 (cH (mM _) rfl) (Rg.wd trivial (aD (jH _ _ _ _ _) rfl) rfl ?_)));rintro _ w3 ⟨b18,rfl,q18,hx3,hv18⟩;refine .t2 (cH (Cq _ _ _ _ _ _) rfl) (Rg.wd trivial (aW rfl rfl) rfl ?_);rintro _ w4 ⟨b20,rfl,q20,hx4,hv20⟩;have hl18 := hv18.lt;have hp : Ps w2 (.slice tp tl tcap) (Lexi.aG s) (fun z => z < w2.heap.size) w4 b20 [] 1 ⟨Lexi.aG s,[],false,0⟩ := by
  refine ⟨⟨b20,.slice (some ⟨b18,0,none⟩) 1 1,0,[⟨1,.slice none 0 0,[]⟩],fun _ => False⟩,⟨hx3.ext hx4,fun z hz => hz,fun z hz => Nat.lt_of_lt_of_le hz (hx3.ext hx4).le,fun z hz => hz.elim,hv20,bK (sp := []) (Nat.zero_le _) rfl (Nat.le_refl _) (by decide) rfl (hv18.ext hx4),fun f hf => ?_,fun f hf t ht => ?_,?_,fun b hb => ⟨fun hF => ?_,fun h => h⟩,fun z _ h => h⟩,rfl,rfl,Nat.zero_le _,rfl,fun f hf => ?_,Nat.le_refl _⟩
  ·obtain rfl : f = ⟨1,.slice none 0 0,[]⟩ := by simpa using hf
   exact ⟨rfl,.inl ⟨rfl,rfl⟩⟩
  ·obtain rfl : f = ⟨1,.slice none 0 0,[]⟩ := by simpa using hf
   cases ht
  ·simp [Pg.muts,Value.ownBlock]
   omega
  ·have := hx3.le
   simp [Pg.muts,Value.ownBlock] at hb;omega
  ·obtain rfl : f = ⟨1,.slice none 0 0,[]⟩ := by simpa using hf
   exact Nat.le_refl _
 clear hv18 hv20;refine .a2 rfl (.done (.seq (Wp.block ?_)));refine Wp.loop (ι := S × Nat) (fun _ => [(2,.pointer (some ⟨b2,0,none⟩)),(3,.int .i64 0),(6,.pointer (some ⟨b20,0,none⟩))])
  (fun i w' => Ps w2 (.slice tp tl tcap) (Lexi.aG s) (fun z => z < w2.heap.size) w' b20 [] 1 i.1 ∧ run body i.2 (.loop (fun t _ _ _ => t.1 != 100) (.call .item)) i.1 = some s1) (fun i => i.2) (⟨Lexi.aG s,[],false,0⟩,nf) (by repeat (first | exact .nil | refine .cons rfl ?_)) ⟨hp,hloop⟩ ?_
 clear hp;rintro ⟨sc,m⟩ wl ⟨hp,hrl⟩;simp only at hp hrl
 cases he : ((aO sc.rem).1 == 100) with
 | true =>
  have hval := hp.vals hC;obtain rfl := cL hrl (show S.test _ _ = false by simp only [S.test,bne,he]; rfl);refine .seq (.sr (.m2 rfl (Rg.wd trivial (aC Tryz.call35 rfl (fQ hC hp)) rfl ?_)));rintro _ w5 ⟨rfl,hx5⟩;replace hp := hp.extw hx5;rw [he];refine .t2 (bJ rfl) (.done (.condF rfl (Wp.exit (.sr (.m2 rfl ?_)))));refine Rg.wd trivial (aC Tryz.call37 rfl (lY hC hp (by rw [← lT (vP (hp.vals hC) (beq_iff_eq.1 he))]; exact hbig))) rfl ?_;rintro _ w6 ⟨hp6,hb6⟩;have hxp := Ps.ext hp6;replace hv2 := hv2.ext hxp;clear hp;refine .done ?_;obtain ⟨g,hW,e0,hd,hpos,hm,hks,hfl⟩ := hp6;obtain ⟨gP,sv,pos,frs,Q⟩ := g;simp only at e0 hd hpos hm hks hfl;subst e0;obtain ⟨f,rfl,em⟩ : ∃ f,frs = [f] ∧ (f.kind,kS f.kids) = (1,s1.skipT.kids) := by
   rcases frs with _ | ⟨f,_ | ⟨f2,l2⟩⟩
   ·simp at hm
   ·exact ⟨f,rfl,by simpa using hm⟩
   ·simp at hm
  obtain ⟨fk,cv,kl⟩ := f
  injection em with e3 e4
  simp only at e3 e4;subst e3;have hvar := hW.var;simp only at hvar;obtain ⟨gs,caps,sps,es,_,gs1,gs2,gs3,hS⟩ : ∃ gs caps sps,sv = .slice (some ⟨gs,0,none⟩) 1 caps ∧ 0 ≤ gs ∧ 1 ≤ caps ∧ caps ≤ maxLen ∧ sps.length = (caps - 1) * 3 ∧ Var w6 gs (aK Fr.cells [(⟨1,cv,kl⟩ : Fr)] ++ sps) 54 := by
   rcases bH hW.stk with ⟨_,h0⟩ | h
   ·simp at h0
   ·exact h
  subst es;have hcell : bF w6 gs (0 + (0 : Int).toNat * 3) [.int .i64 1,.string fS,cv] := by
   have := hS.cells.sub 0 3;exact this
  have hown := hW.kid ⟨1,cv,kl⟩ (by simp);have hok := hW.ok ⟨1,cv,kl⟩ (by simp);have hoff := hW.off;have hlt := hW.lt;have hfq := hW.fq;have hund := hW.undQ;have h1c : cv.oneCell' = true := by
   rcases bH hown with ⟨e,_⟩ | ⟨_,_,_,e,_⟩ <;> (have e : cv = _ := e; rw [e]; rfl)
  refine .sr (.m2 rfl (.t2 (aF rfl) (.t2 (aA eI rfl) (.t2 (aB eH rfl (hvar.g 2 rfl)) ?_))));refine .t2 (bI Tryz.underlying52 dA rfl rfl (by decide)) ?_;refine .t2 (bB rfl hcell dA) ?_;refine Rg.wn trivial (cW hv2 rfl rfl rfl dA rfl (by simp only [List.all_cons,h1c,List.all_nil]; rfl)) ?_;rintro _ w7 ⟨hu7,hv7⟩;refine .a2 rfl (.done (Wp.ret ?_));have hg : GOk (fun z => w.heap.size ≤ z ∧ z < w6.heap.size ∧ z ≠ b2) w6 (.mk 1 fS cv kl) := by
   have hw2 : w.heap.size ≤ w2.heap.size := hx.le;have hge : ∀ z,¬ z < w2.heap.size → w.heap.size ≤ z ∧ z ≠ b2 := fun z hz => by
    have := hl2;have := hx2.le;omega
   refine .mk (iP hown) h1c (fun b hb => ?_) fun t ht => (hok t ht).mono fun z hz => ?_
   ·have hm2 : b ∈ Pg.muts ⟨gP,.slice (some ⟨gs,0,none⟩) 1 caps,pos,[⟨1,cv,kl⟩],Q⟩ := by simp [Pg.muts,hb]
    exact ⟨(hge b (hoff b hm2).1).1,hlt b hm2,(hge b (hoff b hm2).1).2⟩
   ·exact ⟨(hge z fun hF => hfq z hF hz).1,hund z hz,(hge z fun hF => hfq z hF hz).2⟩
  refine ⟨[_,_],⟨⟨_,rfl,kM hv7 dA⟩,rfl,trivial⟩,.mk 1 fS cv kl,rfl,⟨nf,_,hrun,?_⟩,((hg.bw (G := fun z => w.heap.size ≤ z ∧ z < w6.heap.size ∧ z ≠ b2) (Bw.upd hu7 fun hh => hh.2.2 rfl) fun z hz => hz).mono fun z hz => ⟨hz.1,?_⟩),?_⟩
  ·show Tr.mk 1 fS (kS kl) = .mk 1 fS s1.bump.kids
   rw [e4,lT (vP hval (beq_iff_eq.1 he))]
  ·rw [hu7.size]
   exact hz.2.1
  ·exact (hx.ext hxp).upd hu7 (by omega)
 | false =>
  obtain ⟨m1,s2,rfl,hbody,hrest⟩ := dP hrl (show S.test _ _ = true by simp only [S.test,bne,he]; rfl);refine .seq (.sr (.m2 rfl (Rg.wd trivial (aC Tryz.call35 rfl (fQ hC hp)) rfl ?_)));rintro _ w5 ⟨rfl,hx5⟩;replace hp := hp.extw hx5;rw [he];refine .t2 (bJ rfl) (.done (.condT rfl (Wp.skip (Wp.block (Wp.region (.m2 rfl (Rg.wd trivial (aC Tryz.call36 rfl (bG (fun k _ => Ig hC k) hp hbody (Nat.le_trans (jU hrest) (Nat.le_trans (Nat.le_add_right _ _) hbig)))) rfl ?_)))))));rintro _ w6 ⟨_,hp6,hb6⟩;refine .done ?_;exact ⟨(s2,m1),by repeat (first | exact .nil | refine .cons rfl ?_),⟨hp6,hrest⟩,by simp only; omega⟩
end Go.Proofs.YtlndmiegodcfjaaGreatDoor.Par
namespace Go.Proofs.YtlndmiegodcfjaaGreatDoor.Ast
open Par
structure Hd where
 kind : Int
 value : Int
 text : ByteArray
 st : Int
 en : Int
 ns : Int
inductive An where
 | mk (h : Hd) (kids : List An)
def An.hd : An → Hd
 | .mk h _ => h
abbrev Dg := Int × Int × Int
def kd : Tr → Int
 | .mk k _ _ => k
def tx : Tr → ByteArray
 | .mk _ x _ => x
def ext (h : Hd) (s e : Int) : Hd := ⟨h.kind,h.value,h.text,if h.en < 0 then s else h.st,e,h.ns⟩
def nZ : List Int := [2,3,4,5,6,8,9,11,13,14,15,16,18,31,32,34,44]
def eM (k : Int) : Bool := nZ.contains k
def iM (h : Hd) (x : ByteArray) (s : Int) : Hd := if eM h.kind = true ∧ h.ns < 0 then ⟨h.kind,h.value,x,h.st,h.en,s⟩ else h
def Bl (x : ByteArray) : Nat := x.data.toList.foldl (fun a b => a * 10 + (b.toNat - 48)) 0
def zE (x : ByteArray) : Int := if Bl x ≤ 2147483647 then Bl x else 2147483647
def pX (x : ByteArray) : Nat → Nat → List UInt8 × List Nat
 | 0,_ => ([],[])
 | f + 1,i => if i + 1 < x.size then
   let c := x.data.toList.getD i 0
   if c = 92 then
    let e := x.data.toList.getD (i + 1) 0
    let r := pX x f (i + 2)
    if e = 110 then (10 :: r.1,r.2) else if e = 34 ∨ e = 92 then (e :: r.1,r.2) else (e :: r.1,(i + 1) :: r.2)
   else let r := pX x f (i + 1); (c :: r.1,r.2)
  else ([],[])
def pY (x : ByteArray) : ByteArray := ⟨(pX x x.size 1).1.toArray⟩
def tG (x : ByteArray) (s : Int) : List Dg := (pX x x.size 1).2.map fun (i : Nat) => (6,s + (i : Int) - 1,s + (i : Int) + 1)
def orI (a b : Int) : Int := IntKind.i64.wrap ((BitVec.ofInt 64 a ||| BitVec.ofInt 64 b).toNat : Nat)
def pZ (h : Hd) (v : Int) : Hd := ⟨h.kind,v,h.text,h.st,h.en,h.ns⟩
def Ik (h : Hd) (x : ByteArray) : Hd := ⟨h.kind,h.value,x,h.st,h.en,h.ns⟩
def flag (h : Hd) (x : ByteArray) : Hd :=
 if x = ⟨#[112,117,98]⟩ then pZ h (orI h.value 1) else if x = ⟨#[109,117,116]⟩ then pZ h (orI h.value 1)
 else if x = ⟨#[42]⟩ ∧ h.kind = 2 then pZ h (orI h.value 2) else if x = ⟨#[116,114,117,101]⟩ ∧ h.kind = 28 then pZ h 1
 else if (h.kind = 39 ∨ h.kind = 40) ∧ h.text = fS then Ik h x else h
def jD (h : Hd) (s : Int) (ds : List Dg) (k : Int) (x : ByteArray) : Hd × Int × List Dg :=
 let e := s + x.size
 if k = 101 ∨ k = 102 then (h,e,ds)
 else if k = 108 then (if x = fS then (h,e,ds ++ [(1,s,s)]) else (ext h s e,e,ds ++ [(3,s,e)]))
 else if k = 103 then (ext (iM h x s) s e,e,ds ++ (if 30 < x.size then [(5,s,e)] else []))
 else if k = 105 then (ext (pZ h (zE x)) s e,e,ds ++ (if Bl x ≤ 2147483647 then [] else [(4,s,e)]))
 else if k = 106 then (ext (Ik h (pY x)) s e,e,ds ++ tG x s)
 else (ext (flag h x) s e,e,ds)
def Bm (src : ByteArray) (h : Hd) (kids : List An) (ds : List Dg) : An × List Dg :=
 if h.kind = 60 then (match kids with
  | .mk c ks :: _ => (.mk ⟨c.kind,c.value,c.text,h.st,h.en,c.ns⟩ ks,ds)
  | [] => (.mk h [],ds))
 else if h.kind = 46 then (.mk ⟨46,0,src.extract h.st.toNat h.en.toNat,h.st,h.en,-1⟩ [],ds ++ [(if h.st = h.en then 1 else 2,h.st,h.en)])
 else (.mk h kids,ds)
def kU (h : Hd) : Hd := ⟨h.kind,h.value,h.text,h.st,max h.en h.st,h.ns⟩
def kN (src : ByteArray) (r : Hd × List An × Int × List Dg) : An × Int × List Dg := ((Bm src (kU r.1) r.2.1 r.2.2.2).1,r.2.2.1,(Bm src (kU r.1) r.2.1 r.2.2.2).2)
def qA (k off : Int) : Hd := ⟨k,0,fS,off,-1,-1⟩
mutual
def gV (src : ByteArray) : Tr → Int → List Dg → An × Int × List Dg
 | .mk k _ ks,off,ds => kN src (eD src ks (qA k off) [] off ds)
def eD (src : ByteArray) : List Tr → Hd → List An → Int → List Dg → Hd × List An × Int × List Dg
 | [],h,ns,off,ds => (h,ns,off,ds)
 | t :: l,h,ns,off,ds => if 100 ≤ kd t then (let q := jD h off ds (kd t) (tx t); eD src l q.1 ns q.2.1 q.2.2)
  else (let c := gV src t off ds; eD src l (ext h c.1.hd.st c.1.hd.en) (ns ++ [c.1]) c.2.1 c.2.2)
end
def rT (k : Int) (x : ByteArray) : Prop := k = 105 → 0 < x.size ∧ ∀ b ∈ x.data.toList,48 ≤ b.toNat ∧ b.toNat ≤ 57
mutual
def fine : Tr → Prop
 | .mk k _ ks => (k = 60 → ∃ c ∈ ks,kd c < 100) ∧ fY ks
def fY : List Tr → Prop
 | [] => True
 | t :: l => (if 100 ≤ kd t then rT (kd t) (tx t) else fine t) ∧ fY l
end
end Go.Proofs.YtlndmiegodcfjaaGreatDoor.Ast
namespace Go.Proofs.YtlndmiegodcfjaaGreatDoor.Ast
set_option maxRecDepth 20000
open Go.Gx Go.RowKit Go.Lib
open Lexi (Asc)
open Par
def Hd.cells (h : Hd) (cv : Value) : List Value := [.int .i64 h.kind,.int .i64 h.value,.string h.text,.int .i64 h.st,.int .i64 h.en,.int .i64 h.ns,cv]
inductive Mn where
 | mk (h : Hd) (cv : Value) (kids : List Mn)
def Mn.cells : Mn → List Value
 | .mk h cv _ => h.cells cv
def Mn.hd : Mn → Hd
 | .mk h _ _ => h
mutual
def Mn.er : Mn → An
 | .mk h _ ks => .mk h (dM ks)
def dM : List Mn → List An
 | [] => []
 | g :: l => g.er :: dM l
end
theorem kO (l : List Mn) : dM l = l.map Mn.er := by
 induction l with
 | nil => rfl
 | cons g l ih => simp [dM,ih]
theorem kP (l m : List Mn) : dM (l ++ m) = dM l ++ dM m := by simp [kO]
theorem fV (l : List Mn) : (dM l).length = l.length := by simp [kO]
inductive NOk (F : Fs) (w : World) : Mn → Prop where
 | mk {h : Hd} {cv : Value} {kids : List Mn} (hs : SlC w cv 7 kids.length (aK Mn.cells kids)) (h1 : cv.oneCell' = true) (hb : gI F cv) (hk : ∀ g ∈ kids,NOk F w g) : NOk F w (.mk h cv kids)
theorem NOk.bw {F G : Fs} {w w' : World} {g : Mn} (h : NOk F w g) (k : Bw G w w') (hs : ∀ z,F z → G z) : NOk G w' g := by
 induction h with
 | mk h1 h2 h3 h4 ih => exact .mk (iL h1 k (h3.mono hs)) h2 (h3.mono hs) ih
theorem NOk.mono {F G : Fs} {w : World} {g : Mn} (h : NOk F w g) (hs : ∀ z,F z → G z) : NOk G w g := h.bw (Bw.refl G w) hs
theorem Hd.one (h : Hd) {cv : Value} (hc : cv.oneCell' = true) : (h.cells cv).all (·.oneCell') = true := by
 simp only [Hd.cells,List.all_cons,hc];rfl
theorem NOk.one {F : Fs} {w : World} {g : Mn} (h : NOk F w g) : ∀ u ∈ g.cells,u.oneCell' = true := by
 cases h with
 | mk h1 h2 h3 h4 => exact List.all_eq_true.1 (Hd.one _ h2)
theorem NOk.oneL {F : Fs} {w : World} {g : Mn} (h : NOk F w g) : g.cells.all (·.oneCell') = true := List.all_eq_true.2 h.one
theorem Mn.len (g : Mn) : g.cells.length = 7 := by cases g; rfl
def fG (d : Dg) : List Value := [.int .i64 d.1,.int .i64 0,.int .i64 d.2.1,.int .i64 d.2.2,.string ⟨#[]⟩]
theorem dR (d : Dg) : (fG d).length = 5 := rfl
structure BdV (F : Fs) (w : World) (b : Nat) (src : ByteArray) (off : Int) (ds : List Dg) (dv : Value) : Prop where
 und : Und F w.heap.size
 var : Var w b [.string src,.int .i64 off,dv] 59
 row : w.ownsRow 0 63 5 dv ds.length (aK fG ds)
 nb : ¬ F b
 nd : ∀ z,dv.ownBlock = some z → ¬ F z
def Bd (F : Fs) (w : World) (b : Nat) (src : ByteArray) (off : Int) (ds : List Dg) : Prop := ∃ dv,BdV F w b src off ds dv
theorem BdV.ext {F : Fs} {w w' : World} {b : Nat} {src : ByteArray} {off : Int} {ds : List Dg} {dv : Value} (h : BdV F w b src off ds dv) (x : Ext w w') : BdV F w' b src off ds dv :=
 ⟨fun z hz => Nat.lt_of_lt_of_le (h.und z hz) x.le,h.var.ext x,cM h.row x,h.nb,h.nd⟩
theorem Bd.ext {F : Fs} {w w' : World} {b : Nat} {src : ByteArray} {off : Int} {ds : List Dg} (h : Bd F w b src off ds) (x : Ext w w') : Bd F w' b src off ds := ⟨_,h.choose_spec.ext x⟩
theorem Bd.und {F : Fs} {w : World} {b : Nat} {src : ByteArray} {off : Int} {ds : List Dg} (h : Bd F w b src off ds) : Und F w.heap.size := h.choose_spec.und
theorem Bd.sub {F G : Fs} {w : World} {b : Nat} {src : ByteArray} {off : Int} {ds : List Dg} (h : Bd G w b src off ds) (hs : ∀ z,F z → G z) : Bd F w b src off ds := by
 obtain ⟨dv,h⟩ := h;exact ⟨dv,fun z hz => h.und z (hs z hz),h.var,h.row,fun hb => h.nb (hs _ hb),fun z hz hf => h.nd z hz (hs _ hf)⟩
theorem Bd.add {F : Fs} {w w' : World} {b k : Nat} {src : ByteArray} {off : Int} {ds : List Dg} (h : Bd F w b src off ds) (x : Ext w w') (hk : w.heap.size ≤ k) (hk' : k < w'.heap.size) : Bd (fun z => F z ∨ z = k) w' b src off ds := by
 obtain ⟨dv,h⟩ := h;have hb := h.var.lt;refine ⟨dv,fun z hz => ?_,h.var.ext x,cM h.row x,fun hz => ?_,fun z hz hf => ?_⟩
 ·rcases hz with hz | rfl
  ·exact Nat.lt_of_lt_of_le (h.und z hz) x.le
  ·exact hk'
 ·rcases hz with hz | rfl
  ·exact h.nb hz
  ·omega
 ·rcases hf with hf | rfl
  ·exact h.nd z hz hf
  ·have := jI h.row hz
   omega
theorem Bd.few {F : Fs} {w : World} {b : Nat} {src : ByteArray} {off : Int} {ds : List Dg} (h : Bd F w b src off ds) : b < w.heap.size := h.choose_spec.var.lt
theorem Bd.upd {F : Fs} {w w' : World} {b k t : Nat} {cs : List Value} {src : ByteArray} {off : Int} {ds : List Dg} (h : Bd F w b src off ds) (hv : Var w k cs t) (ht : t ≠ 59) (ht2 : t ≠ 63) (hu : Upd k w w') : Bd F w' b src off ds := by
 obtain ⟨dv,h⟩ := h;refine ⟨dv,fun z hz => by rw [hu.size]; exact h.und z hz,h.var.upd hu (Ne.symm (Var.ne hv h.var ht)),fK h.row (Bw.upd (F := fun z => z ≠ k) hu fun hh => hh rfl) fun z hz e => ?_,h.nb,h.nd⟩;exact fU h.row hv ht2 (by rw [← e,hz]; simp)
theorem rU {α : Type} (f : α → List Value) (l : List α) (a : α) : aK f (l ++ [a]) = aK f l ++ f a := by simp [aK]
theorem BdV.app {F : Fs} {w w' : World} {b : Nat} {src : ByteArray} {off : Int} {ds : List Dg} {dv v' : Value} {d : Dg} (h : BdV F w b src off ds dv) (hap : AppR w 63 5 ds.length 1 dv (aK fG ds ++ fG d) v' w') :
  ∃ gk capk spk,v' = .slice (some ⟨gk,0,none⟩) (ds.length + 1) capk ∧ ds.length + 1 ≤ capk ∧ capk ≤ maxLen ∧ spk.length = (capk - (ds.length + 1)) * 5 ∧ Var w' gk (aK fG (ds ++ [d]) ++ spk) 63 ∧ Var w' b [.string src,.int .i64 off,dv] 59 ∧ Bw F w w' ∧ ¬ F gk := by
 obtain ⟨gk,capk,spk,rfl,h1,h2,h3,h4,h5⟩ := hap;rw [← rU] at h4;have hfr : ¬ F gk := by
  rcases h5 with ⟨⟨c,e⟩,_⟩ | ⟨e,_⟩
  ·exact h.nd gk (by rw [e]; rfl)
  ·exact fun hf => by have := h.und gk hf; omega
 have hb := h.var.lt;refine ⟨gk,capk,spk,rfl,h1,h2,h3,h4,?_,?_,hfr⟩
 ·rcases h5 with ⟨⟨c,e⟩,hu⟩ | ⟨_,hx⟩
  ·refine h.var.upd hu fun e2 => ?_
   subst e2;exact fU h.row h.var (by decide) (by rw [e]; simp [Value.ownBlock])
  ·exact h.var.ext hx
 ·rcases h5 with ⟨⟨c,e⟩,hu⟩ | ⟨_,hx⟩
  ·exact Bw.upd hu hfr
  ·exact Bw.of hx h.und
theorem BdV.push {F : Fs} {w w' : World} {b gk capk : Nat} {src : ByteArray} {off : Int} {ds : List Dg} {spk : List Value} (hF : Und F w.heap.size) (nb : ¬ F b) (hB : Bw F w w') (hv : Var w' b [.string src,.int .i64 off,.slice (some ⟨gk,0,none⟩) ds.length capk] 59) (h1 : ds.length ≤ capk) (h2 : capk ≤ maxLen) (h3 : spk.length = (capk - ds.length) * 5) (hk : Var w' gk (aK fG ds ++ spk) 63) (hfr : ¬ F gk) :
  Bd F w' b src off ds :=
 ⟨_,fun z hz => Nat.lt_of_lt_of_le (hF z hz) hB.size,hv,bK (Nat.zero_le _) (aQ dR _) h1 h2 h3 hk,nb,fun z hz => by cases hz; exact hfr⟩
theorem gJ {F : Fs} {w : World} {b : Nat} {src : ByteArray} {off code st en : Int} {ds : List Dg} (h : Bd F w b src off ds) (hl : ds.length < 1000000) :
  Cl Tryz.prog 84 #[.pointer (some ⟨b,0,none⟩),.int .i64 code,.int .i64 st,.int .i64 en] w (fun u w' => Bd F w' b src off (ds ++ [(code,st,en)]) ∧ Bw F w w') := by
 obtain ⟨dv,h⟩ := h;have hx := Ext.refl w;obtain ⟨i80,hi,hz,hsi,hby⟩ := Jf;have hv := h.var;refine Cl.enter Tryz.func84 rfl Tryz.ntmps84 rfl rfl (Wp.region (.m2 rfl (.m2 rfl (.t2 (aF rfl) (.t2 (aA sR rfl) (.t2 (aB Cg rfl (hv.g 2 rfl)) (.m2 rfl (.m2 rfl (.m2 rfl (.t2 (cH (xE _ _ _) rfl) (Rg.wd trivial (aD (H4 _ _ _ _ _) rfl) rfl ?_)))))))))));rintro _ w1 ⟨bb,rfl,qb,hx1,hvb⟩;replace hx := hx.ext hx1;replace hv := hv.ext hx1;refine Rg.wd trivial (bL Tryz.underlying27 hi hz hsi hby rfl rfl rfl (cM h.row hx) (bX hvb rfl) (by simp [Value.oneCell']) (by decide) (by unfold maxLen; omega) (by omega)) rfl ?_;rintro v2 wP hap;obtain ⟨gk,capk,spk,rfl,h1,h2,h3,hvk,hvP,hB,hfr⟩ := (h.ext hx).app (d := (code,st,en)) hap;have hne : gk ≠ b := Var.ne hvk hvP (by decide);refine .t2 (aF rfl) (.t2 (aA sR rfl) (Rg.wn trivial (cG hvP Cg rfl rfl rfl rfl rfl) ?_));rintro _ wS ⟨huS,hvS⟩;simp only [List.set] at hvS;have hBS := (Bw.of hx h.und).trans (hB.trans (Bw.upd huS h.nb));refine .done ?_;refine ⟨[],trivial,BdV.push h.und h.nb hBS ?_ (by simpa using h1) h2 (by simpa using h3) (hvk.upd huS hne) hfr,hBS⟩
 simpa using hvS
theorem vQ (k : Nat) (w : World) : Upd k w w := ⟨rfl,rfl,rfl,rfl,fun _ _ => rfl⟩
theorem jW {k : Nat} {a b c : World} (h : Upd k a b) (g : Upd k b c) : Upd k a c := ⟨g.os.trans h.os,g.tape.trans h.tape,g.output.trans h.output,g.size.trans h.size,fun i hi => (g.block i hi).trans (h.block i hi)⟩
theorem iU {w : World} {k : Nat} {h : Hd} {cv : Value} {s e : Int} (hv : Var w k (h.cells cv) 26) : Cl Tryz.prog 39 #[.pointer (some ⟨k,0,none⟩),.int .i64 s,.int .i64 e] w (fun u w' => Var w' k ((ext h s e).cells cv) 26 ∧ Upd k w w') := by
 have hu := vQ k w
 by_cases hc : h.en < 0
 ·skip
  refine Cl.enter Tryz.func39 rfl Tryz.ntmps39 rfl rfl (.seq (.sr (.m2 rfl (.t2 (aF rfl) (.t2 (aA dV rfl) (.t2 (aB bA rfl (hv.g 4 rfl)) ?_))))));refine .t2 (bN rfl rfl (by omega)) ?_;refine .done (.condT rfl (Wp.region (.m2 rfl (.m2 rfl (.t2 (aF rfl) (.t2 (aA eU rfl) (Rg.wn trivial (cG hv bA rfl rfl rfl rfl rfl) ?_)))))));rintro _ w1 ⟨hu1,hv1⟩;replace hu := jW hu hu1;clear hv;have hv := hv1;clear hv1;simp only [Hd.cells,List.set] at hv;refine .done (Wp.region (.m2 rfl (.m2 rfl (.t2 (aF rfl) (.t2 (aA dV rfl) (Rg.wn trivial (cG hv bA rfl rfl rfl rfl rfl) ?_))))));rintro _ w2 ⟨hu2,hv2⟩;replace hu := jW hu hu2;clear hv;have hv := hv2;clear hv2;simp only [Hd.cells,List.set] at hv;refine .done ?_;exact ⟨[],trivial,by simpa only [ext,Hd.cells,if_pos hc] using hv,hu⟩
 ·skip
  refine Cl.enter Tryz.func39 rfl Tryz.ntmps39 rfl rfl (.seq (.sr (.m2 rfl (.t2 (aF rfl) (.t2 (aA dV rfl) (.t2 (aB bA rfl (hv.g 4 rfl)) ?_))))));refine .t2 (bO rfl rfl (by omega)) ?_;refine .done (.condF rfl (Wp.skip (Wp.region (.m2 rfl (.m2 rfl (.t2 (aF rfl) (.t2 (aA dV rfl) (Rg.wn trivial (cG hv bA rfl rfl rfl rfl rfl) ?_))))))));rintro _ w2 ⟨hu2,hv2⟩;replace hu := jW hu hu2;clear hv;have hv := hv2;clear hv2;simp only [Hd.cells,List.set] at hv;refine .done ?_;exact ⟨[],trivial,by simpa only [ext,Hd.cells,if_neg hc] using hv,hu⟩
section
variable {n : Nat} {L : Env} {w : World} {d : Option Tmp} {ty : TypeId} {pos : String} {af : Array Edge} {g : Option (Nat × Bool)}
theorem Di {t t' : TypeId} {x y : Operand} {u v : Int} (hx : cF L x = some (.int .i64 u)) (hy : cF L y = some (.int .i64 v)) : Tm Tryz.prog n ⟨d,.binOp .or t x y t',ty,pos,af,g⟩ L w (.int .i64 (orI u v)) := fun a ha w' _ => by
 simp only [execOp,eqGuard,binOp,Op.intBits,ha.eval hx,ha.eval hy];rfl
end
theorem pT {w : World} {v : Value} {zs : List Int} {x : Int} (hz : SlC w v 1 zs.length (zs.map (.int .i64))) (hl : zs.length ≤ 1000000) : Cl Tryz.prog 202 #[v,.int .i64 x] w (fun u w' => (∃ r : Int,u = .int .i64 r ∧ (0 ≤ r ↔ zs.contains x = true)) ∧ w = w') := by
 refine Cl.enter Tryz.func202 rfl Tryz.ntmps202 rfl rfl (.sr (.a2 rfl (.done (.seq (.sr (.m2 rfl (.t2 (dD hz Tryz.underlying34 rfl) (.m2 rfl (.done (Wp.block ?_))))))))));refine Wp.loop (ι := Nat) (fun k => [(0,v),(1,.int .i64 x),(6,v),(7,.int .i64 zs.length),(8,.int .i64 k)])
  (fun k w' => k ≤ zs.length ∧ (∀ j (h : j < zs.length),j < k → x ≠ zs[j]) ∧ w = w') (fun k => zs.length - k) 0 (by repeat (first | exact .nil | refine .cons rfl ?_)) ⟨Nat.zero_le _,fun j _ h => absurd h (Nat.not_lt_zero _),rfl⟩ ?_
 rintro k _ ⟨hk,hno,rfl⟩
 by_cases hlt : k < zs.length
 ·by_cases he : x = zs[k]
  ·skip
   refine .sr ?_
   first | refine .tq (bN rfl rfl (by omega)) rfl ?_ | refine .tq (bO rfl rfl (by omega)) rfl ?_ | refine .tq (cT rfl rfl) rfl ?_
   refine .done (.seq (.condT rfl (Wp.skip (.seq (Wp.block (.sr (.m2 rfl (.a2 rfl (.done (.sr (.m2 rfl (.m2 rfl ?_))))))))))));refine .m2 rfl ?_;refine Rg.ix hz trivial rfl rfl Tryz.underlying34 bA (by omega) rfl ?_;intro bt14 ot14 ht14;rw [Int.toNat_natCast,Nat.mul_one,show ((zs.map (Value.int .i64)).drop k).take 1 = [.int .i64 zs[k]] from by rw [List.drop_eq_getElem_cons (by simpa using hlt)]; simp] at ht14;refine .t2 (aB bA rfl (bF.get (i := 0) ht14 rfl)) (.t2 (aS rfl rfl he) (.done (.condT rfl (.sr (.m2 rfl (.a2 rfl (.done (Wp.ret ?_))))))));exact ⟨[_],⟨rfl,trivial⟩,⟨k,rfl,⟨fun _ => by rw [List.contains_iff_mem]; exact he ▸ List.getElem_mem hlt,fun _ => by omega⟩⟩,rfl⟩
  ·skip
   refine .sr ?_
   first | refine .tq (bN rfl rfl (by omega)) rfl ?_ | refine .tq (bO rfl rfl (by omega)) rfl ?_ | refine .tq (cT rfl rfl) rfl ?_
   refine .done (.seq (.condT rfl (Wp.skip (.seq (Wp.block (.sr (.m2 rfl (.a2 rfl (.done (.sr (.m2 rfl (.m2 rfl ?_))))))))))));refine .m2 rfl ?_;refine Rg.ix hz trivial rfl rfl Tryz.underlying34 bA (by omega) rfl ?_;intro bt14 ot14 ht14;rw [Int.toNat_natCast,Nat.mul_one,show ((zs.map (Value.int .i64)).drop k).take 1 = [.int .i64 zs[k]] from by rw [List.drop_eq_getElem_cons (by simpa using hlt)]; simp] at ht14;refine .t2 (aB bA rfl (bF.get (i := 0) ht14 rfl)) (.t2 (aR rfl rfl he) (.done (.condF rfl (Wp.skip (Wp.region ?_)))))
   first | refine .tq (bC rfl rfl (by omega)) rfl ?_ | refine .tq (bV rfl rfl) rfl ?_
   refine .m2 rfl (.done ?_);exact ⟨k + 1,by repeat (first | exact .nil | refine .cons rfl ?_),⟨hlt,fun j h hj => by rcases Nat.lt_succ_iff_lt_or_eq.1 hj with c | c; exact hno j h c; subst c; exact he,rfl⟩,by omega⟩
 ·skip
  refine .sr ?_
  first | refine .tq (bN rfl rfl (by omega)) rfl ?_ | refine .tq (bO rfl rfl (by omega)) rfl ?_ | refine .tq (cT rfl rfl) rfl ?_
  refine .done (.seq (.condF rfl (Wp.exit (.sr (.a2 rfl (.done (Wp.ret ?_)))))));refine ⟨[_],⟨rfl,trivial⟩,⟨-1,rfl,⟨fun h => absurd h (by decide),fun hc => ?_⟩⟩,rfl⟩;obtain ⟨j,hj,e⟩ := List.getElem_of_mem (List.contains_iff_mem.1 hc);exact absurd e.symm (hno j hj (by omega))
theorem eL {w : World} {v : Value} {zs : List Int} {x : Int} (hz : SlC w v 1 zs.length (zs.map (.int .i64))) (hl : zs.length ≤ 1000000) : Cl Tryz.prog 176 #[v,.int .i64 x] w (fun u w' => u = .bool (zs.contains x) ∧ w = w') := by
 refine Cl.enter Tryz.func176 rfl Tryz.ntmps176 rfl rfl (.sr (.a2 rfl (.done (.sr (.m2 rfl (.m2 rfl (Rg.wd trivial (aC Tryz.call202 rfl (pT hz hl)) rfl ?_)))))));rintro _ _ ⟨⟨r,rfl,hr⟩,rfl⟩;obtain ⟨cb,hcb⟩ : ∃ cb : Bool,decide (0 ≤ r) = cb := ⟨_,rfl⟩;have hcz : zs.contains x = cb := by
  rw [← hcb]
  by_cases h0 : 0 ≤ r
  ·rw [hr.1 h0]; simp [h0]
  ·cases hq : zs.contains x with
   | false => simp [h0]
   | true => exact absurd (hr.2 hq) h0
 rw [hcz];refine .t2 (fO rfl rfl) ?_;rw [hcb];refine .a2 rfl (.done (Wp.ret ?_));exact ⟨[_],⟨rfl,trivial⟩,rfl,rfl⟩
theorem gZ {w : World} {k : Int} : Cl Tryz.prog 135 #[.int .i64 k] w (fun u w' => u = .bool (eM k) ∧ Ext w w') := by
 have hx := Ext.refl w;refine Cl.enter Tryz.func135 rfl Tryz.ntmps135 rfl rfl (.sr (.a2 rfl (.done (.sr (Rg.wd trivial (aD (E0 _ _ _ _ _ _ _ _ _ _ _ _ _ _ _ _ _) rfl) rfl ?_)))));rintro _ w1 ⟨bb,rfl,qb,hx1,hvb⟩;replace hx := hx.ext hx1;have hsk : SlC w1 (.slice (some ⟨bb,0,none⟩) 17 17) 1 nZ.length (nZ.map (.int .i64)) := ⟨rfl,_,_,rfl,by decide,.inr ⟨bb,0,rfl,hvb.cells⟩⟩;refine .m2 rfl ?_;refine Rg.wd trivial (aC Tryz.call176 rfl (eL hsk (by decide))) rfl ?_;rintro _ _ ⟨rfl,rfl⟩;refine .a2 rfl (.done (Wp.ret ?_));exact ⟨[_],⟨rfl,trivial⟩,rfl,hx⟩
structure Tk (F : Fs) (w : World) (b k : Nat) (src : ByteArray) (off : Int) (ds : List Dg) (h : Hd) (cv : Value) : Prop where
 bd : Bd (fun z => F z ∨ z = k) w b src off ds
 var : Var w k (h.cells cv) 26
 nk : ¬ F k
section
variable {F : Fs} {w w' : World} {b k : Nat} {src x : ByteArray} {off s e : Int} {ds ds' : List Dg} {h h' : Hd} {cv : Value}
theorem Tk.und (T : Tk F w b k src off ds h cv) : Und F w.heap.size := fun z hz => T.bd.und z (.inl hz)
theorem Tk.ext (T : Tk F w b k src off ds h cv) (hx : Ext w w') : Tk F w' b k src off ds h cv := ⟨T.bd.ext hx,T.var.ext hx,T.nk⟩
theorem Tk.rep (T : Tk F w b k src off ds h cv) (hb : Bd (fun z => F z ∨ z = k) w' b src off ds') (hB : Bw (fun z => F z ∨ z = k) w w') : Tk F w' b k src off ds' h cv := ⟨hb,aE T.var hB (.inr rfl),T.nk⟩
theorem Tk.put (T : Tk F w b k src off ds h cv) (hu : Upd k w w') (hv : Var w' k (h'.cells cv) 26) : Tk F w' b k src off ds h' cv := ⟨T.bd.upd T.var (by decide) (by decide) hu,hv,T.nk⟩
theorem Tk.bwx (T : Tk F w b k src off ds h cv) (hx : Ext w w') : Bw F w w' := Bw.of hx T.und
theorem Tk.bvar (T : Tk F w b k src off ds h cv) : ∃ dv,Var w b [.string src,.int .i64 off,dv] 59 := ⟨_,T.bd.choose_spec.var⟩
end
theorem nE (h : Hd) (x : ByteArray) (s : Int) : (eM h.kind = true ∧ h.ns < 0 ∧ iM h x s = ⟨h.kind,h.value,x,h.st,h.en,s⟩) ∨ (eM h.kind = true ∧ ¬ h.ns < 0 ∧ iM h x s = h) ∨ (eM h.kind = false ∧ iM h x s = h) := by
 unfold iM
 by_cases h1 : eM h.kind = true
 ·by_cases h2 : h.ns < 0
  ·exact .inl ⟨h1,h2,if_pos ⟨h1,h2⟩⟩
  ·exact .inr (.inl ⟨h1,h2,if_neg fun e => h2 e.2⟩)
 ·exact .inr (.inr ⟨by simpa using h1,if_neg fun e => h1 e.1⟩)
theorem qW {F : Fs} {w : World} {b k : Nat} {src x : ByteArray} {s e : Int} {ds : List Dg} {h : Hd} {cv : Value} (T : Tk F w b k src e ds h cv) (hl : ds.length < 1000000) (hxs : x.size ≤ 1000000) :
  Cl Tryz.prog 85 #[.pointer (some ⟨b,0,none⟩),.pointer (some ⟨k,0,none⟩),.string x,.int .i64 s] w (fun u w' => Tk F w' b k src e (ds ++ (if 30 < x.size then [(5,s,e)] else [])) (iM h x s) cv ∧ Bw F w w') := by
 have hB := Bw.refl F w
 by_cases hc : 30 < x.size
 ·rw [if_pos hc]
  refine Cl.enter Tryz.func85 rfl Tryz.ntmps85 rfl rfl (.seq (.sr (.m2 rfl (.t2 (cS Tryz.underlying9 rfl) ?_))));refine .t2 (gB rfl rfl (by omega)) ?_;refine .done (.condT rfl ?_);obtain ⟨dv,hbv⟩ := T.bvar;refine Wp.region (.m2 rfl (.m2 rfl (.m2 rfl (.t2 (aF rfl) (.t2 (aA cQ rfl) (.t2 (aB bA rfl (hbv.g 1 rfl)) (Rg.wd trivial (aC Tryz.call84 rfl (gJ T.bd hl)) rfl ?_)))))));rintro _ w1 ⟨hb1,hB1⟩;replace hB := hB.trans (hB1.sub fun z hz => .inl hz);replace T := T.rep hb1 hB1;clear hb1 hB1 hbv;refine .done ?_
  rcases nE h x s with ⟨h1,h2,hI⟩ | ⟨h1,h2,hI⟩ | ⟨h1,hI⟩ <;> rw [hI] <;> clear hI
  ·skip
   refine .sr (.m2 rfl (.t2 (aF rfl) (.t2 (aA aZ rfl) (.t2 (aB bA rfl (T.var.g 0 rfl)) (Rg.wd trivial (aC Tryz.call135 rfl gZ) rfl ?_)))));rintro _ w5 ⟨rfl,hx5⟩;replace hB := hB.trans (T.bwx hx5);replace T := T.ext hx5;rw [h1];refine .m2 rfl ?_
   first | refine .gd (aP rfl) rfl ?_ | refine .so rfl rfl ?_
   first | refine .gd (aF rfl) rfl ?_ | refine .so rfl rfl ?_
   first | refine .gd (aA gD rfl) rfl ?_ | refine .so rfl rfl ?_
   refine .g2 (aB bA rfl (T.var.g 5 rfl)) ?_
   first | refine .gd (bN rfl rfl (by omega)) rfl ?_ | refine .gd (bO rfl rfl (by omega)) rfl ?_ | refine .gd (cT rfl rfl) rfl ?_ | refine .so rfl rfl ?_
   first | refine .tq (aJ rfl rfl) rfl ?_ | refine .tq (aN rfl rfl) rfl ?_
   refine .done (.condT rfl (Wp.region (.m2 rfl (.m2 rfl (.m2 rfl (.m2 rfl (.t2 (aF rfl) (.t2 (aA fP rfl) (Rg.wn trivial (cG T.var hY rfl rfl rfl rfl rfl) ?_)))))))));rintro _ w6 ⟨hu6,hv6⟩;simp only [Hd.cells,List.set] at hv6;refine .t2 (aF rfl) (.t2 (aA gD rfl) (Rg.wn trivial (cG hv6 bA rfl rfl rfl rfl rfl) ?_));rintro _ w7 ⟨hu7,hv7⟩;simp only [Hd.cells,List.set] at hv7;refine .done ?_;have hu := jW hu6 hu7;exact ⟨[],trivial,T.put hu hv7,hB.trans (Bw.upd hu T.nk)⟩
  ·skip
   refine .sr (.m2 rfl (.t2 (aF rfl) (.t2 (aA aZ rfl) (.t2 (aB bA rfl (T.var.g 0 rfl)) (Rg.wd trivial (aC Tryz.call135 rfl gZ) rfl ?_)))));rintro _ w5 ⟨rfl,hx5⟩;replace hB := hB.trans (T.bwx hx5);replace T := T.ext hx5;rw [h1];refine .m2 rfl ?_
   first | refine .gd (aP rfl) rfl ?_ | refine .so rfl rfl ?_
   first | refine .gd (aF rfl) rfl ?_ | refine .so rfl rfl ?_
   first | refine .gd (aA gD rfl) rfl ?_ | refine .so rfl rfl ?_
   refine .g2 (aB bA rfl (T.var.g 5 rfl)) ?_
   first | refine .gd (bN rfl rfl (by omega)) rfl ?_ | refine .gd (bO rfl rfl (by omega)) rfl ?_ | refine .gd (cT rfl rfl) rfl ?_ | refine .so rfl rfl ?_
   first | refine .tq (aJ rfl rfl) rfl ?_ | refine .tq (aN rfl rfl) rfl ?_
   refine .done (.condF rfl (Wp.skip ?_));exact ⟨[],trivial,T,hB⟩
  ·skip
   refine .sr (.m2 rfl (.t2 (aF rfl) (.t2 (aA aZ rfl) (.t2 (aB bA rfl (T.var.g 0 rfl)) (Rg.wd trivial (aC Tryz.call135 rfl gZ) rfl ?_)))));rintro _ w5 ⟨rfl,hx5⟩;replace hB := hB.trans (T.bwx hx5);replace T := T.ext hx5;rw [h1];refine .m2 rfl ?_
   first | refine .gd (aP rfl) rfl ?_ | refine .so rfl rfl ?_
   first | refine .gd (aF rfl) rfl ?_ | refine .so rfl rfl ?_
   first | refine .gd (aA gD rfl) rfl ?_ | refine .so rfl rfl ?_
   refine .so rfl rfl ?_
   first | refine .gd (bN rfl rfl (by omega)) rfl ?_ | refine .gd (bO rfl rfl (by omega)) rfl ?_ | refine .gd (cT rfl rfl) rfl ?_ | refine .so rfl rfl ?_
   first | refine .tq (aJ rfl rfl) rfl ?_ | refine .tq (aN rfl rfl) rfl ?_
   refine .done (.condF rfl (Wp.skip ?_));exact ⟨[],trivial,T,hB⟩
 ·rw [if_neg hc,List.append_nil]
  refine Cl.enter Tryz.func85 rfl Tryz.ntmps85 rfl rfl (.seq (.sr (.m2 rfl (.t2 (cS Tryz.underlying9 rfl) ?_))));refine .t2 (eN rfl rfl (by omega)) ?_;refine .done (.condF rfl (Wp.skip ?_))
  rcases nE h x s with ⟨h1,h2,hI⟩ | ⟨h1,h2,hI⟩ | ⟨h1,hI⟩ <;> rw [hI] <;> clear hI
  ·skip
   refine .sr (.m2 rfl (.t2 (aF rfl) (.t2 (aA aZ rfl) (.t2 (aB bA rfl (T.var.g 0 rfl)) (Rg.wd trivial (aC Tryz.call135 rfl gZ) rfl ?_)))));rintro _ w5 ⟨rfl,hx5⟩;replace hB := hB.trans (T.bwx hx5);replace T := T.ext hx5;rw [h1];refine .m2 rfl ?_
   first | refine .gd (aP rfl) rfl ?_ | refine .so rfl rfl ?_
   first | refine .gd (aF rfl) rfl ?_ | refine .so rfl rfl ?_
   first | refine .gd (aA gD rfl) rfl ?_ | refine .so rfl rfl ?_
   refine .g2 (aB bA rfl (T.var.g 5 rfl)) ?_
   first | refine .gd (bN rfl rfl (by omega)) rfl ?_ | refine .gd (bO rfl rfl (by omega)) rfl ?_ | refine .gd (cT rfl rfl) rfl ?_ | refine .so rfl rfl ?_
   first | refine .tq (aJ rfl rfl) rfl ?_ | refine .tq (aN rfl rfl) rfl ?_
   refine .done (.condT rfl (Wp.region (.m2 rfl (.m2 rfl (.m2 rfl (.m2 rfl (.t2 (aF rfl) (.t2 (aA fP rfl) (Rg.wn trivial (cG T.var hY rfl rfl rfl rfl rfl) ?_)))))))));rintro _ w6 ⟨hu6,hv6⟩;simp only [Hd.cells,List.set] at hv6;refine .t2 (aF rfl) (.t2 (aA gD rfl) (Rg.wn trivial (cG hv6 bA rfl rfl rfl rfl rfl) ?_));rintro _ w7 ⟨hu7,hv7⟩;simp only [Hd.cells,List.set] at hv7;refine .done ?_;have hu := jW hu6 hu7;exact ⟨[],trivial,T.put hu hv7,hB.trans (Bw.upd hu T.nk)⟩
  ·skip
   refine .sr (.m2 rfl (.t2 (aF rfl) (.t2 (aA aZ rfl) (.t2 (aB bA rfl (T.var.g 0 rfl)) (Rg.wd trivial (aC Tryz.call135 rfl gZ) rfl ?_)))));rintro _ w5 ⟨rfl,hx5⟩;replace hB := hB.trans (T.bwx hx5);replace T := T.ext hx5;rw [h1];refine .m2 rfl ?_
   first | refine .gd (aP rfl) rfl ?_ | refine .so rfl rfl ?_
   first | refine .gd (aF rfl) rfl ?_ | refine .so rfl rfl ?_
   first | refine .gd (aA gD rfl) rfl ?_ | refine .so rfl rfl ?_
   refine .g2 (aB bA rfl (T.var.g 5 rfl)) ?_
   first | refine .gd (bN rfl rfl (by omega)) rfl ?_ | refine .gd (bO rfl rfl (by omega)) rfl ?_ | refine .gd (cT rfl rfl) rfl ?_ | refine .so rfl rfl ?_
   first | refine .tq (aJ rfl rfl) rfl ?_ | refine .tq (aN rfl rfl) rfl ?_
   refine .done (.condF rfl (Wp.skip ?_));exact ⟨[],trivial,T,hB⟩
  ·skip
   refine .sr (.m2 rfl (.t2 (aF rfl) (.t2 (aA aZ rfl) (.t2 (aB bA rfl (T.var.g 0 rfl)) (Rg.wd trivial (aC Tryz.call135 rfl gZ) rfl ?_)))));rintro _ w5 ⟨rfl,hx5⟩;replace hB := hB.trans (T.bwx hx5);replace T := T.ext hx5;rw [h1];refine .m2 rfl ?_
   first | refine .gd (aP rfl) rfl ?_ | refine .so rfl rfl ?_
   first | refine .gd (aF rfl) rfl ?_ | refine .so rfl rfl ?_
   first | refine .gd (aA gD rfl) rfl ?_ | refine .so rfl rfl ?_
   refine .so rfl rfl ?_
   first | refine .gd (bN rfl rfl (by omega)) rfl ?_ | refine .gd (bO rfl rfl (by omega)) rfl ?_ | refine .gd (cT rfl rfl) rfl ?_ | refine .so rfl rfl ?_
   first | refine .tq (aJ rfl rfl) rfl ?_ | refine .tq (aN rfl rfl) rfl ?_
   refine .done (.condF rfl (Wp.skip ?_));exact ⟨[],trivial,T,hB⟩
theorem xX {w : World} {k : Nat} {h : Hd} {cv : Value} {x : ByteArray} (hv : Var w k (h.cells cv) 26) : Cl Tryz.prog 88 #[.pointer (some ⟨k,0,none⟩),.string x] w (fun u w' => Var w' k ((flag h x).cells cv) 26 ∧ Upd k w w') := by
 unfold flag
 by_cases c1 : x = ⟨#[112,117,98]⟩
 ·rw [if_pos c1]
  refine Cl.enter Tryz.func88 rfl Tryz.ntmps88 rfl rfl (Wp.block (.sr (.m2 rfl ?_)))
  first | refine .tq (cX rfl rfl (by first | with_reducible rfl | assumption)) rfl ?_ | refine .tq (cZ rfl rfl (by assumption)) rfl ?_ | refine .tq (dY rfl rfl) rfl ?_
  refine .a2 rfl (.done (.condT rfl (Wp.region (.m2 rfl (.t2 (aF rfl) (.t2 (aA eZ rfl) (.t2 (aB bA rfl (hv.g 1 rfl)) (.t2 (Di rfl rfl) (.t2 (aF rfl) (.t2 (aA eZ rfl) (Rg.wn trivial (cG hv bA rfl rfl rfl rfl rfl) ?_)))))))))));rintro _ w1 ⟨hu1,hv1⟩;simp only [Hd.cells,List.set] at hv1;refine .done ?_;exact ⟨[],trivial,hv1,hu1⟩
 ·rw [if_neg c1]
  by_cases c2 : x = ⟨#[109,117,116]⟩
  ·rw [if_pos c2]
   refine Cl.enter Tryz.func88 rfl Tryz.ntmps88 rfl rfl (Wp.block (.sr (.m2 rfl ?_)))
   first | refine .tq (cX rfl rfl (by first | with_reducible rfl | assumption)) rfl ?_ | refine .tq (cZ rfl rfl (by assumption)) rfl ?_ | refine .tq (dY rfl rfl) rfl ?_
   refine .a2 rfl (.done (.condF rfl (.sr (.m2 rfl ?_))))
   first | refine .tq (cX rfl rfl (by first | with_reducible rfl | assumption)) rfl ?_ | refine .tq (cZ rfl rfl (by assumption)) rfl ?_ | refine .tq (dY rfl rfl) rfl ?_
   refine .a2 rfl (.done (.condT rfl (Wp.region (.m2 rfl (.t2 (aF rfl) (.t2 (aA eZ rfl) (.t2 (aB bA rfl (hv.g 1 rfl)) (.t2 (Di rfl rfl) (.t2 (aF rfl) (.t2 (aA eZ rfl) (Rg.wn trivial (cG hv bA rfl rfl rfl rfl rfl) ?_)))))))))));rintro _ w1 ⟨hu1,hv1⟩;simp only [Hd.cells,List.set] at hv1;refine .done ?_;exact ⟨[],trivial,hv1,hu1⟩
  ·rw [if_neg c2]
   by_cases c3 : x = ⟨#[42]⟩ ∧ h.kind = 2
   ·rw [if_pos c3]
    obtain ⟨c3,c4⟩ := c3;refine Cl.enter Tryz.func88 rfl Tryz.ntmps88 rfl rfl (Wp.block (.sr (.m2 rfl ?_)))
    first | refine .tq (cX rfl rfl (by first | with_reducible rfl | assumption)) rfl ?_ | refine .tq (cZ rfl rfl (by assumption)) rfl ?_ | refine .tq (dY rfl rfl) rfl ?_
    refine .a2 rfl (.done (.condF rfl (.sr (.m2 rfl ?_))))
    first | refine .tq (cX rfl rfl (by first | with_reducible rfl | assumption)) rfl ?_ | refine .tq (cZ rfl rfl (by assumption)) rfl ?_ | refine .tq (dY rfl rfl) rfl ?_
    refine .a2 rfl (.done (.condF rfl (.sr (.m2 rfl ?_))))
    first | refine .tq (cX rfl rfl (by first | with_reducible rfl | assumption)) rfl ?_ | refine .tq (cZ rfl rfl (by assumption)) rfl ?_ | refine .tq (dY rfl rfl) rfl ?_
    refine .m2 rfl ?_
    first | refine .gd (aP rfl) rfl ?_ | refine .so rfl rfl ?_
    first | refine .gd (aF rfl) rfl ?_ | refine .so rfl rfl ?_
    first | refine .gd (aA aZ rfl) rfl ?_ | refine .so rfl rfl ?_
    first | refine .gd (aB bA rfl (hv.g 0 rfl)) rfl ?_ | refine .so rfl rfl ?_
    first | refine .gd (aS rfl rfl (by omega)) rfl ?_ | refine .gd (aR rfl rfl (by omega)) rfl ?_ | refine .gd (bM rfl rfl) rfl ?_ | refine .so rfl rfl ?_
    first | refine .tq (aJ rfl rfl) rfl ?_ | refine .tq (aN rfl rfl) rfl ?_
    refine .a2 rfl (.done (.condT rfl (Wp.region (.m2 rfl (.t2 (aF rfl) (.t2 (aA eZ rfl) (.t2 (aB bA rfl (hv.g 1 rfl)) (.t2 (Di rfl rfl) (.t2 (aF rfl) (.t2 (aA eZ rfl) (Rg.wn trivial (cG hv bA rfl rfl rfl rfl rfl) ?_)))))))))));rintro _ w1 ⟨hu1,hv1⟩;simp only [Hd.cells,List.set] at hv1;refine .done ?_;exact ⟨[],trivial,hv1,hu1⟩
   ·rw [if_neg c3]
    by_cases c5 : x = ⟨#[116,114,117,101]⟩ ∧ h.kind = 28
    ·rw [if_pos c5]
     obtain ⟨c5,c6⟩ := c5;have c7 : x ≠ ⟨#[42]⟩ := fun e => by rw [e] at c5; exact absurd c5 (by decide)
     refine Cl.enter Tryz.func88 rfl Tryz.ntmps88 rfl rfl (Wp.block (.sr (.m2 rfl ?_)))
     first | refine .tq (cX rfl rfl (by first | with_reducible rfl | assumption)) rfl ?_ | refine .tq (cZ rfl rfl (by assumption)) rfl ?_ | refine .tq (dY rfl rfl) rfl ?_
     refine .a2 rfl (.done (.condF rfl (.sr (.m2 rfl ?_))))
     first | refine .tq (cX rfl rfl (by first | with_reducible rfl | assumption)) rfl ?_ | refine .tq (cZ rfl rfl (by assumption)) rfl ?_ | refine .tq (dY rfl rfl) rfl ?_
     refine .a2 rfl (.done (.condF rfl (.sr (.m2 rfl ?_))))
     first | refine .tq (cX rfl rfl (by first | with_reducible rfl | assumption)) rfl ?_ | refine .tq (cZ rfl rfl (by assumption)) rfl ?_ | refine .tq (dY rfl rfl) rfl ?_
     refine .m2 rfl ?_
     first | refine .gd (aP rfl) rfl ?_ | refine .so rfl rfl ?_
     first | refine .gd (aF rfl) rfl ?_ | refine .so rfl rfl ?_
     first | refine .gd (aA aZ rfl) rfl ?_ | refine .so rfl rfl ?_
     first | refine .gd (aB bA rfl (hv.g 0 rfl)) rfl ?_ | refine .so rfl rfl ?_
     first | refine .gd (aS rfl rfl (by omega)) rfl ?_ | refine .gd (aR rfl rfl (by omega)) rfl ?_ | refine .gd (bM rfl rfl) rfl ?_ | refine .so rfl rfl ?_
     first | refine .tq (aJ rfl rfl) rfl ?_ | refine .tq (aN rfl rfl) rfl ?_
     refine .a2 rfl (.done (.condF rfl (.sr (.m2 rfl ?_))))
     first | refine .tq (cX rfl rfl (by first | with_reducible rfl | assumption)) rfl ?_ | refine .tq (cZ rfl rfl (by assumption)) rfl ?_ | refine .tq (dY rfl rfl) rfl ?_
     refine .m2 rfl ?_
     first | refine .gd (aP rfl) rfl ?_ | refine .so rfl rfl ?_
     first | refine .gd (aF rfl) rfl ?_ | refine .so rfl rfl ?_
     first | refine .gd (aA aZ rfl) rfl ?_ | refine .so rfl rfl ?_
     first | refine .gd (aB bA rfl (hv.g 0 rfl)) rfl ?_ | refine .so rfl rfl ?_
     first | refine .gd (aS rfl rfl (by omega)) rfl ?_ | refine .gd (aR rfl rfl (by omega)) rfl ?_ | refine .gd (bM rfl rfl) rfl ?_ | refine .so rfl rfl ?_
     first | refine .tq (aJ rfl rfl) rfl ?_ | refine .tq (aN rfl rfl) rfl ?_
     refine .a2 rfl (.done (.condT rfl (Wp.region (.m2 rfl (.t2 (aF rfl) (.t2 (aA eZ rfl) (Rg.wn trivial (cG hv bA rfl rfl rfl rfl rfl) ?_)))))));rintro _ w1 ⟨hu1,hv1⟩;simp only [Hd.cells,List.set] at hv1;refine .done ?_;exact ⟨[],trivial,hv1,hu1⟩
    ·rw [if_neg c5]
     have e3 : x ≠ ⟨#[42]⟩ ∨ (x = ⟨#[42]⟩ ∧ h.kind ≠ 2) := by
      by_cases q : x = ⟨#[42]⟩
      ·exact .inr ⟨q,fun e => c3 ⟨q,e⟩⟩
      ·exact .inl q
     have e5 : x ≠ ⟨#[116,114,117,101]⟩ ∨ (x = ⟨#[116,114,117,101]⟩ ∧ h.kind ≠ 28) := by
      by_cases q : x = ⟨#[116,114,117,101]⟩
      ·exact .inr ⟨q,fun e => c5 ⟨q,e⟩⟩
      ·exact .inl q
     by_cases c8 : (h.kind = 39 ∨ h.kind = 40) ∧ h.text = fS
     ·rw [if_pos c8]
      obtain ⟨c8,c9⟩ := c8
      rcases e3 with e3 | ⟨e3,e4⟩ <;> rcases e5 with e5 | ⟨e5,e6⟩ <;> rcases c8 with c8 | c8
      all_goals
       refine Cl.enter Tryz.func88 rfl Tryz.ntmps88 rfl rfl (Wp.block (.sr (.m2 rfl ?_)))
       first | refine .tq (cX rfl rfl (by first | with_reducible rfl | assumption)) rfl ?_ | refine .tq (cZ rfl rfl (by assumption)) rfl ?_ | refine .tq (dY rfl rfl) rfl ?_
       refine .a2 rfl (.done (.condF rfl (.sr (.m2 rfl ?_))))
       first | refine .tq (cX rfl rfl (by first | with_reducible rfl | assumption)) rfl ?_ | refine .tq (cZ rfl rfl (by assumption)) rfl ?_ | refine .tq (dY rfl rfl) rfl ?_
       refine .a2 rfl (.done (.condF rfl (.sr (.m2 rfl ?_))))
       first | refine .tq (cX rfl rfl (by first | with_reducible rfl | assumption)) rfl ?_ | refine .tq (cZ rfl rfl (by assumption)) rfl ?_ | refine .tq (dY rfl rfl) rfl ?_
       refine .m2 rfl ?_
       first | refine .gd (aP rfl) rfl ?_ | refine .so rfl rfl ?_
       first | refine .gd (aF rfl) rfl ?_ | refine .so rfl rfl ?_
       first | refine .gd (aA aZ rfl) rfl ?_ | refine .so rfl rfl ?_
       first | refine .gd (aB bA rfl (hv.g 0 rfl)) rfl ?_ | refine .so rfl rfl ?_
       first | refine .gd (aS rfl rfl (by omega)) rfl ?_ | refine .gd (aR rfl rfl (by omega)) rfl ?_ | refine .gd (bM rfl rfl) rfl ?_ | refine .so rfl rfl ?_
       first | refine .tq (aJ rfl rfl) rfl ?_ | refine .tq (aN rfl rfl) rfl ?_
       refine .a2 rfl (.done (.condF rfl (.sr (.m2 rfl ?_))))
       first | refine .tq (cX rfl rfl (by first | with_reducible rfl | assumption)) rfl ?_ | refine .tq (cZ rfl rfl (by assumption)) rfl ?_ | refine .tq (dY rfl rfl) rfl ?_
       refine .m2 rfl ?_
       first | refine .gd (aP rfl) rfl ?_ | refine .so rfl rfl ?_
       first | refine .gd (aF rfl) rfl ?_ | refine .so rfl rfl ?_
       first | refine .gd (aA aZ rfl) rfl ?_ | refine .so rfl rfl ?_
       first | refine .gd (aB bA rfl (hv.g 0 rfl)) rfl ?_ | refine .so rfl rfl ?_
       first | refine .gd (aS rfl rfl (by omega)) rfl ?_ | refine .gd (aR rfl rfl (by omega)) rfl ?_ | refine .gd (bM rfl rfl) rfl ?_ | refine .so rfl rfl ?_
       first | refine .tq (aJ rfl rfl) rfl ?_ | refine .tq (aN rfl rfl) rfl ?_
       refine .a2 rfl (.done (.condF rfl (.sr (.m2 rfl (.t2 (aF rfl) (.t2 (aA aZ rfl) (.t2 (aB bA rfl (hv.g 0 rfl)) ?_)))))))
       first | refine .tq (aS rfl rfl (by omega)) rfl ?_ | refine .tq (aR rfl rfl (by omega)) rfl ?_ | refine .tq (bM rfl rfl) rfl ?_
       refine .m2 rfl ?_
       first | refine .gd (aP rfl) rfl ?_ | refine .so rfl rfl ?_
       first | refine .gd (aF rfl) rfl ?_ | refine .so rfl rfl ?_
       first | refine .gd (aA aZ rfl) rfl ?_ | refine .so rfl rfl ?_
       first | refine .gd (aB bA rfl (hv.g 0 rfl)) rfl ?_ | refine .so rfl rfl ?_
       first | refine .gd (aS rfl rfl (by omega)) rfl ?_ | refine .gd (aR rfl rfl (by omega)) rfl ?_ | refine .gd (bM rfl rfl) rfl ?_ | refine .so rfl rfl ?_
       first | refine .tq (aJ rfl rfl) rfl ?_ | refine .tq (aN rfl rfl) rfl ?_
       refine .m2 rfl ?_
       first | refine .gd (aP rfl) rfl ?_ | refine .so rfl rfl ?_
       first | refine .gd (aF rfl) rfl ?_ | refine .so rfl rfl ?_
       first | refine .gd (aA fP rfl) rfl ?_ | refine .so rfl rfl ?_
       first | refine .gd (aB hY rfl (hv.g 2 rfl)) rfl ?_ | refine .so rfl rfl ?_
       first | refine .gd (cX rfl rfl (by first | with_reducible rfl | assumption)) rfl ?_ | refine .gd (cZ rfl rfl (by assumption)) rfl ?_ | refine .gd (dY rfl rfl) rfl ?_ | refine .so rfl rfl ?_
       first | refine .tq (aJ rfl rfl) rfl ?_ | refine .tq (aN rfl rfl) rfl ?_
       refine .a2 rfl (.done (.condT rfl (Wp.region (.m2 rfl (.m2 rfl (.t2 (aF rfl) (.t2 (aA fP rfl) (Rg.wn trivial (cG hv hY rfl rfl rfl rfl rfl) ?_))))))));rintro _ w1 ⟨hu1,hv1⟩;simp only [Hd.cells,List.set] at hv1;refine .done ?_;exact ⟨[],trivial,hv1,hu1⟩
     ·rw [if_neg c8]
      have e8 : (h.kind ≠ 39 ∧ h.kind ≠ 40) ∨ ((h.kind = 39 ∨ h.kind = 40) ∧ h.text ≠ fS) := by
       by_cases q : h.kind = 39 ∨ h.kind = 40
       ·exact .inr ⟨q,fun e => c8 ⟨q,e⟩⟩
       ·exact .inl ⟨fun e => q (.inl e),fun e => q (.inr e)⟩
      rcases e3 with e3 | ⟨e3,e4⟩ <;> rcases e5 with e5 | ⟨e5,e6⟩ <;> rcases e8 with ⟨e8,e9⟩ | ⟨e8 | e8,e9⟩
      all_goals
       refine Cl.enter Tryz.func88 rfl Tryz.ntmps88 rfl rfl (Wp.block (.sr (.m2 rfl ?_)))
       first | refine .tq (cX rfl rfl (by first | with_reducible rfl | assumption)) rfl ?_ | refine .tq (cZ rfl rfl (by assumption)) rfl ?_ | refine .tq (dY rfl rfl) rfl ?_
       refine .a2 rfl (.done (.condF rfl (.sr (.m2 rfl ?_))))
       first | refine .tq (cX rfl rfl (by first | with_reducible rfl | assumption)) rfl ?_ | refine .tq (cZ rfl rfl (by assumption)) rfl ?_ | refine .tq (dY rfl rfl) rfl ?_
       refine .a2 rfl (.done (.condF rfl (.sr (.m2 rfl ?_))))
       first | refine .tq (cX rfl rfl (by first | with_reducible rfl | assumption)) rfl ?_ | refine .tq (cZ rfl rfl (by assumption)) rfl ?_ | refine .tq (dY rfl rfl) rfl ?_
       refine .m2 rfl ?_
       first | refine .gd (aP rfl) rfl ?_ | refine .so rfl rfl ?_
       first | refine .gd (aF rfl) rfl ?_ | refine .so rfl rfl ?_
       first | refine .gd (aA aZ rfl) rfl ?_ | refine .so rfl rfl ?_
       first | refine .gd (aB bA rfl (hv.g 0 rfl)) rfl ?_ | refine .so rfl rfl ?_
       first | refine .gd (aS rfl rfl (by omega)) rfl ?_ | refine .gd (aR rfl rfl (by omega)) rfl ?_ | refine .gd (bM rfl rfl) rfl ?_ | refine .so rfl rfl ?_
       first | refine .tq (aJ rfl rfl) rfl ?_ | refine .tq (aN rfl rfl) rfl ?_
       refine .a2 rfl (.done (.condF rfl (.sr (.m2 rfl ?_))))
       first | refine .tq (cX rfl rfl (by first | with_reducible rfl | assumption)) rfl ?_ | refine .tq (cZ rfl rfl (by assumption)) rfl ?_ | refine .tq (dY rfl rfl) rfl ?_
       refine .m2 rfl ?_
       first | refine .gd (aP rfl) rfl ?_ | refine .so rfl rfl ?_
       first | refine .gd (aF rfl) rfl ?_ | refine .so rfl rfl ?_
       first | refine .gd (aA aZ rfl) rfl ?_ | refine .so rfl rfl ?_
       first | refine .gd (aB bA rfl (hv.g 0 rfl)) rfl ?_ | refine .so rfl rfl ?_
       first | refine .gd (aS rfl rfl (by omega)) rfl ?_ | refine .gd (aR rfl rfl (by omega)) rfl ?_ | refine .gd (bM rfl rfl) rfl ?_ | refine .so rfl rfl ?_
       first | refine .tq (aJ rfl rfl) rfl ?_ | refine .tq (aN rfl rfl) rfl ?_
       refine .a2 rfl (.done (.condF rfl (.sr (.m2 rfl (.t2 (aF rfl) (.t2 (aA aZ rfl) (.t2 (aB bA rfl (hv.g 0 rfl)) ?_)))))))
       first | refine .tq (aS rfl rfl (by omega)) rfl ?_ | refine .tq (aR rfl rfl (by omega)) rfl ?_ | refine .tq (bM rfl rfl) rfl ?_
       refine .m2 rfl ?_
       first | refine .gd (aP rfl) rfl ?_ | refine .so rfl rfl ?_
       first | refine .gd (aF rfl) rfl ?_ | refine .so rfl rfl ?_
       first | refine .gd (aA aZ rfl) rfl ?_ | refine .so rfl rfl ?_
       first | refine .gd (aB bA rfl (hv.g 0 rfl)) rfl ?_ | refine .so rfl rfl ?_
       first | refine .gd (aS rfl rfl (by omega)) rfl ?_ | refine .gd (aR rfl rfl (by omega)) rfl ?_ | refine .gd (bM rfl rfl) rfl ?_ | refine .so rfl rfl ?_
       first | refine .tq (aJ rfl rfl) rfl ?_ | refine .tq (aN rfl rfl) rfl ?_
       refine .m2 rfl ?_
       first | refine .gd (aP rfl) rfl ?_ | refine .so rfl rfl ?_
       first | refine .gd (aF rfl) rfl ?_ | refine .so rfl rfl ?_
       first | refine .gd (aA fP rfl) rfl ?_ | refine .so rfl rfl ?_
       first | refine .gd (aB hY rfl (hv.g 2 rfl)) rfl ?_ | refine .so rfl rfl ?_
       first | refine .gd (cX rfl rfl (by first | with_reducible rfl | assumption)) rfl ?_ | refine .gd (cZ rfl rfl (by assumption)) rfl ?_ | refine .gd (dY rfl rfl) rfl ?_ | refine .so rfl rfl ?_
       first | refine .tq (aJ rfl rfl) rfl ?_ | refine .tq (aN rfl rfl) rfl ?_
       refine .a2 rfl (.done (.condF rfl (Wp.skip ?_)));exact ⟨[],trivial,hv,vQ k w⟩
end Go.Proofs.YtlndmiegodcfjaaGreatDoor.Ast
namespace Go.Proofs.YtlndmiegodcfjaaGreatDoor.Lexi
set_option maxRecDepth 20000
open Go.Gx Go.RowKit Go.Lib
theorem qB {B : Nat} {w w' : World} {v : Value} {row : List Value} {e size n : Nat} (h : w.ownsRow B e size v n row) (hg : w.grownBy w' v.ownBlock) (hB : B ≤ w.heap.size) : Below B w w' :=
 (Below.refl B w).grown hg hB (fun k hk => (h.lt k hk).1)
theorem tH (a b : ByteArray) : strCells (a ++ b) = strCells a ++ strCells b := by simp [strCells]
theorem Il : liesAt Tryz.prog Tryz.prog.depth 121 (2 / Tryz.prog.cellsOf 121) 0 121 1 = true := by kernel_rfl
theorem zF {B b : Nat} {bs : List Value} {w w' : World} (h : IsBuilder 121 5 B b bs w) (k : Ext w w') : IsBuilder 121 5 B b bs w' :=
 h.imp (fun ⟨hB,v,hb,hown,hne⟩ => ⟨hB,v,Var.ext (cs := [_,v]) hb k,cM hown k,hne⟩) (fun ⟨hB,v,hb,hown,hne⟩ => ⟨hB,v,Var.ext (cs := [_,v]) hb k,cM hown k,hne⟩)
def eE (b : Nat) (w w' : World) : Prop := ∀ c cs t,c ≠ b → t ≠ 5 → Var w c cs t → Var w' c cs t
theorem eE.refl (b : Nat) (w : World) : eE b w w := fun _ _ _ _ _ h => h
theorem eE.trans {b : Nat} {w w' w'' : World} (h : eE b w w') (k : eE b w' w'') : eE b w w'' := fun c cs t h1 h2 h3 => k c cs t h1 h2 (h c cs t h1 h2 h3)
theorem eE.setCell (b o : Nat) (w : World) (v : Value) : eE b w (w.setCell ⟨b,o,none⟩ v) := fun c cs t h1 h2 h3 => by
 unfold Var at *;rw [Below.heap_setCell _ _ _ _ (fun e => h1 e)];exact h3
theorem eE.grown {B b n : Nat} {w w' : World} {v : Value} {xs : List Value} (h : w.ownsRow B 5 1 v n xs) (hg : w.grownBy w' v.ownBlock) : eE b w w' := fun c cs t h1 h2 h3 => by
 have hlt := h3.lt;unfold Var at *;rw [hg.block c hlt (fun e => ?_)]
 ·exact h3
 ·obtain ⟨_,h | ⟨g,cap,cur,rfl,_,hh,_⟩⟩ := h
  ·rw [h.1] at e; cases e
  ·obtain rfl : c = g := by simpa [Value.ownBlock] using e
   rw [h3] at hh;simp only [Option.some.injEq,Obj.cells.injEq] at hh;exact h2 hh.2.1
theorem oO {B b : Nat} {bs : List Value} {w : World} (h : IsBuilder 121 5 B b bs w) :
  Cl Tryz.prog 120 #[.pointer (some ⟨b,0,none⟩)] w (fun u w' => u = .tuple #[] ∧ BuilderAt 121 5 B b (.pointer (some ⟨b,0,none⟩)) bs w' ∧ Below B w w' ∧ eE b w w') := by
 obtain ⟨j,hj,_,hjs,_⟩ := H8
 rcases h with h | h
 ·have hc : bF w b 0 [.pointer none] := fun i v hv => by
   match i,hv with
   | 0,hv => simp at hv; subst hv; exact h.cell0
  refine Cl.enter Tryz.func120 rfl Tryz.ntmps120 rfl rfl (.sr (.m2 rfl (.t2 (aF rfl) (.t2 (aA oW rfl) ?_))));refine .t2 (aB vA rfl (by apply bF.get (i := 0); (case h => assumption); rfl)) ?_
  first | refine .tq (B3 yV rfl rfl) rfl ?_ | refine .tq (B4 yV rfl rfl) rfl ?_
  refine .done (.condT rfl (Wp.region (.m2 rfl (.m2 rfl ?_))));refine Rg.wd trivial (wT Tryz.underlying118 Tryz.underlying189 hj (by rw [hjs]; decide) h.shape (Nat.zero_lt_succ 1) rfl) rfl ?_;rintro _ _ ⟨rfl,rfl⟩;refine Rg.wd trivial (uP Tryz.func153 (by kernel_rfl) (by kernel_rfl) (by kernel_rfl) (e := Extern.AbiNoEscape.same) (by kernel_rfl) (R := fun u w' => u = .pointer (some ⟨b,0,none⟩) ∧ w = w') rfl ⟨_,_,Lib.run_noEscape _ _,rfl,rfl⟩) rfl ?_;rintro _ _ ⟨rfl,rfl⟩;refine Rg.wd trivial (sN Tryz.underlying189 Tryz.underlying118 hj h.shape Il rfl) rfl ?_;rintro _ _ ⟨rfl,rfl⟩;refine .t2 (aF rfl) (.t2 (aA oW rfl) (Rg.wn trivial (yQ vA rfl rfl h.cell0 h.frozen0 rfl rfl) ?_));rintro _ w2 rfl;refine .done ?_;exact ⟨[],trivial,rfl,h.used _,(Below.refl _ _).setCell h.1 _,eE.setCell _ _ _ _⟩
 ·have hc : bF w b 0 [.pointer (some ⟨b,0,none⟩)] := fun i v hv => by
   match i,hv with
   | 0,hv => simp at hv; subst hv; exact h.cell0
  refine Cl.enter Tryz.func120 rfl Tryz.ntmps120 rfl rfl (.sr (.m2 rfl (.t2 (aF rfl) (.t2 (aA oW rfl) ?_))));refine .t2 (aB vA rfl (by apply bF.get (i := 0); (case h => assumption); rfl)) ?_
  first | refine .tq (B3 yV rfl rfl) rfl ?_ | refine .tq (B4 yV rfl rfl) rfl ?_
  refine .done (.condF rfl (.sr (.m2 rfl (.t2 (aF rfl) (.t2 (aA oW rfl) ?_)))));refine .t2 (aB vA rfl (by apply bF.get (i := 0); (case h => assumption); rfl)) ?_;refine .m2 rfl (.t2 (Ad Tryz.underlying118 hj rfl rfl) (.done (.condF rfl (Wp.skip ?_))));exact ⟨[],trivial,rfl,h,Below.refl _ _,eE.refl _ _⟩
theorem iA {B b : Nat} {bs : List Value} {s : ByteArray} {w : World} (h : IsBuilder 121 5 B b bs w) (hlen : bs.length + s.size ≤ 140737488355328) (hBw : B ≤ w.heap.size) :
  Cl Tryz.prog 70 #[.pointer (some ⟨b,0,none⟩),.string s] w (fun u w' => u = .tuple #[.int .i64 s.size,.nilIface] ∧ BuilderAt 121 5 B b (.pointer (some ⟨b,0,none⟩)) (bs ++ strCells s) w' ∧ Below B w w' ∧ eE b w w') := by
 obtain ⟨i,hi,hz,hs,hby⟩ := Jc;refine Cl.enter Tryz.func70 rfl Tryz.ntmps70 rfl rfl (.sr (.a2 rfl (.a2 rfl (.done (.sr (.m2 rfl (Rg.wd trivial (aC Tryz.call120 rfl (oO h)) rfl ?_)))))));rintro _ w1 ⟨rfl,h1,hb1,hk1⟩;obtain ⟨hB,v,hbk,hown,hne⟩ := h1;have hc : bF w1 b 0 [.pointer (some ⟨b,0,none⟩),v] := Var.cells (t := 121) hbk;have hle := hb1.size;refine .done (.sr (.m2 rfl (.m2 rfl (.t2 (aF rfl) (.t2 (aA iO rfl) ?_)))));refine .t2 (aB lW rfl (by apply bF.get (i := 1); (case h => assumption); rfl)) ?_;refine .m2 rfl ?_;refine Rg.wd trivial (uQ B Tryz.underlying119 Tryz.underlying9 hi hz hs hby rfl rfl hown hlen (by omega)) rfl ?_;rintro v2 w2 ⟨hown2,hg,p2,l2,c2,rfl⟩;have hlt : b < w1.heap.size := hc.lt;have hbk2 : w2.heap[b]? = some (.cells #[.pointer (some ⟨b,0,none⟩),v] 121 (0,0)) := by rw [hg.block b hlt (fun e => hne e.symm)]; exact hbk
 have hle2 := hg.size;refine .t2 (aF rfl) (.t2 (aA iO rfl) (Rg.wn trivial (yQ lW rfl rfl (cell_of_heap hbk2 1) (frozen_of_heap hbk2 1) rfl rfl) ?_));rintro _ w3 rfl;refine .done (.sr (.m2 rfl (.t2 (cS Tryz.underlying9 rfl) (.a2 rfl (.a2 rfl (.done (Wp.ret ?_)))))));refine ⟨[_,_],⟨rfl,rfl,trivial⟩,rfl,?_,?_,?_⟩
 ·exact BuilderAt.put (T := 121) (e := 5) hB hbk2 (bs' := bs ++ strCells s) (by simpa [strCells_length] using hown2) (by decide)
 ·exact (hb1.trans (qB hown hg (by omega))).setCell (p := ⟨b,1,none⟩) hB _
 ·exact (hk1.trans (eE.grown hown hg)).trans (eE.setCell _ _ _ _)
theorem eX {B b : Nat} {bs : List Value} {c : Int} {w : World} (h : IsBuilder 121 5 B b bs w) (hlen : bs.length + 1 ≤ 140737488355328) (hBw : B ≤ w.heap.size) :
  Cl Tryz.prog 69 #[.pointer (some ⟨b,0,none⟩),.int .u8 c] w (fun u w' => u = .nilIface ∧ BuilderAt 121 5 B b (.pointer (some ⟨b,0,none⟩)) (bs ++ [.int .u8 c]) w' ∧ Below B w w' ∧ eE b w w') := by
 obtain ⟨i,hi,hz,hs,hby⟩ := Jc;refine Cl.enter Tryz.func69 rfl Tryz.ntmps69 rfl rfl (.sr (.a2 rfl (.done (.sr (.m2 rfl (Rg.wd trivial (aC Tryz.call120 rfl (oO h)) rfl ?_))))));rintro _ w1 ⟨rfl,h1,hb1,hk1⟩;obtain ⟨hB,v,hbk,hown,hne⟩ := h1;have hv1 : Var w1 b [.pointer (some ⟨b,0,none⟩),v] 121 := hbk;have hle := hb1.size;refine .done (.sr (.m2 rfl (.m2 rfl (.t2 (aF rfl) (.t2 (aA iO rfl) (.t2 (aB lW rfl (hv1.g 1 rfl)) (.m2 rfl (Rg.wd trivial (aD (E1 _) rfl) rfl ?_))))))));rintro _ wb ⟨bb,rfl,qb,hxb,hvb⟩;have hv2 := hv1.ext hxb;have hownb := cM hown hxb;have hleb := hxb.le;refine Rg.wd trivial (uR B Tryz.underlying119 hi hz hs hby rfl (by decide) rfl rfl hownb rfl (fun j u hu => by rw [dF]; exact hvb.cells j u hu) (by simp [Value.oneCell']) (by unfold maxLen; omega) (by omega) (by omega)) rfl ?_;rintro v2 w2 ⟨hown2,hg,p2,l2,c2,rfl⟩;have hbk2 : w2.heap[b]? = some (.cells #[.pointer (some ⟨b,0,none⟩),v] 121 (0,0)) := by rw [hg.block b hv2.lt (fun e => hne e.symm)]; exact hv2
 have hle2 := hg.size;refine .t2 (aF rfl) (.t2 (aA iO rfl) (Rg.wn trivial (yQ lW rfl rfl (cell_of_heap hbk2 1) (frozen_of_heap hbk2 1) rfl rfl) ?_));rintro _ w3 rfl;refine .done (.sr (.a2 rfl (.done (Wp.ret ?_))));refine ⟨[_],⟨rfl,trivial⟩,rfl,?_,?_,?_⟩
 ·exact BuilderAt.put (T := 121) (e := 5) hB hbk2 (bs' := bs ++ [.int .u8 c]) (by simpa using hown2) (by decide)
 ·exact ((hb1.trans (hxb.mono (by omega))).trans (qB hownb hg (by omega))).setCell (p := ⟨b,1,none⟩) hB _
 ·exact ((hk1.trans fun c cs t _ _ h => h.ext hxb).trans (eE.grown hownb hg)).trans (eE.setCell _ _ _ _)
theorem xY (w : World) (g m : Nat) : Upd g w (w.freeze ⟨g,0,none⟩ m) := by
 unfold World.freeze
 split
 ·exact ⟨rfl,rfl,rfl,rfl,fun _ _ => rfl⟩
 ·exact ⟨rfl,rfl,rfl,by simp,fun k hk => by
   simp only [Array.getElem?_modify];rw [if_neg fun e => hk e.symm]⟩
section
variable {P : Program} {n : Nat} {L : Env} {w : World} {d : Option Tmp} {ty : TypeId} {pos : String} {af : Array Edge} {gg : Option (Nat × Bool)}
theorem Dj {t : TypeId} {x : Operand} {g m cap : Nat} (hx : cF L x = some (.slice (some ⟨g,0,none⟩) m cap)) (hc : cap ≠ 0) : Wl P n ⟨d,.call { callee := .builtin .unsafeSliceData,args := #[x],argTypes := #[t] },ty,pos,af,gg⟩ L w (fun u w' => u = .pointer (some ⟨g,0,none⟩) ∧ w = w') := iD fun a hF => by
 refine ⟨_,w,?_,rfl,rfl⟩;have h := run_unsafeSliceData_row (P := P) (w := w) #[t] ty ⟨g,0,none⟩ m cap hc;simp [execOp,resolve,invoke,builtin,hF.eval hx,h]
theorem A7 {t : TypeId} {x : Operand} (hx : cF L x = some (.slice none 0 0)) : Wl P n ⟨d,.call { callee := .builtin .unsafeSliceData,args := #[x],argTypes := #[t] },ty,pos,af,gg⟩ L w (fun u w' => u = .pointer none ∧ w = w') := iD fun a hF => by
 refine ⟨_,w,?_,rfl,rfl⟩;have h := run_unsafeSliceData_nil (P := P) (w := w) #[t] ty 0 0;simp [execOp,resolve,invoke,builtin,hF.eval hx,h]
theorem A8 {t t' : TypeId} {x y : Operand} (hx : cF L x = some (.pointer none)) (hy : cF L y = some (.int .i64 0)) : Wl P n ⟨d,.call { callee := .builtin .unsafeString,args := #[x,y],argTypes := #[t,t'] },ty,pos,af,gg⟩ L w (fun u w' => u = .string ⟨#[]⟩ ∧ w = w') := iD fun a hF => by
 refine ⟨_,w,?_,rfl,rfl⟩;have h := run_unsafeString_none (P := P) (w := w) t t' ty none;simp [execOp,resolve,invoke,builtin,hF.eval hx,hF.eval hy,h];rfl
theorem Dk {t t' e : TypeId} {x y : Operand} {g : Nat} {l : List UInt8} {sp : List Value} (hu : P.underlying t = some (.pointer e)) (hc : P.cellsOf e = 1) (hv : Var w g (Lib.byteCells l ++ sp) e) (h0 : l ≠ []) (h63 : l.length ≤ 9223372036854775807) (hx : cF L x = some (.pointer (some ⟨g,0,none⟩))) (hy : cF L y = some (.int .i64 l.length)) :
  Wl P n ⟨d,.call { callee := .builtin .unsafeString,args := #[x,y],argTypes := #[t,t'] },ty,pos,af,gg⟩ L w (fun u w' => u = .string ⟨l.toArray⟩ ∧ Upd g w w') := iD fun a hF => by
 refine ⟨_,_,?_,rfl,xY w g l.length⟩;have hh : w.heap[g]? = some (.cells (Lib.byteCells l ++ sp).toArray e (0,0)) := hv;have h := run_unsafeString_row (P := P) (w := w) t t' ty e hu hc g (Lib.byteCells l ++ sp).length (by simp [World.shape?,hh]) l h0 (by rw [List.length_append,Lib.byteCells_length]; omega) h63 (fun j x hx => by
  rw [dF];exact hv.cells j (.int .u8 x.toNat) (by rw [List.getElem?_append_left (by rw [Lib.byteCells_length]; exact (List.getElem?_eq_some_iff.1 hx).1)]; simp [Lib.byteCells,hx]))
 simp [execOp,resolve,invoke,builtin,hF.eval hx,hF.eval hy,h]
end
theorem eE.of {b : Nat} {w w' : World} (h : Ext w w') : eE b w w' := fun c cs t _ _ hv => hv.ext h
theorem eE.upd {b g : Nat} {cs0 : List Value} {w w' : World} (hv0 : Var w g cs0 5) (h : Upd g w w') : eE b w w' := fun c cs t _ h2 hv => hv.upd h (Var.ne hv hv0 h2)
theorem nG {B b : Nat} {l : List UInt8} {w : World} (h : IsBuilder 121 5 B b (Lib.byteCells l) w) (hz : l = [] → Var w b [.pointer none,.slice none 0 0] 121) (h63 : l.length ≤ 9223372036854775807) (hBw : B ≤ w.heap.size) :
  Cl Tryz.prog 71 #[.pointer (some ⟨b,0,none⟩)] w (fun u w' => u = .string ⟨l.toArray⟩ ∧ eE b w w' ∧ Below B w w') := by
 have hk := eE.refl b w;have hB := Below.refl B w
 by_cases h0 : l = []
 ·subst h0
  have hv := hz rfl;refine Cl.enter Tryz.func71 rfl Tryz.ntmps71 rfl rfl (.sr (.a2 rfl (.done ?_)));refine Wp.seq (Wp.draw [0,1,2,3,5,6,7,8,9,4,10,11] [] mixed (by kernel_rfl) (by kernel_rfl) ?_);intro w1 hx1 _;replace hv := hv.ext hx1;have hk1 := eE.of (b := b) hx1;have hb1 : Below B w w1 := Below.mono hx1 hBw;refine .m2 rfl (.t2 (aF rfl) (.t2 (aA iO rfl) (.t2 (aB lW rfl (hv.g 1 rfl)) (.m2 rfl (.t2 (aF rfl) (.t2 (aA iO rfl) (.t2 (aB lW rfl (hv.g 1 rfl)) (.t2 (dC Tryz.underlying119 rfl) (Rg.wdB trivial rfl (A7 rfl) rfl (fun _ _ h => h.2 ▸ Below.refl _ _) ?_)))))))));rintro _ _ ⟨rfl,rfl⟩;refine Rg.wdB trivial rfl (A8 rfl rfl) rfl (fun _ _ h => h.2 ▸ Below.refl _ _) ?_;rintro _ _ ⟨rfl,rfl⟩;refine .a2 rfl (.done (Wp.ret ?_));exact ⟨[_],⟨rfl,trivial⟩,rfl,hk1,hb1⟩
 ·obtain ⟨p,v,hBb,hv,hown⟩ : ∃ p v,B ≤ b ∧ Var w b [p,v] 121 ∧ w.ownsRow B 5 1 v (Lib.byteCells l).length (Lib.byteCells l) := by
   rcases h with ⟨hB,v,hb,hown,_⟩ | ⟨hB,v,hb,hown,_⟩
   ·exact ⟨_,v,hB,hb,hown⟩
   ·exact ⟨_,v,hB,hb,hown⟩
  rcases bH hown with ⟨_,hn⟩ | ⟨g,cap,sp,rfl,g1,g2,g3,g4,g5⟩
  ·exact absurd (by rw [Lib.byteCells_length] at hn; exact List.length_eq_zero_iff.1 hn) h0
  have hl1 : 0 < l.length := List.length_pos_iff.2 h0;have hbl := Lib.byteCells_length l;refine Cl.enter Tryz.func71 rfl Tryz.ntmps71 rfl rfl (.sr (.a2 rfl (.done ?_)));refine Wp.seq (Wp.draw [0,1,2,3,5,6,7,8,9,4,10,11] [1] mixed (by kernel_rfl) (by kernel_rfl) ?_);intro w1 hx1 _;replace hv := hv.ext hx1;replace g5 := g5.ext hx1;have hk1 := eE.of (b := b) hx1;have hb1 : Below B w w1 := Below.mono hx1 hBw;refine .m2 rfl (.t2 (aF rfl) (.t2 (aA iO rfl) (.t2 (aB lW rfl (hv.g 1 rfl)) (.m2 rfl (.t2 (aF rfl) (.t2 (aA iO rfl) (.t2 (aB lW rfl (hv.g 1 rfl)) (.t2 (dC Tryz.underlying119 rfl) ?_))))))));rw [hbl];refine Rg.wdB trivial rfl (Dj rfl (by omega)) rfl (fun _ _ h => h.2 ▸ Below.refl _ _) ?_;rintro _ _ ⟨rfl,rfl⟩;refine pK trivial rfl (Dk Tryz.underlying164 (by kernel_rfl) g5 h0 h63 rfl rfl) rfl (by rfl) ?_;rintro _ w2 ⟨rfl,hu2⟩;refine .a2 rfl (.done (Wp.ret ?_));exact ⟨[_],⟨rfl,trivial⟩,rfl,hk1.trans (eE.upd g5 hu2),hb1.trans ⟨hu2.os,hu2.tape,hu2.output,Nat.le_of_eq hu2.size.symm,fun z hz => hu2.block z (by omega)⟩⟩
end Go.Proofs.YtlndmiegodcfjaaGreatDoor.Lexi
namespace Go.Proofs.YtlndmiegodcfjaaGreatDoor.Ast
set_option maxRecDepth 20000
open Go.Gx Go.RowKit Go.Lib
open Lexi (Asc)
open Par
open Lexi (eX eE zF nG)
theorem zG {B b7 : Nat} {bs : List Value} {w : World} (h : IsBuilder 121 5 B b7 bs w) : ∃ cs,Var w b7 cs 121 := by
 rcases h with ⟨_,v,hb,_,_⟩ | ⟨_,v,hb,_,_⟩
 ·exact ⟨[_,v],hb⟩
 ·exact ⟨[_,v],hb⟩
theorem Dl {B b7 b : Nat} {bs : List Value} {w : World} {F : Fs} {src : ByteArray} {e : Int} {ds : List Dg} (h : IsBuilder 121 5 B b7 bs w) (hb : Bd F w b src e ds) :
  ∃ F' : Fs,(∀ z,F z → F' z) ∧ Bd F' w b src e ds ∧ ∀ w',Bw F' w w' → IsBuilder 121 5 B b7 bs w' := by
 obtain ⟨dv,hd⟩ := hb;have mk : ∀ {v : Value} {xs : List Value} {cs : List Value} {n : Nat},Var w b7 cs 121 → w.ownsRow B 5 1 v n xs → Bd (fun z => F z ∨ z = b7 ∨ v.ownBlock = some z) w b src e ds := fun {v xs cs n} hv hown => by
  refine ⟨dv,fun z hz => ?_,hd.var,hd.row,fun hz => ?_,fun z hz hf => ?_⟩
  ·rcases hz with hz | rfl | hz
   ·exact hd.und z hz
   ·exact hv.lt
   ·exact jI hown hz
  ·rcases hz with hz | hz | hz
   ·exact hd.nb hz
   ·exact Var.ne hd.var hv (by decide) hz
   ·exact fU hown hd.var (by decide) (by rw [hz]; simp)
  ·rcases hf with hf | rfl | hf
   ·exact hd.nd z hz hf
   ·exact fU hd.row hv (by decide) (by rw [hz]; simp)
   ·obtain ⟨c1,e1⟩ := jP hd.row hz.symm
    obtain ⟨c2,e2⟩ := jP hown hf.symm;rw [e1] at e2
    cases e2
 rcases h with ⟨hB,v,hv,hown,hne⟩ | ⟨hB,v,hv,hown,hne⟩
 all_goals
  refine ⟨fun z => F z ∨ z = b7 ∨ v.ownBlock = some z,fun z hz => .inl hz,mk (cs := [_,v]) hv hown,fun w' k => ?_⟩
 ·exact .inl ⟨hB,v,(k.block b7 (.inr (.inl rfl))).trans hv,fK hown k fun z hz => .inr (.inr hz),hne⟩
 ·exact .inr ⟨hB,v,(k.block b7 (.inr (.inl rfl))).trans hv,fK hown k fun z hz => .inr (.inr hz),hne⟩
theorem Bd.keepV {b7 b : Nat} {w w' : World} {cs : List Value} {F : Fs} {src : ByteArray} {e : Int} {ds : List Dg} (h : Bd F w b src e ds) (hv : Var w b7 cs 121) (k : eE b7 w w') (hs : w.heap.size ≤ w'.heap.size) : Bd F w' b src e ds := by
 obtain ⟨dv,h⟩ := h;refine ⟨dv,fun z hz => Nat.lt_of_lt_of_le (h.und z hz) hs,k b _ 59 (Var.ne h.var hv (by decide)) (by decide) h.var,?_,h.nb,h.nd⟩
 rcases bH h.row with ⟨rfl,h0⟩ | ⟨g,cap,sp,rfl,g1,g2,g3,g4,g5⟩
 ·have hr := h.row.1
  rw [h0] at hr ⊢;exact ⟨hr,.inl ⟨rfl,rfl⟩⟩
 ·exact bK g1 h.row.1 g2 g3 g4 (k g _ 63 (Var.ne g5 hv (by decide)) (by decide) g5)
def F7 (s : Int) (i : Nat) : Dg := (6,s + (i : Int) - 1,s + (i : Int) + 1)
theorem A9 (x : ByteArray) (s : Int) : tG x s = (pX x x.size 1).2.map (F7 s) := rfl
theorem Im {x : ByteArray} {f i : Nat} (h : x.size ≤ i + 1) : pX x f i = ([],[]) := by
 cases f with
 | zero => rfl
 | succ f => unfold pX; rw [if_neg (by omega)]
theorem Dm {x : ByteArray} {f i : Nat} (h : i + 1 < x.size) : pX x (f + 1) i = if x.data.toList.getD i 0 = 92 then
  (if x.data.toList.getD (i + 1) 0 = 110 then (10 :: (pX x f (i + 2)).1,(pX x f (i + 2)).2) else if x.data.toList.getD (i + 1) 0 = 34 ∨ x.data.toList.getD (i + 1) 0 = 92 then (x.data.toList.getD (i + 1) 0 :: (pX x f (i + 2)).1,(pX x f (i + 2)).2) else (x.data.toList.getD (i + 1) 0 :: (pX x f (i + 2)).1,(i + 1) :: (pX x f (i + 2)).2))
  else (x.data.toList.getD i 0 :: (pX x f (i + 1)).1,(pX x f (i + 1)).2) := by
 rw [pX,if_pos h]
theorem xZ {F : Fs} {w : World} {b : Nat} {src x : ByteArray} {s e : Int} {ds : List Dg} (hb : Bd F w b src e ds) (hl : ds.length + x.size < 1000000) (hs : 0 ≤ s ∧ s ≤ 1000000) :
  Cl Tryz.prog 87 #[.pointer (some ⟨b,0,none⟩),.string x,.int .i64 s] w (fun u w' => u = .string (pY x) ∧ Bd F w' b src e (ds ++ tG x s) ∧ Bw F w w') := by
 have hx := Ext.refl w;have hund := hb.und;rw [A9];refine Cl.enter Tryz.func87 rfl Tryz.ntmps87 rfl rfl (.sr (.a2 rfl (.done (.sr (Rg.wd trivial (dB Tryz.zeroValue121 rfl) rfl ?_)))));rintro _ w1 ⟨b7,rfl,q7,hx1,hv7⟩;replace hx := hx.ext hx1;have hB : IsBuilder 121 5 w.heap.size b7 [] w1 := .inl ⟨by have := hx1.le; omega,_,hv7,⟨rfl,.inl ⟨rfl,rfl⟩⟩,by simp [Value.ownBlock]⟩;refine .done (.seq (.sr (.a2 rfl (.done (Wp.block ?_)))));refine Wp.loop (ι := Nat × List UInt8 × List Nat) (fun j => [(0,.pointer (some ⟨b,0,none⟩)),(1,.string x),(2,.int .i64 s),(7,.pointer (some ⟨b7,0,none⟩)),(8,.int .i64 j.1)])
  (fun j w' => 1 ≤ j.1 ∧ j.1 ≤ x.size + 1 ∧ j.2.2.length + 1 ≤ j.1 ∧ j.2.1.length + 1 ≤ j.1 ∧ (∃ f,x.size ≤ f + j.1 ∧ j.2.1 ++ (pX x f j.1).1 = (pX x x.size 1).1 ∧ j.2.2 ++ (pX x f j.1).2 = (pX x x.size 1).2) ∧ IsBuilder 121 5 w.heap.size b7 (Lib.byteCells j.2.1) w' ∧ (j.2.1 = [] → Var w' b7 [.pointer none,.slice none 0 0] 121) ∧ Bd F w' b src e (ds ++ j.2.2.map (F7 s)) ∧ Bw F w w' ∧ w.heap.size ≤ w'.heap.size) (fun j => x.size + 1 - j.1) (1,[],[])
  (by repeat (first | exact .nil | refine .cons rfl ?_)) ⟨Nat.le_refl _,by simp only; omega,Nat.le_refl _,Nat.le_refl _,⟨x.size,by simp only; omega,rfl,rfl⟩,hB,fun _ => hv7,by simpa using hb.ext hx,Bw.of hx hund,hx.le⟩ ?_
 clear hx hB hv7 hb;rintro ⟨i,acc,rs⟩ w3 ⟨h1,hi,hrs,hac,⟨f,hf,ha,hr⟩,hB,hz,hb,hk,hle⟩;simp only at h1 hi hrs hac hf ha hr hB hz hb ⊢;obtain ⟨cs7,hv7⟩ := zG hB
 by_cases hlt : i + 1 < x.size
 ·obtain ⟨f,rfl⟩ : ∃ g,f = g + 1 := ⟨f - 1,by omega⟩
  rw [Dm hlt] at ha hr;obtain ⟨c,hc⟩ : ∃ c,x.data.toList.getD i 0 = c := ⟨_,rfl⟩;obtain ⟨d,hd⟩ : ∃ d,x.data.toList.getD (i + 1) 0 = d := ⟨_,rfl⟩;rw [hc] at ha hr;rw [hd] at ha hr;have u8 : ∀ (a : UInt8) (n : Nat),n < 256 → ((a.toNat : Int) = (n : Int) ↔ a = n.toUInt8) := fun a n hn => by
   constructor
   ·intro h
    apply UInt8.toNat_inj.1;have : a.toNat = n := by omega
    rw [this];simp [Nat.toUInt8,UInt8.toNat_ofNat,Nat.mod_eq_of_lt hn]
   ·intro h
    rw [h];simp [Nat.toUInt8,UInt8.toNat_ofNat,Nat.mod_eq_of_lt hn]
  have u92 := u8 c 92 (by decide);have v110 := u8 d 110 (by decide);have v34 := u8 d 34 (by decide);have v92 := u8 d 92 (by decide)
  by_cases hc92 : c = 92
  ·rw [if_pos hc92] at ha hr
   have t92 := u92.2 hc92
   by_cases hd110 : d = 110
   ·rw [if_pos hd110] at ha hr
    have t110 := v110.2 hd110;refine .seq (.sr (.m2 rfl (.m2 rfl (.t2 (cS Tryz.underlying9 rfl) ?_))))
    first | refine .tq (eG rfl rfl (by omega)) rfl ?_ | refine .tq (kR rfl rfl) rfl ?_
    refine .t2 (bN rfl rfl (by omega)) ?_;refine .done (.condT rfl (Wp.skip (.seq (Wp.block (.sr (.m2 rfl (.m2 rfl ?_)))))));refine .t2 (bR Tryz.underlying9 rfl rfl (by omega)) ?_;rw [Int.toNat_natCast,hc];refine .a2 rfl (.done (.seq (.sr (.m2 rfl (.t2 (aS rfl rfl t92) (.done (.condT rfl (.sr (.m2 rfl ?_)))))))))
    first | refine .tq (bC rfl rfl (by omega)) rfl ?_ | refine .tq (bV rfl rfl) rfl ?_
    refine .a2 rfl (.done (.sr (.m2 rfl (.m2 rfl ?_))));refine .t2 (bR Tryz.underlying9 rfl rfl (by omega)) ?_;rw [show ((i : Int) + 1).toNat = i + 1 from by omega,hd];refine .a2 rfl (.done (.sr (.m2 rfl (.done (Wp.block (.sr (.t2 (aS rfl rfl t110) (.a2 rfl (.done (.condT rfl (Wp.region (.a2 rfl ?_))))))))))));refine .done (Wp.region (.m2 rfl ?_));refine Rg.wd trivial (aC Tryz.call69 rfl (eX hB (by rw [Lib.byteCells_length]; omega) hle)) rfl ?_;rintro _ w5 ⟨rfl,hB5,hbl5,hk5⟩;have hb5 := hb.keepV hv7 hk5 hbl5.size;have hk6 : Bw F w w5 := hk.trans ⟨hbl5.os,hbl5.tape,hbl5.output,hbl5.size,fun z hz => hbl5.block z (hund z hz)⟩;refine .done (Wp.region (.m2 rfl ?_))
    first | refine .tq (bC rfl rfl (by omega)) rfl ?_ | refine .tq (bV rfl rfl) rfl ?_
    refine .a2 rfl (.done ?_);exact ⟨(i + 2,acc ++ [10],rs),by repeat (first | exact .nil | refine .cons rfl ?_),⟨by simp only; omega,by simp only; omega,by simp only [List.length_append,List.length_singleton]; omega,by simp only [List.length_append,List.length_singleton]; omega,⟨f,by simp only; omega,by simpa using ha,by simpa using hr⟩,.inr (by simpa [Lib.byteCells] using hB5),fun e => absurd e (by simp),by simpa [List.map_append,List.append_assoc] using hb5,hk6,Nat.le_trans hle hbl5.size⟩,by simp only; omega⟩
   ·rw [if_neg hd110] at ha hr
    have t110 : ¬ ((d.toNat : Int) = 110) := fun h => hd110 (v110.1 h)
    by_cases hde : d = 34 ∨ d = 92
    ·rw [if_pos hde] at ha hr
     by_cases hd34 : d = 34
     ·have t34 := v34.2 hd34
      refine .seq (.sr (.m2 rfl (.m2 rfl (.t2 (cS Tryz.underlying9 rfl) ?_))))
      first | refine .tq (eG rfl rfl (by omega)) rfl ?_ | refine .tq (kR rfl rfl) rfl ?_
      refine .t2 (bN rfl rfl (by omega)) ?_;refine .done (.condT rfl (Wp.skip (.seq (Wp.block (.sr (.m2 rfl (.m2 rfl ?_)))))));refine .t2 (bR Tryz.underlying9 rfl rfl (by omega)) ?_;rw [Int.toNat_natCast,hc];refine .a2 rfl (.done (.seq (.sr (.m2 rfl (.t2 (aS rfl rfl t92) (.done (.condT rfl (.sr (.m2 rfl ?_)))))))))
      first | refine .tq (bC rfl rfl (by omega)) rfl ?_ | refine .tq (bV rfl rfl) rfl ?_
      refine .a2 rfl (.done (.sr (.m2 rfl (.m2 rfl ?_))));refine .t2 (bR Tryz.underlying9 rfl rfl (by omega)) ?_;rw [show ((i : Int) + 1).toNat = i + 1 from by omega,hd];refine .a2 rfl (.done (.sr (.m2 rfl (.done (Wp.block (.sr (.t2 (aR rfl rfl t110) (.a2 rfl (.done (.condF rfl (.seq (.sr ?_))))))))))));refine .t2 (aS rfl rfl t34) (.a2 rfl (.done (.condT rfl (Wp.skip (.condT rfl (Wp.skip (Wp.region (.m2 rfl ?_))))))));refine Rg.wd trivial (aC Tryz.call69 rfl (eX hB (by rw [Lib.byteCells_length]; omega) hle)) rfl ?_;rintro _ w5 ⟨rfl,hB5,hbl5,hk5⟩;have hb5 := hb.keepV hv7 hk5 hbl5.size;have hk6 : Bw F w w5 := hk.trans ⟨hbl5.os,hbl5.tape,hbl5.output,hbl5.size,fun z hz => hbl5.block z (hund z hz)⟩;refine .done (Wp.region (.m2 rfl ?_))
      first | refine .tq (bC rfl rfl (by omega)) rfl ?_ | refine .tq (bV rfl rfl) rfl ?_
      refine .a2 rfl (.done ?_);exact ⟨(i + 2,acc ++ [d],rs),by repeat (first | exact .nil | refine .cons rfl ?_),⟨by simp only; omega,by simp only; omega,by simp only [List.length_append,List.length_singleton]; omega,by simp only [List.length_append,List.length_singleton]; omega,⟨f,by simp only; omega,by simpa using ha,by simpa using hr⟩,.inr (by simpa [Lib.byteCells] using hB5),fun e => absurd e (by simp),by simpa [List.map_append,List.append_assoc] using hb5,hk6,Nat.le_trans hle hbl5.size⟩,by simp only; omega⟩
     ·have t34 : ¬ ((d.toNat : Int) = 34) := fun h => hd34 (v34.1 h)
      have td92 := v92.2 (hde.resolve_left hd34);refine .seq (.sr (.m2 rfl (.m2 rfl (.t2 (cS Tryz.underlying9 rfl) ?_))))
      first | refine .tq (eG rfl rfl (by omega)) rfl ?_ | refine .tq (kR rfl rfl) rfl ?_
      refine .t2 (bN rfl rfl (by omega)) ?_;refine .done (.condT rfl (Wp.skip (.seq (Wp.block (.sr (.m2 rfl (.m2 rfl ?_)))))));refine .t2 (bR Tryz.underlying9 rfl rfl (by omega)) ?_;rw [Int.toNat_natCast,hc];refine .a2 rfl (.done (.seq (.sr (.m2 rfl (.t2 (aS rfl rfl t92) (.done (.condT rfl (.sr (.m2 rfl ?_)))))))))
      first | refine .tq (bC rfl rfl (by omega)) rfl ?_ | refine .tq (bV rfl rfl) rfl ?_
      refine .a2 rfl (.done (.sr (.m2 rfl (.m2 rfl ?_))));refine .t2 (bR Tryz.underlying9 rfl rfl (by omega)) ?_;rw [show ((i : Int) + 1).toNat = i + 1 from by omega,hd];refine .a2 rfl (.done (.sr (.m2 rfl (.done (Wp.block (.sr (.t2 (aR rfl rfl t110) (.a2 rfl (.done (.condF rfl (.seq (.sr ?_))))))))))));refine .t2 (aR rfl rfl t34) (.a2 rfl (.done (.condF rfl (Wp.region (.t2 (aS rfl rfl td92) (.a2 rfl (.done (.condT rfl (Wp.skip (Wp.region (.m2 rfl ?_)))))))))));refine Rg.wd trivial (aC Tryz.call69 rfl (eX hB (by rw [Lib.byteCells_length]; omega) hle)) rfl ?_;rintro _ w5 ⟨rfl,hB5,hbl5,hk5⟩;have hb5 := hb.keepV hv7 hk5 hbl5.size;have hk6 : Bw F w w5 := hk.trans ⟨hbl5.os,hbl5.tape,hbl5.output,hbl5.size,fun z hz => hbl5.block z (hund z hz)⟩;refine .done (Wp.region (.m2 rfl ?_))
      first | refine .tq (bC rfl rfl (by omega)) rfl ?_ | refine .tq (bV rfl rfl) rfl ?_
      refine .a2 rfl (.done ?_);exact ⟨(i + 2,acc ++ [d],rs),by repeat (first | exact .nil | refine .cons rfl ?_),⟨by simp only; omega,by simp only; omega,by simp only [List.length_append,List.length_singleton]; omega,by simp only [List.length_append,List.length_singleton]; omega,⟨f,by simp only; omega,by simpa using ha,by simpa using hr⟩,.inr (by simpa [Lib.byteCells] using hB5),fun e => absurd e (by simp),by simpa [List.map_append,List.append_assoc] using hb5,hk6,Nat.le_trans hle hbl5.size⟩,by simp only; omega⟩
    ·rw [if_neg hde] at ha hr
     have t34 : ¬ ((d.toNat : Int) = 34) := fun h => hde (.inl (v34.1 h));have td92 : ¬ ((d.toNat : Int) = 92) := fun h => hde (.inr (v92.1 h));obtain ⟨F1,k,hb1,hkp⟩ := Dl hB hb;refine .seq (.sr (.m2 rfl (.m2 rfl (.t2 (cS Tryz.underlying9 rfl) ?_))))
     first | refine .tq (eG rfl rfl (by omega)) rfl ?_ | refine .tq (kR rfl rfl) rfl ?_
     refine .t2 (bN rfl rfl (by omega)) ?_;refine .done (.condT rfl (Wp.skip (.seq (Wp.block (.sr (.m2 rfl (.m2 rfl ?_)))))));refine .t2 (bR Tryz.underlying9 rfl rfl (by omega)) ?_;rw [Int.toNat_natCast,hc];refine .a2 rfl (.done (.seq (.sr (.m2 rfl (.t2 (aS rfl rfl t92) (.done (.condT rfl (.sr (.m2 rfl ?_)))))))))
     first | refine .tq (bC rfl rfl (by omega)) rfl ?_ | refine .tq (bV rfl rfl) rfl ?_
     refine .a2 rfl (.done (.sr (.m2 rfl (.m2 rfl ?_))));refine .t2 (bR Tryz.underlying9 rfl rfl (by omega)) ?_;rw [show ((i : Int) + 1).toNat = i + 1 from by omega,hd];refine .a2 rfl (.done (.sr (.m2 rfl (.done (Wp.block (.sr (.t2 (aR rfl rfl t110) (.a2 rfl (.done (.condF rfl (.seq (.sr ?_))))))))))));refine .t2 (aR rfl rfl t34) (.a2 rfl (.done (.condF rfl (Wp.region (.t2 (aR rfl rfl td92) (.a2 rfl (.done (.condF rfl (Wp.region (.m2 rfl (.m2 rfl (.m2 rfl ?_))))))))))))
     first | refine .tq (bC rfl rfl (by omega)) rfl ?_ | refine .tq (bV rfl rfl) rfl ?_
     first | refine .tq (eG rfl rfl (by omega)) rfl ?_ | refine .tq (kR rfl rfl) rfl ?_
     refine .m2 rfl (.m2 rfl ?_)
     first | refine .tq (bC rfl rfl (by omega)) rfl ?_ | refine .tq (bV rfl rfl) rfl ?_
     first | refine .tq (bC rfl rfl (by omega)) rfl ?_ | refine .tq (bV rfl rfl) rfl ?_
     refine Rg.wd trivial (aC Tryz.call84 rfl (gJ hb1 (by rw [List.length_append,List.length_map]; omega))) rfl ?_;rintro _ w4 ⟨hb4,hB4⟩;replace hB := hkp _ hB4;replace hb : Bd F w4 b src e (ds ++ (rs ++ [i + 1]).map (F7 s)) := by
      have := hb4.sub k
      simpa [List.map_append,List.append_assoc,F7] using this
     replace hk := hk.trans (hB4.sub k);replace hle := Nat.le_trans hle hB4.size;clear hv7;obtain ⟨cs8,hv7⟩ := zG hB;refine .done (Wp.region (.m2 rfl ?_));refine Rg.wd trivial (aC Tryz.call69 rfl (eX hB (by rw [Lib.byteCells_length]; omega) hle)) rfl ?_;rintro _ w5 ⟨rfl,hB5,hbl5,hk5⟩;have hb5 := hb.keepV hv7 hk5 hbl5.size;have hk6 : Bw F w w5 := hk.trans ⟨hbl5.os,hbl5.tape,hbl5.output,hbl5.size,fun z hz => hbl5.block z (hund z hz)⟩;refine .done (Wp.region (.m2 rfl ?_))
     first | refine .tq (bC rfl rfl (by omega)) rfl ?_ | refine .tq (bV rfl rfl) rfl ?_
     refine .a2 rfl (.done ?_);exact ⟨(i + 2,acc ++ [d],rs ++ [i + 1]),by repeat (first | exact .nil | refine .cons rfl ?_),⟨by simp only; omega,by simp only; omega,by simp only [List.length_append,List.length_singleton]; omega,by simp only [List.length_append,List.length_singleton]; omega,⟨f,by simp only; omega,by simpa using ha,by simpa using hr⟩,.inr (by simpa [Lib.byteCells] using hB5),fun e => absurd e (by simp),by simpa [List.map_append,List.append_assoc] using hb5,hk6,Nat.le_trans hle hbl5.size⟩,by simp only; omega⟩
  ·rw [if_neg hc92] at ha hr
   have t92 : ¬ ((c.toNat : Int) = 92) := fun h => hc92 (u92.1 h);refine .seq (.sr (.m2 rfl (.m2 rfl (.t2 (cS Tryz.underlying9 rfl) ?_))))
   first | refine .tq (eG rfl rfl (by omega)) rfl ?_ | refine .tq (kR rfl rfl) rfl ?_
   refine .t2 (bN rfl rfl (by omega)) ?_;refine .done (.condT rfl (Wp.skip (.seq (Wp.block (.sr (.m2 rfl (.m2 rfl ?_)))))));refine .t2 (bR Tryz.underlying9 rfl rfl (by omega)) ?_;rw [Int.toNat_natCast,hc];refine .a2 rfl (.done (.seq (.sr (.m2 rfl (.t2 (aR rfl rfl t92) (.done (.condF rfl (Wp.skip (Wp.region (.m2 rfl ?_))))))))));refine Rg.wd trivial (aC Tryz.call69 rfl (eX hB (by rw [Lib.byteCells_length]; omega) hle)) rfl ?_;rintro _ w5 ⟨rfl,hB5,hbl5,hk5⟩;have hb5 := hb.keepV hv7 hk5 hbl5.size;have hk6 : Bw F w w5 := hk.trans ⟨hbl5.os,hbl5.tape,hbl5.output,hbl5.size,fun z hz => hbl5.block z (hund z hz)⟩;refine .done (Wp.region (.m2 rfl ?_))
   first | refine .tq (bC rfl rfl (by omega)) rfl ?_ | refine .tq (bV rfl rfl) rfl ?_
   refine .a2 rfl (.done ?_);exact ⟨(i + 1,acc ++ [c],rs),by repeat (first | exact .nil | refine .cons rfl ?_),⟨by simp only; omega,by simp only; omega,by simp only [List.length_append,List.length_singleton]; omega,by simp only [List.length_append,List.length_singleton]; omega,⟨f,by simp only; omega,by simpa using ha,by simpa using hr⟩,.inr (by simpa [Lib.byteCells] using hB5),fun e => absurd e (by simp),by simpa [List.map_append,List.append_assoc] using hb5,hk6,Nat.le_trans hle hbl5.size⟩,by simp only; omega⟩
 ·rw [Im (by omega)] at ha hr
  simp only [List.append_nil] at ha hr;refine .seq (.sr (.m2 rfl (.m2 rfl (.t2 (cS Tryz.underlying9 rfl) ?_))))
  first | refine .tq (eG rfl rfl (by omega)) rfl ?_ | refine .tq (kR rfl rfl) rfl ?_
  refine .t2 (bO rfl rfl (by omega)) ?_;refine .done (.condF rfl (Wp.exit (.sr ?_)));refine Rg.wd trivial (aC Tryz.call71 rfl (nG hB hz (by omega) hle)) rfl ?_;rintro _ w5 ⟨rfl,hk5,hbl5⟩;have hb5 := hb.keepV hv7 hk5 hbl5.size;have hk6 : Bw F w w5 := hk.trans ⟨hbl5.os,hbl5.tape,hbl5.output,hbl5.size,fun z hz => hbl5.block z (hund z hz)⟩;refine .a2 rfl (.done (Wp.ret ?_));exact ⟨[_],⟨rfl,trivial⟩,by rw [ha]; rfl,by rw [← hr]; exact hb5,hk6⟩
end Go.Proofs.YtlndmiegodcfjaaGreatDoor.Ast
namespace Go.Proofs.YtlndmiegodcfjaaGreatDoor.Ast
open Go.Lib
def qY (acc : Nat) (l : List UInt8) : Nat := l.foldl (fun a b => a * 10 + (b.toNat - 48)) acc
theorem zH : ∀ (l : List UInt8) (acc : Nat),acc ≤ qY acc l
 | [],acc => Nat.le_refl _
 | b :: l,acc => by
  have := zH l (acc * 10 + (b.toNat - 48))
  show acc ≤ qY (acc * 10 + (b.toNat - 48)) l
  omega
theorem mB : ∀ (l : List UInt8) (acc : Nat),(∀ b ∈ l,48 ≤ b.toNat ∧ b.toNat ≤ 57) → acc < 18446744073709551616 → parseUint10 acc l = if qY acc l < 18446744073709551616 then .ok (qY acc l) else .range
 | [],acc,_,h => by rw [parseUint10,if_pos (by exact h)]; rfl
 | b :: l,acc,hd,h => by
  have hb := hd b List.mem_cons_self;have e : qY acc (b :: l) = qY (acc * 10 + (b.toNat - 48)) l := rfl;have hg := zH l (acc * 10 + (b.toNat - 48));rw [parseUint10,if_pos hb,e]
  by_cases h1 : 1844674407370955162 ≤ acc
  ·rw [if_pos h1,if_neg (by omega)]
  ·rw [if_neg h1]
   by_cases h2 : 18446744073709551616 ≤ acc * 10 + (b.toNat - 48)
   ·rw [if_pos h2,if_neg (by omega)]
   ·rw [if_neg h2]
    exact mB l _ (fun c hc => hd c (List.mem_cons_of_mem _ hc)) (by omega)
theorem oP {x : ByteArray} (h0 : 0 < x.size) (hd : ∀ b ∈ x.data.toList,48 ≤ b.toNat ∧ b.toNat ≤ 57) : atoiAll x.data.toList = if Bl x ≤ 9223372036854775807 then .ok (Bl x : Int) else .range := by
 have hn : Bl x = qY 0 x.data.toList := rfl;have hl : x.data.toList.length = x.size := by rw [Array.length_toList]; rfl
 rw [hn]
 revert hd hl
 generalize x.data.toList = l;intro hd hl
 match l,hd,hl with
 | [],_,hl =>
  have h2 : (0 : Nat) = x.size := hl;omega
 | c :: r,hd,_ =>
  have hc := hd c List.mem_cons_self;have p := mB (c :: r) 0 hd (by decide);have c1 : ¬ (c.toNat = 43 ∨ c.toNat = 45) := by omega
  have c2 : ¬ (c.toNat = 45) := by omega
  unfold atoiAll parseMag;simp only [if_neg c1];rw [if_neg (List.cons_ne_nil _ _),p]
  by_cases h1 : qY 0 (c :: r) ≤ 9223372036854775807
  ·rw [if_pos (show qY 0 (c :: r) < 18446744073709551616 by omega),if_pos h1]
   simp only [c2,not_false_eq_true,true_and,false_and,if_false];rw [if_neg (by omega)]
  ·rw [if_neg h1]
   by_cases h2 : qY 0 (c :: r) < 18446744073709551616
   ·rw [if_pos h2]
    simp only [c2,not_false_eq_true,true_and];rw [if_pos (by omega)]
   ·rw [if_neg h2]
end Go.Proofs.YtlndmiegodcfjaaGreatDoor.Ast
