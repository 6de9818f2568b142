/- Equal and SameNode at nodes that came in. Printed by r8/Eq.py. -/
import Derived.Test.YtlndmiegodcfjaaGreatDoorXj
set_option linter.unusedVariables false
set_option linter.unusedSimpArgs false
namespace Go.Proofs.YtlndmiegodcfjaaGreatDoor.Prn
set_option maxRecDepth 20000
open Go.Gx Go.RowKit Go.Lib
open Lexi (Asc aG)
open Par Ast
section
variable {F K : Fs} {w w' : World} {b : Nat} {pre : List Value} {acc : List Mn} {dv v' : Value}
end
section
variable {P : Program} {n : Nat} {L : Env} {w : World} {d : Option Tmp} {ty : TypeId} {pos : String} {af : Array Edge} {g : Option (Nat × Bool)}
theorem Eh {t e : TypeId} {i : TypeInfo} {x y : Operand} {size : Nat} {u : Value} {news : List Value} (ht : P.underlying t = some (.slice e)) (hi : P.info? e = some i) (hs : i.size = size) (hx : cF L x = some (.slice none 0 0)) (hy : cF L y = some u) (hsl : SlC w u size 0 news) :
  Wl P n ⟨d,.call { callee := .builtin .append,args := #[x,y],argTypes := #[t,t] },ty,pos,af,g⟩ L w (fun v w' => v = .slice none 0 0 ∧ w = w') := iD fun a hF => by
 obtain ⟨hl,p,c,rfl,hkc,hd⟩ := hsl;have hn : news = [] := List.length_eq_zero_iff.1 (by simpa using hl);subst hn;have hfc : (Builtin.firstCells size 0 (.slice p 0 c)).run P w = .ok #[] w := by
  cases p with
  | none => simp [Builtin.firstCells]
  | some ad => exact run_firstCells_some w size _ ad _ _ _ hl fun j v hj => by simp at hj
 subst hs;refine ⟨.slice none 0 0,w,?_,rfl,rfl⟩;simp [execOp,resolve,invoke,builtin,hF.eval hx,hF.eval hy,Builtin.append_,run_underlying ht,sizeOf,typeInfo,hi,Builtin.lenOf,hfc]
end
theorem kD {w : World} {v : Value} {k : Nat} {news : List Value} (hs : SlC w v 7 k news) (h1 : ∀ u ∈ news,u.oneCell' = true) (hk : k ≤ 1000000) :
  Cl Tryz.prog 46 #[v] w (fun u w' => w'.ownsRow w.heap.size 26 7 u k news ∧ Ext w w') := by
 obtain ⟨i,hi,hz,hsi,hby⟩ := Cr;have hx := Ext.refl w;have hxl : w.heap.size ≤ w.heap.size := Nat.le_refl _
 by_cases h0 : k = 0
 ·subst h0
  have hn : news = [] := List.length_eq_zero_iff.1 (by simpa using hs.1);refine Cl.enter Tryz.func46 rfl Tryz.ntmps46 rfl rfl (.sr (.a2 rfl (.done (.sr (.m2 rfl (Rg.wd trivial (Eh Tryz.underlying24 hi hsi rfl rfl hs) rfl ?_))))));rintro _ _ ⟨rfl,rfl⟩;refine .a2 rfl (.done (Wp.ret ?_));subst hn;exact ⟨[_],⟨rfl,trivial⟩,⟨by simp,.inl ⟨rfl,rfl⟩⟩,hx⟩
 ·skip
  refine Cl.enter Tryz.func46 rfl Tryz.ntmps46 rfl rfl (.sr (.a2 rfl (.done (.sr (.m2 rfl ?_)))));refine Rg.wd trivial (nR (m := 0) (olds := []) Tryz.underlying24 hi hz hsi hby rfl rfl rfl (lS _ _) hs h1 (by omega) (by unfold maxLen; omega) (by omega)) rfl ?_;rintro u w1 ⟨hx1,hr⟩;refine .a2 rfl (.done (Wp.ret ?_));exact ⟨[_],⟨rfl,trivial⟩,show w1.ownsRow w.heap.size 26 7 u k news by simpa using hr,hx1⟩
theorem fI {w : World} {v : Value} {k : Nat} {news : List Value} (hs : SlC w v 1 k news) (h1 : ∀ u ∈ news,u.oneCell' = true) (hk : k ≤ 1000000) :
  Cl Tryz.prog 47 #[v] w (fun u w' => w'.ownsRow w.heap.size 3 1 u k news ∧ Ext w w') := by
 obtain ⟨i,hi,hz,hsi,hby⟩ := Jb;have hx := Ext.refl w;have hxl : w.heap.size ≤ w.heap.size := Nat.le_refl _
 by_cases h0 : k = 0
 ·subst h0
  have hn : news = [] := List.length_eq_zero_iff.1 (by simpa using hs.1);refine Cl.enter Tryz.func47 rfl Tryz.ntmps47 rfl rfl (.sr (.a2 rfl (.done (.sr (.m2 rfl (Rg.wd trivial (Eh Tryz.underlying34 hi hsi rfl rfl hs) rfl ?_))))));rintro _ _ ⟨rfl,rfl⟩;refine .a2 rfl (.done (Wp.ret ?_));subst hn;exact ⟨[_],⟨rfl,trivial⟩,⟨by simp,.inl ⟨rfl,rfl⟩⟩,hx⟩
 ·skip
  refine Cl.enter Tryz.func47 rfl Tryz.ntmps47 rfl rfl (.sr (.a2 rfl (.done (.sr (.m2 rfl ?_)))));refine Rg.wd trivial (nR (m := 0) (olds := []) Tryz.underlying34 hi hz hsi hby rfl rfl rfl (lS _ _) hs h1 (by omega) (by unfold maxLen; omega) (by omega)) rfl ?_;rintro u w1 ⟨hx1,hr⟩;refine .a2 rfl (.done (Wp.ret ?_));exact ⟨[_],⟨rfl,trivial⟩,show w1.ownsRow w.heap.size 3 1 u k news by simpa using hr,hx1⟩
section
variable {n : Nat} {L : Env} {w : World} {d : Option Tmp} {ty : TypeId} {pos : String} {af : Array Edge} {g : Option (Nat × Bool)}
section
variable {aY : Array Oper} {P : Program} {n : Nat} {K : Kn} {X : Exit → Kn} {S : World → Prop} {b : Nat} {listed : Array Bool} {L : Env} {w : World} {m : Nat}
theorem Qb.alt3 {i j l : Nat} (hr : Region.ready .any aY listed = [i,j,l]) (h1 : pR P aY n K X S b listed L w m i) (h2 : pR P aY n K X S b listed L w m j) (h3 : pR P aY n K X S b listed L w m l) : Go.Gx.Qb P aY n K X S b listed L w (m + 1) := Go.Gx.Qb.alt hr (by simp) fun k hk => by
 rcases List.mem_cons.1 hk with rfl | hk
 ·exact h1
 ·rcases List.mem_cons.1 hk with rfl | hk
  ·exact h2
  ·obtain rfl : k = l := by simpa using hk
   exact h3
end
end
def OR (wB : World) (e size : Nat) (w : World) (v : Value) (n : Nat) (xs : List Value) : Prop := w.ownsRow 0 e size v n xs ∧ ∀ z,v.ownBlock = some z → wB.heap.size ≤ z
theorem OR.ext {wB w w' : World} {e size n : Nat} {v : Value} {xs : List Value} (h : OR wB e size w v n xs) (x : Ext w w') : OR wB e size w' v n xs := ⟨cM h.1 x,h.2⟩
theorem OR.of {wB w w1 : World} {e size n : Nat} {v : Value} {xs : List Value} (h : w.ownsRow w1.heap.size e size v n xs) (hb : wB.heap.size ≤ w1.heap.size) : OR wB e size w v n xs :=
 ⟨uS h (Nat.zero_le _),fun z hz => by
  rcases bH h with ⟨rfl,_⟩ | ⟨g,cap,sp,rfl,g1,_⟩
  ·cases hz
  ·cases hz
   exact Nat.le_trans hb g1⟩
theorem zT {w w' : World} {e size n k : Nat} {v v' : Value} {all : List Value} (hap : AppR w e size n k v all v' w') (hl : all.length = (n + k) * size) : w'.ownsRow 0 e size v' (n + k) all := by
 obtain ⟨g,cap,sp,rfl,h1,h2,h3,h4,_⟩ := hap;exact bK (Nat.zero_le _) hl h1 h2 h3 h4
theorem OR.app {wB w w' : World} {e size n k : Nat} {v v' : Value} {xs all : List Value} (h : OR wB e size w v n xs) (hy : Ext wB w) (hap : AppR w e size n k v all v' w') (hl : all.length = (n + k) * size) :
  OR wB e size w' v' (n + k) all ∧ Ext wB w' ∧ (∀ c cs t,t ≠ e → Var w c cs t → Var w' c cs t) ∧ ∀ e2 s2 v2 n2 xs2,e2 ≠ e → OR wB e2 s2 w v2 n2 xs2 → OR wB e2 s2 w' v2 n2 xs2 := by
 have hr := zT hap hl;obtain ⟨g,cap,sp,rfl,h1,h2,h3,h4,h5⟩ := hap
 rcases h5 with ⟨⟨c,rfl⟩,hu⟩ | ⟨hg,hx⟩
 ·have hg := h.2 g rfl
  obtain ⟨cs,hv⟩ : ∃ cs,Var w g cs e := by
   rcases bH h.1 with ⟨e1,_⟩ | ⟨g1,_,_,e1,_,_,_,_,hv⟩
   ·cases e1
   ·injection e1 with e1 _ _
    cases e1
    exact ⟨_,hv⟩
  exact ⟨⟨hr,fun z hz => by cases hz; exact hg⟩,hy.upd hu hg,fun c cs2 t ht hv2 => hv2.upd hu (Var.ne hv2 hv ht),fun e2 s2 v2 n2 xs2 he h2 => ⟨Ey h2.1 hv hu (Ne.symm he),h2.2⟩⟩
 ·exact ⟨⟨hr,fun z hz => by cases hz; exact Nat.le_trans hy.le hg⟩,hy.ext hx,fun c cs2 t _ hv2 => hv2.ext hx,fun e2 s2 v2 n2 xs2 _ h2 => h2.ext hx⟩
theorem OR.slc {wB w : World} {e size n : Nat} {v : Value} {xs : List Value} (h : OR wB e size w v n xs) : SlC w v size n xs := iP h.1
abbrev PN := Mn × Value × Value
def uD (p : PN) : List Value := p.1.cells ++ [p.2.1,p.2.2]
theorem kQ (p : PN) : (uD p).length = 9 := by show (p.1.cells ++ _).length = 9; rw [List.length_append,Mn.len]; rfl
def yJ (p : PN) : Prop := (uD p).all (·.oneCell') = true
theorem Gz {g : Mn} {a b : Value} (h1 : g.cells.all (·.oneCell') = true) (h2 : a.oneCell' = true) (h3 : b.oneCell' = true) : yJ (g,a,b) := by
 show (g.cells ++ [a,b]).all _ = true
 rw [List.all_append,h1];simp only [List.all_cons,List.all_nil,h2,h3];rfl
theorem rE {L : List PN} (h : ∀ p ∈ L,yJ p) : ∀ u ∈ aK uD L,u.oneCell' = true := fun u hu => by
 obtain ⟨p,hp,hq⟩ := List.mem_flatMap.1 hu;exact List.all_eq_true.1 (h p hp) u hq
theorem Ei {w : World} {b : Nat} {g : Mn} {x y : Value} (h : Var w b (uD (g,x,y)) 36) : bF w b 0 g.cells := by
 have h2 := h.cells.sub 0 7;have e : ((uD (g,x,y)).drop 0).take 7 = g.cells := by
  show (g.cells ++ [x,y]).take 7 = g.cells
  exact List.take_left' (Mn.len g)
 rwa [e] at h2
theorem Iv {Q : An → Prop} (hQ : ∀ h ks,Q (.mk h ks) → ∀ a ∈ ks,Q a) : ∀ (n : Nat) (g : Mn),anc g.er ≤ n → n ≤ 60000 → Q g.er → ∀ (w : World) (va vp : Value) (zs : List Mn) (ps : List Nat),NoL w g → SlC w va 7 zs.length (aK Mn.cells zs) → (∀ a ∈ zs,a.cells.all (·.oneCell') = true) → va.oneCell' = true → SlC w vp 1 ps.length (aK iJ ps) → vp.oneCell' = true → zs.length + n ≤ 100000 → ps.length + n ≤ 100000 →
  Cl Tryz.prog 26 #[.agg (uD (g,va,vp)).toArray] w (fun u w' => ∃ L : List PN,SlC w' u 9 L.length (aK uD L) ∧ (∀ p ∈ L,yJ p ∧ Q p.1.er) ∧ L.length = anc g.er ∧ Ext w w') := by
 intro n
 induction n using Nat.strongRecOn with
 | _ n ih =>
  rintro ⟨⟨z0,z1,z2,z3,z4,z5⟩,cv,kids⟩ hn hn6 hq w va vp zs ps hg hsa hoa hva hsp hvp hma hmp;have hx := Ext.refl w;have hog := hg.oneL;obtain ⟨hsl,hkk⟩ := nP hg;have ha : anc (Mn.mk ⟨z0,z1,z2,z3,z4,z5⟩ cv kids).er = cK (dM kids) + 1 := rfl;have hkl := kA (dM kids);rw [fV] at hkl;obtain ⟨i26,hi26,hz26,hsi26,hby26⟩ := Cr;obtain ⟨i36,hi36,hz36,hsi36,hby36⟩ := Jd;obtain ⟨i3,hi3,hz3,hsi3,hby3⟩ := Jb;obtain ⟨cp,cc,rfl⟩ : ∃ p c,cv = .slice p kids.length c := by obtain ⟨_,p,c,rfl,_⟩ := hsl; exact ⟨p,c,rfl⟩
  obtain ⟨ap,ac,rfl⟩ : ∃ p c,va = .slice p zs.length c := by obtain ⟨_,p,c,rfl,_⟩ := hsa; exact ⟨p,c,rfl⟩
  obtain ⟨pp,pc,rfl⟩ : ∃ p c,vp = .slice p ps.length c := by obtain ⟨_,p,c,rfl,_⟩ := hsp; exact ⟨p,c,rfl⟩
  obtain ⟨G,hG⟩ : ∃ G : PN,((Mn.mk ⟨z0,z1,z2,z3,z4,z5⟩ (.slice cp kids.length cc) kids,.slice ap zs.length ac,.slice pp ps.length pc) : PN) = G := ⟨_,rfl⟩;refine Cl.enter Tryz.func26 rfl Tryz.ntmps26 rfl rfl (.sr (Rg.wd trivial (aW (cs := uD ((Mn.mk ⟨z0,z1,z2,z3,z4,z5⟩ (.slice cp kids.length cc) kids,.slice ap zs.length ac,.slice pp ps.length pc) : PN)) rfl rfl) rfl ?_));rintro _ w1 ⟨b1,rfl,q1,hx1,hv1⟩;replace hx := hx.ext hx1;replace hsl := hsl.ext hx1;have lt1 := hv1.lt;have ge1 : w.heap.size ≤ b1 := Nat.le_of_eq q1.symm;refine .a2 rfl (.done (.sr ?_));refine .t2 (bB rfl hv1.cells (by rw [kQ]; exact Ez)) ?_;refine Rg.wd trivial (aD (H5 _ _ _ _ _ _ _ _ _ _ _ _ _ _ _) rfl) rfl ?_;rintro _ w2 ⟨b7,rfl,q7,hx2,hv7⟩;have g17 : b1 < b7 := by omega
  replace hx := hx.ext hx2;replace hsl := hsl.ext hx2;replace hv1 := hv1.ext hx2;refine .a2 rfl (.done (.seq (.sr (.t2 (aA xC rfl) (.t2 (aA eP rfl) (.t2 (aB iK rfl (hv1.g 6 rfl)) (.t2 (dD hsl Tryz.underlying24 rfl) (.m2 rfl (.done (Wp.block ?_))))))))));have hO0 : w2.ownsRow 0 36 9 (.slice (some ⟨b7,0,none⟩) 1 1) 1 (aK uD [((Mn.mk ⟨z0,z1,z2,z3,z4,z5⟩ (.slice cp kids.length cc) kids,.slice ap zs.length ac,.slice pp ps.length pc) : PN)]) := bK (sp := []) (Nat.zero_le _) rfl (Nat.le_refl _) (by unfold maxLen; omega) rfl hv7;refine Wp.loop (ι := Nat × Value) (fun i => [(1,.pointer (some ⟨b1,0,none⟩)),(3,i.2),(10,.slice cp kids.length cc),(11,.int .i64 kids.length),(12,.int .i64 i.1)])
   (fun i w' => i.1 ≤ kids.length ∧ (∃ L : List PN,w'.ownsRow 0 36 9 i.2 L.length (aK uD L) ∧ (∀ p ∈ L,yJ p ∧ Q p.1.er) ∧ L.length = 1 + cK (dM (kids.take i.1))) ∧ (∀ z,i.2.ownBlock = some z → b1 < z) ∧ Var w' b1 (uD ((Mn.mk ⟨z0,z1,z2,z3,z4,z5⟩ (.slice cp kids.length cc) kids,.slice ap zs.length ac,.slice pp ps.length pc) : PN)) 36 ∧ Ext w w') (fun i => kids.length - i.1) (0,.slice (some ⟨b7,0,none⟩) 1 1) (by repeat (first | exact .nil | refine .cons rfl ?_))
   ⟨Nat.zero_le _,⟨[((Mn.mk ⟨z0,z1,z2,z3,z4,z5⟩ (.slice cp kids.length cc) kids,.slice ap zs.length ac,.slice pp ps.length pc) : PN)],hO0,fun p hp => by rw [List.mem_singleton.1 hp]; exact ⟨Gz hog hva hvp,hq⟩,by simp [dM,cK]⟩,fun z hz => by cases hz; exact g17,hv1,hx⟩ ?_
  clear hx hsl hv7 hv1 hO0;rintro ⟨i,ov⟩ wl ⟨hi,⟨M0,hO,hL,hLn⟩,hob,hv1,hx⟩;simp only at hi hO hLn hob ⊢
  by_cases hlt : i < kids.length
  ·have hsl := (nP hg).1.ext hx
   have hN := NoL.ext (hkk _ (List.getElem_mem hlt)) hx;have hgN := NoL.ext hg hx;have hcm : anc kids[i].er ≤ cK (dM kids) := nK (by rw [← qJ kids i hlt]; exact List.getElem_mem _);have hsum : cK (dM (kids.take i)) + anc kids[i].er ≤ cK (dM kids) := by
    have e := congrArg (fun l => cK (dM l)) (show kids = kids.take i ++ kids[i] :: kids.drop (i + 1) by rw [← List.drop_eq_getElem_cons hlt,List.take_append_drop]);simp only [kP,kB] at e;rw [e,dM,cK];omega
   have hnx : cK (dM (kids.take (i + 1))) = cK (dM (kids.take i)) + anc kids[i].er := by
    rw [List.take_succ_eq_append_getElem hlt,kP,kB,dM,cK,dM,cK];omega
   have hqi : Q kids[i].er := hQ ⟨z0,z1,z2,z3,z4,z5⟩ (dM kids) hq _ (by rw [← qJ kids i hlt]; exact List.getElem_mem _);obtain ⟨k,hk⟩ : ∃ k,kids[i] = k := ⟨_,rfl⟩;rw [hk] at hN hcm hsum hnx hqi;have hok := hN.oneL;obtain ⟨⟨y0,y1,y2,y3,y4,y5⟩,kv,kk⟩ := k;obtain ⟨yp,yc,rfl⟩ : ∃ p c,kv = .slice p kk.length c := by obtain ⟨_,p,c,rfl,_⟩ := (nP hN).1; exact ⟨p,c,rfl⟩
   have hsa := hsa.ext hx;have hsp := hsp.ext hx;have hxx := Ext.refl wl;refine .sr ?_;refine .t2 (bN rfl rfl (by omega)) ?_;refine .done (.seq (.condT rfl (Wp.skip (.seq (Wp.block (.sr (.m2 rfl ?_)))))));refine Rg.ix hsl trivial rfl rfl Tryz.underlying24 cC (by omega) rfl ?_;intro bt15 ot15 ht15;rw [Int.toNat_natCast,eA Mn.len kids i hlt,hk] at ht15;refine .t2 (bB rfl ht15 (by rw [Mn.len]; exact cC)) ?_;refine Rg.wd trivial (dB Tryz.zeroValue26 rfl) rfl ?_;rintro _ wab5 ⟨b5,rfl,qb5,b,d⟩;refine .a2 rfl ?_;refine Rg.wn trivial (cW (cs := (Mn.mk ⟨y0,y1,y2,y3,y4,y5⟩ (.slice yp kk.length yc) kk).cells) d rfl rfl rfl (by rw [Mn.len]; exact cC) (by rw [Mn.len]; rfl) (hok)) ?_;rintro _ w31 ⟨hub5,hv5⟩;have hx31 := b.upd hub5 (Nat.le_of_eq qb5.symm);clear d hub5 b;replace hx := hx.ext hx31;replace hsl := hsl.ext hx31;replace hv1 := hv1.ext hx31;replace hN := hN.ext hx31;replace hxx := hxx.ext hx31;replace hsa := hsa.ext hx31;replace hsp := hsp.ext hx31;replace ht15 := ht15.ext hx31;clear qb5;refine .done ?_;have lt1 := hv1.lt;have hO := cM hO hxx;have ge1 : w.heap.size ≤ b1 := ge1;have hxB := hx;clear hx;refine Wp.cut (fun L w' => ∃ i_ : Value,Sub ((fun i_v => [(1,.pointer (some ⟨b1,0,none⟩)),(3,i_v),(10,.slice cp kids.length cc),(11,.int .i64 kids.length),(12,.int .i64 (i : Int))]) i_) L ∧ (fun v' w' => ∃ L2 : List PN,(∃ wm,AppR wm 36 9 M0.length L2.length ov (aK uD M0 ++ aK uD L2) v' w' ∧ Ext w31 wm) ∧ (∀ p ∈ L2,yJ p ∧ Q p.1.er) ∧ L2.length = anc (Mn.mk ⟨y0,y1,y2,y3,y4,y5⟩ (.slice yp kk.length yc) kk).er) i_ w') ?_ ?_
   ·skip
    refine Wp.drawB (fun w' => Ext w31 w') 17 mixed ?_;intro w32 hx32 hh32;refine ⟨hx32,?_⟩;have hyB := hx32;refine Qb.tameW (by kernel_rfl) 0 rfl (by kernel_rfl) trivial (bY fun wz => aP rfl) rfl ?_;refine Qb.tame (by kernel_rfl) 1 rfl (by kernel_rfl) trivial (ts fun wz hkz => by exact bB rfl (hv5.ext hkz).cells (by rw [Mn.len]; exact cC)) rfl ?_;refine Qb.tameW (by kernel_rfl) 2 rfl (by kernel_rfl) trivial (bY fun wz => aA Hz rfl) rfl ?_;refine Qb.tame (by kernel_rfl) 3 rfl (by kernel_rfl) trivial (ts fun wz hkz => by exact aB iK rfl (bF.get (i := 7) (hv1.ext hkz).cells rfl)) rfl ?_;refine Qb.tameW (by kernel_rfl) 5 rfl (by kernel_rfl) trivial (bY fun wz => aA xC rfl) rfl ?_;refine Qb.tame (by kernel_rfl) 6 rfl (by kernel_rfl) trivial (ts fun wz hkz => by exact bB rfl (Ei (hv1.ext hkz)) (by rw [Mn.len]; exact cC)) rfl ?_;refine Qb.tameW (by kernel_rfl) 9 rfl (by kernel_rfl) trivial (bY fun wz => aA H0 rfl) rfl ?_;refine Qb.tame (by kernel_rfl) 10 rfl (by kernel_rfl) trivial (ts fun wz hkz => by exact aB Ja rfl (bF.get (i := 8) (hv1.ext hkz).cells rfl)) rfl ?_;refine Qb.tameW (by kernel_rfl) 12 rfl (by kernel_rfl) trivial (bY fun wz => aP rfl) rfl ?_;refine Qb.alt3 (i := 4) (j := 7) (l := 13) (by kernel_rfl) ?_ ?_ ?_
    ·skip
     refine ⟨_,_,rfl,rfl,trivial,aC Tryz.call46 rfl (kD (hsa.ext hyB) (fun u hu => by obtain ⟨q,hq1,hq2⟩ := List.mem_flatMap.1 hu; exact List.all_eq_true.1 (hoa q hq1) u hq2) (by omega)),rfl,fun _ _ hr => hyB.ext hr.2,?_⟩;rintro v21 w33 ⟨hr210,hx33⟩;have hr21 : OR w31 26 7 w33 v21 zs.length (aK Mn.cells zs) := OR.of hr210 hyB.le;clear hr210;replace hyB := hyB.ext hx33;refine Qb.alt2 (i := 7) (j := 13) (by kernel_rfl) ?_ ?_
     ·skip
      refine ⟨_,_,rfl,rfl,trivial,aD (mN _ _ _ _ _ _ _ _ _) rfl,rfl,fun _ _ hr => by obtain ⟨_,_,_,hr,_⟩ := hr; exact hyB.ext hr,?_⟩;rintro _ w34 ⟨b24,rfl,q24,hx34,hv24⟩;replace hyB := hyB.ext hx34;replace hr21 := hr21.ext hx34;refine Qb.alt2 (i := 8) (j := 13) (by kernel_rfl) ?_ ?_
      ·skip
       refine ⟨_,_,rfl,rfl,trivial,bL (k := 1) Tryz.underlying24 hi26 hz26 hsi26 hby26 rfl rfl rfl hr21.1 (bX (n := 1) hv24 rfl : SlC _ _ 7 1 (aK Mn.cells [(Mn.mk ⟨z0,z1,z2,z3,z4,z5⟩ (.slice cp kids.length cc) kids)])) (by simpa [aK] using hog) (Nat.succ_pos _) (by unfold maxLen; omega) (by omega),rfl,fun v w' hap => (OR.app (all := aK Mn.cells (zs ++ [(Mn.mk ⟨z0,z1,z2,z3,z4,z5⟩ (.slice cp kids.length cc) kids)])) hr21 hyB (by simpa [aK] using hap) (by rw [aQ Mn.len]; simp)).2.1,?_⟩;rintro v25 w35 hap;obtain ⟨hr25,hyB1,hkV,hkO⟩ := OR.app (all := aK Mn.cells (zs ++ [(Mn.mk ⟨z0,z1,z2,z3,z4,z5⟩ (.slice cp kids.length cc) kids)])) hr21 hyB (by simpa [aK] using hap) (by rw [aQ Mn.len]; simp);clear hap;replace hyB := hyB1;refine Qb.alt2 (i := 11) (j := 13) (by kernel_rfl) ?_ ?_
       ·skip
        refine ⟨_,_,rfl,rfl,trivial,aC Tryz.call47 rfl (fI (hsp.ext hyB) (fun u hu => by obtain ⟨q,hq1,hq2⟩ := List.mem_flatMap.1 hu; rw [List.mem_singleton.1 hq2]; rfl) (by omega)),rfl,fun _ _ hr => hyB.ext hr.2,?_⟩;rintro v28 w36 ⟨hr280,hx36⟩;have hr28 : OR w31 3 1 w36 v28 ps.length (aK iJ ps) := OR.of hr280 hyB.le;clear hr280;replace hyB := hyB.ext hx36;replace hr25 := hr25.ext hx36;refine Qb.alt1 (i := 13) (by kernel_rfl) ?_;refine ⟨_,_,rfl,rfl,trivial,aD (kJ _) rfl,rfl,fun _ _ hr => by obtain ⟨_,_,_,hr,_⟩ := hr; exact hyB.ext hr,?_⟩;rintro _ w37 ⟨b30,rfl,q30,hx37,hv30⟩;replace hyB := hyB.ext hx37;replace hr25 := hr25.ext hx37;replace hr28 := hr28.ext hx37;refine Qb.alt1 (i := 14) (by kernel_rfl) ?_;refine ⟨_,_,rfl,rfl,trivial,bL (k := 1) Tryz.underlying34 hi3 hz3 hsi3 hby3 rfl rfl rfl hr28.1 (bX (n := 1) hv30 rfl : SlC _ _ 1 1 (aK iJ [i])) (by simp [aK,iJ,Value.oneCell']) (Nat.succ_pos _) (by unfold maxLen; omega) (by omega),rfl,fun v w' hap => (OR.app (all := aK iJ (ps ++ [i])) hr28 hyB (by simpa [aK] using hap) (by rw [aQ dS]; simp)).2.1,?_⟩;rintro v31 w38 hap;obtain ⟨hr31,hyB1,hkV,hkO⟩ := OR.app (all := aK iJ (ps ++ [i])) hr28 hyB (by simpa [aK] using hap) (by rw [aQ dS]; simp);clear hap;replace hyB := hyB1;replace hr25 := hkO _ _ _ _ _ (by decide) hr25;obtain ⟨xp,xc,rfl⟩ : ∃ p c,v25 = .slice p (zs.length + 1) c := by obtain ⟨_,p,c,rfl,_⟩ := hr25.slc; exact ⟨p,c,rfl⟩
        obtain ⟨up,uc,rfl⟩ : ∃ p c,v31 = .slice p (ps.length + 1) c := by obtain ⟨_,p,c,rfl,_⟩ := hr31.slc; exact ⟨p,c,rfl⟩
        refine Qb.tameW (by kernel_rfl) 15 rfl (by kernel_rfl) trivial (bY fun wz => cH (eQ _ _ _ _ _ _ _ _ _ _ _ _ _ _ _) rfl) rfl ?_;refine Qb.alt1 (i := 16) (by kernel_rfl) ?_;refine ⟨_,_,rfl,rfl,trivial,aC Tryz.call26 rfl (ih (anc (Mn.mk ⟨y0,y1,y2,y3,y4,y5⟩ (.slice yp kk.length yc) kk).er) (by omega) (Mn.mk ⟨y0,y1,y2,y3,y4,y5⟩ (.slice yp kk.length yc) kk) (Nat.le_refl _) (by omega) hqi _ (.slice xp (zs.length + 1) xc) (.slice up (ps.length + 1) uc) (zs ++ [(Mn.mk ⟨z0,z1,z2,z3,z4,z5⟩ (.slice cp kids.length cc) kids)]) (ps ++ [i]) (NoL.ext hN hyB) (by simpa using hr25.slc) (fun q hq1 => by rcases List.mem_append.1 hq1 with hq1 | hq1; exact hoa q hq1; rw [List.mem_singleton.1 hq1]; exact hog) rfl (by simpa using hr31.slc) rfl (by simp only [List.length_append,List.length_singleton]; omega) (by simp only [List.length_append,List.length_singleton]; omega)),rfl,fun _ _ hr => by obtain ⟨_,_,_,_,hr⟩ := hr; exact hyB.ext hr,?_⟩;rintro v33 w39 ⟨L2,hs33,hL2,hn2,hx39⟩;replace hyB := hyB.ext hx39;refine Qb.bar (fun _ => True) 17 19 rfl (by kernel_rfl) rfl trivial (bL Tryz.underlying32 hi36 hz36 hsi36 hby36 rfl rfl rfl (cM hO hyB) hs33 (rE fun p hp => (hL2 p hp).1) (by rw [hn2]; show 0 < cK _ + 1; omega) (by unfold maxLen; omega) (by omega)) rfl (fun _ _ _ => trivial) ?_;rintro v34 w60 hap;refine Qb.tameW (by kernel_rfl) 18 rfl (by kernel_rfl) trivial (bY fun wz => eJ rfl) rfl ?_;refine Qb.done (by kernel_rfl) ?_;exact ⟨v34,by repeat (first | exact .nil | refine .cons rfl ?_),L2,⟨_,hap,hyB⟩,hL2,hn2⟩
       ·skip
        refine ⟨_,_,rfl,rfl,trivial,aD (kJ _) rfl,rfl,fun _ _ hr => by obtain ⟨_,_,_,hr,_⟩ := hr; exact hyB.ext hr,?_⟩;rintro _ w36 ⟨b30,rfl,q30,hx36,hv30⟩;replace hyB := hyB.ext hx36;replace hr25 := hr25.ext hx36;refine Qb.alt1 (i := 11) (by kernel_rfl) ?_;refine ⟨_,_,rfl,rfl,trivial,aC Tryz.call47 rfl (fI (hsp.ext hyB) (fun u hu => by obtain ⟨q,hq1,hq2⟩ := List.mem_flatMap.1 hu; rw [List.mem_singleton.1 hq2]; rfl) (by omega)),rfl,fun _ _ hr => hyB.ext hr.2,?_⟩;rintro v28 w37 ⟨hr280,hx37⟩;have hr28 : OR w31 3 1 w37 v28 ps.length (aK iJ ps) := OR.of hr280 hyB.le;clear hr280;replace hyB := hyB.ext hx37;replace hr25 := hr25.ext hx37;replace hv30 := hv30.ext hx37;refine Qb.alt1 (i := 14) (by kernel_rfl) ?_;refine ⟨_,_,rfl,rfl,trivial,bL (k := 1) Tryz.underlying34 hi3 hz3 hsi3 hby3 rfl rfl rfl hr28.1 (bX (n := 1) hv30 rfl : SlC _ _ 1 1 (aK iJ [i])) (by simp [aK,iJ,Value.oneCell']) (Nat.succ_pos _) (by unfold maxLen; omega) (by omega),rfl,fun v w' hap => (OR.app (all := aK iJ (ps ++ [i])) hr28 hyB (by simpa [aK] using hap) (by rw [aQ dS]; simp)).2.1,?_⟩;rintro v31 w38 hap;obtain ⟨hr31,hyB1,hkV,hkO⟩ := OR.app (all := aK iJ (ps ++ [i])) hr28 hyB (by simpa [aK] using hap) (by rw [aQ dS]; simp);clear hap;replace hyB := hyB1;replace hr25 := hkO _ _ _ _ _ (by decide) hr25;obtain ⟨xp,xc,rfl⟩ : ∃ p c,v25 = .slice p (zs.length + 1) c := by obtain ⟨_,p,c,rfl,_⟩ := hr25.slc; exact ⟨p,c,rfl⟩
        obtain ⟨up,uc,rfl⟩ : ∃ p c,v31 = .slice p (ps.length + 1) c := by obtain ⟨_,p,c,rfl,_⟩ := hr31.slc; exact ⟨p,c,rfl⟩
        refine Qb.tameW (by kernel_rfl) 15 rfl (by kernel_rfl) trivial (bY fun wz => cH (eQ _ _ _ _ _ _ _ _ _ _ _ _ _ _ _) rfl) rfl ?_;refine Qb.alt1 (i := 16) (by kernel_rfl) ?_;refine ⟨_,_,rfl,rfl,trivial,aC Tryz.call26 rfl (ih (anc (Mn.mk ⟨y0,y1,y2,y3,y4,y5⟩ (.slice yp kk.length yc) kk).er) (by omega) (Mn.mk ⟨y0,y1,y2,y3,y4,y5⟩ (.slice yp kk.length yc) kk) (Nat.le_refl _) (by omega) hqi _ (.slice xp (zs.length + 1) xc) (.slice up (ps.length + 1) uc) (zs ++ [(Mn.mk ⟨z0,z1,z2,z3,z4,z5⟩ (.slice cp kids.length cc) kids)]) (ps ++ [i]) (NoL.ext hN hyB) (by simpa using hr25.slc) (fun q hq1 => by rcases List.mem_append.1 hq1 with hq1 | hq1; exact hoa q hq1; rw [List.mem_singleton.1 hq1]; exact hog) rfl (by simpa using hr31.slc) rfl (by simp only [List.length_append,List.length_singleton]; omega) (by simp only [List.length_append,List.length_singleton]; omega)),rfl,fun _ _ hr => by obtain ⟨_,_,_,_,hr⟩ := hr; exact hyB.ext hr,?_⟩;rintro v33 w39 ⟨L2,hs33,hL2,hn2,hx39⟩;replace hyB := hyB.ext hx39;refine Qb.bar (fun _ => True) 17 19 rfl (by kernel_rfl) rfl trivial (bL Tryz.underlying32 hi36 hz36 hsi36 hby36 rfl rfl rfl (cM hO hyB) hs33 (rE fun p hp => (hL2 p hp).1) (by rw [hn2]; show 0 < cK _ + 1; omega) (by unfold maxLen; omega) (by omega)) rfl (fun _ _ _ => trivial) ?_;rintro v34 w60 hap;refine Qb.tameW (by kernel_rfl) 18 rfl (by kernel_rfl) trivial (bY fun wz => eJ rfl) rfl ?_;refine Qb.done (by kernel_rfl) ?_;exact ⟨v34,by repeat (first | exact .nil | refine .cons rfl ?_),L2,⟨_,hap,hyB⟩,hL2,hn2⟩
      ·skip
       refine ⟨_,_,rfl,rfl,trivial,aD (kJ _) rfl,rfl,fun _ _ hr => by obtain ⟨_,_,_,hr,_⟩ := hr; exact hyB.ext hr,?_⟩;rintro _ w35 ⟨b30,rfl,q30,hx35,hv30⟩;replace hyB := hyB.ext hx35;replace hr21 := hr21.ext hx35;replace hv24 := hv24.ext hx35;refine Qb.alt1 (i := 8) (by kernel_rfl) ?_;refine ⟨_,_,rfl,rfl,trivial,bL (k := 1) Tryz.underlying24 hi26 hz26 hsi26 hby26 rfl rfl rfl hr21.1 (bX (n := 1) hv24 rfl : SlC _ _ 7 1 (aK Mn.cells [(Mn.mk ⟨z0,z1,z2,z3,z4,z5⟩ (.slice cp kids.length cc) kids)])) (by simpa [aK] using hog) (Nat.succ_pos _) (by unfold maxLen; omega) (by omega),rfl,fun v w' hap => (OR.app (all := aK Mn.cells (zs ++ [(Mn.mk ⟨z0,z1,z2,z3,z4,z5⟩ (.slice cp kids.length cc) kids)])) hr21 hyB (by simpa [aK] using hap) (by rw [aQ Mn.len]; simp)).2.1,?_⟩;rintro v25 w36 hap;obtain ⟨hr25,hyB1,hkV,hkO⟩ := OR.app (all := aK Mn.cells (zs ++ [(Mn.mk ⟨z0,z1,z2,z3,z4,z5⟩ (.slice cp kids.length cc) kids)])) hr21 hyB (by simpa [aK] using hap) (by rw [aQ Mn.len]; simp);clear hap;replace hyB := hyB1;replace hv30 := hkV _ _ _ (by decide) hv30;refine Qb.alt1 (i := 11) (by kernel_rfl) ?_;refine ⟨_,_,rfl,rfl,trivial,aC Tryz.call47 rfl (fI (hsp.ext hyB) (fun u hu => by obtain ⟨q,hq1,hq2⟩ := List.mem_flatMap.1 hu; rw [List.mem_singleton.1 hq2]; rfl) (by omega)),rfl,fun _ _ hr => hyB.ext hr.2,?_⟩;rintro v28 w37 ⟨hr280,hx37⟩;have hr28 : OR w31 3 1 w37 v28 ps.length (aK iJ ps) := OR.of hr280 hyB.le;clear hr280;replace hyB := hyB.ext hx37;replace hv30 := hv30.ext hx37;replace hr25 := hr25.ext hx37;refine Qb.alt1 (i := 14) (by kernel_rfl) ?_;refine ⟨_,_,rfl,rfl,trivial,bL (k := 1) Tryz.underlying34 hi3 hz3 hsi3 hby3 rfl rfl rfl hr28.1 (bX (n := 1) hv30 rfl : SlC _ _ 1 1 (aK iJ [i])) (by simp [aK,iJ,Value.oneCell']) (Nat.succ_pos _) (by unfold maxLen; omega) (by omega),rfl,fun v w' hap => (OR.app (all := aK iJ (ps ++ [i])) hr28 hyB (by simpa [aK] using hap) (by rw [aQ dS]; simp)).2.1,?_⟩;rintro v31 w38 hap
       obtain ⟨hr31,hyB1,hkV,hkO⟩ := OR.app (all := aK iJ (ps ++ [i])) hr28 hyB (by simpa [aK] using hap) (by rw [aQ dS]; simp);clear hap;replace hyB := hyB1;replace hr25 := hkO _ _ _ _ _ (by decide) hr25;obtain ⟨xp,xc,rfl⟩ : ∃ p c,v25 = .slice p (zs.length + 1) c := by obtain ⟨_,p,c,rfl,_⟩ := hr25.slc; exact ⟨p,c,rfl⟩
       obtain ⟨up,uc,rfl⟩ : ∃ p c,v31 = .slice p (ps.length + 1) c := by obtain ⟨_,p,c,rfl,_⟩ := hr31.slc; exact ⟨p,c,rfl⟩
       refine Qb.tameW (by kernel_rfl) 15 rfl (by kernel_rfl) trivial (bY fun wz => cH (eQ _ _ _ _ _ _ _ _ _ _ _ _ _ _ _) rfl) rfl ?_;refine Qb.alt1 (i := 16) (by kernel_rfl) ?_;refine ⟨_,_,rfl,rfl,trivial,aC Tryz.call26 rfl (ih (anc (Mn.mk ⟨y0,y1,y2,y3,y4,y5⟩ (.slice yp kk.length yc) kk).er) (by omega) (Mn.mk ⟨y0,y1,y2,y3,y4,y5⟩ (.slice yp kk.length yc) kk) (Nat.le_refl _) (by omega) hqi _ (.slice xp (zs.length + 1) xc) (.slice up (ps.length + 1) uc) (zs ++ [(Mn.mk ⟨z0,z1,z2,z3,z4,z5⟩ (.slice cp kids.length cc) kids)]) (ps ++ [i]) (NoL.ext hN hyB) (by simpa using hr25.slc) (fun q hq1 => by rcases List.mem_append.1 hq1 with hq1 | hq1; exact hoa q hq1; rw [List.mem_singleton.1 hq1]; exact hog) rfl (by simpa using hr31.slc) rfl (by simp only [List.length_append,List.length_singleton]; omega) (by simp only [List.length_append,List.length_singleton]; omega)),rfl,fun _ _ hr => by obtain ⟨_,_,_,_,hr⟩ := hr; exact hyB.ext hr,?_⟩;rintro v33 w39 ⟨L2,hs33,hL2,hn2,hx39⟩;replace hyB := hyB.ext hx39;refine Qb.bar (fun _ => True) 17 19 rfl (by kernel_rfl) rfl trivial (bL Tryz.underlying32 hi36 hz36 hsi36 hby36 rfl rfl rfl (cM hO hyB) hs33 (rE fun p hp => (hL2 p hp).1) (by rw [hn2]; show 0 < cK _ + 1; omega) (by unfold maxLen; omega) (by omega)) rfl (fun _ _ _ => trivial) ?_;rintro v34 w60 hap;refine Qb.tameW (by kernel_rfl) 18 rfl (by kernel_rfl) trivial (bY fun wz => eJ rfl) rfl ?_;refine Qb.done (by kernel_rfl) ?_;exact ⟨v34,by repeat (first | exact .nil | refine .cons rfl ?_),L2,⟨_,hap,hyB⟩,hL2,hn2⟩
     ·skip
      refine ⟨_,_,rfl,rfl,trivial,aD (kJ _) rfl,rfl,fun _ _ hr => by obtain ⟨_,_,_,hr,_⟩ := hr; exact hyB.ext hr,?_⟩;rintro _ w34 ⟨b30,rfl,q30,hx34,hv30⟩;replace hyB := hyB.ext hx34;replace hr21 := hr21.ext hx34;refine Qb.alt1 (i := 7) (by kernel_rfl) ?_;refine ⟨_,_,rfl,rfl,trivial,aD (mN _ _ _ _ _ _ _ _ _) rfl,rfl,fun _ _ hr => by obtain ⟨_,_,_,hr,_⟩ := hr; exact hyB.ext hr,?_⟩;rintro _ w35 ⟨b24,rfl,q24,hx35,hv24⟩;replace hyB := hyB.ext hx35;replace hr21 := hr21.ext hx35;replace hv30 := hv30.ext hx35;refine Qb.alt1 (i := 8) (by kernel_rfl) ?_;refine ⟨_,_,rfl,rfl,trivial,bL (k := 1) Tryz.underlying24 hi26 hz26 hsi26 hby26 rfl rfl rfl hr21.1 (bX (n := 1) hv24 rfl : SlC _ _ 7 1 (aK Mn.cells [(Mn.mk ⟨z0,z1,z2,z3,z4,z5⟩ (.slice cp kids.length cc) kids)])) (by simpa [aK] using hog) (Nat.succ_pos _) (by unfold maxLen; omega) (by omega),rfl,fun v w' hap => (OR.app (all := aK Mn.cells (zs ++ [(Mn.mk ⟨z0,z1,z2,z3,z4,z5⟩ (.slice cp kids.length cc) kids)])) hr21 hyB (by simpa [aK] using hap) (by rw [aQ Mn.len]; simp)).2.1,?_⟩;rintro v25 w36 hap;obtain ⟨hr25,hyB1,hkV,hkO⟩ := OR.app (all := aK Mn.cells (zs ++ [(Mn.mk ⟨z0,z1,z2,z3,z4,z5⟩ (.slice cp kids.length cc) kids)])) hr21 hyB (by simpa [aK] using hap) (by rw [aQ Mn.len]; simp);clear hap;replace hyB := hyB1;replace hv30 := hkV _ _ _ (by decide) hv30;refine Qb.alt1 (i := 11) (by kernel_rfl) ?_;refine ⟨_,_,rfl,rfl,trivial,aC Tryz.call47 rfl (fI (hsp.ext hyB) (fun u hu => by obtain ⟨q,hq1,hq2⟩ := List.mem_flatMap.1 hu; rw [List.mem_singleton.1 hq2]; rfl) (by omega)),rfl,fun _ _ hr => hyB.ext hr.2,?_⟩;rintro v28 w37 ⟨hr280,hx37⟩;have hr28 : OR w31 3 1 w37 v28 ps.length (aK iJ ps) := OR.of hr280 hyB.le;clear hr280;replace hyB := hyB.ext hx37;replace hv30 := hv30.ext hx37;replace hr25 := hr25.ext hx37;refine Qb.alt1 (i := 14) (by kernel_rfl) ?_
      refine ⟨_,_,rfl,rfl,trivial,bL (k := 1) Tryz.underlying34 hi3 hz3 hsi3 hby3 rfl rfl rfl hr28.1 (bX (n := 1) hv30 rfl : SlC _ _ 1 1 (aK iJ [i])) (by simp [aK,iJ,Value.oneCell']) (Nat.succ_pos _) (by unfold maxLen; omega) (by omega),rfl,fun v w' hap => (OR.app (all := aK iJ (ps ++ [i])) hr28 hyB (by simpa [aK] using hap) (by rw [aQ dS]; simp)).2.1,?_⟩;rintro v31 w38 hap;obtain ⟨hr31,hyB1,hkV,hkO⟩ := OR.app (all := aK iJ (ps ++ [i])) hr28 hyB (by simpa [aK] using hap) (by rw [aQ dS]; simp);clear hap;replace hyB := hyB1;replace hr25 := hkO _ _ _ _ _ (by decide) hr25;obtain ⟨xp,xc,rfl⟩ : ∃ p c,v25 = .slice p (zs.length + 1) c := by obtain ⟨_,p,c,rfl,_⟩ := hr25.slc; exact ⟨p,c,rfl⟩
      obtain ⟨up,uc,rfl⟩ : ∃ p c,v31 = .slice p (ps.length + 1) c := by obtain ⟨_,p,c,rfl,_⟩ := hr31.slc; exact ⟨p,c,rfl⟩
      refine Qb.tameW (by kernel_rfl) 15 rfl (by kernel_rfl) trivial (bY fun wz => cH (eQ _ _ _ _ _ _ _ _ _ _ _ _ _ _ _) rfl) rfl ?_;refine Qb.alt1 (i := 16) (by kernel_rfl) ?_;refine ⟨_,_,rfl,rfl,trivial,aC Tryz.call26 rfl (ih (anc (Mn.mk ⟨y0,y1,y2,y3,y4,y5⟩ (.slice yp kk.length yc) kk).er) (by omega) (Mn.mk ⟨y0,y1,y2,y3,y4,y5⟩ (.slice yp kk.length yc) kk) (Nat.le_refl _) (by omega) hqi _ (.slice xp (zs.length + 1) xc) (.slice up (ps.length + 1) uc) (zs ++ [(Mn.mk ⟨z0,z1,z2,z3,z4,z5⟩ (.slice cp kids.length cc) kids)]) (ps ++ [i]) (NoL.ext hN hyB) (by simpa using hr25.slc) (fun q hq1 => by rcases List.mem_append.1 hq1 with hq1 | hq1; exact hoa q hq1; rw [List.mem_singleton.1 hq1]; exact hog) rfl (by simpa using hr31.slc) rfl (by simp only [List.length_append,List.length_singleton]; omega) (by simp only [List.length_append,List.length_singleton]; omega)),rfl,fun _ _ hr => by obtain ⟨_,_,_,_,hr⟩ := hr; exact hyB.ext hr,?_⟩;rintro v33 w39 ⟨L2,hs33,hL2,hn2,hx39⟩;replace hyB := hyB.ext hx39;refine Qb.bar (fun _ => True) 17 19 rfl (by kernel_rfl) rfl trivial (bL Tryz.underlying32 hi36 hz36 hsi36 hby36 rfl rfl rfl (cM hO hyB) hs33 (rE fun p hp => (hL2 p hp).1) (by rw [hn2]; show 0 < cK _ + 1; omega) (by unfold maxLen; omega) (by omega)) rfl (fun _ _ _ => trivial) ?_;rintro v34 w60 hap;refine Qb.tameW (by kernel_rfl) 18 rfl (by kernel_rfl) trivial (bY fun wz => eJ rfl) rfl ?_;refine Qb.done (by kernel_rfl) ?_;exact ⟨v34,by repeat (first | exact .nil | refine .cons rfl ?_),L2,⟨_,hap,hyB⟩,hL2,hn2⟩
    ·skip
     refine ⟨_,_,rfl,rfl,trivial,aD (mN _ _ _ _ _ _ _ _ _) rfl,rfl,fun _ _ hr => by obtain ⟨_,_,_,hr,_⟩ := hr; exact hyB.ext hr,?_⟩;rintro _ w33 ⟨b24,rfl,q24,hx33,hv24⟩;replace hyB := hyB.ext hx33;refine Qb.alt2 (i := 4) (j := 13) (by kernel_rfl) ?_ ?_
     ·skip
      refine ⟨_,_,rfl,rfl,trivial,aC Tryz.call46 rfl (kD (hsa.ext hyB) (fun u hu => by obtain ⟨q,hq1,hq2⟩ := List.mem_flatMap.1 hu; exact List.all_eq_true.1 (hoa q hq1) u hq2) (by omega)),rfl,fun _ _ hr => hyB.ext hr.2,?_⟩;rintro v21 w34 ⟨hr210,hx34⟩;have hr21 : OR w31 26 7 w34 v21 zs.length (aK Mn.cells zs) := OR.of hr210 hyB.le;clear hr210;replace hyB := hyB.ext hx34;replace hv24 := hv24.ext hx34;refine Qb.alt2 (i := 8) (j := 13) (by kernel_rfl) ?_ ?_
      ·skip
       refine ⟨_,_,rfl,rfl,trivial,bL (k := 1) Tryz.underlying24 hi26 hz26 hsi26 hby26 rfl rfl rfl hr21.1 (bX (n := 1) hv24 rfl : SlC _ _ 7 1 (aK Mn.cells [(Mn.mk ⟨z0,z1,z2,z3,z4,z5⟩ (.slice cp kids.length cc) kids)])) (by simpa [aK] using hog) (Nat.succ_pos _) (by unfold maxLen; omega) (by omega),rfl,fun v w' hap => (OR.app (all := aK Mn.cells (zs ++ [(Mn.mk ⟨z0,z1,z2,z3,z4,z5⟩ (.slice cp kids.length cc) kids)])) hr21 hyB (by simpa [aK] using hap) (by rw [aQ Mn.len]; simp)).2.1,?_⟩;rintro v25 w35 hap;obtain ⟨hr25,hyB1,hkV,hkO⟩ := OR.app (all := aK Mn.cells (zs ++ [(Mn.mk ⟨z0,z1,z2,z3,z4,z5⟩ (.slice cp kids.length cc) kids)])) hr21 hyB (by simpa [aK] using hap) (by rw [aQ Mn.len]; simp);clear hap;replace hyB := hyB1;refine Qb.alt2 (i := 11) (j := 13) (by kernel_rfl) ?_ ?_
       ·skip
        refine ⟨_,_,rfl,rfl,trivial,aC Tryz.call47 rfl (fI (hsp.ext hyB) (fun u hu => by obtain ⟨q,hq1,hq2⟩ := List.mem_flatMap.1 hu; rw [List.mem_singleton.1 hq2]; rfl) (by omega)),rfl,fun _ _ hr => hyB.ext hr.2,?_⟩;rintro v28 w36 ⟨hr280,hx36⟩;have hr28 : OR w31 3 1 w36 v28 ps.length (aK iJ ps) := OR.of hr280 hyB.le;clear hr280;replace hyB := hyB.ext hx36;replace hr25 := hr25.ext hx36;refine Qb.alt1 (i := 13) (by kernel_rfl) ?_;refine ⟨_,_,rfl,rfl,trivial,aD (kJ _) rfl,rfl,fun _ _ hr => by obtain ⟨_,_,_,hr,_⟩ := hr; exact hyB.ext hr,?_⟩;rintro _ w37 ⟨b30,rfl,q30,hx37,hv30⟩;replace hyB := hyB.ext hx37;replace hr25 := hr25.ext hx37;replace hr28 := hr28.ext hx37;refine Qb.alt1 (i := 14) (by kernel_rfl) ?_;refine ⟨_,_,rfl,rfl,trivial,bL (k := 1) Tryz.underlying34 hi3 hz3 hsi3 hby3 rfl rfl rfl hr28.1 (bX (n := 1) hv30 rfl : SlC _ _ 1 1 (aK iJ [i])) (by simp [aK,iJ,Value.oneCell']) (Nat.succ_pos _) (by unfold maxLen; omega) (by omega),rfl,fun v w' hap => (OR.app (all := aK iJ (ps ++ [i])) hr28 hyB (by simpa [aK] using hap) (by rw [aQ dS]; simp)).2.1,?_⟩;rintro v31 w38 hap;obtain ⟨hr31,hyB1,hkV,hkO⟩ := OR.app (all := aK iJ (ps ++ [i])) hr28 hyB (by simpa [aK] using hap) (by rw [aQ dS]; simp);clear hap;replace hyB := hyB1;replace hr25 := hkO _ _ _ _ _ (by decide) hr25;obtain ⟨xp,xc,rfl⟩ : ∃ p c,v25 = .slice p (zs.length + 1) c := by obtain ⟨_,p,c,rfl,_⟩ := hr25.slc; exact ⟨p,c,rfl⟩
        obtain ⟨up,uc,rfl⟩ : ∃ p c,v31 = .slice p (ps.length + 1) c := by obtain ⟨_,p,c,rfl,_⟩ := hr31.slc; exact ⟨p,c,rfl⟩
        refine Qb.tameW (by kernel_rfl) 15 rfl (by kernel_rfl) trivial (bY fun wz => cH (eQ _ _ _ _ _ _ _ _ _ _ _ _ _ _ _) rfl) rfl ?_;refine Qb.alt1 (i := 16) (by kernel_rfl) ?_;refine ⟨_,_,rfl,rfl,trivial,aC Tryz.call26 rfl (ih (anc (Mn.mk ⟨y0,y1,y2,y3,y4,y5⟩ (.slice yp kk.length yc) kk).er) (by omega) (Mn.mk ⟨y0,y1,y2,y3,y4,y5⟩ (.slice yp kk.length yc) kk) (Nat.le_refl _) (by omega) hqi _ (.slice xp (zs.length + 1) xc) (.slice up (ps.length + 1) uc) (zs ++ [(Mn.mk ⟨z0,z1,z2,z3,z4,z5⟩ (.slice cp kids.length cc) kids)]) (ps ++ [i]) (NoL.ext hN hyB) (by simpa using hr25.slc) (fun q hq1 => by rcases List.mem_append.1 hq1 with hq1 | hq1; exact hoa q hq1; rw [List.mem_singleton.1 hq1]; exact hog) rfl (by simpa using hr31.slc) rfl (by simp only [List.length_append,List.length_singleton]; omega) (by simp only [List.length_append,List.length_singleton]; omega)),rfl,fun _ _ hr => by obtain ⟨_,_,_,_,hr⟩ := hr; exact hyB.ext hr,?_⟩;rintro v33 w39 ⟨L2,hs33,hL2,hn2,hx39⟩;replace hyB := hyB.ext hx39;refine Qb.bar (fun _ => True) 17 19 rfl (by kernel_rfl) rfl trivial (bL Tryz.underlying32 hi36 hz36 hsi36 hby36 rfl rfl rfl (cM hO hyB) hs33 (rE fun p hp => (hL2 p hp).1) (by rw [hn2]; show 0 < cK _ + 1; omega) (by unfold maxLen; omega) (by omega)) rfl (fun _ _ _ => trivial) ?_;rintro v34 w60 hap;refine Qb.tameW (by kernel_rfl) 18 rfl (by kernel_rfl) trivial (bY fun wz => eJ rfl) rfl ?_;refine Qb.done (by kernel_rfl) ?_;exact ⟨v34,by repeat (first | exact .nil | refine .cons rfl ?_),L2,⟨_,hap,hyB⟩,hL2,hn2⟩
       ·skip
        refine ⟨_,_,rfl,rfl,trivial,aD (kJ _) rfl,rfl,fun _ _ hr => by obtain ⟨_,_,_,hr,_⟩ := hr; exact hyB.ext hr,?_⟩;rintro _ w36 ⟨b30,rfl,q30,hx36,hv30⟩;replace hyB := hyB.ext hx36;replace hr25 := hr25.ext hx36;refine Qb.alt1 (i := 11) (by kernel_rfl) ?_;refine ⟨_,_,rfl,rfl,trivial,aC Tryz.call47 rfl (fI (hsp.ext hyB) (fun u hu => by obtain ⟨q,hq1,hq2⟩ := List.mem_flatMap.1 hu; rw [List.mem_singleton.1 hq2]; rfl) (by omega)),rfl,fun _ _ hr => hyB.ext hr.2,?_⟩;rintro v28 w37 ⟨hr280,hx37⟩;have hr28 : OR w31 3 1 w37 v28 ps.length (aK iJ ps) := OR.of hr280 hyB.le;clear hr280;replace hyB := hyB.ext hx37;replace hr25 := hr25.ext hx37;replace hv30 := hv30.ext hx37;refine Qb.alt1 (i := 14) (by kernel_rfl) ?_;refine ⟨_,_,rfl,rfl,trivial,bL (k := 1) Tryz.underlying34 hi3 hz3 hsi3 hby3 rfl rfl rfl hr28.1 (bX (n := 1) hv30 rfl : SlC _ _ 1 1 (aK iJ [i])) (by simp [aK,iJ,Value.oneCell']) (Nat.succ_pos _) (by unfold maxLen; omega) (by omega),rfl,fun v w' hap => (OR.app (all := aK iJ (ps ++ [i])) hr28 hyB (by simpa [aK] using hap) (by rw [aQ dS]; simp)).2.1,?_⟩;rintro v31 w38 hap;obtain ⟨hr31,hyB1,hkV,hkO⟩ := OR.app (all := aK iJ (ps ++ [i])) hr28 hyB (by simpa [aK] using hap) (by rw [aQ dS]; simp);clear hap;replace hyB := hyB1;replace hr25 := hkO _ _ _ _ _ (by decide) hr25;obtain ⟨xp,xc,rfl⟩ : ∃ p c,v25 = .slice p (zs.length + 1) c := by obtain ⟨_,p,c,rfl,_⟩ := hr25.slc; exact ⟨p,c,rfl⟩
        obtain ⟨up,uc,rfl⟩ : ∃ p c,v31 = .slice p (ps.length + 1) c := by obtain ⟨_,p,c,rfl,_⟩ := hr31.slc; exact ⟨p,c,rfl⟩
        refine Qb.tameW (by kernel_rfl) 15 rfl (by kernel_rfl) trivial (bY fun wz => cH (eQ _ _ _ _ _ _ _ _ _ _ _ _ _ _ _) rfl) rfl ?_;refine Qb.alt1 (i := 16) (by kernel_rfl) ?_;refine ⟨_,_,rfl,rfl,trivial,aC Tryz.call26 rfl (ih (anc (Mn.mk ⟨y0,y1,y2,y3,y4,y5⟩ (.slice yp kk.length yc) kk).er) (by omega) (Mn.mk ⟨y0,y1,y2,y3,y4,y5⟩ (.slice yp kk.length yc) kk) (Nat.le_refl _) (by omega) hqi _ (.slice xp (zs.length + 1) xc) (.slice up (ps.length + 1) uc) (zs ++ [(Mn.mk ⟨z0,z1,z2,z3,z4,z5⟩ (.slice cp kids.length cc) kids)]) (ps ++ [i]) (NoL.ext hN hyB) (by simpa using hr25.slc) (fun q hq1 => by rcases List.mem_append.1 hq1 with hq1 | hq1; exact hoa q hq1; rw [List.mem_singleton.1 hq1]; exact hog) rfl (by simpa using hr31.slc) rfl (by simp only [List.length_append,List.length_singleton]; omega) (by simp only [List.length_append,List.length_singleton]; omega)),rfl,fun _ _ hr => by obtain ⟨_,_,_,_,hr⟩ := hr; exact hyB.ext hr,?_⟩;rintro v33 w39 ⟨L2,hs33,hL2,hn2,hx39⟩;replace hyB := hyB.ext hx39;refine Qb.bar (fun _ => True) 17 19 rfl (by kernel_rfl) rfl trivial (bL Tryz.underlying32 hi36 hz36 hsi36 hby36 rfl rfl rfl (cM hO hyB) hs33 (rE fun p hp => (hL2 p hp).1) (by rw [hn2]; show 0 < cK _ + 1; omega) (by unfold maxLen; omega) (by omega)) rfl (fun _ _ _ => trivial) ?_;rintro v34 w60 hap;refine Qb.tameW (by kernel_rfl) 18 rfl (by kernel_rfl) trivial (bY fun wz => eJ rfl) rfl ?_;refine Qb.done (by kernel_rfl) ?_;exact ⟨v34,by repeat (first | exact .nil | refine .cons rfl ?_),L2,⟨_,hap,hyB⟩,hL2,hn2⟩
      ·skip
       refine ⟨_,_,rfl,rfl,trivial,aD (kJ _) rfl,rfl,fun _ _ hr => by obtain ⟨_,_,_,hr,_⟩ := hr; exact hyB.ext hr,?_⟩;rintro _ w35 ⟨b30,rfl,q30,hx35,hv30⟩;replace hyB := hyB.ext hx35;replace hv24 := hv24.ext hx35;replace hr21 := hr21.ext hx35;refine Qb.alt1 (i := 8) (by kernel_rfl) ?_;refine ⟨_,_,rfl,rfl,trivial,bL (k := 1) Tryz.underlying24 hi26 hz26 hsi26 hby26 rfl rfl rfl hr21.1 (bX (n := 1) hv24 rfl : SlC _ _ 7 1 (aK Mn.cells [(Mn.mk ⟨z0,z1,z2,z3,z4,z5⟩ (.slice cp kids.length cc) kids)])) (by simpa [aK] using hog) (Nat.succ_pos _) (by unfold maxLen; omega) (by omega),rfl,fun v w' hap => (OR.app (all := aK Mn.cells (zs ++ [(Mn.mk ⟨z0,z1,z2,z3,z4,z5⟩ (.slice cp kids.length cc) kids)])) hr21 hyB (by simpa [aK] using hap) (by rw [aQ Mn.len]; simp)).2.1,?_⟩;rintro v25 w36 hap;obtain ⟨hr25,hyB1,hkV,hkO⟩ := OR.app (all := aK Mn.cells (zs ++ [(Mn.mk ⟨z0,z1,z2,z3,z4,z5⟩ (.slice cp kids.length cc) kids)])) hr21 hyB (by simpa [aK] using hap) (by rw [aQ Mn.len]; simp);clear hap;replace hyB := hyB1;replace hv30 := hkV _ _ _ (by decide) hv30;refine Qb.alt1 (i := 11) (by kernel_rfl) ?_;refine ⟨_,_,rfl,rfl,trivial,aC Tryz.call47 rfl (fI (hsp.ext hyB) (fun u hu => by obtain ⟨q,hq1,hq2⟩ := List.mem_flatMap.1 hu; rw [List.mem_singleton.1 hq2]; rfl) (by omega)),rfl,fun _ _ hr => hyB.ext hr.2,?_⟩;rintro v28 w37 ⟨hr280,hx37⟩;have hr28 : OR w31 3 1 w37 v28 ps.length (aK iJ ps) := OR.of hr280 hyB.le;clear hr280;replace hyB := hyB.ext hx37;replace hv30 := hv30.ext hx37;replace hr25 := hr25.ext hx37;refine Qb.alt1 (i := 14) (by kernel_rfl) ?_;refine ⟨_,_,rfl,rfl,trivial,bL (k := 1) Tryz.underlying34 hi3 hz3 hsi3 hby3 rfl rfl rfl hr28.1 (bX (n := 1) hv30 rfl : SlC _ _ 1 1 (aK iJ [i])) (by simp [aK,iJ,Value.oneCell']) (Nat.succ_pos _) (by unfold maxLen; omega) (by omega),rfl,fun v w' hap => (OR.app (all := aK iJ (ps ++ [i])) hr28 hyB (by simpa [aK] using hap) (by rw [aQ dS]; simp)).2.1,?_⟩;rintro v31 w38 hap
       obtain ⟨hr31,hyB1,hkV,hkO⟩ := OR.app (all := aK iJ (ps ++ [i])) hr28 hyB (by simpa [aK] using hap) (by rw [aQ dS]; simp);clear hap;replace hyB := hyB1;replace hr25 := hkO _ _ _ _ _ (by decide) hr25;obtain ⟨xp,xc,rfl⟩ : ∃ p c,v25 = .slice p (zs.length + 1) c := by obtain ⟨_,p,c,rfl,_⟩ := hr25.slc; exact ⟨p,c,rfl⟩
       obtain ⟨up,uc,rfl⟩ : ∃ p c,v31 = .slice p (ps.length + 1) c := by obtain ⟨_,p,c,rfl,_⟩ := hr31.slc; exact ⟨p,c,rfl⟩
       refine Qb.tameW (by kernel_rfl) 15 rfl (by kernel_rfl) trivial (bY fun wz => cH (eQ _ _ _ _ _ _ _ _ _ _ _ _ _ _ _) rfl) rfl ?_;refine Qb.alt1 (i := 16) (by kernel_rfl) ?_;refine ⟨_,_,rfl,rfl,trivial,aC Tryz.call26 rfl (ih (anc (Mn.mk ⟨y0,y1,y2,y3,y4,y5⟩ (.slice yp kk.length yc) kk).er) (by omega) (Mn.mk ⟨y0,y1,y2,y3,y4,y5⟩ (.slice yp kk.length yc) kk) (Nat.le_refl _) (by omega) hqi _ (.slice xp (zs.length + 1) xc) (.slice up (ps.length + 1) uc) (zs ++ [(Mn.mk ⟨z0,z1,z2,z3,z4,z5⟩ (.slice cp kids.length cc) kids)]) (ps ++ [i]) (NoL.ext hN hyB) (by simpa using hr25.slc) (fun q hq1 => by rcases List.mem_append.1 hq1 with hq1 | hq1; exact hoa q hq1; rw [List.mem_singleton.1 hq1]; exact hog) rfl (by simpa using hr31.slc) rfl (by simp only [List.length_append,List.length_singleton]; omega) (by simp only [List.length_append,List.length_singleton]; omega)),rfl,fun _ _ hr => by obtain ⟨_,_,_,_,hr⟩ := hr; exact hyB.ext hr,?_⟩;rintro v33 w39 ⟨L2,hs33,hL2,hn2,hx39⟩;replace hyB := hyB.ext hx39;refine Qb.bar (fun _ => True) 17 19 rfl (by kernel_rfl) rfl trivial (bL Tryz.underlying32 hi36 hz36 hsi36 hby36 rfl rfl rfl (cM hO hyB) hs33 (rE fun p hp => (hL2 p hp).1) (by rw [hn2]; show 0 < cK _ + 1; omega) (by unfold maxLen; omega) (by omega)) rfl (fun _ _ _ => trivial) ?_;rintro v34 w60 hap;refine Qb.tameW (by kernel_rfl) 18 rfl (by kernel_rfl) trivial (bY fun wz => eJ rfl) rfl ?_;refine Qb.done (by kernel_rfl) ?_;exact ⟨v34,by repeat (first | exact .nil | refine .cons rfl ?_),L2,⟨_,hap,hyB⟩,hL2,hn2⟩
     ·skip
      refine ⟨_,_,rfl,rfl,trivial,aD (kJ _) rfl,rfl,fun _ _ hr => by obtain ⟨_,_,_,hr,_⟩ := hr; exact hyB.ext hr,?_⟩;rintro _ w34 ⟨b30,rfl,q30,hx34,hv30⟩;replace hyB := hyB.ext hx34;replace hv24 := hv24.ext hx34;refine Qb.alt1 (i := 4) (by kernel_rfl) ?_;refine ⟨_,_,rfl,rfl,trivial,aC Tryz.call46 rfl (kD (hsa.ext hyB) (fun u hu => by obtain ⟨q,hq1,hq2⟩ := List.mem_flatMap.1 hu; exact List.all_eq_true.1 (hoa q hq1) u hq2) (by omega)),rfl,fun _ _ hr => hyB.ext hr.2,?_⟩;rintro v21 w35 ⟨hr210,hx35⟩;have hr21 : OR w31 26 7 w35 v21 zs.length (aK Mn.cells zs) := OR.of hr210 hyB.le;clear hr210;replace hyB := hyB.ext hx35;replace hv24 := hv24.ext hx35;replace hv30 := hv30.ext hx35;refine Qb.alt1 (i := 8) (by kernel_rfl) ?_;refine ⟨_,_,rfl,rfl,trivial,bL (k := 1) Tryz.underlying24 hi26 hz26 hsi26 hby26 rfl rfl rfl hr21.1 (bX (n := 1) hv24 rfl : SlC _ _ 7 1 (aK Mn.cells [(Mn.mk ⟨z0,z1,z2,z3,z4,z5⟩ (.slice cp kids.length cc) kids)])) (by simpa [aK] using hog) (Nat.succ_pos _) (by unfold maxLen; omega) (by omega),rfl,fun v w' hap => (OR.app (all := aK Mn.cells (zs ++ [(Mn.mk ⟨z0,z1,z2,z3,z4,z5⟩ (.slice cp kids.length cc) kids)])) hr21 hyB (by simpa [aK] using hap) (by rw [aQ Mn.len]; simp)).2.1,?_⟩;rintro v25 w36 hap;obtain ⟨hr25,hyB1,hkV,hkO⟩ := OR.app (all := aK Mn.cells (zs ++ [(Mn.mk ⟨z0,z1,z2,z3,z4,z5⟩ (.slice cp kids.length cc) kids)])) hr21 hyB (by simpa [aK] using hap) (by rw [aQ Mn.len]; simp);clear hap;replace hyB := hyB1;replace hv30 := hkV _ _ _ (by decide) hv30;refine Qb.alt1 (i := 11) (by kernel_rfl) ?_;refine ⟨_,_,rfl,rfl,trivial,aC Tryz.call47 rfl (fI (hsp.ext hyB) (fun u hu => by obtain ⟨q,hq1,hq2⟩ := List.mem_flatMap.1 hu; rw [List.mem_singleton.1 hq2]; rfl) (by omega)),rfl,fun _ _ hr => hyB.ext hr.2,?_⟩;rintro v28 w37 ⟨hr280,hx37⟩;have hr28 : OR w31 3 1 w37 v28 ps.length (aK iJ ps) := OR.of hr280 hyB.le;clear hr280;replace hyB := hyB.ext hx37;replace hv30 := hv30.ext hx37;replace hr25 := hr25.ext hx37;refine Qb.alt1 (i := 14) (by kernel_rfl) ?_
      refine ⟨_,_,rfl,rfl,trivial,bL (k := 1) Tryz.underlying34 hi3 hz3 hsi3 hby3 rfl rfl rfl hr28.1 (bX (n := 1) hv30 rfl : SlC _ _ 1 1 (aK iJ [i])) (by simp [aK,iJ,Value.oneCell']) (Nat.succ_pos _) (by unfold maxLen; omega) (by omega),rfl,fun v w' hap => (OR.app (all := aK iJ (ps ++ [i])) hr28 hyB (by simpa [aK] using hap) (by rw [aQ dS]; simp)).2.1,?_⟩;rintro v31 w38 hap;obtain ⟨hr31,hyB1,hkV,hkO⟩ := OR.app (all := aK iJ (ps ++ [i])) hr28 hyB (by simpa [aK] using hap) (by rw [aQ dS]; simp);clear hap;replace hyB := hyB1;replace hr25 := hkO _ _ _ _ _ (by decide) hr25;obtain ⟨xp,xc,rfl⟩ : ∃ p c,v25 = .slice p (zs.length + 1) c := by obtain ⟨_,p,c,rfl,_⟩ := hr25.slc; exact ⟨p,c,rfl⟩
      obtain ⟨up,uc,rfl⟩ : ∃ p c,v31 = .slice p (ps.length + 1) c := by obtain ⟨_,p,c,rfl,_⟩ := hr31.slc; exact ⟨p,c,rfl⟩
      refine Qb.tameW (by kernel_rfl) 15 rfl (by kernel_rfl) trivial (bY fun wz => cH (eQ _ _ _ _ _ _ _ _ _ _ _ _ _ _ _) rfl) rfl ?_;refine Qb.alt1 (i := 16) (by kernel_rfl) ?_;refine ⟨_,_,rfl,rfl,trivial,aC Tryz.call26 rfl (ih (anc (Mn.mk ⟨y0,y1,y2,y3,y4,y5⟩ (.slice yp kk.length yc) kk).er) (by omega) (Mn.mk ⟨y0,y1,y2,y3,y4,y5⟩ (.slice yp kk.length yc) kk) (Nat.le_refl _) (by omega) hqi _ (.slice xp (zs.length + 1) xc) (.slice up (ps.length + 1) uc) (zs ++ [(Mn.mk ⟨z0,z1,z2,z3,z4,z5⟩ (.slice cp kids.length cc) kids)]) (ps ++ [i]) (NoL.ext hN hyB) (by simpa using hr25.slc) (fun q hq1 => by rcases List.mem_append.1 hq1 with hq1 | hq1; exact hoa q hq1; rw [List.mem_singleton.1 hq1]; exact hog) rfl (by simpa using hr31.slc) rfl (by simp only [List.length_append,List.length_singleton]; omega) (by simp only [List.length_append,List.length_singleton]; omega)),rfl,fun _ _ hr => by obtain ⟨_,_,_,_,hr⟩ := hr; exact hyB.ext hr,?_⟩;rintro v33 w39 ⟨L2,hs33,hL2,hn2,hx39⟩;replace hyB := hyB.ext hx39;refine Qb.bar (fun _ => True) 17 19 rfl (by kernel_rfl) rfl trivial (bL Tryz.underlying32 hi36 hz36 hsi36 hby36 rfl rfl rfl (cM hO hyB) hs33 (rE fun p hp => (hL2 p hp).1) (by rw [hn2]; show 0 < cK _ + 1; omega) (by unfold maxLen; omega) (by omega)) rfl (fun _ _ _ => trivial) ?_;rintro v34 w60 hap;refine Qb.tameW (by kernel_rfl) 18 rfl (by kernel_rfl) trivial (bY fun wz => eJ rfl) rfl ?_;refine Qb.done (by kernel_rfl) ?_;exact ⟨v34,by repeat (first | exact .nil | refine .cons rfl ?_),L2,⟨_,hap,hyB⟩,hL2,hn2⟩
    ·skip
     refine ⟨_,_,rfl,rfl,trivial,aD (kJ _) rfl,rfl,fun _ _ hr => by obtain ⟨_,_,_,hr,_⟩ := hr; exact hyB.ext hr,?_⟩;rintro _ w33 ⟨b30,rfl,q30,hx33,hv30⟩;replace hyB := hyB.ext hx33;refine Qb.alt2 (i := 4) (j := 7) (by kernel_rfl) ?_ ?_
     ·skip
      refine ⟨_,_,rfl,rfl,trivial,aC Tryz.call46 rfl (kD (hsa.ext hyB) (fun u hu => by obtain ⟨q,hq1,hq2⟩ := List.mem_flatMap.1 hu; exact List.all_eq_true.1 (hoa q hq1) u hq2) (by omega)),rfl,fun _ _ hr => hyB.ext hr.2,?_⟩;rintro v21 w34 ⟨hr210,hx34⟩;have hr21 : OR w31 26 7 w34 v21 zs.length (aK Mn.cells zs) := OR.of hr210 hyB.le;clear hr210;replace hyB := hyB.ext hx34;replace hv30 := hv30.ext hx34;refine Qb.alt1 (i := 7) (by kernel_rfl) ?_;refine ⟨_,_,rfl,rfl,trivial,aD (mN _ _ _ _ _ _ _ _ _) rfl,rfl,fun _ _ hr => by obtain ⟨_,_,_,hr,_⟩ := hr; exact hyB.ext hr,?_⟩;rintro _ w35 ⟨b24,rfl,q24,hx35,hv24⟩;replace hyB := hyB.ext hx35;replace hv30 := hv30.ext hx35;replace hr21 := hr21.ext hx35;refine Qb.alt1 (i := 8) (by kernel_rfl) ?_;refine ⟨_,_,rfl,rfl,trivial,bL (k := 1) Tryz.underlying24 hi26 hz26 hsi26 hby26 rfl rfl rfl hr21.1 (bX (n := 1) hv24 rfl : SlC _ _ 7 1 (aK Mn.cells [(Mn.mk ⟨z0,z1,z2,z3,z4,z5⟩ (.slice cp kids.length cc) kids)])) (by simpa [aK] using hog) (Nat.succ_pos _) (by unfold maxLen; omega) (by omega),rfl,fun v w' hap => (OR.app (all := aK Mn.cells (zs ++ [(Mn.mk ⟨z0,z1,z2,z3,z4,z5⟩ (.slice cp kids.length cc) kids)])) hr21 hyB (by simpa [aK] using hap) (by rw [aQ Mn.len]; simp)).2.1,?_⟩;rintro v25 w36 hap;obtain ⟨hr25,hyB1,hkV,hkO⟩ := OR.app (all := aK Mn.cells (zs ++ [(Mn.mk ⟨z0,z1,z2,z3,z4,z5⟩ (.slice cp kids.length cc) kids)])) hr21 hyB (by simpa [aK] using hap) (by rw [aQ Mn.len]; simp);clear hap;replace hyB := hyB1;replace hv30 := hkV _ _ _ (by decide) hv30;refine Qb.alt1 (i := 11) (by kernel_rfl) ?_;refine ⟨_,_,rfl,rfl,trivial,aC Tryz.call47 rfl (fI (hsp.ext hyB) (fun u hu => by obtain ⟨q,hq1,hq2⟩ := List.mem_flatMap.1 hu; rw [List.mem_singleton.1 hq2]; rfl) (by omega)),rfl,fun _ _ hr => hyB.ext hr.2,?_⟩;rintro v28 w37 ⟨hr280,hx37⟩;have hr28 : OR w31 3 1 w37 v28 ps.length (aK iJ ps) := OR.of hr280 hyB.le;clear hr280;replace hyB := hyB.ext hx37;replace hv30 := hv30.ext hx37;replace hr25 := hr25.ext hx37;refine Qb.alt1 (i := 14) (by kernel_rfl) ?_
      refine ⟨_,_,rfl,rfl,trivial,bL (k := 1) Tryz.underlying34 hi3 hz3 hsi3 hby3 rfl rfl rfl hr28.1 (bX (n := 1) hv30 rfl : SlC _ _ 1 1 (aK iJ [i])) (by simp [aK,iJ,Value.oneCell']) (Nat.succ_pos _) (by unfold maxLen; omega) (by omega),rfl,fun v w' hap => (OR.app (all := aK iJ (ps ++ [i])) hr28 hyB (by simpa [aK] using hap) (by rw [aQ dS]; simp)).2.1,?_⟩;rintro v31 w38 hap;obtain ⟨hr31,hyB1,hkV,hkO⟩ := OR.app (all := aK iJ (ps ++ [i])) hr28 hyB (by simpa [aK] using hap) (by rw [aQ dS]; simp);clear hap;replace hyB := hyB1;replace hr25 := hkO _ _ _ _ _ (by decide) hr25;obtain ⟨xp,xc,rfl⟩ : ∃ p c,v25 = .slice p (zs.length + 1) c := by obtain ⟨_,p,c,rfl,_⟩ := hr25.slc; exact ⟨p,c,rfl⟩
      obtain ⟨up,uc,rfl⟩ : ∃ p c,v31 = .slice p (ps.length + 1) c := by obtain ⟨_,p,c,rfl,_⟩ := hr31.slc; exact ⟨p,c,rfl⟩
      refine Qb.tameW (by kernel_rfl) 15 rfl (by kernel_rfl) trivial (bY fun wz => cH (eQ _ _ _ _ _ _ _ _ _ _ _ _ _ _ _) rfl) rfl ?_;refine Qb.alt1 (i := 16) (by kernel_rfl) ?_;refine ⟨_,_,rfl,rfl,trivial,aC Tryz.call26 rfl (ih (anc (Mn.mk ⟨y0,y1,y2,y3,y4,y5⟩ (.slice yp kk.length yc) kk).er) (by omega) (Mn.mk ⟨y0,y1,y2,y3,y4,y5⟩ (.slice yp kk.length yc) kk) (Nat.le_refl _) (by omega) hqi _ (.slice xp (zs.length + 1) xc) (.slice up (ps.length + 1) uc) (zs ++ [(Mn.mk ⟨z0,z1,z2,z3,z4,z5⟩ (.slice cp kids.length cc) kids)]) (ps ++ [i]) (NoL.ext hN hyB) (by simpa using hr25.slc) (fun q hq1 => by rcases List.mem_append.1 hq1 with hq1 | hq1; exact hoa q hq1; rw [List.mem_singleton.1 hq1]; exact hog) rfl (by simpa using hr31.slc) rfl (by simp only [List.length_append,List.length_singleton]; omega) (by simp only [List.length_append,List.length_singleton]; omega)),rfl,fun _ _ hr => by obtain ⟨_,_,_,_,hr⟩ := hr; exact hyB.ext hr,?_⟩;rintro v33 w39 ⟨L2,hs33,hL2,hn2,hx39⟩;replace hyB := hyB.ext hx39;refine Qb.bar (fun _ => True) 17 19 rfl (by kernel_rfl) rfl trivial (bL Tryz.underlying32 hi36 hz36 hsi36 hby36 rfl rfl rfl (cM hO hyB) hs33 (rE fun p hp => (hL2 p hp).1) (by rw [hn2]; show 0 < cK _ + 1; omega) (by unfold maxLen; omega) (by omega)) rfl (fun _ _ _ => trivial) ?_;rintro v34 w60 hap;refine Qb.tameW (by kernel_rfl) 18 rfl (by kernel_rfl) trivial (bY fun wz => eJ rfl) rfl ?_;refine Qb.done (by kernel_rfl) ?_;exact ⟨v34,by repeat (first | exact .nil | refine .cons rfl ?_),L2,⟨_,hap,hyB⟩,hL2,hn2⟩
     ·skip
      refine ⟨_,_,rfl,rfl,trivial,aD (mN _ _ _ _ _ _ _ _ _) rfl,rfl,fun _ _ hr => by obtain ⟨_,_,_,hr,_⟩ := hr; exact hyB.ext hr,?_⟩;rintro _ w34 ⟨b24,rfl,q24,hx34,hv24⟩;replace hyB := hyB.ext hx34;replace hv30 := hv30.ext hx34;refine Qb.alt1 (i := 4) (by kernel_rfl) ?_;refine ⟨_,_,rfl,rfl,trivial,aC Tryz.call46 rfl (kD (hsa.ext hyB) (fun u hu => by obtain ⟨q,hq1,hq2⟩ := List.mem_flatMap.1 hu; exact List.all_eq_true.1 (hoa q hq1) u hq2) (by omega)),rfl,fun _ _ hr => hyB.ext hr.2,?_⟩;rintro v21 w35 ⟨hr210,hx35⟩;have hr21 : OR w31 26 7 w35 v21 zs.length (aK Mn.cells zs) := OR.of hr210 hyB.le;clear hr210;replace hyB := hyB.ext hx35;replace hv30 := hv30.ext hx35;replace hv24 := hv24.ext hx35;refine Qb.alt1 (i := 8) (by kernel_rfl) ?_;refine ⟨_,_,rfl,rfl,trivial,bL (k := 1) Tryz.underlying24 hi26 hz26 hsi26 hby26 rfl rfl rfl hr21.1 (bX (n := 1) hv24 rfl : SlC _ _ 7 1 (aK Mn.cells [(Mn.mk ⟨z0,z1,z2,z3,z4,z5⟩ (.slice cp kids.length cc) kids)])) (by simpa [aK] using hog) (Nat.succ_pos _) (by unfold maxLen; omega) (by omega),rfl,fun v w' hap => (OR.app (all := aK Mn.cells (zs ++ [(Mn.mk ⟨z0,z1,z2,z3,z4,z5⟩ (.slice cp kids.length cc) kids)])) hr21 hyB (by simpa [aK] using hap) (by rw [aQ Mn.len]; simp)).2.1,?_⟩;rintro v25 w36 hap;obtain ⟨hr25,hyB1,hkV,hkO⟩ := OR.app (all := aK Mn.cells (zs ++ [(Mn.mk ⟨z0,z1,z2,z3,z4,z5⟩ (.slice cp kids.length cc) kids)])) hr21 hyB (by simpa [aK] using hap) (by rw [aQ Mn.len]; simp);clear hap;replace hyB := hyB1;replace hv30 := hkV _ _ _ (by decide) hv30;refine Qb.alt1 (i := 11) (by kernel_rfl) ?_;refine ⟨_,_,rfl,rfl,trivial,aC Tryz.call47 rfl (fI (hsp.ext hyB) (fun u hu => by obtain ⟨q,hq1,hq2⟩ := List.mem_flatMap.1 hu; rw [List.mem_singleton.1 hq2]; rfl) (by omega)),rfl,fun _ _ hr => hyB.ext hr.2,?_⟩;rintro v28 w37 ⟨hr280,hx37⟩;have hr28 : OR w31 3 1 w37 v28 ps.length (aK iJ ps) := OR.of hr280 hyB.le;clear hr280;replace hyB := hyB.ext hx37;replace hv30 := hv30.ext hx37;replace hr25 := hr25.ext hx37;refine Qb.alt1 (i := 14) (by kernel_rfl) ?_
      refine ⟨_,_,rfl,rfl,trivial,bL (k := 1) Tryz.underlying34 hi3 hz3 hsi3 hby3 rfl rfl rfl hr28.1 (bX (n := 1) hv30 rfl : SlC _ _ 1 1 (aK iJ [i])) (by simp [aK,iJ,Value.oneCell']) (Nat.succ_pos _) (by unfold maxLen; omega) (by omega),rfl,fun v w' hap => (OR.app (all := aK iJ (ps ++ [i])) hr28 hyB (by simpa [aK] using hap) (by rw [aQ dS]; simp)).2.1,?_⟩;rintro v31 w38 hap;obtain ⟨hr31,hyB1,hkV,hkO⟩ := OR.app (all := aK iJ (ps ++ [i])) hr28 hyB (by simpa [aK] using hap) (by rw [aQ dS]; simp);clear hap;replace hyB := hyB1;replace hr25 := hkO _ _ _ _ _ (by decide) hr25;obtain ⟨xp,xc,rfl⟩ : ∃ p c,v25 = .slice p (zs.length + 1) c := by obtain ⟨_,p,c,rfl,_⟩ := hr25.slc; exact ⟨p,c,rfl⟩
      obtain ⟨up,uc,rfl⟩ : ∃ p c,v31 = .slice p (ps.length + 1) c := by obtain ⟨_,p,c,rfl,_⟩ := hr31.slc; exact ⟨p,c,rfl⟩
      refine Qb.tameW (by kernel_rfl) 15 rfl (by kernel_rfl) trivial (bY fun wz => cH (eQ _ _ _ _ _ _ _ _ _ _ _ _ _ _ _) rfl) rfl ?_;refine Qb.alt1 (i := 16) (by kernel_rfl) ?_;refine ⟨_,_,rfl,rfl,trivial,aC Tryz.call26 rfl (ih (anc (Mn.mk ⟨y0,y1,y2,y3,y4,y5⟩ (.slice yp kk.length yc) kk).er) (by omega) (Mn.mk ⟨y0,y1,y2,y3,y4,y5⟩ (.slice yp kk.length yc) kk) (Nat.le_refl _) (by omega) hqi _ (.slice xp (zs.length + 1) xc) (.slice up (ps.length + 1) uc) (zs ++ [(Mn.mk ⟨z0,z1,z2,z3,z4,z5⟩ (.slice cp kids.length cc) kids)]) (ps ++ [i]) (NoL.ext hN hyB) (by simpa using hr25.slc) (fun q hq1 => by rcases List.mem_append.1 hq1 with hq1 | hq1; exact hoa q hq1; rw [List.mem_singleton.1 hq1]; exact hog) rfl (by simpa using hr31.slc) rfl (by simp only [List.length_append,List.length_singleton]; omega) (by simp only [List.length_append,List.length_singleton]; omega)),rfl,fun _ _ hr => by obtain ⟨_,_,_,_,hr⟩ := hr; exact hyB.ext hr,?_⟩;rintro v33 w39 ⟨L2,hs33,hL2,hn2,hx39⟩;replace hyB := hyB.ext hx39;refine Qb.bar (fun _ => True) 17 19 rfl (by kernel_rfl) rfl trivial (bL Tryz.underlying32 hi36 hz36 hsi36 hby36 rfl rfl rfl (cM hO hyB) hs33 (rE fun p hp => (hL2 p hp).1) (by rw [hn2]; show 0 < cK _ + 1; omega) (by unfold maxLen; omega) (by omega)) rfl (fun _ _ _ => trivial) ?_;rintro v34 w60 hap;refine Qb.tameW (by kernel_rfl) 18 rfl (by kernel_rfl) trivial (bY fun wz => eJ rfl) rfl ?_;refine Qb.done (by kernel_rfl) ?_;exact ⟨v34,by repeat (first | exact .nil | refine .cons rfl ?_),L2,⟨_,hap,hyB⟩,hL2,hn2⟩
   ·rintro L' wF ⟨v34,f,L2,⟨wm,hap,hyF⟩,hL2,hn2⟩
    refine Wp.sub f (Wp.region ?_)
    first | refine .tq (bC rfl rfl (by omega)) rfl ?_ | refine .tq (bV rfl rfl) rfl ?_
    refine .m2 rfl (.done ?_);have hr := zT hap (by rw [List.length_append,aQ kQ,aQ kQ,Nat.add_mul]);rw [← fF,← List.length_append] at hr;obtain ⟨gk,cap,sp,rfl,h1,h2,h3,h4,h5⟩ := hap;have hbg : b1 < gk := by
     rcases h5 with ⟨⟨c,rfl⟩,_⟩ | ⟨hg,_⟩
     ·exact hob gk rfl
     ·have := hyF.le; omega
    have hvF : Var wF b1 (uD ((Mn.mk ⟨z0,z1,z2,z3,z4,z5⟩ (.slice cp kids.length cc) kids,.slice ap zs.length ac,.slice pp ps.length pc) : PN)) 36 := by
     rcases h5 with ⟨_,hu⟩ | ⟨_,hx⟩
     ·exact (hv1.ext hyF).upd hu (by omega)
     ·exact (hv1.ext hyF).ext hx
    have hxF : Ext w wF := by
     rcases h5 with ⟨_,hu⟩ | ⟨_,hx⟩
     ·exact (hxB.ext hyF).upd hu (by omega)
     ·exact (hxB.ext hyF).ext hx
    refine ⟨(i + 1,_),by repeat (first | exact .nil | refine .cons rfl ?_),⟨by simp only; omega,⟨M0 ++ L2,hr,fun p hp => (List.mem_append.1 hp).elim (hL p) (hL2 p),by rw [List.length_append,hLn,hn2]; simp only; omega⟩,fun z hz => by cases hz; exact hbg,hvF,hxF⟩,by simp only; omega⟩
  ·skip
   refine .sr ?_;refine .t2 (bO rfl rfl (by omega)) ?_;refine .done (.seq (.condF rfl (Wp.exit (.sr (.m2 rfl (.a2 rfl (.done (Wp.ret ?_))))))));refine ⟨[_],⟨rfl,trivial⟩,M0,iP hO,hL,?_,hx⟩;rw [hLn,show i = kids.length from by omega,List.take_length];omega
mutual
def wH (s : ByteArray) : An → Prop
 | .mk h ks => (h.ns < 0 ∨ (h.ns + h.text.size ≤ s.size ∧ s.extract h.ns.toNat (h.ns + h.text.size).toNat = h.text)) ∧ wI s ks
def wI (s : ByteArray) : List An → Prop
 | [] => True
 | a :: l => wH s a ∧ wI s l
end
theorem pC (s : ByteArray) (l : List An) : wI s l ↔ ∀ a ∈ l,wH s a := by
 induction l with
 | nil => simp [wI]
 | cons a l ih => rw [wI,ih]; simp
theorem vX {Q : An → Prop} (hQ : ∀ h ks,Q (.mk h ks) → ∀ a ∈ ks,Q a) {g : Mn} (hn : anc g.er ≤ 60000) (hq : Q g.er) {w : World} (hg : NoL w g) :
  Cl Tryz.prog 12 #[.agg g.cells.toArray] w (fun u w' => ∃ L : List PN,SlC w' u 9 L.length (aK uD L) ∧ (∀ p ∈ L,yJ p ∧ Q p.1.er) ∧ L.length = anc g.er ∧ Ext w w') := by
 have hx := Ext.refl w;have hog := hg.oneL;obtain ⟨⟨z0,z1,z2,z3,z4,z5⟩,cv,kids⟩ := g;obtain ⟨cp,cc,rfl⟩ : ∃ p c,cv = .slice p kids.length c := by obtain ⟨_,p,c,rfl,_⟩ := (nP hg).1; exact ⟨p,c,rfl⟩
 refine Cl.enter Tryz.func12 rfl Tryz.ntmps12 rfl rfl (.sr (Rg.wd trivial (aW (cs := (Mn.mk ⟨z0,z1,z2,z3,z4,z5⟩ (.slice cp kids.length cc) kids).cells) rfl rfl) rfl ?_));rintro _ w1 ⟨b1,rfl,q1,hx1,hv1⟩;replace hx := hx.ext hx1;replace hg := hg.ext hx1;refine .a2 rfl (.done (.sr ?_));refine .t2 (bB rfl hv1.cells (by rw [Mn.len]; exact cC)) ?_;refine .t2 (cH (H1 _ _ _ _ _ _ _ _ _) rfl) ?_;refine Rg.wd trivial (aC Tryz.call26 rfl (Iv hQ 60000 (Mn.mk ⟨z0,z1,z2,z3,z4,z5⟩ (.slice cp kids.length cc) kids) hn (Nat.le_refl _) hq _ (.slice none 0 0) (.slice none 0 0) [] [] hg (lS _ _) (fun a h => by cases h) rfl (lS _ _) rfl (by simp) (by simp))) rfl ?_;rintro v5 w2 ⟨L,hs5,hL,hn5,hx2⟩;replace hx := hx.ext hx2;replace hg := hg.ext hx2;replace hv1 := hv1.ext hx2;refine .a2 rfl (.done (Wp.ret ?_));exact ⟨[_],⟨rfl,trivial⟩,L,hs5,hL,hn5,hx⟩
theorem yK {w : World} {src : ByteArray} (hP : ∀ (s : ByteArray) (t : Tr),s.size ≤ 400 → eW s t → wG s.size (eS s t) ∧ wH s (eS s t)) (hA0 : Asc w) (hE0 : Er w) : Cl Tryz.prog 3 #[.string src] w (fun u w' => u = .bool true ∧ Ext w w') := by
 have hx := Ext.refl w;obtain ⟨s,hs⟩ : ∃ s,src.extract 0 (min src.size 400) = s := ⟨_,rfl⟩;have hsz : s.size ≤ 400 := by rw [← hs,ByteArray.size_extract]; omega
 refine Cl.enter Tryz.func3 rfl Tryz.ntmps3 rfl rfl (.sr (.a2 rfl (.done (.seq (.sr (Rg.wd trivial (aC Tryz.call8 rfl (mC (hA0.ext hx) (oC hE0 hx))) rfl ?_))))));rintro _ w1 ⟨rfl,hx1⟩;replace hx := hx.ext hx1;refine .t2 (bJ rfl) (.done (.condF rfl (Wp.skip (.sr (.m2 rfl (Rg.wd trivial (aC Tryz.call9 rfl (Dz (n := 400))) rfl ?_))))));rintro _ w2 ⟨rfl,hx2⟩;replace hx := hx.ext hx2;rw [hs];refine .a2 rfl (.done (.sr (.m2 rfl ?_)));refine Rg.wd trivial (aC Tryz.call10 rfl (lL (s := s) (by omega) (hA0.ext hx) (oC hE0 hx))) rfl ?_;rintro _ w3 ⟨t1,mn1,lv1,ds1,K1,A1⟩;have hx3 := A1.ext;obtain hk1 := lN A1;have hue := A1.ue;subst hue;have hno := hk1.ok.oneL;have hN := hk1.ok;have hanc : anc mn1.er ≤ 60000 := by rw [hk1.er]; exact Nat.le_trans (qM hk1.pt (by omega)) (by decide)
 obtain ⟨hq1,hq2⟩ := hP s t1 hsz hk1.pt;rw [← hk1.er] at hq1 hq2;clear A1 hk1;replace hx := hx.ext hx3;refine .m2 rfl (.t2 (cA rfl rfl) (.t2 (cA rfl rfl) (.t2 (cA rfl rfl) (Rg.wd trivial (dB Tryz.zeroValue26 rfl) rfl ?_))));rintro _ wab3 ⟨b3,rfl,qb3,b,c⟩;refine Rg.wn trivial (cW (cs := mn1.cells) c rfl rfl rfl (by rw [Mn.len]; exact cC) (by rw [Mn.len]; rfl) (hno)) ?_;rintro _ w4 ⟨hub3,hv3⟩;have hx4 := b.upd hub3 (Nat.le_of_eq qb3.symm);clear c hub3 b;replace hx := hx.ext hx4;replace hN := hN.ext hx4;clear qb3;refine .a2 rfl (.a2 rfl (.done (.seq (.sr (Rg.wd trivial (aC Tryz.call8 rfl (mC (hA0.ext hx) (oC hE0 hx))) rfl ?_)))));rintro _ w5 ⟨rfl,hx5⟩;replace hx := hx.ext hx5;replace hN := hN.ext hx5;replace hv3 := hv3.ext hx5;refine .t2 (bJ rfl) (.m2 rfl (.g2 (aP rfl) (.g2 (cU rfl rfl rfl) (.t2 (aN rfl rfl) (.m2 rfl ?_)))));refine .g2 (bB rfl hv3.cells (by rw [Mn.len]; exact cC)) ?_;refine .g2 (aP rfl) (.g2 (cS Tryz.underlying9 rfl) ?_);refine Rg.wd ⟨_,rfl,rfl⟩ (aC Tryz.call11 rfl (Bj (by omega) (by omega) 60000 mn1 hanc (by decide) hq1 _ hN)) rfl ?_;rintro _ w6 ⟨rfl,hx6⟩;replace hx := hx.ext hx6;replace hN := hN.ext hx6;replace hv3 := hv3.ext hx6;refine .g2 (bJ rfl) (.t2 (aN rfl rfl) (.done (.condF rfl (Wp.skip (.seq (.sr ?_))))));refine .t2 (bB rfl hv3.cells (by rw [Mn.len]; exact cC)) ?_;refine Rg.wd trivial (aC Tryz.call12 rfl (vX (Q := wH s) (fun h ks hm a ha => by rw [wH,pC] at hm; exact hm.2 a ha) hanc hq2 hN)) rfl ?_;rintro v33 w7 ⟨L,hsL,hL,hnL,hx7⟩;have hLn : L.length ≤ 60000 := by omega
 replace hx := hx.ext hx7;replace hN := hN.ext hx7;replace hv3 := hv3.ext hx7;refine .t2 (dD hsL Tryz.underlying32 rfl) (.m2 rfl (.done (Wp.block ?_)));refine Wp.loop (ι := Nat) (fun i => [(0,.string s),(33,v33),(34,.int .i64 L.length),(35,.int .i64 i)])
  (fun i w' => i ≤ L.length ∧ SlC w' v33 9 L.length (aK uD L) ∧ Ext w w') (fun i => L.length - i) 0 (by repeat (first | exact .nil | refine .cons rfl ?_)) ⟨Nat.zero_le _,hsL,hx⟩ ?_
 clear hx hsL hv3;rintro i wl ⟨hi,hsL,hx⟩
 by_cases hlt : i < L.length
 ·obtain ⟨hpo,hpq⟩ := hL _ (List.getElem_mem hlt)
  obtain ⟨p,hp⟩ : ∃ p,L[i] = p := ⟨_,rfl⟩;rw [hp] at hpo hpq;obtain ⟨⟨⟨z0,z1,z2,z3,z4,z5⟩,gv,gk⟩,va,vp⟩ := p;have hpq2 : wH s (.mk ⟨z0,z1,z2,z3,z4,z5⟩ (dM gk)) := hpq;rw [wH] at hpq2;have hpn := hpq2.1;simp only at hpn;have hog : (Mn.mk ⟨z0,z1,z2,z3,z4,z5⟩ gv gk).cells.all (·.oneCell') = true := by
   have h := hpo;unfold yJ uD at h;rw [List.all_append,Bool.and_eq_true] at h;exact h.1
  have hxx := Ext.refl wl;refine .sr ?_;refine .t2 (bN rfl rfl (by omega)) ?_;refine .done (.seq (.condT rfl (Wp.skip (.seq (Wp.block (.sr ?_))))));refine Rg.ix hsL trivial rfl rfl Tryz.underlying32 Ez (by omega) rfl ?_;intro bt37 ot37 ht37;rw [Int.toNat_natCast,eA kQ L i hlt,hp] at ht37;refine .t2 (bB rfl ht37 (by rw [kQ]; exact Ez)) ?_;refine Rg.wd trivial (dB Tryz.zeroValue36 rfl) rfl ?_;rintro _ wab7 ⟨b7,rfl,qb7,d,e⟩;refine Rg.wn trivial (cW (cs := uD ((Mn.mk ⟨z0,z1,z2,z3,z4,z5⟩ gv gk,va,vp) : PN)) e rfl rfl rfl (by rw [kQ]; exact Ez) (by rw [kQ]; rfl) (hpo)) ?_;rintro _ w31 ⟨hub7,hv7⟩;have hx31 := d.upd hub7 (Nat.le_of_eq qb7.symm);clear e hub7 d;replace hx := hx.ext hx31;replace hsL := hsL.ext hx31;replace hxx := hxx.ext hx31;replace ht37 := ht37.ext hx31;clear qb7;refine .done (.sr (.t2 (aA xC rfl) ?_));refine .t2 (bB rfl (Ei hv7) (by rw [Mn.len]; exact cC)) ?_;refine Rg.wd trivial (dB Tryz.zeroValue26 rfl) rfl ?_;rintro _ wab8 ⟨b8,rfl,qb8,f,j⟩;refine Rg.wn trivial (cW (cs := (Mn.mk ⟨z0,z1,z2,z3,z4,z5⟩ gv gk).cells) j rfl rfl rfl (by rw [Mn.len]; exact cC) (by rw [Mn.len]; rfl) (hog)) ?_;rintro _ w32 ⟨hub8,hv8⟩;have hx32 := f.upd hub8 (Nat.le_of_eq qb8.symm);clear j hub8 f;replace hx := hx.ext hx32;replace hsL := hsL.ext hx32;replace hxx := hxx.ext hx32;replace ht37 := ht37.ext hx32;replace hv7 := hv7.ext hx32;clear qb8;refine .done ?_
  by_cases h5 : 0 ≤ z5
  ·obtain ⟨hle,hex⟩ := hpn.resolve_left (by show ¬ z5 < 0; omega)
   refine Wp.seq (Wp.draw [0,1,2,3,4,5,6,7,8,9,10,11,12,13,14,15,16,17] [] mixed (by kernel_rfl) (by kernel_rfl) ?_);intro w33 hx33 _;replace hx := hx.ext hx33;replace hsL := hsL.ext hx33;replace hxx := hxx.ext hx33;replace ht37 := ht37.ext hx33;replace hv7 := hv7.ext hx33;replace hv8 := hv8.ext hx33;refine .t2 (aA gD rfl) (.t2 (aB bA rfl (hv8.g 5 rfl)) (.t2 (cP rfl rfl h5) (.m2 rfl (.g2 (aP rfl) (.g2 (aA gD rfl) (.g2 (aB bA rfl (hv8.g 5 rfl)) (.g2 (aA gD rfl) (.g2 (aB bA rfl (hv8.g 5 rfl)) (.g2 (aA fP rfl) (.g2 (aB hY rfl (hv8.g 2 rfl)) (.g2 (cS Tryz.underlying9 rfl) ?_)))))))))));refine .g2 (bC (u := z5) (v := (z2.size : Int)) rfl rfl (by omega)) ?_;refine .g2 (eK (l := z5) (h := z5 + (z2.size : Int)) Tryz.underlying9 rfl rfl rfl (by omega)) ?_;refine .g2 (aA fP rfl) (.g2 (aB hY rfl (hv8.g 2 rfl)) (.g2 (pB rfl rfl hex) (.t2 (aJ rfl rfl) (.done (.condF rfl (Wp.skip (Wp.region ?_)))))))
   first | refine .tq (bC rfl rfl (by omega)) rfl ?_ | refine .tq (bV rfl rfl) rfl ?_
   refine .m2 rfl (.done ?_);exact ⟨i + 1,by repeat (first | exact .nil | refine .cons rfl ?_),⟨by omega,hsL,hx⟩,by omega⟩
  ·skip
   refine Wp.seq (Wp.draw [0,1,2,3,4,5,6,7,8,9,10,11,12,13,14,15,16,17] [] mixed (by kernel_rfl) (by kernel_rfl) ?_);intro w33 hx33 _;replace hx := hx.ext hx33;replace hsL := hsL.ext hx33;replace hxx := hxx.ext hx33;replace ht37 := ht37.ext hx33;replace hv7 := hv7.ext hx33;replace hv8 := hv8.ext hx33;refine .t2 (aA gD rfl) (.t2 (aB bA rfl (hv8.g 5 rfl)) ?_);refine .t2 (eO rfl rfl (by show z5 < 0; omega)) ?_;refine .m2 rfl (.so rfl rfl (.so rfl rfl (.so rfl rfl (.so rfl rfl (.so rfl rfl (.so rfl rfl (.so rfl rfl (.so rfl rfl (.so rfl rfl (.so rfl rfl (.so rfl rfl (.so rfl rfl ?_))))))))))));refine .so rfl rfl (.t2 (aN rfl rfl) (.done (.condF rfl (Wp.skip (Wp.region ?_)))))
   first | refine .tq (bC rfl rfl (by omega)) rfl ?_ | refine .tq (bV rfl rfl) rfl ?_
   refine .m2 rfl (.done ?_);exact ⟨i + 1,by repeat (first | exact .nil | refine .cons rfl ?_),⟨by omega,hsL,hx⟩,by omega⟩
 ·skip
  refine .sr ?_;refine .t2 (bO rfl rfl (by omega)) ?_;refine .done (.seq (.condF rfl (Wp.exit (.sr (.a2 rfl (.done (Wp.ret ?_)))))));exact ⟨[_],⟨rfl,trivial⟩,rfl,hx⟩
end Go.Proofs.YtlndmiegodcfjaaGreatDoor.Prn
namespace Go.Proofs.YtlndmiegodcfjaaGreatDoor.Prn
open Par Ast
mutual
def Ej : Tr → Prop
 | .mk k _ ks => (eM k = true → ∀ t ∈ ks,kd t ≠ 106) ∧ tZ ks
def tZ : List Tr → Prop
 | [] => True
 | t :: l => Ej t ∧ tZ l
end
def At (s : ByteArray) (off : Int) (x : List UInt8) : Prop := ∃ pre post : List UInt8,s.data.toList = pre ++ (x ++ post) ∧ (pre.length : Int) = off
theorem At.head {s : ByteArray} {off : Int} {x y : List UInt8} (h : At s off (x ++ y)) : At s off x := by
 obtain ⟨a,b,h1,h2⟩ := h;exact ⟨a,y ++ b,by rw [h1]; simp,h2⟩
theorem At.tail {s : ByteArray} {off : Int} {x y : List UInt8} (h : At s off (x ++ y)) : At s (off + x.length) y := by
 obtain ⟨a,b,h1,h2⟩ := h;exact ⟨a ++ x,b,by rw [h1]; simp,by rw [List.length_append]; omega⟩
theorem At.le {s : ByteArray} {off : Int} {x : List UInt8} (h : At s off x) : off + x.length ≤ s.size := by
 obtain ⟨a,b,h1,h2⟩ := h;have := congrArg List.length h1;rw [Lexi.iY] at this;simp only [List.length_append] at this;omega
theorem At.ext {s x : ByteArray} {off : Int} (h : At s off x.data.toList) : s.extract off.toNat (off + x.size).toNat = x := by
 obtain ⟨a,b,h1,h2⟩ := h;have hl : x.data.toList.length = x.size := Lexi.iY x;obtain rfl := h2.symm;apply ByteArray.ext;apply Array.toList_inj.1;rw [ByteArray.data_extract,Array.toList_extract,h1,Int.toNat_natCast,show ((a.length : Int) + x.size).toNat = a.length + x.size from by omega]
 show ((a ++ (x.data.toList ++ b)).drop a.length).take (a.length + x.size - a.length) = _
 rw [List.drop_left,show a.length + x.size - a.length = x.data.toList.length from by omega,List.take_left]
def Nmz (s : ByteArray) (h : Hd) : Prop := h.ns = -1 ∨ (eM h.kind = true ∧ 0 ≤ h.en ∧ h.st ≤ h.ns ∧ 0 ≤ h.ns ∧ h.ns + h.text.size ≤ h.en ∧ s.extract h.ns.toNat (h.ns + h.text.size).toNat = h.text)
theorem Nmz.ext {s : ByteArray} {h : Hd} {a e : Int} (i : Nmz s h) (he : h.en ≤ e) : Nmz s (ext h a e) := by
 rcases i with i | ⟨i1,i2,i3,i4,i5,i6⟩
 ·exact .inl i
 ·refine .inr ⟨i1,by show 0 ≤ e; omega,?_,i4,by show h.ns + h.text.size ≤ e; omega,i6⟩
  show (if h.en < 0 then a else h.st) ≤ h.ns
  rw [if_neg (by omega)];exact i3
theorem Nmz.no {s : ByteArray} {h : Hd} (i : Nmz s h) (hk : eM h.kind = false) : h.ns = -1 := i.resolve_right fun c => by rw [hk] at c; cases c.1
theorem G0 {s x : ByteArray} {h : Hd} {o off k : Int} {ds : List Dg} (i : Nmz s h) (v : Inv h o off) (h0 : 0 ≤ off) (ha : At s off x.data.toList) (h6 : eM h.kind = true → k ≠ 106) : Nmz s (jD h off ds k x).1 := by
 have hc := v.c;have hb := v.b;have hle : h.en ≤ off + x.size := by omega
 unfold jD;simp only
 split
 ·exact i
 split
 ·split
  ·exact i
  ·exact i.ext hle
 split
 ·show Nmz s (ext (iM h x off) off (off + x.size))
  unfold iM
  split
  ·rename_i hn
   refine .inr ⟨hn.1,by show 0 ≤ off + (x.size : Int); omega,?_,h0,by show off + (x.size : Int) ≤ off + x.size; omega,ha.ext⟩
   show (if h.en < 0 then off else h.st) ≤ off
   split <;> omega
  ·exact i.ext hle
 split
 ·exact Nmz.ext (h := pZ h _) i hle
 split
 ·rename_i h106
  have hk : eM h.kind = false := by
   cases hh : eM h.kind with
   | false => rfl
   | true => exact absurd h106 (h6 hh)
  exact .inl (i.no hk)
 ·show Nmz s (ext (flag h x) off (off + x.size))
  unfold flag
  split
  ·exact Nmz.ext (h := pZ h _) i hle
  split
  ·exact Nmz.ext (h := pZ h _) i hle
  split
  ·exact Nmz.ext (h := pZ h _) i hle
  split
  ·exact Nmz.ext (h := pZ h _) i hle
  split
  ·rename_i hk
   have hn : eM h.kind = false := by
    rcases hk.1 with e | e <;> rw [e] <;> decide
   exact .inl (i.no hn)
  ·exact i.ext hle
theorem kE {sz hi hi' : Int} (h2 : hi ≤ hi') : ∀ (l : List An) {lo lo' : Int},lo' ≤ lo → jC sz lo hi l → jC sz lo' hi' l
 | [],_,_,_,_ => by rw [jC]; trivial
 | a :: l,lo,lo',h1,h => by
  rw [jC] at h ⊢;exact ⟨by omega,h.2.1,by omega,h.2.2.2.1,kE h2 l (Int.le_refl _) h.2.2.2.2⟩
theorem sF {sz hi : Int} {a : An} (h2 : hi ≤ a.hd.st) (h3 : a.hd.st ≤ a.hd.en) (h4 : wG sz a) : ∀ (l : List An) {lo : Int},lo ≤ a.hd.st → jC sz lo hi l → jC sz lo a.hd.en (l ++ [a])
 | [],lo,h1,_ => by rw [List.nil_append,jC,jC]; exact ⟨h1,h3,Int.le_refl _,h4,trivial⟩
 | x :: l,lo,h1,h => by
  rw [jC] at h;rw [List.cons_append,jC];exact ⟨h.1,h.2.1,by omega,h.2.2.2.1,sF h2 h3 h4 l (by omega) h.2.2.2.2⟩
def Nv (sz : Int) (h : Hd) (ns : List An) : Prop := ns = [] ∨ (0 ≤ h.en ∧ jC sz h.st h.en ns)
theorem Nv.wide {sz : Int} {h h' : Hd} {ns : List An} (i : Nv sz h ns) (h1 : 0 ≤ h.en → h'.st = h.st) (h2 : 0 ≤ h.en → h.en ≤ h'.en) : Nv sz h' ns :=
 i.imp id fun ⟨a,b⟩ => ⟨by have := h2 a; omega,kE (h2 a) ns (Int.le_of_eq (h1 a)) b⟩
theorem Nv.node {sz : Int} {h : Hd} {ns : List An} {o off : Int} {a : An} (i : Nv sz h ns) (v : Inv h o off) (h1 : off ≤ a.hd.st) (h2 : a.hd.st ≤ a.hd.en) (h0 : 0 ≤ off) (ha : wG sz a) : Nv sz (ext h a.hd.st a.hd.en) (ns ++ [a]) := by
 refine .inr ⟨by show 0 ≤ a.hd.en; omega,?_⟩
 show jC sz (if h.en < 0 then a.hd.st else h.st) a.hd.en (ns ++ [a])
 have hb := v.b;have hc := v.c
 rcases i with rfl | ⟨i1,i2⟩
 ·rw [List.nil_append,jC,jC]
  refine ⟨?_,h2,Int.le_refl _,ha,trivial⟩
  split <;> omega
 ·rw [if_neg (by omega)]
  exact sF (by omega) h2 ha ns (by omega) i2
theorem Nv.tok {sz : Int} {h : Hd} {ns : List An} {o off k : Int} {x : ByteArray} {ds : List Dg} (i : Nv sz h ns) (v : Inv h o off) (h0 : 0 ≤ off) : Nv sz (jD h off ds k x).1 ns := by
 have hc := v.c;have key : ∀ h' : Hd,h'.st = h.st → h'.en = h.en → Nv sz (ext h' off (off + x.size)) ns := fun h' e1 e2 => i.wide (fun hp => by
  show (if h'.en < 0 then off else h'.st) = h.st
  rw [e1,e2,if_neg (by omega)]) fun hp => by show h.en ≤ off + (x.size : Int); omega
 unfold jD;simp only
 split
 ·exact i
 split
 ·split
  ·exact i
  ·exact key _ rfl rfl
 split
 ·exact key _ (iH _ _ _).1 (iH _ _ _).2.1
 split
 ·exact key _ rfl rfl
 split
 ·exact key _ rfl rfl
 ·exact key _ (jX _ _).1 (jX _ _).2.1
theorem G1 (s : ByteArray) (a b : List An) : wI s (a ++ b) ↔ wI s a ∧ wI s b := by
 rw [pC,pC,pC];simp only [List.mem_append];exact ⟨fun h => ⟨fun x hx => h x (.inl hx),fun x hx => h x (.inr hx)⟩,fun ⟨h1,h2⟩ x hx => hx.elim (h1 x) (h2 x)⟩
mutual
theorem zU (s : ByteArray) : ∀ (t : Tr) (off : Int) (ds : List Dg),0 ≤ off → t.wf → kd t < 100 → Ej t → At s off t.txt → wG s.size (gV s t off ds).1 ∧ wH s (gV s t off ds).1
 | .mk k x ks,off,ds,h0,hw,hk,h6,hat => by
  have hat0 := hat.le;obtain ⟨_,_,hcen,hcof,_⟩ := nH s (.mk k x ks) off ds h0 hw hk;simp only [Tr.wf] at hw
  rcases hw with ⟨h1,_⟩ | ⟨_,_,hx,hl⟩
  ·exact absurd (show k < 100 from hk) (by omega)
  rw [Ej] at h6;have hat2 : At s off (gK ks) := by
   have e : Tr.txt (.mk k x ks) = gK ks := by simp only [Tr.txt]; rw [hx]; rfl
   rwa [e] at hat
  have vi : Inv (qA k off) off off := ⟨Int.le_refl _,Int.le_refl _,by show (-1 : Int) ≤ off; omega,.inl (show (-1 : Int) < 0 by decide)⟩;obtain ⟨i,j,m⟩ := qN s ks (qA k off) [] off ds off h0 vi hl h6.1 h6.2 hat2 (.inl rfl) (.inl rfl) (by rw [wI]; trivial);obtain ⟨iv,_,_,_⟩ := lI s ks (qA k off) [] off ds off h0 vi hl;rw [gV] at hcen hcof ⊢;unfold kN at hcen hcof ⊢;generalize eD s ks (qA k off) [] off ds = r at *;obtain ⟨H,ns,of,d2⟩ := r;simp only at i j m iv hcen hcof ⊢;obtain ⟨v1,v2,v3,v4⟩ := iv;have hen : (kU H).en ≤ s.size := by
   have h1 : (kU H).en ≤ of := Int.max_le.2 ⟨v3,v2⟩;omega
  have i2 : jC s.size (kU H).st (kU H).en ns := by
   rcases i with rfl | ⟨a,b⟩
   ·rw [jC]; trivial
   ·exact kE (Int.le_max_left _ _) ns (Int.le_refl _) b
  have hst : 0 ≤ (kU H).st := by show 0 ≤ H.st; omega
  have hme : H.en ≤ (kU H).en := Int.le_max_left _ _;unfold Bm
  by_cases h60 : (kU H).kind = 60
  ·have hn : H.ns = -1 := j.no (by rw [show H.kind = 60 from h60]; decide)
   rw [if_pos h60]
   cases ns with
   | nil =>
    simp only;refine ⟨?_,?_⟩
    ·rw [wG,jC]; exact ⟨trivial,hst,hen,.inl hn⟩
    ·rw [wH,wI]; exact ⟨.inl (by show H.ns < 0; omega),trivial⟩
   | cons a0 rest =>
    obtain ⟨c,ks2⟩ := a0;rw [jC] at i2;obtain ⟨a1,_,a3,a4,_⟩ := i2;rw [wG] at a4;rw [wI,wH] at m;obtain ⟨b1,b2,b3,b4⟩ := a4;have a1 : (kU H).st ≤ c.st := a1;have a3 : c.en ≤ (kU H).en := a3;simp only;refine ⟨?_,?_⟩
    ·rw [wG]
     exact ⟨kE a3 ks2 a1 b1,hst,hen,b4.imp id fun ⟨p,q⟩ => ⟨by simp only; omega,by simp only; omega⟩⟩
    ·rw [wH]; exact m.1
  ·rw [if_neg h60]
   by_cases h46 : (kU H).kind = 46
   ·rw [if_pos h46]
    refine ⟨?_,?_⟩
    ·rw [wG,jC]; exact ⟨trivial,hst,hen,.inl rfl⟩
    ·rw [wH,wI]; exact ⟨.inl (show (-1 : Int) < 0 by decide),trivial⟩
   ·rw [if_neg h46]
    refine ⟨?_,?_⟩
    ·rw [wG]
     exact ⟨i2,hst,hen,j.imp id fun ⟨_,_,p,_,q,_⟩ => ⟨p,Int.le_trans q hme⟩⟩
    ·rw [wH]
     refine ⟨j.imp (fun e => by show H.ns < 0; omega) fun ⟨_,_,p,p0,q,e⟩ => ⟨?_,e⟩,m⟩;have : H.ns + H.text.size ≤ (kU H).en := Int.le_trans q hme
     show H.ns + (H.text.size : Int) ≤ s.size
     omega
theorem qN (s : ByteArray) : ∀ (l : List Tr) (h : Hd) (ns : List An) (off : Int) (ds : List Dg) (o : Int),0 ≤ o → Inv h o off → qQ l → (eM h.kind = true → ∀ t ∈ l,kd t ≠ 106) → tZ l → At s off (gK l) → Nv s.size h ns → Nmz s h → wI s ns →
  Nv s.size (eD s l h ns off ds).1 (eD s l h ns off ds).2.1 ∧ Nmz s (eD s l h ns off ds).1 ∧ wI s (eD s l h ns off ds).2.1
 | [],h,ns,off,ds,o,h0,v,hw,h6,h7,hat,i,j,m => by rw [eD]; exact ⟨i,j,m⟩
 | t :: l,h,ns,off,ds,o,h0,v,hw,h6,h7,hat,i,j,m => by
  rw [qQ] at hw;rw [tZ] at h7;have ho : 0 ≤ off := by have := v.a; have := v.b; omega
  rw [gK] at hat;rw [eD]
  by_cases h1 : 100 ≤ kd t
  ·rw [if_pos h1]
   simp only;obtain ⟨v2,e2,_,ek⟩ := vR (k := kd t) (x := tx t) (ds := ds) v h0;have ht : t.txt = (tx t).data.toList := by
    obtain ⟨k,x,ks⟩ := t;simp only [Tr.wf,kd] at hw h1
    rcases hw.1 with ⟨_,hn⟩ | ⟨_,h2,_⟩
    ·subst hn
     simp only [Tr.txt,gK,List.append_nil,tx]
    ·omega
   rw [ht] at hat;have ha1 := hat.head;have ha2 := hat.tail;rw [Lexi.iY,← e2] at ha2;exact qN s l _ ns _ _ o h0 v2 hw.2 (fun hn t2 ht2 => h6 (by rwa [ek] at hn) t2 (List.mem_cons_of_mem _ ht2)) h7.2 ha2 (i.tok v ho) (G0 j v ho ha1 fun hn => h6 hn t List.mem_cons_self) m
  ·rw [if_neg h1]
   simp only;obtain ⟨a,b,c,d,n⟩ := nH s t off ds ho hw.1 (by omega);have v2 : Inv (ext h (gV s t off ds).1.hd.st (gV s t off ds).1.hd.en) o (gV s t off ds).2.1 := by
    have i3 := v.ext h0 a b;exact ⟨i3.a,by have := i3.b; omega,by have := i3.c; omega,i3.d⟩
   obtain ⟨c1,c2⟩ := zU s t off ds ho hw.1 (by omega) h7.1 hat.head;have ha2 := hat.tail;rw [← d] at ha2;refine qN s l _ _ _ _ o h0 v2 hw.2 (fun hn t2 ht2 => h6 hn t2 (List.mem_cons_of_mem _ ht2)) h7.2 ha2 (i.node v a b ho c1) (j.ext (by have := v.c; omega)) ?_;rw [G1];exact ⟨m,by rw [wI,wI]; exact ⟨c2,trivial⟩⟩
end
theorem Bk {s : ByteArray} {t : Tr} (hp : eW s t) (h6 : Ej t) (hk : kd t = 1) : wG s.size (eS s t) ∧ wH s (eS s t) := by
 have hsm := hp.small;have hat : At s 0 t.txt := ⟨[],[],by rw [hsm.txt]; simp,rfl⟩;obtain ⟨h1,h2⟩ := zU s t 0 [] (Int.le_refl _) hsm.wf (by rw [hk]; decide) h6 hat;obtain ⟨a,b,c,d,_⟩ := nH s t 0 [] (Int.le_refl _) hsm.wf (by rw [hk]; decide);have hl := hat.le;unfold eS;generalize (gV s t 0 []).1 = q at *;obtain ⟨h,ks⟩ := q;rw [wG] at h1;rw [wH] at h2;simp only [An.hd] at a b c ⊢;obtain ⟨k1,k2,k3,k4⟩ := h1;refine ⟨?_,?_⟩
 ·rw [wG]
  exact ⟨kE k3 ks k2 k1,Int.le_refl _,Int.le_refl _,k4.imp id fun ⟨p,q⟩ => ⟨by simp only; omega,by simp only; omega⟩⟩
 ·rw [wH]; exact h2
end Go.Proofs.YtlndmiegodcfjaaGreatDoor.Prn
namespace Go.Proofs.YtlndmiegodcfjaaGreatDoor.Prn
set_option maxRecDepth 20000
open Par Ast
open Cmd
theorem Jq (t : Tr) : kd t = t.kdn := by cases t; rfl
theorem vY (l : List Tr) : tZ l ↔ ∀ t ∈ l,Ej t := by
 induction l with
 | nil => simp [tZ]
 | cons t l ih => rw [tZ,ih]; simp
def Q6 (b : Bool) (l : List Tr) : Prop := ∀ t ∈ l,Ej t ∧ (b = true → kd t ≠ 106)
theorem Q6.app {b : Bool} {l m : List Tr} : Q6 b (l ++ m) ↔ Q6 b l ∧ Q6 b m :=
 ⟨fun h => ⟨fun t ht => h t (List.mem_append_left _ ht),fun t ht => h t (List.mem_append_right _ ht)⟩,fun h t ht => (List.mem_append.1 ht).elim (h.1 t) (h.2 t)⟩
theorem Q6.one {b : Bool} {k : Int} {ks : List Tr} (h : Q6 (eM k) ks) (hk : b = true → k ≠ 106) : Q6 b [.mk k fS ks] := fun t ht => by
 rw [List.mem_singleton.1 ht];refine ⟨?_,hk⟩;rw [Ej];exact ⟨fun hn t ht => (h t ht).2 hn,(vY ks).2 fun t ht => (h t ht).1⟩
abbrev KP := Tok → Tok → Tok → Prop
def tt (t : Test) (y : Bool) (P : KP) : KP := fun a b c => P a b c ∧ ∃ f,t a b c f = y
def oS : Cmd → KP → KP
 | .bump,P => fun a b _ => ∃ z,P z a b
 | .skip,P => P
 | .flag _,P => P
 | .leaf _,P => P
 | .seq a b,P => oS b (oS a P)
 | .cond t a b,P => fun x y z => oS a (tt t true P) x y z ∨ oS b (tt t false P) x y z
 | .loop t _,_ => fun a b c => ∃ f,t a b c f = false
 | .node _ c,P => oS c P
 | .wrap _ c,P => oS c P
 | _,_ => fun _ _ _ => True
def G2 : Nm → Tok → Prop
 | .letS,t | .returnS,t | .arguments,t | .matchE,t | .structLit,t | .lambda,t => t.1 ≠ 106
 | _,_ => True
def W6 : Bool → Cmd → KP → Prop
 | b,.bump,P => b = true → ∀ x y z,P x y z → x.1 ≠ 106
 | _,.leaf k,_ => k ≠ 106
 | b,.seq a c,P => W6 b a P ∧ W6 b c (oS a P)
 | b,.cond t a c,P => W6 b a (tt t true P) ∧ W6 b c (tt t false P)
 | b,.loop t c,_ => W6 b c (fun x y z => ∃ f,t x y z f = true)
 | b,.node k c,P => (b = true → (∃ x y z,P x y z) → k ≠ 106) ∧ W6 (eM k) c P
 | b,.wrap k c,P => (b = true → k ≠ 106) ∧ W6 (eM k) c P
 | b,.prog c d e,P => W6 b c P ∧ W6 b d (fun _ _ _ => True) ∧ W6 b e (fun _ _ _ => True)
 | b,.call x,P => b = true → ∀ u v w,P u v w → G2 x u
 | b,.sel f c,P => ∀ k,W6 b (c k) (fun u v w => P u v w ∧ f u v = k)
 | _,_,_ => True
theorem sG {u : Tok} : ∀ {l : List Tok},u ∈ fE l → gG u.1 = true ∨ u = aO l
 | [],h => by cases h
 | t :: l,h => by
  unfold fE at h;unfold aO
  split at h
  ·rename_i ht
   rw [if_pos ht]
   rcases List.mem_cons.1 h with rfl | h
   ·exact .inl ht
   ·exact sG h
  ·rename_i ht
   rw [if_neg ht];exact .inr (List.mem_singleton.1 h)
theorem Ek {s r : List Tok} (h : V s) (e : ∃ u,s = u ++ r) : V r := by
 obtain ⟨u,rfl⟩ := e;exact fun t ht => h t (List.mem_append_right _ ht)
def R6 (rec : Cmd → S → Option S) : Prop := ∀ c s r i b P,W6 b c P → P (aO s.rem) (aO (left s.rem)) (aO (left (left s.rem))) → LkOk c i → LV i s.kids → V s.rem → Q6 b s.kids → rec c s = some r → Q6 b r.kids ∧ oS c P (aO r.rem) (aO (left r.rem)) (aO (left (left r.rem)))
theorem Jr {rec : Cmd → S → Option S} (hb : ∀ b x,W6 b (body x) (fun u _ _ => b = true → G2 x u)) (hs : ∀ c s r,rec c s = some r → ∃ u,s.rem = u ++ r.rem) (hk : LkR rec) (hr : R6 rec) : R6 (bW body rec) := by
 intro c
 induction c with
 | skip | flag b => intro s r i b P _ hp _ _ _ hq h; obtain rfl := Option.some.inj h; exact ⟨hq,hp⟩
 | drop =>
  intro s r i b P _ hp ho hl hv hq h;obtain rfl : i = 2 := ho;obtain ⟨a,t,e,_⟩ := hl;obtain rfl := Option.some.inj h;rw [e] at hq;simp only [e,List.dropLast_concat];exact ⟨(Q6.app.1 hq).1,trivial⟩
 | bump =>
  intro s r i b P hw hp _ _ hv hq h;obtain rfl := Option.some.inj h;refine ⟨Q6.app.2 ⟨hq,fun t ht => ?_⟩,⟨_,hp⟩⟩;obtain ⟨u,hu,rfl⟩ := List.mem_map.1 ht;refine ⟨?_,fun hbt => ?_⟩
  ·unfold Tr.tok
   rw [Ej,tZ];exact ⟨fun _ t ht => absurd ht List.not_mem_nil,trivial⟩
  ·show u.1 ≠ 106
   rcases sG hu with h1 | rfl
   ·intro e
    rw [e] at h1;exact absurd h1 (by decide)
   ·exact hw hbt _ _ _ hp
 | leaf k =>
  intro s r i b P hw hp _ _ _ hq h;obtain rfl := Option.some.inj h;refine ⟨Q6.app.2 ⟨hq,fun t ht => ?_⟩,hp⟩;rw [List.mem_singleton.1 ht];refine ⟨?_,fun _ => hw⟩;unfold Tr.leaf;rw [Ej,tZ];exact ⟨fun _ t ht => absurd ht List.not_mem_nil,trivial⟩
 | before =>
  intro s r i b P _ hp ho hl hv hq h;obtain rfl : i = 2 := ho;obtain ⟨a,t,e,_⟩ := hl;simp only [bW,e,List.getLast?_append,List.getLast?_singleton,Option.some_or] at h;obtain rfl := Option.some.inj h;rw [e] at hq;have hq := Q6.app.1 hq;simp only [List.dropLast_concat];refine ⟨Q6.app.2 ⟨hq.1,?_⟩,trivial⟩;rw [show [Tr.leaf 0,t] = [Tr.leaf 0] ++ [t] from rfl];exact Q6.app.2 ⟨Q6.one (ks := []) (fun t ht => absurd ht List.not_mem_nil) (fun _ => by decide),hq.2⟩
 | seq a c iha ihb =>
  intro s r i b P hw hp ho hl hv hq h;simp only [bW,Option.bind_eq_some_iff] at h;obtain ⟨x,h1,h2⟩ := h;obtain ⟨q1,p1⟩ := iha _ _ _ _ _ hw.1 hp ho.1 hl hv hq h1;exact ihb _ _ _ _ _ hw.2 p1 ho.2 (nJ hk _ _ _ _ ho.1 hl h1) (Ek hv (lK hs _ _ _ h1)) q1 h2
 | node k c ih =>
  intro s r i b P hw hp ho hl hv hq h;simp only [bW,Option.map_eq_some_iff] at h;obtain ⟨x,h1,rfl⟩ := h;obtain ⟨q1,p1⟩ := ih { s with kids := [],adds := s.adds + 1 } x 0 _ P hw.2 hp ho trivial hv (fun t ht => absurd ht List.not_mem_nil) h1;exact ⟨Q6.app.2 ⟨hq,Q6.one q1 fun hbt => hw.1 hbt ⟨_,_,_,hp⟩⟩,p1⟩
 | wrap k c ih =>
  intro s r i b P hw hp ho hl hv hq h;obtain ⟨rfl,ho⟩ := ho;obtain ⟨l,t,e,h0⟩ := hl;simp only [bW,e,List.getLast?_append,List.getLast?_singleton,Option.some_or,List.dropLast_concat,Option.map_eq_some_iff] at h;obtain ⟨x,h1,rfl⟩ := h;rw [e] at hq;have hq := Q6.app.1 hq;obtain ⟨q1,p1⟩ := ih { s with kids := [t],adds := s.adds + 1 } x 2 _ P hw.2 hp ho (show LV 2 [t] from ⟨[],t,rfl,h0⟩) hv (fun u hu => by
   rw [List.mem_singleton.1 hu];exact ⟨(hq.2 t List.mem_cons_self).1,fun _ => by rw [Jq]; omega⟩) h1
  exact ⟨Q6.app.2 ⟨hq.1,Q6.one q1 hw.1⟩,p1⟩
 | cond t a c iha ihb =>
  intro s r i b P hw hp ho hl hv hq h;simp only [bW] at h
  split at h
  ·rename_i ht
   obtain ⟨q1,p1⟩ := iha _ _ _ _ _ hw.1 ⟨hp,_,ht⟩ ho.1 hl hv hq h;exact ⟨q1,.inl p1⟩
  ·rename_i ht
   obtain ⟨q1,p1⟩ := ihb _ _ _ _ _ hw.2 ⟨hp,_,Bool.eq_false_iff.2 ht⟩ ho.2 hl hv hq h;exact ⟨q1,.inr p1⟩
 | loop t c ih =>
  intro s r i b P hw hp ho hl hv hq h;have hl' := LV.down (Nat.min_le_left i (lk c i)) hl;simp only [bW] at h
  split at h
  ·rename_i ht
   simp only [Option.bind_eq_some_iff] at h;obtain ⟨x,h1,h2⟩ := h;have h3 := nJ hk _ _ _ _ ho.1 hl' h1;obtain ⟨q1,p1⟩ := ih _ _ _ _ _ hw ⟨_,ht⟩ ho.1 hl' hv hq h1;exact hr _ _ _ _ b (fun _ _ _ => True) (show W6 b (.loop t c) (fun _ _ _ => True) from hw) trivial (qH ho).1 (h3.down ho.2) (Ek hv (lK hs _ _ _ h1)) q1 h2
  ·rename_i ht
   obtain rfl := Option.some.inj h;exact ⟨hq,_,Bool.eq_false_iff.2 ht⟩
 | prog c a d ihc iha ihb =>
  intro s r i b P hw hp ho hl hv hq h;simp only [bW,Option.bind_eq_some_iff] at h;obtain ⟨x,h1,h2⟩ := h;have h3 := nJ hk _ _ _ _ ho.1 hl h1;have h5 := Ek hv (lK hs _ _ _ h1);obtain ⟨q1,_⟩ := ihc _ _ _ _ _ hw.1 hp ho.1 hl hv hq h1
  split at h2
  ·exact ⟨(iha _ _ _ _ _ hw.2.1 trivial ho.2.1 h3 h5 q1 h2).1,trivial⟩
  ·exact ⟨(ihb _ _ _ _ _ hw.2.2 trivial ho.2.2 h3 h5 q1 h2).1,trivial⟩
 | call x =>
  intro s r i b P hw hp ho hl hv hq h;exact ⟨(hr _ _ _ _ b _ (hb b x) (fun hbt => hw hbt _ _ _ hp) (tO x i ho.1 ho.2).1 hl hv hq h).1,trivial⟩
 | sel f c ih =>
  intro s r i b P hw hp ho hl hv hq h;exact ⟨(ih _ _ _ _ _ _ (hw _) ⟨hp,rfl⟩ (ho _) hl hv hq h).1,trivial⟩
theorem El {l : List ByteArray} {t : Tok} (h : aV l t = true) : t.1 ≠ 106 := by
 intro e;unfold aV at h;rw [e] at h;simp at h
theorem hJ {l : List ByteArray} {a b c : Tok} {f : Bool} (h : cE l a b c f = true) : a.1 ≠ 106 := El h
theorem zV {a b c : Tok} {f : Bool} (h : cB a b c f = true) : a.1 ≠ 106 := by
 intro e;unfold cB at h;rw [e] at h;simp at h
theorem vZ {b : Bool} {x : ByteArray} {P : KP} : W6 b (acc x) P := ⟨fun _ _ _ _ h => by obtain ⟨_,_,h⟩ := h; exact hJ h,trivial⟩
theorem oT {b : Bool} {x : ByteArray} {P : KP} : W6 b (exp x) P := ⟨fun _ _ _ _ h => by obtain ⟨_,_,h⟩ := h; exact hJ h,show (108 : Int) ≠ 106 by decide⟩
theorem qO {b : Bool} {P : KP} : W6 b expIdent P := ⟨fun _ _ _ _ h => by obtain ⟨_,_,h⟩ := h; exact zV h,show (108 : Int) ≠ 106 by decide⟩
theorem wC {b : Bool} {x : ByteArray} {c : Cmd} {P : KP} (h : ∀ Q,W6 b c Q) : W6 b (opt x c) P := ⟨⟨fun _ _ _ _ h => by obtain ⟨_,_,h⟩ := h; exact hJ h,h _⟩,show (0 : Int) ≠ 106 by decide⟩
theorem Iw {b : Bool} {P : KP} : W6 b unexpected P := ⟨fun _ _ => by decide,fun h => absurd h (by decide)⟩
theorem qP {b : Bool} {cl : ByteArray} {el : Cmd} {P : KP} (h : ∀ Q,W6 b el Q) : W6 b (list cl el) P := ⟨⟨h _,Iw,trivial,oT⟩,oT⟩
theorem aC {b : Bool} {x : Nm} {P : KP} (h : ∀ t,G2 x t) : W6 b (.call x) P := fun _ u _ _ _ => h u
theorem Hk {b c : Bool} {P : KP} : W6 b (seg c) P := by
 cases c
 ·exact ⟨fun _ _ => by decide,qO,trivial⟩
 ·exact ⟨fun _ _ => by decide,qO,⟨fun _ _ _ _ h => by obtain ⟨_,_,h⟩ := h; exact hJ h,qP fun _ => aC fun _ => trivial⟩,trivial⟩
theorem Hl {t u : Tok} (h : cY t u ≠ 0) : (if aV [⟨#[112,117,98]⟩] t = true then u else t).1 = 104 := by
 unfold cY at h;generalize (if aV [⟨#[112,117,98]⟩] t = true then u else t) = x at *;simp only at h
 split at h
 ·exact absurd rfl h
 ·rename_i h2
  simp only [Bool.or_eq_true,bne_iff_ne,ne_eq,not_or,Decidable.not_not] at h2;exact h2.2
theorem uA (t u : Tok) : cY t u < 100 := (pG t u).2
theorem Em : ∀ b x,W6 b (body x) (fun u _ _ => b = true → G2 x u) := by
 intro b x
 cases x
 case item =>
  intro k
  show W6 b (if k = 0 then _ else _) _
  split
  ·exact aC fun _ => trivial
  ·rename_i h0
   refine ⟨fun _ ⟨x,y,z,_,e⟩ => ?_,vZ,?_,aC fun _ => trivial⟩
   ·have := uA x y
    omega
   ·rintro _ x y z (⟨z',⟨⟨_,e⟩,f,h⟩⟩ | ⟨⟨_,e⟩,f,h⟩)
    ·have h2 := Hl (by rw [e]; exact h0)
     rw [if_pos (show aV _ z' = true from h)] at h2;omega
    ·have h2 := Hl (by rw [e]; exact h0)
     rw [if_neg (by rw [show aV _ x = false from h]; decide)] at h2;omega
 case use =>
  refine ⟨⟨fun _ _ => by decide,⟨fun h => absurd h (by decide),qO⟩,fun h => absurd h (by decide),fun h => absurd h (by decide),qO⟩,⟨⟨?_,?_⟩,⟨?_,qO⟩,trivial⟩,oT⟩
  ·rintro _ _ _ _ ⟨_,_,h⟩
   exact hJ h
  ·rintro _ a _ _ ⟨z,⟨_,h1⟩,_,h2⟩
   have h3 : aV [⟨#[58,58]⟩] z = true := h2;simp only [h3,Bool.true_and,Bool.not_eq_false'] at h1;exact El h1
  ·rintro _ _ _ _ ⟨_,_,h⟩
   exact hJ h
 case postE =>
  refine ⟨⟨fun _ => by decide,fun h => absurd h (by decide)⟩,⟨fun _ => by decide,?_,?_,?_⟩,fun _ => by decide,?_,qO⟩
  ·rintro _ _ _ _ ⟨⟨⟨_,h⟩,_⟩,_⟩
   exact hJ h
  ·rintro _ a _ _ ⟨z,_,_,h⟩ e
   simp only [Bool.and_eq_true,beq_iff_eq] at h;have := h.1;omega
  ·rintro _ a _ _ ⟨z,z2,_,_,h⟩
   simp only [Bool.and_eq_true] at h;exact El h.2
  ·rintro _ _ _ _ ⟨⟨⟨_,h⟩,_⟩,_⟩
   exact hJ h
 case itemBody k =>
  show W6 b (if _ then _ else _) _
  repeat' split
  all_goals repeat' (first | exact trivial | exact vZ | exact oT | exact qO | exact Iw | exact Hk | refine wC fun _ => ?_ | refine qP fun _ => ?_ | exact aC fun _ => trivial | apply And.intro)
 case dataType k =>
  by_cases h4 : k = 4
  ·subst h4
   repeat' (first | exact trivial | exact vZ | exact oT | exact qO | refine wC fun _ => ?_ | refine qP fun _ => ?_ | exact aC fun _ => trivial | (intro _ _; decide) | (intro _; decide) | (intro _ _ _ _ h; obtain ⟨_,_,h⟩ := h; exact zV h) | apply And.intro)
  ·show W6 b (fJ [expIdent,.call .typeParams,_,_]) _
   rw [if_neg h4]
   repeat' (first | exact trivial | exact vZ | exact oT | exact qO | refine wC fun _ => ?_ | refine qP fun _ => ?_ | exact aC fun _ => trivial | (intro _ _; decide) | (intro _; decide) | (intro _ _ _ _ h; obtain ⟨_,_,h⟩ := h; exact zV h) | (intro _ _ _ _ h; obtain ⟨_,_,h⟩ := h; exact hJ h) | apply And.intro)
 case function c => cases c <;> repeat' (first | exact trivial | exact oT | exact qO | refine wC fun _ => ?_ | exact aC fun _ => trivial | (intro _ _ _ _ h; obtain ⟨_,_,h⟩ := h; exact hJ h) | (show (_ : Int) ≠ 106; decide) | apply And.intro)
 case binary n =>
  show W6 b (if _ then _ else _) _
  split
  ·exact aC fun _ => trivial
  ·refine ⟨aC fun _ => trivial,?_⟩
   split
   ·exact ⟨⟨fun _ => by decide,fun h => absurd h (by decide),aC fun _ => trivial⟩,trivial⟩
   ·exact ⟨fun _ => by decide,fun h => absurd h (by decide),aC fun _ => trivial⟩
 all_goals repeat' (first | exact trivial | exact vZ | exact oT | exact qO | exact Iw | exact Hk | refine wC fun _ => ?_ | refine qP fun _ => ?_ | exact aC fun _ => trivial | (intro h; exact absurd h (by decide)) | (intro _ _; decide) | (intro _; decide) | (intro _ _ _ _ h; obtain ⟨_,_,h⟩ := h; exact hJ h) | (intro _ _ _ _ h; obtain ⟨_,_,h⟩ := h; exact zV h) | (intro hb _ _ _ h; exact h hb) | (intro hb _ _ _ h; exact h.1 hb) | (intro _ _ _ _ h; obtain ⟨_,h⟩ := h; exact hJ h) | (intro _ _ _ _ h; obtain ⟨⟨_,h⟩,_⟩ := h; exact hJ h) | (intro _ _ _ _ h e; obtain ⟨_,_,h⟩ := h; simp only [Bool.and_eq_true,beq_iff_eq] at h; have := h.1; omega) | (show (_ : Int) ≠ 106; decide) | apply And.intro)
theorem Hm : ∀ n,R6 (run body n)
 | 0 => Jr Em (by intro _ _ _ h; cases h) (by intro _ _ _ _ _ _ h; cases h) (by intro _ _ _ _ _ _ _ _ _ _ _ _ h; cases h)
 | n + 1 => Jr Em (tM n) (yG n) (Hm n)
theorem En {s : ByteArray} {t : Tr} (h : eW s t) : Ej t ∧ kd t = 1 := by
 obtain ⟨n,r,h1,rfl⟩ := h;have hw : W6 false uE (fun _ _ _ => True) := ⟨fun h => absurd h (by decide),fun h => absurd h (by decide)⟩;have h2 := (Hm n uE _ r 0 false _ hw trivial ⟨zO,trivial⟩ trivial (tF s) (fun t ht => absurd ht List.not_mem_nil) h1).1;refine ⟨?_,rfl⟩;rw [Ej];exact ⟨fun hn => absurd hn (by decide),(vY _).2 fun t ht => (h2 t ht).1⟩
open Go.Gx in
theorem rangesLaw {w : World} {src : ByteArray} (hA0 : Lexi.Asc w) (hE0 : Er w) : Cl Tryz.prog 3 #[.string src] w (fun u w' => u = .bool true ∧ Ext w w') :=
 yK (fun s t _ hp => Bk hp (En hp).1 (En hp).2) hA0 hE0
end Go.Proofs.YtlndmiegodcfjaaGreatDoor.Prn
