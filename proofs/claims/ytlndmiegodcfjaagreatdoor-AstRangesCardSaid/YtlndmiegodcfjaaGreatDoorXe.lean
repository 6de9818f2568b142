/- The parser: primary, pattern, data types, members, postfix. Printed by r6/Nr.py (auto.py). -/
import Derived.Test.YtlndmiegodcfjaaGreatDoorXd
set_option linter.unusedVariables false
set_option linter.unusedSimpArgs false
namespace Go.Proofs.YtlndmiegodcfjaaGreatDoor.Par
set_option maxRecDepth 20000
open Go.Gx Go.RowKit Go.Lib
open Lexi (Asc)
section
variable {w0 : World} {tv : Value} {aG : List Tok} {F : Fs} {w w' : World} {bP : Nat} {below : List (Int × List Tr)} {k : Int} {s r : S} {n : Nat}
theorem Aw (hC : Cx w0 tv aG) (hD : ∀ m,m < n → DN w0 tv aG m) (hp : Ps w0 tv aG F w bP below k s) (hr : run body n (body .primary) s = some r) (hb : r.adds ≤ fR) :
  Cl Tryz.prog 227 #[.pointer (some ⟨bP,0,none⟩)] w (fun u w' => (Nm.primary = Nm.statement → u = .bool r.flag) ∧ Ps w0 tv aG F w' bP below k r ∧ Bw F w w') := by
 have c := Bw.refl F w;have f : ∀ z,F z → F z := fun z h => h;have y := hp.base;have hr : run body n (.cond (fun t _ _ _ => t.1 == 105) (.node 27 .bump) (.cond (fun t _ _ _ => t.1 == 106) (.node 29 .bump) (.cond (cE [⟨#[116,114,117,101]⟩,⟨#[102,97,108,115,101]⟩]) (.node 28 .bump) (.cond cB (.seq (.call (.path false)) (.cond (fun t u _ _ => aV [⟨#[33]⟩] t && aV [⟨#[40]⟩] u) (.wrap 42 (.seq .bump (.call .arguments))) .skip)) (.cond (cE [⟨#[40]⟩]) (.node 60 (.seq .bump (.seq Cmd.expr (Cmd.exp ⟨#[41]⟩)))) (.cond (cE [⟨#[123]⟩]) (.call .block) (.cond (cE [⟨#[105,102]⟩]) (.call .ifExpr) (.cond (cE [⟨#[109,97,116,99,104]⟩]) (.node 35 (.call .matchE)) (.cond (cE [⟨#[110,101,119]⟩]) (.node 33 (.call .structLit)) (.cond (cE [⟨#[124]⟩,⟨#[124,124]⟩]) (.node 38 (.call .lambda)) (.leaf 46))))))))))) s = some r := hr;refine Cl.enter Tryz.func227 rfl Tryz.ntmps227 rfl rfl (.sr (Rg.wd trivial (aW rfl rfl) rfl ?_));rintro _ w1 ⟨H,rfl,g',hx1,a⟩;replace c := bS c hp.und f hx1;obtain ⟨j',hp1,l,hs1⟩ := hp.box hx1 g' a.lt;clear hp;have hp := hp1;clear hp1;replace f := fun z hz => hs1 z (f z hz);refine .done (.sr (.t2 (aB aL rfl (a.g 0 rfl)) (Rg.wd trivial (aC Tryz.call72 rfl (hp.peek hC)) rfl ?_)));rintro _ w2 ⟨rfl,hx2⟩;replace c := bS c hp.und f hx2;replace hp := hp.extw hx2;replace a := a.ext hx2;have i' := hp.ext.le;have Z := a.lt;have K := fun z hz => hp.und z (f z hz);refine Rg.wd trivial (dB Tryz.zeroValue43 rfl) rfl ?_;rintro _ w3 ⟨I,rfl,h',hx3,b⟩;replace c := bS c hp.und f hx3;obtain ⟨k',hp1,p,hs3⟩ := hp.box hx3 h' b.lt;clear hp;have hp := hp1;clear hp1;replace f := fun z hz => hs3 z (f z hz);replace a := a.ext hx3;replace l := hs3 _ l;have a' : ¬ F I := fun hh => by have := K _ hh; omega
 have b' : w0.heap.size ≤ I := by omega
 have A : H ≠ I := by omega
 refine Rg.wn trivial (cW b rfl rfl rfl mK rfl rfl) ?_;rintro _ w4 ⟨hu4,hvn⟩;replace c := c.trans (Bw.upd hu4 a');replace hp := hp.updF hu4 p b';clear b;have b := hvn;clear hvn;replace a := a.upd hu4 A;refine .done (Wp.block ?_)
 cases c' : ((aO s.rem).1 == 105) with
 | true =>
  have hq2 := aX hr c';refine .sr (.t2 (aA eV rfl) (.t2 (aB bA rfl (b.g 0 rfl)) (.t2 (aS rfl rfl (beq_iff_eq.1 c')) (.a2 rfl (.done (.condT rfl (Wp.region (.t2 (aB aL rfl (a.g 0 rfl)) (.t2 (aB aL rfl (a.g 0 rfl)) (.t2 (aM (us := [.pointer (some ⟨bP,0,none⟩)]) (vs := []) rfl rfl) (Rg.wd trivial (aC Tryz.call77 rfl (bZ hp (iG hC) hq2 hb)) rfl ?_)))))))))));rintro _ w5 ⟨hp1,hb5⟩;replace a := aE a hb5 l;replace b := aE b hb5 p;replace c := c.trans (hb5.sub f);clear hp;have hp := hp1;clear hp1;refine .done ?_;exact ⟨[],trivial,(fun h => by cases h),hp.sub f y,c⟩
 | false =>
  have hq2 := aU hr c';refine .sr (.t2 (aA eV rfl) (.t2 (aB bA rfl (b.g 0 rfl)) ?_));refine .t2 (aR rfl rfl (fun e => by rw [beq_iff_eq.2 e] at c'; cases c')) ?_;refine .a2 rfl (.done (.condF rfl ?_))
  cases d' : ((aO s.rem).1 == 106) with
  | true =>
   have hq4 := aX hq2 d';refine .sr (.t2 (aA eV rfl) (.t2 (aB bA rfl (b.g 0 rfl)) (.t2 (aS rfl rfl (beq_iff_eq.1 d')) (.a2 rfl (.done (.condT rfl (Wp.region (.t2 (aB aL rfl (a.g 0 rfl)) (.t2 (aB aL rfl (a.g 0 rfl)) (.t2 (aM (us := [.pointer (some ⟨bP,0,none⟩)]) (vs := []) rfl rfl) (Rg.wd trivial (aC Tryz.call77 rfl (bZ hp (iG hC) hq4 hb)) rfl ?_)))))))))));rintro _ w5 ⟨hp1,hb5⟩;replace a := aE a hb5 l;replace b := aE b hb5 p;replace c := c.trans (hb5.sub f);clear hp;have hp := hp1;clear hp1;refine .done ?_;exact ⟨[],trivial,(fun h => by cases h),hp.sub f y,c⟩
  | false =>
   have hq4 := aU hq2 d';refine .sr (.t2 (aA eV rfl) (.t2 (aB bA rfl (b.g 0 rfl)) ?_));refine .t2 (aR rfl rfl (fun e => by rw [beq_iff_eq.2 e] at d'; cases d')) ?_;refine .a2 rfl (.done (.condF rfl ?_))
   cases f' : (aV [⟨#[116,114,117,101]⟩,⟨#[102,97,108,115,101]⟩] (aO s.rem)) with
   | true =>
    have hq6 := aX hq4 f';refine .sr (.t2 (aB aL rfl (a.g 0 rfl)) (Rg.wd trivial (aD (dE _ _) rfl) rfl ?_));rintro _ w5 ⟨bt25,rfl,qt25,hx5,d⟩;replace c := bS c hp.und f hx5;replace hp := hp.extw hx5;replace a := a.ext hx5;replace b := b.ext hx5;refine Rg.wd trivial (aC Tryz.call73 rfl (bD hC hp (texts := [⟨#[116,114,117,101]⟩,⟨#[102,97,108,115,101]⟩]) d (by decide))) rfl ?_;rintro _ w6 ⟨rfl,hx6⟩;replace c := bS c hp.und f hx6;replace hp := hp.extw hx6;replace a := a.ext hx6;replace b := b.ext hx6
    try replace d := d.ext hx6
    rw [show (aV [⟨#[116,114,117,101]⟩,⟨#[102,97,108,115,101]⟩] (aO s.rem)) = true from f'];refine .a2 rfl (.done (.condT rfl (Wp.region (.t2 (aB aL rfl (a.g 0 rfl)) (.t2 (aB aL rfl (a.g 0 rfl)) (.t2 (aM (us := [.pointer (some ⟨bP,0,none⟩)]) (vs := []) rfl rfl) (Rg.wd trivial (aC Tryz.call77 rfl (bZ hp (iG hC) hq6 hb)) rfl ?_)))))));rintro _ w7 ⟨hp1,hb7⟩;replace a := aE a hb7 l;replace b := aE b hb7 p;replace c := c.trans (hb7.sub f);clear hp;have hp := hp1;clear hp1;refine .done ?_;exact ⟨[],trivial,(fun h => by cases h),hp.sub f y,c⟩
   | false =>
    have hq6 := aU hq4 f';refine .sr (.t2 (aB aL rfl (a.g 0 rfl)) (Rg.wd trivial (aD (dE _ _) rfl) rfl ?_));rintro _ w5 ⟨bt25,rfl,qt25,hx5,d⟩;replace c := bS c hp.und f hx5;replace hp := hp.extw hx5;replace a := a.ext hx5;replace b := b.ext hx5;refine Rg.wd trivial (aC Tryz.call73 rfl (bD hC hp (texts := [⟨#[116,114,117,101]⟩,⟨#[102,97,108,115,101]⟩]) d (by decide))) rfl ?_;rintro _ w6 ⟨rfl,hx6⟩;replace c := bS c hp.und f hx6;replace hp := hp.extw hx6;replace a := a.ext hx6;replace b := b.ext hx6
    try replace d := d.ext hx6
    rw [show (aV [⟨#[116,114,117,101]⟩,⟨#[102,97,108,115,101]⟩] (aO s.rem)) = false from f'];refine .a2 rfl (.done (.condF rfl ?_))
    cases e' : ((aO s.rem).1 == 103) with
    | true =>
     have hq8 := aX hq6 e';refine .sr (.t2 (aA eV rfl) (.t2 (aB bA rfl (b.g 0 rfl)) (.t2 (aS rfl rfl (beq_iff_eq.1 e')) (.a2 rfl (.done (.condT rfl (.sr (.t2 (aB aL rfl (a.g 0 rfl)) ?_))))))));obtain ⟨s1,h1a,h1b⟩ := aI hq8;refine Rg.wd trivial (aC Tryz.call170 rfl (bG hD hp h1a (aH h1b hb))) rfl ?_;rintro _ w7 ⟨hst,hp1,hb7⟩;replace a := aE a hb7 l;replace b := aE b hb7 p;replace c := c.trans (hb7.sub f);clear hp;have hp := hp1;clear hp1;refine .done ?_
     cases C : (aV [⟨#[33]⟩] (aO s1.rem)) with
     | true =>
      cases M : (aV [⟨#[40]⟩] (aO (left s1.rem))) with
      | true =>
       have hq11 := aX h1b (show S.test _ _ = true by simp only [S.test,cE,cB,bne,C,M]; (try rfl));refine .sr (.t2 (aB aL rfl (a.g 0 rfl)) (Rg.wd trivial (aD (aT _) rfl) rfl ?_));rintro _ w8 ⟨bt38,rfl,qt38,hx8,q⟩;replace c := bS c hp.und f hx8;replace hp := hp.extw hx8;replace a := a.ext hx8;replace b := b.ext hx8;refine Rg.wd trivial (aC Tryz.call73 rfl (bD hC hp (texts := [⟨#[33]⟩]) q (by decide))) rfl ?_;rintro _ w9 ⟨rfl,hx9⟩;replace c := bS c hp.und f hx9;replace hp := hp.extw hx9;replace a := a.ext hx9;replace b := b.ext hx9
       try replace q := q.ext hx9
       rw [show (aV [⟨#[33]⟩] (aO s1.rem)) = true from C];refine .m2 rfl (.g2 (aB aL rfl (a.g 0 rfl)) (Rg.wd ⟨_,rfl,rfl⟩ (aC Tryz.call74 rfl (dJ hC hp)) rfl ?_));rintro _ w10 ⟨bk42,rfl,hk42,hx10⟩;replace c := bS c hp.und f hx10;replace hp := hp.extw hx10;replace a := a.ext hx10;replace b := b.ext hx10
       try replace q := q.ext hx10
       refine Rg.wd ⟨_,rfl,rfl⟩ (aD (aT _) rfl) rfl ?_;rintro _ w11 ⟨bt43,rfl,qt43,hx11,D⟩;replace c := bS c hp.und f hx11;replace hp := hp.extw hx11;replace a := a.ext hx11;replace b := b.ext hx11
       try replace q := q.ext hx11
       try replace hk42 := hk42.extw hx11
       refine Rg.wd ⟨_,rfl,rfl⟩ (aC Tryz.call73 rfl (bD hC hk42 (texts := [⟨#[40]⟩]) D (by decide))) rfl ?_;rintro _ w12 ⟨rfl,hx12⟩;replace c := bS c hp.und f hx12;replace hp := hp.extw hx12;replace a := a.ext hx12;replace b := b.ext hx12
       try replace q := q.ext hx12
       try replace D := D.ext hx12
       try replace hk42 := hk42.extw hx12
       rw [show (aV [⟨#[40]⟩] (aO s1.look.rem)) = true from M];refine .t2 (aJ rfl rfl) (.done (.condT rfl (Wp.region (.t2 (aB aL rfl (a.g 0 rfl)) (.t2 (aM (us := []) (vs := [.pointer (some ⟨H,0,none⟩)]) rfl rfl) (Rg.wd trivial (aC Tryz.call200 rfl (gN hp (Ft hC hD a l) hq11 hb)) rfl ?_))))));rintro _ w13 ⟨hp1,hb13⟩;replace a := aE a hb13 l;replace b := aE b hb13 p;replace c := c.trans (hb13.sub f);clear hp;have hp := hp1;clear hp1;refine .done ?_;exact ⟨[],trivial,(fun h => by cases h),hp.sub f y,c⟩
      | false =>
       have hq11 := aU h1b (show S.test _ _ = false by simp only [S.test,cE,cB,bne,C,M]; (try rfl));obtain rfl := cI hq11;refine .sr (.t2 (aB aL rfl (a.g 0 rfl)) (Rg.wd trivial (aD (aT _) rfl) rfl ?_));rintro _ w8 ⟨bt38,rfl,qt38,hx8,q⟩;replace c := bS c hp.und f hx8;replace hp := hp.extw hx8;replace a := a.ext hx8;replace b := b.ext hx8;refine Rg.wd trivial (aC Tryz.call73 rfl (bD hC hp (texts := [⟨#[33]⟩]) q (by decide))) rfl ?_;rintro _ w9 ⟨rfl,hx9⟩;replace c := bS c hp.und f hx9;replace hp := hp.extw hx9;replace a := a.ext hx9;replace b := b.ext hx9
       try replace q := q.ext hx9
       rw [show (aV [⟨#[33]⟩] (aO r.rem)) = true from C];refine .m2 rfl (.g2 (aB aL rfl (a.g 0 rfl)) (Rg.wd ⟨_,rfl,rfl⟩ (aC Tryz.call74 rfl (dJ hC hp)) rfl ?_));rintro _ w10 ⟨bk42,rfl,hk42,hx10⟩;replace c := bS c hp.und f hx10;replace hp := hp.extw hx10;replace a := a.ext hx10;replace b := b.ext hx10
       try replace q := q.ext hx10
       refine Rg.wd ⟨_,rfl,rfl⟩ (aD (aT _) rfl) rfl ?_;rintro _ w11 ⟨bt43,rfl,qt43,hx11,D⟩;replace c := bS c hp.und f hx11;replace hp := hp.extw hx11;replace a := a.ext hx11;replace b := b.ext hx11
       try replace q := q.ext hx11
       try replace hk42 := hk42.extw hx11
       refine Rg.wd ⟨_,rfl,rfl⟩ (aC Tryz.call73 rfl (bD hC hk42 (texts := [⟨#[40]⟩]) D (by decide))) rfl ?_;rintro _ w12 ⟨rfl,hx12⟩;replace c := bS c hp.und f hx12;replace hp := hp.extw hx12;replace a := a.ext hx12;replace b := b.ext hx12
       try replace q := q.ext hx12
       try replace D := D.ext hx12
       try replace hk42 := hk42.extw hx12
       rw [show (aV [⟨#[40]⟩] (aO r.look.rem)) = false from M];refine .t2 (aJ rfl rfl) (.done (.condF rfl (Wp.skip ?_)));exact ⟨[],trivial,(fun h => by cases h),hp.sub f y,c⟩
     | false =>
      have hq10 := aU h1b (show S.test _ _ = false by simp only [S.test,cE,cB,bne,C]; (try rfl));obtain rfl := cI hq10;refine .sr (.t2 (aB aL rfl (a.g 0 rfl)) (Rg.wd trivial (aD (aT _) rfl) rfl ?_));rintro _ w8 ⟨bt38,rfl,qt38,hx8,q⟩;replace c := bS c hp.und f hx8;replace hp := hp.extw hx8;replace a := a.ext hx8;replace b := b.ext hx8;refine Rg.wd trivial (aC Tryz.call73 rfl (bD hC hp (texts := [⟨#[33]⟩]) q (by decide))) rfl ?_;rintro _ w9 ⟨rfl,hx9⟩;replace c := bS c hp.und f hx9;replace hp := hp.extw hx9;replace a := a.ext hx9;replace b := b.ext hx9
      try replace q := q.ext hx9
      rw [show (aV [⟨#[33]⟩] (aO r.rem)) = false from C];refine .m2 rfl (.so rfl rfl (.so rfl rfl (.so rfl rfl (.so rfl rfl (.t2 (aN rfl rfl) (.done (.condF rfl (Wp.skip ?_))))))));exact ⟨[],trivial,(fun h => by cases h),hp.sub f y,c⟩
    | false =>
     have hq8 := aU hq6 e';refine .sr (.t2 (aA eV rfl) (.t2 (aB bA rfl (b.g 0 rfl)) ?_));refine .t2 (aR rfl rfl (fun e => by rw [beq_iff_eq.2 e] at e'; cases e')) ?_;refine .a2 rfl (.done (.condF rfl ?_))
     cases C : (aV [⟨#[40]⟩] (aO s.rem)) with
     | true =>
      have hq10 := aX hq8 C;refine .sr (.t2 (aB aL rfl (a.g 0 rfl)) (Rg.wd trivial (aD (aT _) rfl) rfl ?_));rintro _ w7 ⟨bt51,rfl,qt51,hx7,i⟩;replace c := bS c hp.und f hx7;replace hp := hp.extw hx7;replace a := a.ext hx7;replace b := b.ext hx7
      try replace d := d.ext hx7
      refine Rg.wd trivial (aC Tryz.call73 rfl (bD hC hp (texts := [⟨#[40]⟩]) i (by decide))) rfl ?_;rintro _ w8 ⟨rfl,hx8⟩;replace c := bS c hp.und f hx8;replace hp := hp.extw hx8;replace a := a.ext hx8;replace b := b.ext hx8
      try replace d := d.ext hx8
      try replace i := i.ext hx8
      rw [show (aV [⟨#[40]⟩] (aO s.rem)) = true from C];refine .a2 rfl (.done (.condT rfl (Wp.region (.t2 (aB aL rfl (a.g 0 rfl)) (.t2 (aM (us := []) (vs := [.pointer (some ⟨H,0,none⟩)]) rfl rfl) (Rg.wd trivial (aC Tryz.call77 rfl (bZ hp (Fu hC hD a l) hq10 hb)) rfl ?_))))));rintro _ w9 ⟨hp1,hb9⟩;replace a := aE a hb9 l;replace b := aE b hb9 p;replace c := c.trans (hb9.sub f);clear hp;have hp := hp1;clear hp1;refine .done ?_;exact ⟨[],trivial,(fun h => by cases h),hp.sub f y,c⟩
     | false =>
      have hq10 := aU hq8 C;refine .sr (.t2 (aB aL rfl (a.g 0 rfl)) (Rg.wd trivial (aD (aT _) rfl) rfl ?_));rintro _ w7 ⟨bt51,rfl,qt51,hx7,i⟩;replace c := bS c hp.und f hx7;replace hp := hp.extw hx7;replace a := a.ext hx7;replace b := b.ext hx7
      try replace d := d.ext hx7
      refine Rg.wd trivial (aC Tryz.call73 rfl (bD hC hp (texts := [⟨#[40]⟩]) i (by decide))) rfl ?_;rintro _ w8 ⟨rfl,hx8⟩;replace c := bS c hp.und f hx8;replace hp := hp.extw hx8;replace a := a.ext hx8;replace b := b.ext hx8
      try replace d := d.ext hx8
      try replace i := i.ext hx8
      rw [show (aV [⟨#[40]⟩] (aO s.rem)) = false from C];refine .a2 rfl (.done (.condF rfl ?_))
      cases O : (aV [⟨#[123]⟩] (aO s.rem)) with
      | true =>
       have hq12 := aX hq10 O;refine .sr (.t2 (aB aL rfl (a.g 0 rfl)) (Rg.wd trivial (aD (aT _) rfl) rfl ?_));rintro _ w9 ⟨bt58,rfl,qt58,hx9,j⟩;replace c := bS c hp.und f hx9;replace hp := hp.extw hx9;replace a := a.ext hx9;replace b := b.ext hx9
       try replace d := d.ext hx9
       try replace i := i.ext hx9
       refine Rg.wd trivial (aC Tryz.call73 rfl (bD hC hp (texts := [⟨#[123]⟩]) j (by decide))) rfl ?_;rintro _ w10 ⟨rfl,hx10⟩;replace c := bS c hp.und f hx10;replace hp := hp.extw hx10;replace a := a.ext hx10;replace b := b.ext hx10
       try replace d := d.ext hx10
       try replace i := i.ext hx10
       try replace j := j.ext hx10
       rw [show (aV [⟨#[123]⟩] (aO s.rem)) = true from O];refine .a2 rfl (.done (.condT rfl (Wp.region (.t2 (aB aL rfl (a.g 0 rfl)) (Rg.wd trivial (aC Tryz.call158 rfl (bG hD hp hq12 hb)) rfl ?_)))));rintro _ w11 ⟨hst,hp1,hb11⟩;replace a := aE a hb11 l;replace b := aE b hb11 p;replace c := c.trans (hb11.sub f);clear hp;have hp := hp1;clear hp1;refine .done ?_;exact ⟨[],trivial,(fun h => by cases h),hp.sub f y,c⟩
      | false =>
       have hq12 := aU hq10 O;refine .sr (.t2 (aB aL rfl (a.g 0 rfl)) (Rg.wd trivial (aD (aT _) rfl) rfl ?_));rintro _ w9 ⟨bt58,rfl,qt58,hx9,j⟩;replace c := bS c hp.und f hx9;replace hp := hp.extw hx9;replace a := a.ext hx9;replace b := b.ext hx9
       try replace d := d.ext hx9
       try replace i := i.ext hx9
       refine Rg.wd trivial (aC Tryz.call73 rfl (bD hC hp (texts := [⟨#[123]⟩]) j (by decide))) rfl ?_;rintro _ w10 ⟨rfl,hx10⟩;replace c := bS c hp.und f hx10;replace hp := hp.extw hx10;replace a := a.ext hx10;replace b := b.ext hx10
       try replace d := d.ext hx10
       try replace i := i.ext hx10
       try replace j := j.ext hx10
       rw [show (aV [⟨#[123]⟩] (aO s.rem)) = false from O];refine .a2 rfl (.done (.condF rfl ?_))
       cases Q : (aV [⟨#[105,102]⟩] (aO s.rem)) with
       | true =>
        have hq14 := aX hq12 Q;refine .sr (.t2 (aB aL rfl (a.g 0 rfl)) (Rg.wd trivial (aD (aT _) rfl) rfl ?_));rintro _ w11 ⟨bt64,rfl,qt64,hx11,o⟩;replace c := bS c hp.und f hx11;replace hp := hp.extw hx11;replace a := a.ext hx11;replace b := b.ext hx11
        try replace d := d.ext hx11
        try replace i := i.ext hx11
        try replace j := j.ext hx11
        refine Rg.wd trivial (aC Tryz.call73 rfl (bD hC hp (texts := [⟨#[105,102]⟩]) o (by decide))) rfl ?_;rintro _ w12 ⟨rfl,hx12⟩;replace c := bS c hp.und f hx12;replace hp := hp.extw hx12;replace a := a.ext hx12;replace b := b.ext hx12
        try replace d := d.ext hx12
        try replace i := i.ext hx12
        try replace j := j.ext hx12
        try replace o := o.ext hx12
        rw [show (aV [⟨#[105,102]⟩] (aO s.rem)) = true from Q];refine .a2 rfl (.done (.condT rfl (Wp.region (.t2 (aB aL rfl (a.g 0 rfl)) (Rg.wd trivial (aC Tryz.call252 rfl (bG hD hp hq14 hb)) rfl ?_)))));rintro _ w13 ⟨hst,hp1,hb13⟩;replace a := aE a hb13 l;replace b := aE b hb13 p;replace c := c.trans (hb13.sub f);clear hp;have hp := hp1;clear hp1;refine .done ?_;exact ⟨[],trivial,(fun h => by cases h),hp.sub f y,c⟩
       | false =>
        have hq14 := aU hq12 Q;refine .sr (.t2 (aB aL rfl (a.g 0 rfl)) (Rg.wd trivial (aD (aT _) rfl) rfl ?_));rintro _ w11 ⟨bt64,rfl,qt64,hx11,o⟩;replace c := bS c hp.und f hx11;replace hp := hp.extw hx11;replace a := a.ext hx11;replace b := b.ext hx11
        try replace d := d.ext hx11
        try replace i := i.ext hx11
        try replace j := j.ext hx11
        refine Rg.wd trivial (aC Tryz.call73 rfl (bD hC hp (texts := [⟨#[105,102]⟩]) o (by decide))) rfl ?_;rintro _ w12 ⟨rfl,hx12⟩;replace c := bS c hp.und f hx12;replace hp := hp.extw hx12;replace a := a.ext hx12;replace b := b.ext hx12
        try replace d := d.ext hx12
        try replace i := i.ext hx12
        try replace j := j.ext hx12
        try replace o := o.ext hx12
        rw [show (aV [⟨#[105,102]⟩] (aO s.rem)) = false from Q];refine .a2 rfl (.done (.condF rfl ?_))
        cases R : (aV [⟨#[109,97,116,99,104]⟩] (aO s.rem)) with
        | true =>
         have hq16 := aX hq14 R;refine .sr (.t2 (aB aL rfl (a.g 0 rfl)) (Rg.wd trivial (aD (aT _) rfl) rfl ?_));rintro _ w13 ⟨bt70,rfl,qt70,hx13,v⟩;replace c := bS c hp.und f hx13;replace hp := hp.extw hx13;replace a := a.ext hx13;replace b := b.ext hx13
         try replace d := d.ext hx13
         try replace i := i.ext hx13
         try replace j := j.ext hx13
         try replace o := o.ext hx13
         refine Rg.wd trivial (aC Tryz.call73 rfl (bD hC hp (texts := [⟨#[109,97,116,99,104]⟩]) v (by decide))) rfl ?_;rintro _ w14 ⟨rfl,hx14⟩;replace c := bS c hp.und f hx14;replace hp := hp.extw hx14;replace a := a.ext hx14;replace b := b.ext hx14
         try replace d := d.ext hx14
         try replace i := i.ext hx14
         try replace j := j.ext hx14
         try replace o := o.ext hx14
         try replace v := v.ext hx14
         rw [show (aV [⟨#[109,97,116,99,104]⟩] (aO s.rem)) = true from R];refine .a2 rfl (.done (.condT rfl (Wp.region (.t2 (aB aL rfl (a.g 0 rfl)) (.t2 (aB aL rfl (a.g 0 rfl)) (.t2 (aM (us := [.pointer (some ⟨bP,0,none⟩)]) (vs := []) rfl rfl) (Rg.wd trivial (aC Tryz.call77 rfl (bZ hp (dL Tryz.call253 hD (.matchE)) hq16 hb)) rfl ?_)))))));rintro _ w15 ⟨hp1,hb15⟩;replace a := aE a hb15 l;replace b := aE b hb15 p;replace c := c.trans (hb15.sub f);clear hp;have hp := hp1;clear hp1;refine .done ?_;exact ⟨[],trivial,(fun h => by cases h),hp.sub f y,c⟩
        | false =>
         have hq16 := aU hq14 R;refine .sr (.t2 (aB aL rfl (a.g 0 rfl)) (Rg.wd trivial (aD (aT _) rfl) rfl ?_));rintro _ w13 ⟨bt70,rfl,qt70,hx13,v⟩;replace c := bS c hp.und f hx13;replace hp := hp.extw hx13;replace a := a.ext hx13;replace b := b.ext hx13
         try replace d := d.ext hx13
         try replace i := i.ext hx13
         try replace j := j.ext hx13
         try replace o := o.ext hx13
         refine Rg.wd trivial (aC Tryz.call73 rfl (bD hC hp (texts := [⟨#[109,97,116,99,104]⟩]) v (by decide))) rfl ?_;rintro _ w14 ⟨rfl,hx14⟩;replace c := bS c hp.und f hx14;replace hp := hp.extw hx14;replace a := a.ext hx14;replace b := b.ext hx14
         try replace d := d.ext hx14
         try replace i := i.ext hx14
         try replace j := j.ext hx14
         try replace o := o.ext hx14
         try replace v := v.ext hx14
         rw [show (aV [⟨#[109,97,116,99,104]⟩] (aO s.rem)) = false from R];refine .a2 rfl (.done (.condF rfl ?_))
         cases U : (aV [⟨#[110,101,119]⟩] (aO s.rem)) with
         | true =>
          have hq18 := aX hq16 U;refine .sr (.t2 (aB aL rfl (a.g 0 rfl)) (Rg.wd trivial (aD (aT _) rfl) rfl ?_));rintro _ w15 ⟨bt78,rfl,qt78,hx15,x⟩;replace c := bS c hp.und f hx15;replace hp := hp.extw hx15;replace a := a.ext hx15;replace b := b.ext hx15
          try replace d := d.ext hx15
          try replace i := i.ext hx15
          try replace j := j.ext hx15
          try replace o := o.ext hx15
          try replace v := v.ext hx15
          refine Rg.wd trivial (aC Tryz.call73 rfl (bD hC hp (texts := [⟨#[110,101,119]⟩]) x (by decide))) rfl ?_;rintro _ w16 ⟨rfl,hx16⟩;replace c := bS c hp.und f hx16;replace hp := hp.extw hx16;replace a := a.ext hx16;replace b := b.ext hx16
          try replace d := d.ext hx16
          try replace i := i.ext hx16
          try replace j := j.ext hx16
          try replace o := o.ext hx16
          try replace v := v.ext hx16
          try replace x := x.ext hx16
          rw [show (aV [⟨#[110,101,119]⟩] (aO s.rem)) = true from U];refine .a2 rfl (.done (.condT rfl (Wp.region (.t2 (aB aL rfl (a.g 0 rfl)) (.t2 (aB aL rfl (a.g 0 rfl)) (.t2 (aM (us := [.pointer (some ⟨bP,0,none⟩)]) (vs := []) rfl rfl) (Rg.wd trivial (aC Tryz.call77 rfl (bZ hp (dL Tryz.call254 hD (.structLit)) hq18 hb)) rfl ?_)))))));rintro _ w17 ⟨hp1,hb17⟩;replace a := aE a hb17 l;replace b := aE b hb17 p;replace c := c.trans (hb17.sub f);clear hp;have hp := hp1;clear hp1;refine .done ?_;exact ⟨[],trivial,(fun h => by cases h),hp.sub f y,c⟩
         | false =>
          have hq18 := aU hq16 U;refine .sr (.t2 (aB aL rfl (a.g 0 rfl)) (Rg.wd trivial (aD (aT _) rfl) rfl ?_));rintro _ w15 ⟨bt78,rfl,qt78,hx15,x⟩;replace c := bS c hp.und f hx15;replace hp := hp.extw hx15;replace a := a.ext hx15;replace b := b.ext hx15
          try replace d := d.ext hx15
          try replace i := i.ext hx15
          try replace j := j.ext hx15
          try replace o := o.ext hx15
          try replace v := v.ext hx15
          refine Rg.wd trivial (aC Tryz.call73 rfl (bD hC hp (texts := [⟨#[110,101,119]⟩]) x (by decide))) rfl ?_;rintro _ w16 ⟨rfl,hx16⟩;replace c := bS c hp.und f hx16;replace hp := hp.extw hx16;replace a := a.ext hx16;replace b := b.ext hx16
          try replace d := d.ext hx16
          try replace i := i.ext hx16
          try replace j := j.ext hx16
          try replace o := o.ext hx16
          try replace v := v.ext hx16
          try replace x := x.ext hx16
          rw [show (aV [⟨#[110,101,119]⟩] (aO s.rem)) = false from U];refine .a2 rfl (.done (.condF rfl ?_))
          cases Y : (aV [⟨#[124]⟩,⟨#[124,124]⟩] (aO s.rem)) with
          | true =>
           have hq20 := aX hq18 Y;refine .sr (.t2 (aB aL rfl (a.g 0 rfl)) (Rg.wd trivial (aD (dE _ _) rfl) rfl ?_));rintro _ w17 ⟨bt86,rfl,qt86,hx17,E⟩;replace c := bS c hp.und f hx17;replace hp := hp.extw hx17;replace a := a.ext hx17;replace b := b.ext hx17
           try replace d := d.ext hx17
           try replace i := i.ext hx17
           try replace j := j.ext hx17
           try replace o := o.ext hx17
           try replace v := v.ext hx17
           try replace x := x.ext hx17
           refine Rg.wd trivial (aC Tryz.call73 rfl (bD hC hp (texts := [⟨#[124]⟩,⟨#[124,124]⟩]) E (by decide))) rfl ?_;rintro _ w18 ⟨rfl,hx18⟩;replace c := bS c hp.und f hx18;replace hp := hp.extw hx18;replace a := a.ext hx18;replace b := b.ext hx18
           try replace d := d.ext hx18
           try replace i := i.ext hx18
           try replace j := j.ext hx18
           try replace o := o.ext hx18
           try replace v := v.ext hx18
           try replace x := x.ext hx18
           try replace E := E.ext hx18
           rw [show (aV [⟨#[124]⟩,⟨#[124,124]⟩] (aO s.rem)) = true from Y];refine .a2 rfl (.done (.condT rfl (Wp.region (.t2 (aB aL rfl (a.g 0 rfl)) (.t2 (aB aL rfl (a.g 0 rfl)) (.t2 (aM (us := [.pointer (some ⟨bP,0,none⟩)]) (vs := []) rfl rfl) (Rg.wd trivial (aC Tryz.call77 rfl (bZ hp (dL Tryz.call255 hD (.lambda)) hq20 hb)) rfl ?_)))))));rintro _ w19 ⟨hp1,hb19⟩;replace a := aE a hb19 l;replace b := aE b hb19 p;replace c := c.trans (hb19.sub f);clear hp;have hp := hp1;clear hp1;refine .done ?_;exact ⟨[],trivial,(fun h => by cases h),hp.sub f y,c⟩
          | false =>
           have hq20 := aU hq18 Y;refine .sr (.t2 (aB aL rfl (a.g 0 rfl)) (Rg.wd trivial (aD (dE _ _) rfl) rfl ?_));rintro _ w17 ⟨bt86,rfl,qt86,hx17,E⟩;replace c := bS c hp.und f hx17;replace hp := hp.extw hx17;replace a := a.ext hx17;replace b := b.ext hx17
           try replace d := d.ext hx17
           try replace i := i.ext hx17
           try replace j := j.ext hx17
           try replace o := o.ext hx17
           try replace v := v.ext hx17
           try replace x := x.ext hx17
           refine Rg.wd trivial (aC Tryz.call73 rfl (bD hC hp (texts := [⟨#[124]⟩,⟨#[124,124]⟩]) E (by decide))) rfl ?_;rintro _ w18 ⟨rfl,hx18⟩;replace c := bS c hp.und f hx18;replace hp := hp.extw hx18;replace a := a.ext hx18;replace b := b.ext hx18
           try replace d := d.ext hx18
           try replace i := i.ext hx18
           try replace j := j.ext hx18
           try replace o := o.ext hx18
           try replace v := v.ext hx18
           try replace x := x.ext hx18
           try replace E := E.ext hx18
           rw [show (aV [⟨#[124]⟩,⟨#[124,124]⟩] (aO s.rem)) = false from Y];refine .a2 rfl (.done (.condF rfl (Wp.region (.t2 (aB aL rfl (a.g 0 rfl)) (Rg.wd trivial (aC Tryz.call171 rfl (mO hp hq20 hb)) rfl ?_)))));rintro _ w19 ⟨hp1,hb19⟩;replace a := aE a hb19 l;replace b := aE b hb19 p;replace c := c.trans (hb19.sub f);clear hp;have hp := hp1;clear hp1;refine .done ?_;exact ⟨[],trivial,(fun h => by cases h),hp.sub f y,c⟩
theorem Ax (hC : Cx w0 tv aG) (hD : ∀ m,m < n → DN w0 tv aG m) (hp : Ps w0 tv aG F w bP below k s) (hr : run body n (body .pattern) s = some r) (hb : r.adds ≤ fR) :
  Cl Tryz.prog 248 #[.pointer (some ⟨bP,0,none⟩)] w (fun u w' => (Nm.pattern = Nm.statement → u = .bool r.flag) ∧ Ps w0 tv aG F w' bP below k r ∧ Bw F w w') := by
 have c := Bw.refl F w;have d : ∀ z,F z → F z := fun z h => h;have v := hp.base;have hr : run body n (.cond (cE [⟨#[109,117,116]⟩]) (.node 44 (.seq .bump Cmd.expIdent)) (.cond (fun t _ _ _ => t.1 == 103 && decide (t.2 = ⟨#[95]⟩)) (.node 43 .bump) (.cond (fun t u _ _ => t.1 == 103 && !aV [⟨#[40]⟩,⟨#[58,58]⟩] u) (.node 44 .bump) (.cond cB (.node 45 (.seq (.call (.path false)) (.cond (cE [⟨#[40]⟩]) (.seq .bump (Cmd.list ⟨#[41]⟩ (.call .pattern))) .skip))) (.cond (fun t _ _ _ => t.1 == 105) (.node 27 .bump) (.cond (cE [⟨#[116,114,117,101]⟩,⟨#[102,97,108,115,101]⟩]) (.node 28 .bump) (.leaf 46))))))) s = some r := hr;refine Cl.enter Tryz.func248 rfl Tryz.ntmps248 rfl rfl (.sr (Rg.wd trivial (aW rfl rfl) rfl ?_));rintro _ w1 ⟨y,rfl,Q,hx1,a⟩;replace c := bS c hp.und d hx1;obtain ⟨Y,hp1,i,hs1⟩ := hp.box hx1 Q a.lt;clear hp;have hp := hp1;clear hp1;replace d := fun z hz => hs1 z (d z hz);refine .done (.sr (.t2 (aB aL rfl (a.g 0 rfl)) (Rg.wd trivial (aC Tryz.call72 rfl (hp.peek hC)) rfl ?_)));rintro _ w2 ⟨rfl,hx2⟩;replace c := bS c hp.und d hx2;replace hp := hp.extw hx2;replace a := a.ext hx2;have U := hp.ext.le;have E := a.lt;have D := fun z hz => hp.und z (d z hz);refine Rg.wd trivial (dB Tryz.zeroValue43 rfl) rfl ?_;rintro _ w3 ⟨A,rfl,R,hx3,b⟩;replace c := bS c hp.und d hx3;obtain ⟨Z,hp1,j,hs3⟩ := hp.box hx3 R b.lt;clear hp;have hp := hp1;clear hp1;replace d := fun z hz => hs3 z (d z hz);replace a := a.ext hx3;replace i := hs3 _ i;have H : ¬ F A := fun hh => by have := D _ hh; omega
 have I : w0.heap.size ≤ A := by omega
 have p : y ≠ A := by omega
 refine Rg.wn trivial (cW b rfl rfl rfl mK rfl rfl) ?_;rintro _ w4 ⟨hu4,hvn⟩;replace c := c.trans (Bw.upd hu4 H);replace hp := hp.updF hu4 j I;clear b;have b := hvn;clear hvn;replace a := a.upd hu4 p;refine .done (Wp.block ?_)
 cases q : (aV [⟨#[109,117,116]⟩] (aO s.rem)) with
 | true =>
  have hq2 := aX hr q;refine .sr (.t2 (aB aL rfl (a.g 0 rfl)) (Rg.wd trivial (aD (aT _) rfl) rfl ?_));rintro _ w5 ⟨bt9,rfl,qt9,hx5,f⟩;replace c := bS c hp.und d hx5;replace hp := hp.extw hx5;replace a := a.ext hx5;replace b := b.ext hx5;refine Rg.wd trivial (aC Tryz.call73 rfl (bD hC hp (texts := [⟨#[109,117,116]⟩]) f (by decide))) rfl ?_;rintro _ w6 ⟨rfl,hx6⟩;replace c := bS c hp.und d hx6;replace hp := hp.extw hx6;replace a := a.ext hx6;replace b := b.ext hx6
  try replace f := f.ext hx6
  rw [show (aV [⟨#[109,117,116]⟩] (aO s.rem)) = true from q];refine .a2 rfl (.done (.condT rfl (Wp.region (.t2 (aB aL rfl (a.g 0 rfl)) (.t2 (aM (us := []) (vs := [.pointer (some ⟨y,0,none⟩)]) rfl rfl) (Rg.wd trivial (aC Tryz.call77 rfl (bZ hp (Fp hC hD a i) hq2 hb)) rfl ?_))))));rintro _ w7 ⟨hp1,hb7⟩;replace a := aE a hb7 i;replace b := aE b hb7 j;replace c := c.trans (hb7.sub d);clear hp;have hp := hp1;clear hp1;refine .done ?_;exact ⟨[],trivial,(fun h => by cases h),hp.sub d v,c⟩
 | false =>
  have hq2 := aU hr q;refine .sr (.t2 (aB aL rfl (a.g 0 rfl)) (Rg.wd trivial (aD (aT _) rfl) rfl ?_));rintro _ w5 ⟨bt9,rfl,qt9,hx5,f⟩;replace c := bS c hp.und d hx5;replace hp := hp.extw hx5;replace a := a.ext hx5;replace b := b.ext hx5;refine Rg.wd trivial (aC Tryz.call73 rfl (bD hC hp (texts := [⟨#[109,117,116]⟩]) f (by decide))) rfl ?_;rintro _ w6 ⟨rfl,hx6⟩;replace c := bS c hp.und d hx6;replace hp := hp.extw hx6;replace a := a.ext hx6;replace b := b.ext hx6
  try replace f := f.ext hx6
  rw [show (aV [⟨#[109,117,116]⟩] (aO s.rem)) = false from q];refine .a2 rfl (.done (.condF rfl ?_))
  cases l : ((aO s.rem).1 == 103) with
  | true =>
   cases C : (decide ((aO s.rem).2 = ⟨#[95]⟩)) with
   | true =>
    have hq5 := aX hq2 (show S.test _ _ = true by simp only [S.test,cE,cB,bne,q,l,C]; (try rfl));refine .sr (.t2 (aB aL rfl (a.g 0 rfl)) (Rg.wd trivial (aC Tryz.call161 rfl (bT hC hp)) rfl ?_));rintro _ w7 ⟨rfl,hx7⟩;replace c := bS c hp.und d hx7;replace hp := hp.extw hx7;replace a := a.ext hx7;replace b := b.ext hx7
    try replace f := f.ext hx7
    rw [show ((aO s.rem).1 == 103) = true from l];refine .m2 rfl (.g2 (aA mL rfl) (.g2 (aB hY rfl (b.g 1 rfl)) (.g2 (cX rfl rfl (of_decide_eq_true C)) (.t2 (aJ rfl rfl) (.a2 rfl (.done (.condT rfl (Wp.region (.t2 (aB aL rfl (a.g 0 rfl)) (.t2 (aB aL rfl (a.g 0 rfl)) (.t2 (aM (us := [.pointer (some ⟨bP,0,none⟩)]) (vs := []) rfl rfl) (Rg.wd trivial (aC Tryz.call77 rfl (bZ hp (iG hC) hq5 hb)) rfl ?_))))))))))));rintro _ w8 ⟨hp1,hb8⟩;replace a := aE a hb8 i;replace b := aE b hb8 j;replace c := c.trans (hb8.sub d);clear hp;have hp := hp1;clear hp1;refine .done ?_;exact ⟨[],trivial,(fun h => by cases h),hp.sub d v,c⟩
   | false =>
    have hq5 := aU hq2 (show S.test _ _ = false by simp only [S.test,cE,cB,bne,q,l,C]; (try rfl));refine .sr (.t2 (aB aL rfl (a.g 0 rfl)) (Rg.wd trivial (aC Tryz.call161 rfl (bT hC hp)) rfl ?_));rintro _ w7 ⟨rfl,hx7⟩;replace c := bS c hp.und d hx7;replace hp := hp.extw hx7;replace a := a.ext hx7;replace b := b.ext hx7
    try replace f := f.ext hx7
    rw [show ((aO s.rem).1 == 103) = true from l];refine .m2 rfl (.g2 (aA mL rfl) (.g2 (aB hY rfl (b.g 1 rfl)) (.g2 (cZ rfl rfl (of_decide_eq_false C)) (.t2 (aJ rfl rfl) (.a2 rfl (.done (.condF rfl ?_)))))))
    cases M : (aV [⟨#[40]⟩,⟨#[58,58]⟩] (aO (left s.rem))) with
    | true =>
     have hq7 := aU hq5 (show S.test _ _ = false by simp only [S.test,cE,cB,bne,q,l,C,M]; (try rfl));have hq8 := aX hq7 l;refine .sr (.t2 (aB aL rfl (a.g 0 rfl)) (Rg.wd trivial (aC Tryz.call161 rfl (bT hC hp)) rfl ?_));rintro _ w8 ⟨rfl,hx8⟩;replace c := bS c hp.und d hx8;replace hp := hp.extw hx8;replace a := a.ext hx8;replace b := b.ext hx8
     try replace f := f.ext hx8
     rw [show ((aO s.rem).1 == 103) = true from l];refine .m2 rfl (.g2 (aB aL rfl (a.g 0 rfl)) (Rg.wd ⟨_,rfl,rfl⟩ (aC Tryz.call74 rfl (dJ hC hp)) rfl ?_));rintro _ w9 ⟨bk31,rfl,hk31,hx9⟩;replace c := bS c hp.und d hx9;replace hp := hp.extw hx9;replace a := a.ext hx9;replace b := b.ext hx9
     try replace f := f.ext hx9
     refine Rg.wd ⟨_,rfl,rfl⟩ (aD (dE _ _) rfl) rfl ?_;rintro _ w10 ⟨bt32,rfl,qt32,hx10,o⟩;replace c := bS c hp.und d hx10;replace hp := hp.extw hx10;replace a := a.ext hx10;replace b := b.ext hx10
     try replace f := f.ext hx10
     try replace hk31 := hk31.extw hx10
     refine Rg.wd ⟨_,rfl,rfl⟩ (aC Tryz.call73 rfl (bD hC hk31 (texts := [⟨#[40]⟩,⟨#[58,58]⟩]) o (by decide))) rfl ?_;rintro _ w11 ⟨rfl,hx11⟩;replace c := bS c hp.und d hx11;replace hp := hp.extw hx11;replace a := a.ext hx11;replace b := b.ext hx11
     try replace f := f.ext hx11
     try replace o := o.ext hx11
     try replace hk31 := hk31.extw hx11
     rw [show (aV [⟨#[40]⟩,⟨#[58,58]⟩] (aO s.look.rem)) = true from M];refine .g2 (bJ rfl) (.t2 (aJ rfl rfl) (.a2 rfl (.done (.condF rfl (.sr (.t2 (aB aL rfl (a.g 0 rfl)) (Rg.wd trivial (aC Tryz.call161 rfl (bT hC hp)) rfl ?_)))))));rintro _ w12 ⟨rfl,hx12⟩;replace c := bS c hp.und d hx12;replace hp := hp.extw hx12;replace a := a.ext hx12;replace b := b.ext hx12
     try replace f := f.ext hx12
     try replace o := o.ext hx12
     try replace hk31 := hk31.extw hx12
     rw [show ((aO s.rem).1 == 103) = true from l];refine .a2 rfl (.done (.condT rfl (Wp.region (.t2 (aB aL rfl (a.g 0 rfl)) (.t2 (aM (us := []) (vs := [.pointer (some ⟨y,0,none⟩)]) rfl rfl) (Rg.wd trivial (aC Tryz.call77 rfl (bZ hp (Fq hC hD a i) hq8 hb)) rfl ?_))))));rintro _ w13 ⟨hp1,hb13⟩;replace a := aE a hb13 i;replace b := aE b hb13 j;replace c := c.trans (hb13.sub d);clear hp;have hp := hp1;clear hp1;refine .done ?_;exact ⟨[],trivial,(fun h => by cases h),hp.sub d v,c⟩
    | false =>
     have hq7 := aX hq5 (show S.test _ _ = true by simp only [S.test,cE,cB,bne,q,l,C,M]; (try rfl));refine .sr (.t2 (aB aL rfl (a.g 0 rfl)) (Rg.wd trivial (aC Tryz.call161 rfl (bT hC hp)) rfl ?_));rintro _ w8 ⟨rfl,hx8⟩;replace c := bS c hp.und d hx8;replace hp := hp.extw hx8;replace a := a.ext hx8;replace b := b.ext hx8
     try replace f := f.ext hx8
     rw [show ((aO s.rem).1 == 103) = true from l];refine .m2 rfl (.g2 (aB aL rfl (a.g 0 rfl)) (Rg.wd ⟨_,rfl,rfl⟩ (aC Tryz.call74 rfl (dJ hC hp)) rfl ?_));rintro _ w9 ⟨bk31,rfl,hk31,hx9⟩;replace c := bS c hp.und d hx9;replace hp := hp.extw hx9;replace a := a.ext hx9;replace b := b.ext hx9
     try replace f := f.ext hx9
     refine Rg.wd ⟨_,rfl,rfl⟩ (aD (dE _ _) rfl) rfl ?_;rintro _ w10 ⟨bt32,rfl,qt32,hx10,o⟩;replace c := bS c hp.und d hx10;replace hp := hp.extw hx10;replace a := a.ext hx10;replace b := b.ext hx10
     try replace f := f.ext hx10
     try replace hk31 := hk31.extw hx10
     refine Rg.wd ⟨_,rfl,rfl⟩ (aC Tryz.call73 rfl (bD hC hk31 (texts := [⟨#[40]⟩,⟨#[58,58]⟩]) o (by decide))) rfl ?_;rintro _ w11 ⟨rfl,hx11⟩;replace c := bS c hp.und d hx11;replace hp := hp.extw hx11;replace a := a.ext hx11;replace b := b.ext hx11
     try replace f := f.ext hx11
     try replace o := o.ext hx11
     try replace hk31 := hk31.extw hx11
     rw [show (aV [⟨#[40]⟩,⟨#[58,58]⟩] (aO s.look.rem)) = false from M];refine .g2 (bJ rfl) (.t2 (aJ rfl rfl) (.a2 rfl (.done (.condT rfl (Wp.region (.t2 (aB aL rfl (a.g 0 rfl)) (.t2 (aB aL rfl (a.g 0 rfl)) (.t2 (aM (us := [.pointer (some ⟨bP,0,none⟩)]) (vs := []) rfl rfl) (Rg.wd trivial (aC Tryz.call77 rfl (bZ hp (iG hC) hq7 hb)) rfl ?_)))))))));rintro _ w12 ⟨hp1,hb12⟩;replace a := aE a hb12 i;replace b := aE b hb12 j;replace c := c.trans (hb12.sub d);clear hp;have hp := hp1;clear hp1;refine .done ?_;exact ⟨[],trivial,(fun h => by cases h),hp.sub d v,c⟩
  | false =>
   have hq4 := aU hq2 (show S.test _ _ = false by simp only [S.test,cE,cB,bne,q,l]; (try rfl));have hq5 := aU hq4 (show S.test _ _ = false by simp only [S.test,cE,cB,bne,q,l]; (try rfl));have hq6 := aU hq5 l;refine .sr (.t2 (aB aL rfl (a.g 0 rfl)) (Rg.wd trivial (aC Tryz.call161 rfl (bT hC hp)) rfl ?_));rintro _ w7 ⟨rfl,hx7⟩;replace c := bS c hp.und d hx7;replace hp := hp.extw hx7;replace a := a.ext hx7;replace b := b.ext hx7
   try replace f := f.ext hx7
   rw [show ((aO s.rem).1 == 103) = false from l];refine .m2 rfl (.so rfl rfl (.so rfl rfl (.so rfl rfl (.t2 (aN rfl rfl) (.a2 rfl (.done (.condF rfl (.sr (.t2 (aB aL rfl (a.g 0 rfl)) (Rg.wd trivial (aC Tryz.call161 rfl (bT hC hp)) rfl ?_))))))))));rintro _ w8 ⟨rfl,hx8⟩;replace c := bS c hp.und d hx8;replace hp := hp.extw hx8;replace a := a.ext hx8;replace b := b.ext hx8
   try replace f := f.ext hx8
   rw [show ((aO s.rem).1 == 103) = false from l];refine .m2 rfl (.so rfl rfl (.so rfl rfl (.so rfl rfl (.so rfl rfl (.so rfl rfl (.t2 (aN rfl rfl) (.a2 rfl (.done (.condF rfl (.sr (.t2 (aB aL rfl (a.g 0 rfl)) (Rg.wd trivial (aC Tryz.call161 rfl (bT hC hp)) rfl ?_))))))))))));rintro _ w9 ⟨rfl,hx9⟩;replace c := bS c hp.und d hx9;replace hp := hp.extw hx9;replace a := a.ext hx9;replace b := b.ext hx9
   try replace f := f.ext hx9
   rw [show ((aO s.rem).1 == 103) = false from l];refine .a2 rfl (.done (.condF rfl ?_))
   cases K : ((aO s.rem).1 == 105) with
   | true =>
    have hq8 := aX hq6 K;refine .sr (.t2 (aA eV rfl) (.t2 (aB bA rfl (b.g 0 rfl)) (.t2 (aS rfl rfl (beq_iff_eq.1 K)) (.a2 rfl (.done (.condT rfl (Wp.region (.t2 (aB aL rfl (a.g 0 rfl)) (.t2 (aB aL rfl (a.g 0 rfl)) (.t2 (aM (us := [.pointer (some ⟨bP,0,none⟩)]) (vs := []) rfl rfl) (Rg.wd trivial (aC Tryz.call77 rfl (bZ hp (iG hC) hq8 hb)) rfl ?_)))))))))));rintro _ w10 ⟨hp1,hb10⟩;replace a := aE a hb10 i;replace b := aE b hb10 j;replace c := c.trans (hb10.sub d);clear hp;have hp := hp1;clear hp1;refine .done ?_;exact ⟨[],trivial,(fun h => by cases h),hp.sub d v,c⟩
   | false =>
    have hq8 := aU hq6 K;refine .sr (.t2 (aA eV rfl) (.t2 (aB bA rfl (b.g 0 rfl)) ?_));refine .t2 (aR rfl rfl (fun e => by rw [beq_iff_eq.2 e] at K; cases K)) ?_;refine .a2 rfl (.done (.condF rfl ?_))
    cases O : (aV [⟨#[116,114,117,101]⟩,⟨#[102,97,108,115,101]⟩] (aO s.rem)) with
    | true =>
     have hq10 := aX hq8 O;refine .sr (.t2 (aB aL rfl (a.g 0 rfl)) (Rg.wd trivial (aD (dE _ _) rfl) rfl ?_));rintro _ w10 ⟨bt56,rfl,qt56,hx10,x⟩;replace c := bS c hp.und d hx10;replace hp := hp.extw hx10;replace a := a.ext hx10;replace b := b.ext hx10
     try replace f := f.ext hx10
     refine Rg.wd trivial (aC Tryz.call73 rfl (bD hC hp (texts := [⟨#[116,114,117,101]⟩,⟨#[102,97,108,115,101]⟩]) x (by decide))) rfl ?_;rintro _ w11 ⟨rfl,hx11⟩;replace c := bS c hp.und d hx11;replace hp := hp.extw hx11;replace a := a.ext hx11;replace b := b.ext hx11
     try replace f := f.ext hx11
     try replace x := x.ext hx11
     rw [show (aV [⟨#[116,114,117,101]⟩,⟨#[102,97,108,115,101]⟩] (aO s.rem)) = true from O];refine .a2 rfl (.done (.condT rfl (Wp.region (.t2 (aB aL rfl (a.g 0 rfl)) (.t2 (aB aL rfl (a.g 0 rfl)) (.t2 (aM (us := [.pointer (some ⟨bP,0,none⟩)]) (vs := []) rfl rfl) (Rg.wd trivial (aC Tryz.call77 rfl (bZ hp (iG hC) hq10 hb)) rfl ?_)))))));rintro _ w12 ⟨hp1,hb12⟩;replace a := aE a hb12 i;replace b := aE b hb12 j;replace c := c.trans (hb12.sub d);clear hp;have hp := hp1;clear hp1;refine .done ?_;exact ⟨[],trivial,(fun h => by cases h),hp.sub d v,c⟩
    | false =>
     have hq10 := aU hq8 O;refine .sr (.t2 (aB aL rfl (a.g 0 rfl)) (Rg.wd trivial (aD (dE _ _) rfl) rfl ?_));rintro _ w10 ⟨bt56,rfl,qt56,hx10,x⟩;replace c := bS c hp.und d hx10;replace hp := hp.extw hx10;replace a := a.ext hx10;replace b := b.ext hx10
     try replace f := f.ext hx10
     refine Rg.wd trivial (aC Tryz.call73 rfl (bD hC hp (texts := [⟨#[116,114,117,101]⟩,⟨#[102,97,108,115,101]⟩]) x (by decide))) rfl ?_;rintro _ w11 ⟨rfl,hx11⟩;replace c := bS c hp.und d hx11;replace hp := hp.extw hx11;replace a := a.ext hx11;replace b := b.ext hx11
     try replace f := f.ext hx11
     try replace x := x.ext hx11
     rw [show (aV [⟨#[116,114,117,101]⟩,⟨#[102,97,108,115,101]⟩] (aO s.rem)) = false from O];refine .a2 rfl (.done (.condF rfl (Wp.region (.t2 (aB aL rfl (a.g 0 rfl)) (Rg.wd trivial (aC Tryz.call171 rfl (mO hp hq10 hb)) rfl ?_)))));rintro _ w12 ⟨hp1,hb12⟩;replace a := aE a hb12 i;replace b := aE b hb12 j;replace c := c.trans (hb12.sub d);clear hp;have hp := hp1;clear hp1;refine .done ?_;exact ⟨[],trivial,(fun h => by cases h),hp.sub d v,c⟩
theorem Fv (hC : Cx w0 tv aG) (hD : ∀ m,m < n → DN w0 tv aG m) (hp : Ps w0 tv aG F w bP below k s) (hr : run body n (body .postE) s = some r) (hb : r.adds ≤ fR) :
  Cl Tryz.prog 233 #[.pointer (some ⟨bP,0,none⟩)] w (fun u w' => (Nm.postE = Nm.statement → u = .bool r.flag) ∧ Ps w0 tv aG F w' bP below k r ∧ Bw F w w') := by
 have c := Bw.refl F w;have d : ∀ z,F z → F z := fun z h => h;have A := hp.base;have hr : run body n (.loop (cE [⟨#[40]⟩,⟨#[46]⟩]) (.cond (cE [⟨#[40]⟩]) (.wrap 30 (.call .arguments)) (.cond (fun _ u v _ => u.1 == 103 && aV [⟨#[40]⟩] v) (.wrap 31 (.seq .bump (.seq .bump (.call .arguments)))) (.wrap 32 (.seq .bump Cmd.expIdent))))) s = some r := hr;refine Cl.enter Tryz.func233 rfl Tryz.ntmps233 rfl rfl (.sr (Rg.wd trivial (aW rfl rfl) rfl ?_));rintro _ w1 ⟨l,rfl,y,hx1,a⟩;replace c := bS c hp.und d hx1;obtain ⟨o,hp1,f,hs1⟩ := hp.box hx1 y a.lt;clear hp;have hp := hp1;clear hp1;replace d := fun z hz => hs1 z (d z hz);refine .done (Wp.block ?_);refine Wp.loop (ι := S × Nat) (fun _ => [(1,.pointer (some ⟨l,0,none⟩)),(0,.pointer (some ⟨bP,0,none⟩))])
  (fun i w' => Ps w0 tv aG o w' bP below k i.1 ∧ Bw o w1 w' ∧ run body i.2 (.loop (cE [⟨#[40]⟩,⟨#[46]⟩]) (.cond (cE [⟨#[40]⟩]) (.wrap 30 (.call .arguments)) (.cond (fun _ u v _ => u.1 == 103 && aV [⟨#[40]⟩] v) (.wrap 31 (.seq .bump (.seq .bump (.call .arguments)))) (.wrap 32 (.seq .bump Cmd.expIdent))))) i.1 = some r ∧ i.2 ≤ n) (fun i => i.2) (s,n) (by repeat (first | exact .nil | refine .cons rfl ?_)) ⟨hp,Bw.refl _ _,hr,Nat.le_refl _⟩ ?_
 clear hp;rintro ⟨s',m⟩ wl ⟨hp,hbl,hrun,hmn⟩;simp only at hp hrun hmn;replace c := c.trans (hbl.sub d);replace a := aE a hbl f;refine .seq ?_
 cases p : (aV [⟨#[40]⟩,⟨#[46]⟩] (aO s'.rem)) with
 | true =>
  obtain ⟨m1,s2,rfl,hbody,hrest⟩ := dP hrun p;replace hbody := dT hmn hbody;refine .sr (.t2 (aB aL rfl (a.g 0 rfl)) (Rg.wd trivial (aD (dE _ _) rfl) rfl ?_));rintro _ w2 ⟨bt4,rfl,qt4,hx2,b⟩;replace hbl := hbl.trans (Bw.of hx2 hp.und);replace c := bS c hp.und d hx2;replace hp := hp.extw hx2;replace a := a.ext hx2;refine Rg.wd trivial (aC Tryz.call73 rfl (bD hC hp (texts := [⟨#[40]⟩,⟨#[46]⟩]) b (by decide))) rfl ?_;rintro _ w3 ⟨rfl,hx3⟩;replace hbl := hbl.trans (Bw.of hx3 hp.und);replace c := bS c hp.und d hx3;replace hp := hp.extw hx3;replace a := a.ext hx3
  try replace b := b.ext hx3
  rw [show (aV [⟨#[40]⟩,⟨#[46]⟩] (aO s'.rem)) = true from p];refine .done (.condT rfl (Wp.skip (Wp.block (.seq ?_))))
  cases q : (aV [⟨#[40]⟩] (aO s'.rem)) with
  | true =>
   have hq3 := aX hbody q;refine .sr (.t2 (aB aL rfl (a.g 0 rfl)) (Rg.wd trivial (aD (aT _) rfl) rfl ?_));rintro _ w4 ⟨bt7,rfl,qt7,hx4,e⟩;replace hbl := hbl.trans (Bw.of hx4 hp.und);replace c := bS c hp.und d hx4;replace hp := hp.extw hx4;replace a := a.ext hx4
   try replace b := b.ext hx4
   refine Rg.wd trivial (aC Tryz.call73 rfl (bD hC hp (texts := [⟨#[40]⟩]) e (by decide))) rfl ?_;rintro _ w5 ⟨rfl,hx5⟩;replace hbl := hbl.trans (Bw.of hx5 hp.und);replace c := bS c hp.und d hx5;replace hp := hp.extw hx5;replace a := a.ext hx5
   try replace b := b.ext hx5
   try replace e := e.ext hx5
   rw [show (aV [⟨#[40]⟩] (aO s'.rem)) = true from q];refine .done (.condT rfl (.sr (.t2 (aB aL rfl (a.g 0 rfl)) (.t2 (aB aL rfl (a.g 0 rfl)) (.t2 (aM (us := [.pointer (some ⟨bP,0,none⟩)]) (vs := []) rfl rfl) (Rg.wd trivial (aC Tryz.call200 rfl (gN hp (dL Tryz.call250 hD (.arguments)) hq3 (aH hrest hb))) rfl ?_))))));rintro _ w6 ⟨hp1,hb6⟩;replace hbl := hbl.trans hb6;replace a := aE a hb6 f;replace c := c.trans (hb6.sub d);clear hp;have hp := hp1;clear hp1;refine .done (Wp.exit ?_);exact ⟨(s2,m1),by repeat (first | exact .nil | refine .cons rfl ?_),⟨hp,hbl,hrest,by simp only; omega⟩,by simp only; omega⟩
  | false =>
   have hq3 := aU hbody q;refine .sr (.t2 (aB aL rfl (a.g 0 rfl)) (Rg.wd trivial (aD (aT _) rfl) rfl ?_));rintro _ w4 ⟨bt7,rfl,qt7,hx4,e⟩;replace hbl := hbl.trans (Bw.of hx4 hp.und);replace c := bS c hp.und d hx4;replace hp := hp.extw hx4;replace a := a.ext hx4
   try replace b := b.ext hx4
   refine Rg.wd trivial (aC Tryz.call73 rfl (bD hC hp (texts := [⟨#[40]⟩]) e (by decide))) rfl ?_;rintro _ w5 ⟨rfl,hx5⟩;replace hbl := hbl.trans (Bw.of hx5 hp.und);replace c := bS c hp.und d hx5;replace hp := hp.extw hx5;replace a := a.ext hx5
   try replace b := b.ext hx5
   try replace e := e.ext hx5
   rw [show (aV [⟨#[40]⟩] (aO s'.rem)) = false from q];refine .done (.condF rfl (Wp.skip (.sr (.t2 (aB aL rfl (a.g 0 rfl)) (Rg.wd trivial (aC Tryz.call74 rfl (dJ hC hp)) rfl ?_)))));rintro _ w6 ⟨bk14,rfl,hk14,hx6⟩;replace hbl := hbl.trans (Bw.of hx6 hp.und);replace c := bS c hp.und d hx6;replace hp := hp.extw hx6;replace a := a.ext hx6
   try replace b := b.ext hx6
   try replace e := e.ext hx6
   refine .a2 rfl (.done (.seq ?_))
   cases t : ((aO (left s'.rem)).1 == 103) with
   | true =>
    cases x : (aV [⟨#[40]⟩] (aO (left (left s'.rem)))) with
    | true =>
     have hq6 := aX hq3 (show S.test _ _ = true by simp only [S.test,cE,cB,bne,p,q,t,x]; (try rfl));refine .sr (.m2 rfl (Rg.wd trivial (aC Tryz.call161 rfl (bT hC hk14)) rfl ?_));rintro _ w7 ⟨rfl,hx7⟩;replace hbl := hbl.trans (Bw.of hx7 hp.und);replace c := bS c hp.und d hx7;replace hp := hp.extw hx7;replace a := a.ext hx7
     try replace b := b.ext hx7
     try replace e := e.ext hx7
     try replace hk14 := hk14.extw hx7
     try replace hk14 := hk14.extw hx7
     try replace hk14 := hk14.extw hx7
     rw [show ((aO s'.look.rem).1 == 103) = true from t];refine .m2 rfl (.g2 (aP rfl) (Rg.wd ⟨_,rfl,rfl⟩ (aC Tryz.call74 rfl (dJ hC hk14)) rfl ?_));rintro _ w8 ⟨bk19,rfl,hk19,hx8⟩;replace hbl := hbl.trans (Bw.of hx8 hp.und);replace c := bS c hp.und d hx8;replace hp := hp.extw hx8;replace a := a.ext hx8
     try replace b := b.ext hx8
     try replace e := e.ext hx8
     try replace hk14 := hk14.extw hx8
     try replace hk14 := hk14.extw hx8
     try replace hk14 := hk14.extw hx8
     try replace hk14 := hk14.extw hx8
     refine Rg.wd ⟨_,rfl,rfl⟩ (aD (aT _) rfl) rfl ?_;rintro _ w9 ⟨bt20,rfl,qt20,hx9,j⟩;replace hbl := hbl.trans (Bw.of hx9 hp.und);replace c := bS c hp.und d hx9;replace hp := hp.extw hx9;replace a := a.ext hx9
     try replace b := b.ext hx9
     try replace e := e.ext hx9
     try replace hk14 := hk14.extw hx9
     try replace hk14 := hk14.extw hx9
     try replace hk14 := hk14.extw hx9
     try replace hk14 := hk14.extw hx9
     try replace hk19 := hk19.extw hx9
     refine Rg.wd ⟨_,rfl,rfl⟩ (aC Tryz.call73 rfl (bD hC hk19 (texts := [⟨#[40]⟩]) j (by decide))) rfl ?_;rintro _ w10 ⟨rfl,hx10⟩;replace hbl := hbl.trans (Bw.of hx10 hp.und);replace c := bS c hp.und d hx10;replace hp := hp.extw hx10;replace a := a.ext hx10
     try replace b := b.ext hx10
     try replace e := e.ext hx10
     try replace j := j.ext hx10
     try replace hk14 := hk14.extw hx10
     try replace hk14 := hk14.extw hx10
     try replace hk14 := hk14.extw hx10
     try replace hk14 := hk14.extw hx10
     try replace hk19 := hk19.extw hx10
     rw [show (aV [⟨#[40]⟩] (aO s'.look.look.rem)) = true from x];refine .t2 (aJ rfl rfl) (.done (.condT rfl (.sr (.t2 (aB aL rfl (a.g 0 rfl)) (.t2 (aM (us := []) (vs := [.pointer (some ⟨l,0,none⟩)]) rfl rfl) (Rg.wd trivial (aC Tryz.call200 rfl (gN hp (Fo hC hD a f) hq6 (aH hrest hb))) rfl ?_))))));rintro _ w11 ⟨hp1,hb11⟩;replace hbl := hbl.trans hb11;replace a := aE a hb11 f;replace c := c.trans (hb11.sub d);clear hp;have hp := hp1;clear hp1;refine .done (Wp.exit ?_);exact ⟨(s2,m1),by repeat (first | exact .nil | refine .cons rfl ?_),⟨hp,hbl,hrest,by simp only; omega⟩,by simp only; omega⟩
    | false =>
     have hq6 := aU hq3 (show S.test _ _ = false by simp only [S.test,cE,cB,bne,p,q,t,x]; (try rfl));refine .sr (.m2 rfl (Rg.wd trivial (aC Tryz.call161 rfl (bT hC hk14)) rfl ?_));rintro _ w7 ⟨rfl,hx7⟩;replace hbl := hbl.trans (Bw.of hx7 hp.und);replace c := bS c hp.und d hx7;replace hp := hp.extw hx7;replace a := a.ext hx7
     try replace b := b.ext hx7
     try replace e := e.ext hx7
     try replace hk14 := hk14.extw hx7
     try replace hk14 := hk14.extw hx7
     try replace hk14 := hk14.extw hx7
     rw [show ((aO s'.look.rem).1 == 103) = true from t];refine .m2 rfl (.g2 (aP rfl) (Rg.wd ⟨_,rfl,rfl⟩ (aC Tryz.call74 rfl (dJ hC hk14)) rfl ?_));rintro _ w8 ⟨bk19,rfl,hk19,hx8⟩;replace hbl := hbl.trans (Bw.of hx8 hp.und);replace c := bS c hp.und d hx8;replace hp := hp.extw hx8;replace a := a.ext hx8
     try replace b := b.ext hx8
     try replace e := e.ext hx8
     try replace hk14 := hk14.extw hx8
     try replace hk14 := hk14.extw hx8
     try replace hk14 := hk14.extw hx8
     try replace hk14 := hk14.extw hx8
     refine Rg.wd ⟨_,rfl,rfl⟩ (aD (aT _) rfl) rfl ?_;rintro _ w9 ⟨bt20,rfl,qt20,hx9,j⟩;replace hbl := hbl.trans (Bw.of hx9 hp.und);replace c := bS c hp.und d hx9;replace hp := hp.extw hx9;replace a := a.ext hx9
     try replace b := b.ext hx9
     try replace e := e.ext hx9
     try replace hk14 := hk14.extw hx9
     try replace hk14 := hk14.extw hx9
     try replace hk14 := hk14.extw hx9
     try replace hk14 := hk14.extw hx9
     try replace hk19 := hk19.extw hx9
     refine Rg.wd ⟨_,rfl,rfl⟩ (aC Tryz.call73 rfl (bD hC hk19 (texts := [⟨#[40]⟩]) j (by decide))) rfl ?_;rintro _ w10 ⟨rfl,hx10⟩;replace hbl := hbl.trans (Bw.of hx10 hp.und);replace c := bS c hp.und d hx10;replace hp := hp.extw hx10;replace a := a.ext hx10
     try replace b := b.ext hx10
     try replace e := e.ext hx10
     try replace j := j.ext hx10
     try replace hk14 := hk14.extw hx10
     try replace hk14 := hk14.extw hx10
     try replace hk14 := hk14.extw hx10
     try replace hk14 := hk14.extw hx10
     try replace hk19 := hk19.extw hx10
     rw [show (aV [⟨#[40]⟩] (aO s'.look.look.rem)) = false from x];refine .t2 (aJ rfl rfl) (.done (.condF rfl (Wp.skip (Wp.region (.t2 (aB aL rfl (a.g 0 rfl)) (.t2 (aM (us := []) (vs := [.pointer (some ⟨l,0,none⟩)]) rfl rfl) (Rg.wd trivial (aC Tryz.call200 rfl (gN hp (zC hC hD a f) hq6 (aH hrest hb))) rfl ?_)))))));rintro _ w11 ⟨hp1,hb11⟩;replace hbl := hbl.trans hb11;replace a := aE a hb11 f;replace c := c.trans (hb11.sub d);clear hp;have hp := hp1;clear hp1;refine .done ?_;exact ⟨(s2,m1),by repeat (first | exact .nil | refine .cons rfl ?_),⟨hp,hbl,hrest,by simp only; omega⟩,by simp only; omega⟩
   | false =>
    have hq5 := aU hq3 (show S.test _ _ = false by simp only [S.test,cE,cB,bne,p,q,t]; (try rfl));refine .sr (.m2 rfl (Rg.wd trivial (aC Tryz.call161 rfl (bT hC hk14)) rfl ?_));rintro _ w7 ⟨rfl,hx7⟩;replace hbl := hbl.trans (Bw.of hx7 hp.und);replace c := bS c hp.und d hx7;replace hp := hp.extw hx7;replace a := a.ext hx7
    try replace b := b.ext hx7
    try replace e := e.ext hx7
    try replace hk14 := hk14.extw hx7
    try replace hk14 := hk14.extw hx7
    try replace hk14 := hk14.extw hx7
    rw [show ((aO s'.look.rem).1 == 103) = false from t];refine .m2 rfl (.so rfl rfl (.so rfl rfl (.so rfl rfl (.so rfl rfl (.t2 (aN rfl rfl) (.done (.condF rfl (Wp.skip (Wp.region (.t2 (aB aL rfl (a.g 0 rfl)) (.t2 (aM (us := []) (vs := [.pointer (some ⟨l,0,none⟩)]) rfl rfl) (Rg.wd trivial (aC Tryz.call200 rfl (gN hp (zC hC hD a f) hq5 (aH hrest hb))) rfl ?_))))))))))));rintro _ w8 ⟨hp1,hb8⟩;replace hbl := hbl.trans hb8;replace a := aE a hb8 f;replace c := c.trans (hb8.sub d);clear hp;have hp := hp1;clear hp1;refine .done ?_;exact ⟨(s2,m1),by repeat (first | exact .nil | refine .cons rfl ?_),⟨hp,hbl,hrest,by simp only; omega⟩,by simp only; omega⟩
 | false =>
  obtain rfl := cL hrun p;refine .sr (.t2 (aB aL rfl (a.g 0 rfl)) (Rg.wd trivial (aD (dE _ _) rfl) rfl ?_));rintro _ w2 ⟨bt4,rfl,qt4,hx2,b⟩;replace c := bS c hp.und d hx2;replace hp := hp.extw hx2;replace a := a.ext hx2;refine Rg.wd trivial (aC Tryz.call73 rfl (bD hC hp (texts := [⟨#[40]⟩,⟨#[46]⟩]) b (by decide))) rfl ?_;rintro _ w3 ⟨rfl,hx3⟩;replace c := bS c hp.und d hx3;replace hp := hp.extw hx3;replace a := a.ext hx3
  try replace b := b.ext hx3
  rw [show (aV [⟨#[40]⟩,⟨#[46]⟩] (aO r.rem)) = false from p];refine .done (.condF rfl (Wp.exit ?_));exact ⟨[],trivial,(fun h => by cases h),hp.sub d A,c⟩
end
section
variable {w0 : World} {tv : Value} {aG : List Tok} {F : Fs} {w w' : World} {bP : Nat} {below : List (Int × List Tr)} {k : Int} {s r : S} {n : Nat}
theorem nC (hC : Cx w0 tv aG) (hD : ∀ m,m < n → DN w0 tv aG m) {b0 : Nat} (a : Var w b0 [.pointer (some ⟨bP,0,none⟩)] 80) (e : F b0) {b1 : Nat} (b : Var w b1 [.bool true] 4) (f : F b1) : Clo w0 tv aG n F bP 197 [] [.pointer (some ⟨b0,0,none⟩),.pointer (some ⟨b1,0,none⟩)] w (.seq Cmd.expIdent (.cond (cE [⟨#[60]⟩]) (.seq .bump (Cmd.list ⟨#[62]⟩ (.call .typeExpr))) .skip)) := by
 refine ⟨Tryz.call197,fun w1 hw1 below k s r hp hr hb => ?_⟩;replace a := aE a hw1 e;replace b := aE b hw1 f
 show Cl Tryz.prog 197 #[.pointer (some ⟨b0,0,none⟩),.pointer (some ⟨b1,0,none⟩)] w1 _
 have c := Bw.refl F w1;have d : ∀ z,F z → F z := fun z h => h;have j := hp.base;refine Cl.enter Tryz.func197 rfl Tryz.ntmps197 rfl rfl (.sr (.t2 (aB aL rfl (a.g 0 rfl)) ?_));obtain ⟨s1,h1a,h1b⟩ := aI hr;refine Rg.wd trivial (aC Tryz.call127 rfl (dH hC hp h1a (aH h1b hb))) rfl ?_;rintro _ w1 ⟨hp1,hb1⟩;replace a := aE a hb1 e;replace b := aE b hb1 f;replace c := c.trans (hb1.sub d);clear hp;have hp := hp1;clear hp1;refine .done ?_
 cases i : (aV [⟨#[60]⟩] (aO s1.rem)) with
 | true =>
  have hq2 := aX h1b i;refine .sr (.t2 (aB uB rfl (b.g 0 rfl)) (.m2 rfl (.g2 (aB aL rfl (a.g 0 rfl)) (Rg.wd ⟨_,rfl,rfl⟩ (aD (aT _) rfl) rfl ?_))));rintro _ w2 ⟨bt7,rfl,qt7,hx2,l⟩;replace c := bS c hp.und d hx2;replace hp := hp.extw hx2;replace a := a.ext hx2;replace b := b.ext hx2;obtain ⟨s2,h2a,h2b⟩ := aI hq2;obtain rfl := cN h2a;refine Rg.wd ⟨_,rfl,rfl⟩ (aC Tryz.call79 rfl (gT hC hp (texts := [⟨#[60]⟩]) l (by decide) i (aH h2b hb))) rfl ?_;rintro _ w3 ⟨rfl,hp1,hb3⟩;replace a := aE a hb3 e;replace b := aE b hb3 f;replace c := c.trans (hb3.sub d);clear hp;have hp := hp1;clear hp1;refine .t2 (aJ rfl rfl) (.done (.condT rfl (Wp.region (.t2 (aB aL rfl (a.g 0 rfl)) (.t2 (aB aL rfl (a.g 0 rfl)) (.t2 (aM (us := [.pointer (some ⟨bP,0,none⟩)]) (vs := []) rfl rfl) (Rg.wd trivial (aC Tryz.call159 rfl (jJ hC hp (dL Tryz.call131 hD (.typeExpr)) h2b hb)) rfl ?_)))))));rintro _ w4 ⟨hp1,hb4⟩;replace a := aE a hb4 e;replace b := aE b hb4 f;replace c := c.trans (hb4.sub d);clear hp;have hp := hp1;clear hp1;refine .done ?_;exact ⟨[],trivial,hp.sub d j,c⟩
 | false =>
  have hq2 := aU h1b i;obtain rfl := cI hq2;refine .sr (.t2 (aB uB rfl (b.g 0 rfl)) (.m2 rfl (.g2 (aB aL rfl (a.g 0 rfl)) (Rg.wd ⟨_,rfl,rfl⟩ (aD (aT _) rfl) rfl ?_))));rintro _ w2 ⟨bt7,rfl,qt7,hx2,l⟩;replace c := bS c hp.und d hx2;replace hp := hp.extw hx2;replace a := a.ext hx2;replace b := b.ext hx2;refine Rg.wd ⟨_,rfl,rfl⟩ (aC Tryz.call79 rfl (gU hC hp (texts := [⟨#[60]⟩]) l (by decide) i)) rfl ?_;rintro _ w3 ⟨rfl,hp1,hb3⟩;replace a := aE a hb3 e;replace b := aE b hb3 f;replace c := c.trans (hb3.sub d);clear hp;have hp := hp1;clear hp1;refine .t2 (aJ rfl rfl) (.done (.condF rfl (Wp.skip ?_)));exact ⟨[],trivial,hp.sub d j,c⟩
theorem tA (hC : Cx w0 tv aG) (hD : ∀ m,m < n → DN w0 tv aG m) {b0 : Nat} (a : Var w b0 [.pointer (some ⟨bP,0,none⟩)] 80) (c : F b0) {b1 : Nat} (b : Var w b1 [.bool true] 4) (d : F b1) : Clo w0 tv aG n F bP 196 [] [.pointer (some ⟨b0,0,none⟩),.pointer (some ⟨b1,0,none⟩)] w (.seq (.node 18 (.seq Cmd.expIdent (.cond (cE [⟨#[60]⟩]) (.seq .bump (Cmd.list ⟨#[62]⟩ (.call .typeExpr))) .skip))) (.loop (cE [⟨#[58,58]⟩]) (.seq .bump (.node 18 (.seq Cmd.expIdent (.cond (cE [⟨#[60]⟩]) (.seq .bump (Cmd.list ⟨#[62]⟩ (.call .typeExpr))) .skip)))))) := by
 refine ⟨Tryz.call196,fun w1 hw1 below k s r hp hr hb => ?_⟩;replace a := aE a hw1 c;replace b := aE b hw1 d
 show Cl Tryz.prog 196 #[.pointer (some ⟨b0,0,none⟩),.pointer (some ⟨b1,0,none⟩)] w1 _
 have e := Bw.refl F w1;have f : ∀ z,F z → F z := fun z h => h;have o := hp.base;refine Cl.enter Tryz.func196 rfl Tryz.ntmps196 rfl rfl (.sr (.a2 rfl (.done (Wp.block ?_))));refine Wp.loop (ι := S × Nat × Bool) (fun i => [(0,.pointer (some ⟨b0,0,none⟩)),(1,.pointer (some ⟨b1,0,none⟩)),(2,.bool i.2.2)])
  (fun i w' => Ps w0 tv aG F w' bP below k i.1 ∧ Bw F w1 w' ∧ (i.2.2 = true → run body n (.seq (.node 18 (.seq Cmd.expIdent (.cond (cE [⟨#[60]⟩]) (.seq .bump (Cmd.list ⟨#[62]⟩ (.call .typeExpr))) .skip))) (.loop (cE [⟨#[58,58]⟩]) (.seq .bump (.node 18 (.seq Cmd.expIdent (.cond (cE [⟨#[60]⟩]) (.seq .bump (Cmd.list ⟨#[62]⟩ (.call .typeExpr))) .skip)))))) i.1 = some r) ∧ (i.2.2 = false → run body i.2.1 (.loop (cE [⟨#[58,58]⟩]) (.seq .bump (.node 18 (.seq Cmd.expIdent (.cond (cE [⟨#[60]⟩]) (.seq .bump (Cmd.list ⟨#[62]⟩ (.call .typeExpr))) .skip))))) i.1 = some r ∧ i.2.1 ≤ n)) (fun i => if i.2.2 = true then n + 1 else i.2.1) (s,n,true) (by repeat (first | exact .nil | refine .cons rfl ?_)) ⟨hp,Bw.refl _ _,fun _ => hr,fun h => by cases h⟩ ?_
 clear hp;rintro ⟨s',m,fst⟩ wl ⟨hp,hbl,hq1,hq2⟩;simp only at hp hq1 hq2;replace e := e.trans (hbl.sub f);replace a := aE a hbl c;replace b := aE b hbl d
 cases fst with
 | true =>
  have hrun := hq1 rfl;refine .seq (.sr (.m2 rfl (.m2 rfl (.so rfl rfl (.so rfl rfl (.so rfl rfl (.t2 (aJ rfl rfl) (.done (.condT rfl (Wp.skip (.seq (Wp.block ?_))))))))))));refine Wp.region (.t2 (aB aL rfl (a.g 0 rfl)) (.t2 (aM (us := []) (vs := [.pointer (some ⟨b0,0,none⟩),.pointer (some ⟨b1,0,none⟩)]) rfl rfl) ?_));obtain ⟨s1,h1a,h1b⟩ := aI hrun;refine Rg.wd trivial (aC Tryz.call77 rfl (bZ hp (nC hC hD a c b d) h1a (aH h1b hb))) rfl ?_;rintro _ w1 ⟨hp1,hb1⟩;replace hbl := hbl.trans hb1;replace a := aE a hb1 c;replace b := aE b hb1 d;replace e := e.trans (hb1.sub f);clear hp;have hp := hp1;clear hp1;refine .done (Wp.region (.a2 rfl (.done ?_)));exact ⟨(s1,n,false),by repeat (first | exact .nil | refine .cons rfl ?_),⟨hp,hbl,fun h => (by cases h),fun _ => ⟨h1b,Nat.le_refl _⟩⟩,by simp⟩
 | false =>
  obtain ⟨hrun,hmn⟩ := hq2 rfl;refine .seq ?_
  cases j : (aV [⟨#[58,58]⟩] (aO s'.rem)) with
  | true =>
   obtain ⟨m1,s2,rfl,hbody,hrest⟩ := dP hrun j;replace hbody := dT hmn hbody;refine .sr (.m2 rfl (.m2 rfl (.g2 (aB aL rfl (a.g 0 rfl)) (Rg.wd ⟨_,rfl,rfl⟩ (aD (aT _) rfl) rfl ?_))));rintro _ w1 ⟨bt6,rfl,qt6,hx1,l⟩;replace hbl := hbl.trans (Bw.of hx1 hp.und);replace e := bS e hp.und f hx1;replace hp := hp.extw hx1;replace a := a.ext hx1;replace b := b.ext hx1;obtain ⟨s1,h1a,h1b⟩ := aI hbody;obtain rfl := cN h1a;refine Rg.wd ⟨_,rfl,rfl⟩ (aC Tryz.call79 rfl (gT hC hp (texts := [⟨#[58,58]⟩]) l (by decide) j (aH h1b (aH hrest hb)))) rfl ?_;rintro _ w2 ⟨rfl,hp1,hb2⟩;replace hbl := hbl.trans hb2;replace a := aE a hb2 c;replace b := aE b hb2 d;replace e := e.trans (hb2.sub f);clear hp;have hp := hp1;clear hp1;refine .t2 (aN rfl rfl) (.done (.condT rfl (Wp.skip (.seq (Wp.block (Wp.region (.t2 (aB aL rfl (a.g 0 rfl)) (.t2 (aM (us := []) (vs := [.pointer (some ⟨b0,0,none⟩),.pointer (some ⟨b1,0,none⟩)]) rfl rfl) (Rg.wd trivial (aC Tryz.call77 rfl (bZ hp (nC hC hD a c b d) h1b (aH hrest hb))) rfl ?_)))))))));rintro _ w3 ⟨hp1,hb3⟩;replace hbl := hbl.trans hb3;replace a := aE a hb3 c;replace b := aE b hb3 d;replace e := e.trans (hb3.sub f);clear hp;have hp := hp1;clear hp1;refine .done (Wp.region (.a2 rfl (.done ?_)));exact ⟨(s2,m1,false),by repeat (first | exact .nil | refine .cons rfl ?_),⟨hp,hbl,fun h => (by cases h),fun _ => ⟨hrest,by simp only; omega⟩⟩,by simp⟩
  | false =>
   obtain rfl := cL hrun j;refine .sr (.m2 rfl (.m2 rfl (.g2 (aB aL rfl (a.g 0 rfl)) (Rg.wd ⟨_,rfl,rfl⟩ (aD (aT _) rfl) rfl ?_))));rintro _ w1 ⟨bt6,rfl,qt6,hx1,l⟩;replace e := bS e hp.und f hx1;replace hp := hp.extw hx1;replace a := a.ext hx1;replace b := b.ext hx1;refine Rg.wd ⟨_,rfl,rfl⟩ (aC Tryz.call79 rfl (gU hC hp (texts := [⟨#[58,58]⟩]) l (by decide) j)) rfl ?_;rintro _ w2 ⟨rfl,hp1,hb2⟩;replace a := aE a hb2 c;replace b := aE b hb2 d;replace e := e.trans (hb2.sub f);clear hp;have hp := hp1;clear hp1;refine .t2 (aN rfl rfl) (.done (.condF rfl (Wp.exit ?_)));exact ⟨[],trivial,hp.sub f o,e⟩
theorem vG (hC : Cx w0 tv aG) (hD : ∀ m,m < n → DN w0 tv aG m) (hp : Ps w0 tv aG F w bP below k s) (hr : run body n (body (.path true)) s = some r) (hb : r.adds ≤ fR) :
  Cl Tryz.prog 170 #[.pointer (some ⟨bP,0,none⟩),.bool true] w (fun u w' => ((Nm.path true) = Nm.statement → u = .bool r.flag) ∧ Ps w0 tv aG F w' bP below k r ∧ Bw F w w') := by
 have f := Bw.refl F w;have d : ∀ z,F z → F z := fun z h => h;have p := hp.base;have hr : run body n (.node 17 (.seq (.node 18 (.seq Cmd.expIdent (.cond (cE [⟨#[60]⟩]) (.seq .bump (Cmd.list ⟨#[62]⟩ (.call .typeExpr))) .skip))) (.loop (cE [⟨#[58,58]⟩]) (.seq .bump (.node 18 (.seq Cmd.expIdent (.cond (cE [⟨#[60]⟩]) (.seq .bump (Cmd.list ⟨#[62]⟩ (.call .typeExpr))) .skip))))))) s = some r := hr;refine Cl.enter Tryz.func170 rfl Tryz.ntmps170 rfl rfl (.sr (Rg.wd trivial (aW rfl rfl) rfl ?_));rintro _ w1 ⟨l,rfl,i,hx1,a⟩;replace f := bS f hp.und d hx1;obtain ⟨q,hp1,b,hs1⟩ := hp.box hx1 i a.lt;clear hp;have hp := hp1;clear hp1;replace d := fun z hz => hs1 z (d z hz);refine Rg.wd trivial (aW rfl rfl) rfl ?_;rintro _ w2 ⟨o,rfl,j,hx2,c⟩;replace f := bS f hp.und d hx2;obtain ⟨t,hp1,e,hs2⟩ := hp.box hx2 j c.lt;clear hp;have hp := hp1;clear hp1;replace d := fun z hz => hs2 z (d z hz);replace a := a.ext hx2;replace b := hs2 _ b;refine .done (Wp.region (.t2 (aB aL rfl (a.g 0 rfl)) (.t2 (aM (us := []) (vs := [.pointer (some ⟨l,0,none⟩),.pointer (some ⟨o,0,none⟩)]) rfl rfl) (Rg.wd trivial (aC Tryz.call77 rfl (bZ hp (tA hC hD a b c e) hr hb)) rfl ?_))));rintro _ w3 ⟨hp1,hb3⟩;replace a := aE a hb3 b;replace c := aE c hb3 e;replace f := f.trans (hb3.sub d);clear hp;have hp := hp1;clear hp1;refine .done ?_;exact ⟨[],trivial,(fun h => by cases h),hp.sub d p,f⟩
theorem lZ (hC : Cx w0 tv aG) (hD : ∀ m,m < n → DN w0 tv aG m) {b0 : Nat} (a : Var w b0 [.pointer (some ⟨bP,0,none⟩)] 80) (c : F b0) {b1 : Nat} (b : Var w b1 [.bool false] 4) (d : F b1) : Clo w0 tv aG n F bP 197 [] [.pointer (some ⟨b0,0,none⟩),.pointer (some ⟨b1,0,none⟩)] w (.seq Cmd.expIdent .skip) := by
 refine ⟨Tryz.call197,fun w1 hw1 below k s r hp hr hb => ?_⟩;replace a := aE a hw1 c;replace b := aE b hw1 d
 show Cl Tryz.prog 197 #[.pointer (some ⟨b0,0,none⟩),.pointer (some ⟨b1,0,none⟩)] w1 _
 have f := Bw.refl F w1;have e : ∀ z,F z → F z := fun z h => h;have i := hp.base;refine Cl.enter Tryz.func197 rfl Tryz.ntmps197 rfl rfl (.sr (.t2 (aB aL rfl (a.g 0 rfl)) ?_));obtain ⟨s1,h1a,h1b⟩ := aI hr;refine Rg.wd trivial (aC Tryz.call127 rfl (dH hC hp h1a (aH h1b hb))) rfl ?_;rintro _ w1 ⟨hp1,hb1⟩;replace a := aE a hb1 c;replace b := aE b hb1 d;replace f := f.trans (hb1.sub e);clear hp;have hp := hp1;clear hp1;refine .done ?_;obtain rfl := cI h1b;refine .sr (.t2 (aB uB rfl (b.g 0 rfl)) (.m2 rfl (.so rfl rfl (.so rfl rfl (.so rfl rfl (.t2 (aN rfl rfl) (.done (.condF rfl (Wp.skip ?_)))))))));exact ⟨[],trivial,hp.sub e i,f⟩
theorem qU (hC : Cx w0 tv aG) (hD : ∀ m,m < n → DN w0 tv aG m) {b0 : Nat} (a : Var w b0 [.pointer (some ⟨bP,0,none⟩)] 80) (c : F b0) {b1 : Nat} (b : Var w b1 [.bool false] 4) (d : F b1) : Clo w0 tv aG n F bP 196 [] [.pointer (some ⟨b0,0,none⟩),.pointer (some ⟨b1,0,none⟩)] w (.seq (.node 18 (.seq Cmd.expIdent .skip)) (.loop (cE [⟨#[58,58]⟩]) (.seq .bump (.node 18 (.seq Cmd.expIdent .skip))))) := by
 refine ⟨Tryz.call196,fun w1 hw1 below k s r hp hr hb => ?_⟩;replace a := aE a hw1 c;replace b := aE b hw1 d
 show Cl Tryz.prog 196 #[.pointer (some ⟨b0,0,none⟩),.pointer (some ⟨b1,0,none⟩)] w1 _
 have e := Bw.refl F w1;have f : ∀ z,F z → F z := fun z h => h;have o := hp.base;refine Cl.enter Tryz.func196 rfl Tryz.ntmps196 rfl rfl (.sr (.a2 rfl (.done (Wp.block ?_))));refine Wp.loop (ι := S × Nat × Bool) (fun i => [(0,.pointer (some ⟨b0,0,none⟩)),(1,.pointer (some ⟨b1,0,none⟩)),(2,.bool i.2.2)])
  (fun i w' => Ps w0 tv aG F w' bP below k i.1 ∧ Bw F w1 w' ∧ (i.2.2 = true → run body n (.seq (.node 18 (.seq Cmd.expIdent .skip)) (.loop (cE [⟨#[58,58]⟩]) (.seq .bump (.node 18 (.seq Cmd.expIdent .skip))))) i.1 = some r) ∧ (i.2.2 = false → run body i.2.1 (.loop (cE [⟨#[58,58]⟩]) (.seq .bump (.node 18 (.seq Cmd.expIdent .skip)))) i.1 = some r ∧ i.2.1 ≤ n)) (fun i => if i.2.2 = true then n + 1 else i.2.1) (s,n,true) (by repeat (first | exact .nil | refine .cons rfl ?_)) ⟨hp,Bw.refl _ _,fun _ => hr,fun h => by cases h⟩ ?_
 clear hp;rintro ⟨s',m,fst⟩ wl ⟨hp,hbl,hq1,hq2⟩;simp only at hp hq1 hq2;replace e := e.trans (hbl.sub f);replace a := aE a hbl c;replace b := aE b hbl d
 cases fst with
 | true =>
  have hrun := hq1 rfl;refine .seq (.sr (.m2 rfl (.m2 rfl (.so rfl rfl (.so rfl rfl (.so rfl rfl (.t2 (aJ rfl rfl) (.done (.condT rfl (Wp.skip (.seq (Wp.block ?_))))))))))));refine Wp.region (.t2 (aB aL rfl (a.g 0 rfl)) (.t2 (aM (us := []) (vs := [.pointer (some ⟨b0,0,none⟩),.pointer (some ⟨b1,0,none⟩)]) rfl rfl) ?_));obtain ⟨s1,h1a,h1b⟩ := aI hrun;refine Rg.wd trivial (aC Tryz.call77 rfl (bZ hp (lZ hC hD a c b d) h1a (aH h1b hb))) rfl ?_;rintro _ w1 ⟨hp1,hb1⟩;replace hbl := hbl.trans hb1;replace a := aE a hb1 c;replace b := aE b hb1 d;replace e := e.trans (hb1.sub f);clear hp;have hp := hp1;clear hp1;refine .done (Wp.region (.a2 rfl (.done ?_)));exact ⟨(s1,n,false),by repeat (first | exact .nil | refine .cons rfl ?_),⟨hp,hbl,fun h => (by cases h),fun _ => ⟨h1b,Nat.le_refl _⟩⟩,by simp⟩
 | false =>
  obtain ⟨hrun,hmn⟩ := hq2 rfl;refine .seq ?_
  cases j : (aV [⟨#[58,58]⟩] (aO s'.rem)) with
  | true =>
   obtain ⟨m1,s2,rfl,hbody,hrest⟩ := dP hrun j;replace hbody := dT hmn hbody;refine .sr (.m2 rfl (.m2 rfl (.g2 (aB aL rfl (a.g 0 rfl)) (Rg.wd ⟨_,rfl,rfl⟩ (aD (aT _) rfl) rfl ?_))));rintro _ w1 ⟨bt6,rfl,qt6,hx1,l⟩;replace hbl := hbl.trans (Bw.of hx1 hp.und);replace e := bS e hp.und f hx1;replace hp := hp.extw hx1;replace a := a.ext hx1;replace b := b.ext hx1;obtain ⟨s1,h1a,h1b⟩ := aI hbody;obtain rfl := cN h1a;refine Rg.wd ⟨_,rfl,rfl⟩ (aC Tryz.call79 rfl (gT hC hp (texts := [⟨#[58,58]⟩]) l (by decide) j (aH h1b (aH hrest hb)))) rfl ?_;rintro _ w2 ⟨rfl,hp1,hb2⟩;replace hbl := hbl.trans hb2;replace a := aE a hb2 c;replace b := aE b hb2 d;replace e := e.trans (hb2.sub f);clear hp;have hp := hp1;clear hp1;refine .t2 (aN rfl rfl) (.done (.condT rfl (Wp.skip (.seq (Wp.block (Wp.region (.t2 (aB aL rfl (a.g 0 rfl)) (.t2 (aM (us := []) (vs := [.pointer (some ⟨b0,0,none⟩),.pointer (some ⟨b1,0,none⟩)]) rfl rfl) (Rg.wd trivial (aC Tryz.call77 rfl (bZ hp (lZ hC hD a c b d) h1b (aH hrest hb))) rfl ?_)))))))));rintro _ w3 ⟨hp1,hb3⟩;replace hbl := hbl.trans hb3;replace a := aE a hb3 c;replace b := aE b hb3 d;replace e := e.trans (hb3.sub f);clear hp;have hp := hp1;clear hp1;refine .done (Wp.region (.a2 rfl (.done ?_)));exact ⟨(s2,m1,false),by repeat (first | exact .nil | refine .cons rfl ?_),⟨hp,hbl,fun h => (by cases h),fun _ => ⟨hrest,by simp only; omega⟩⟩,by simp⟩
  | false =>
   obtain rfl := cL hrun j;refine .sr (.m2 rfl (.m2 rfl (.g2 (aB aL rfl (a.g 0 rfl)) (Rg.wd ⟨_,rfl,rfl⟩ (aD (aT _) rfl) rfl ?_))));rintro _ w1 ⟨bt6,rfl,qt6,hx1,l⟩;replace e := bS e hp.und f hx1;replace hp := hp.extw hx1;replace a := a.ext hx1;replace b := b.ext hx1;refine Rg.wd ⟨_,rfl,rfl⟩ (aC Tryz.call79 rfl (gU hC hp (texts := [⟨#[58,58]⟩]) l (by decide) j)) rfl ?_;rintro _ w2 ⟨rfl,hp1,hb2⟩;replace a := aE a hb2 c;replace b := aE b hb2 d;replace e := e.trans (hb2.sub f);clear hp;have hp := hp1;clear hp1;refine .t2 (aN rfl rfl) (.done (.condF rfl (Wp.exit ?_)));exact ⟨[],trivial,hp.sub f o,e⟩
theorem tB (hC : Cx w0 tv aG) (hD : ∀ m,m < n → DN w0 tv aG m) (hp : Ps w0 tv aG F w bP below k s) (hr : run body n (body (.path false)) s = some r) (hb : r.adds ≤ fR) :
  Cl Tryz.prog 170 #[.pointer (some ⟨bP,0,none⟩),.bool false] w (fun u w' => ((Nm.path false) = Nm.statement → u = .bool r.flag) ∧ Ps w0 tv aG F w' bP below k r ∧ Bw F w w') := by
 have f := Bw.refl F w;have d : ∀ z,F z → F z := fun z h => h;have p := hp.base;have hr : run body n (.node 17 (.seq (.node 18 (.seq Cmd.expIdent .skip)) (.loop (cE [⟨#[58,58]⟩]) (.seq .bump (.node 18 (.seq Cmd.expIdent .skip)))))) s = some r := hr;refine Cl.enter Tryz.func170 rfl Tryz.ntmps170 rfl rfl (.sr (Rg.wd trivial (aW rfl rfl) rfl ?_));rintro _ w1 ⟨l,rfl,i,hx1,a⟩;replace f := bS f hp.und d hx1;obtain ⟨q,hp1,b,hs1⟩ := hp.box hx1 i a.lt;clear hp;have hp := hp1;clear hp1;replace d := fun z hz => hs1 z (d z hz);refine Rg.wd trivial (aW rfl rfl) rfl ?_;rintro _ w2 ⟨o,rfl,j,hx2,c⟩;replace f := bS f hp.und d hx2;obtain ⟨t,hp1,e,hs2⟩ := hp.box hx2 j c.lt;clear hp;have hp := hp1;clear hp1;replace d := fun z hz => hs2 z (d z hz);replace a := a.ext hx2;replace b := hs2 _ b;refine .done (Wp.region (.t2 (aB aL rfl (a.g 0 rfl)) (.t2 (aM (us := []) (vs := [.pointer (some ⟨l,0,none⟩),.pointer (some ⟨o,0,none⟩)]) rfl rfl) (Rg.wd trivial (aC Tryz.call77 rfl (bZ hp (qU hC hD a b c e) hr hb)) rfl ?_))));rintro _ w3 ⟨hp1,hb3⟩;replace a := aE a hb3 b;replace c := aE c hb3 e;replace f := f.trans (hb3.sub d);clear hp;have hp := hp1;clear hp1;refine .done ?_;exact ⟨[],trivial,(fun h => by cases h),hp.sub d p,f⟩
theorem oU (hC : Cx w0 tv aG) (hD : ∀ m,m < n → DN w0 tv aG m) (hp : Ps w0 tv aG F w bP below k s) (hr : run body n (body (.function true)) s = some r) (hb : r.adds ≤ fR) :
  Cl Tryz.prog 125 #[.pointer (some ⟨bP,0,none⟩),.bool true] w (fun u w' => ((Nm.function true) = Nm.statement → u = .bool r.flag) ∧ Ps w0 tv aG F w' bP below k r ∧ Bw F w w') := by
 have a := Bw.refl F w;have b : ∀ z,F z → F z := fun z h => h;have c := hp.base;have hr : run body n (.seq Cmd.expIdent (.seq (.call .typeParams) (.seq (Cmd.exp ⟨#[40]⟩) (.seq (.call (.params ⟨#[41]⟩)) (.seq (Cmd.opt ⟨#[45,62]⟩ (.call .typeExpr)) (.call .block)))))) s = some r := hr;refine Cl.enter Tryz.func125 rfl Tryz.ntmps125 rfl rfl (.sr (.m2 rfl ?_));obtain ⟨s1,h1a,h1b⟩ := aI hr;refine Rg.wd trivial (aC Tryz.call127 rfl (dH hC hp h1a (aH h1b hb))) rfl ?_;rintro _ w1 ⟨hp1,hb1⟩;replace a := a.trans (hb1.sub b);clear hp;have hp := hp1;clear hp1;refine .done (.sr (.m2 rfl ?_));obtain ⟨s2,h2a,h2b⟩ := aI h1b;refine Rg.wd trivial (aC Tryz.call155 rfl (bG hD hp h2a (aH h2b hb))) rfl ?_;rintro _ w2 ⟨hst,hp1,hb2⟩;replace a := a.trans (hb2.sub b);clear hp;have hp := hp1;clear hp1;refine .done (.sr (.m2 rfl ?_));obtain ⟨s3,h3a,h3b⟩ := aI h2b;refine Rg.wd trivial (aC Tryz.call130 rfl (dI hC hp h3a (aH h3b hb))) rfl ?_;rintro _ w3 ⟨hp1,hb3⟩;replace a := a.trans (hb3.sub b);clear hp;have hp := hp1;clear hp1;refine .done (.sr (.m2 rfl ?_));obtain ⟨s4,h4a,h4b⟩ := aI h3b;refine Rg.wd trivial (aC Tryz.call133 rfl (bG hD hp h4a (aH h4b hb))) rfl ?_;rintro _ w4 ⟨hst,hp1,hb4⟩;replace a := a.trans (hb4.sub b);clear hp;have hp := hp1;clear hp1;refine .done (.sr (.m2 rfl (.m2 rfl (.t2 (aM (us := [.pointer (some ⟨bP,0,none⟩)]) (vs := []) rfl rfl) ?_))));obtain ⟨s5,h5a,h5b⟩ := aI h4b;refine Rg.wd trivial (aC Tryz.call156 rfl (pS hC hp (dL Tryz.call131 hD (.typeExpr)) h5a (aH h5b hb))) rfl ?_;rintro _ w5 ⟨hp1,hb5⟩;replace a := a.trans (hb5.sub b);clear hp;have hp := hp1;clear hp1;refine .done (.seq (.sr (.m2 rfl (.t2 (bJ rfl) (.m2 rfl (.so rfl rfl (.so rfl rfl (.so rfl rfl (.t2 (aN rfl rfl) (.done (.condF rfl (Wp.skip ?_))))))))))));refine Wp.region (.m2 rfl (Rg.wd trivial (aC Tryz.call158 rfl (bG hD hp h5b hb)) rfl ?_));rintro _ w6 ⟨hst,hp1,hb6⟩;replace a := a.trans (hb6.sub b);clear hp;have hp := hp1;clear hp1;refine .done ?_;exact ⟨[],trivial,(fun h => by cases h),hp.sub b c,a⟩
theorem nY (hC : Cx w0 tv aG) (hD : ∀ m,m < n → DN w0 tv aG m) (hp : Ps w0 tv aG F w bP below k s) (hr : run body n (body (.function false)) s = some r) (hb : r.adds ≤ fR) :
  Cl Tryz.prog 125 #[.pointer (some ⟨bP,0,none⟩),.bool false] w (fun u w' => ((Nm.function false) = Nm.statement → u = .bool r.flag) ∧ Ps w0 tv aG F w' bP below k r ∧ Bw F w w') := by
 have a := Bw.refl F w;have b : ∀ z,F z → F z := fun z h => h;have e := hp.base;have hr : run body n (.seq Cmd.expIdent (.seq (.call .typeParams) (.seq (Cmd.exp ⟨#[40]⟩) (.seq (.call (.params ⟨#[41]⟩)) (.seq (Cmd.opt ⟨#[45,62]⟩ (.call .typeExpr)) (.cond (cE [⟨#[59]⟩]) (.seq .bump (.leaf 0)) (.call .block))))))) s = some r := hr;refine Cl.enter Tryz.func125 rfl Tryz.ntmps125 rfl rfl (.sr (.m2 rfl ?_));obtain ⟨s1,h1a,h1b⟩ := aI hr;refine Rg.wd trivial (aC Tryz.call127 rfl (dH hC hp h1a (aH h1b hb))) rfl ?_;rintro _ w1 ⟨hp1,hb1⟩;replace a := a.trans (hb1.sub b);clear hp;have hp := hp1;clear hp1;refine .done (.sr (.m2 rfl ?_));obtain ⟨s2,h2a,h2b⟩ := aI h1b;refine Rg.wd trivial (aC Tryz.call155 rfl (bG hD hp h2a (aH h2b hb))) rfl ?_;rintro _ w2 ⟨hst,hp1,hb2⟩;replace a := a.trans (hb2.sub b);clear hp;have hp := hp1;clear hp1;refine .done (.sr (.m2 rfl ?_));obtain ⟨s3,h3a,h3b⟩ := aI h2b;refine Rg.wd trivial (aC Tryz.call130 rfl (dI hC hp h3a (aH h3b hb))) rfl ?_;rintro _ w3 ⟨hp1,hb3⟩;replace a := a.trans (hb3.sub b);clear hp;have hp := hp1;clear hp1;refine .done (.sr (.m2 rfl ?_));obtain ⟨s4,h4a,h4b⟩ := aI h3b;refine Rg.wd trivial (aC Tryz.call133 rfl (bG hD hp h4a (aH h4b hb))) rfl ?_;rintro _ w4 ⟨hst,hp1,hb4⟩;replace a := a.trans (hb4.sub b);clear hp;have hp := hp1;clear hp1;refine .done (.sr (.m2 rfl (.m2 rfl (.t2 (aM (us := [.pointer (some ⟨bP,0,none⟩)]) (vs := []) rfl rfl) ?_))));obtain ⟨s5,h5a,h5b⟩ := aI h4b;refine Rg.wd trivial (aC Tryz.call156 rfl (pS hC hp (dL Tryz.call131 hD (.typeExpr)) h5a (aH h5b hb))) rfl ?_;rintro _ w5 ⟨hp1,hb5⟩;replace a := a.trans (hb5.sub b);clear hp;have hp := hp1;clear hp1;refine .done (.seq ?_)
 cases d : (aV [⟨#[59]⟩] (aO s5.rem)) with
 | true =>
  have hq2 := aX h5b d;refine .sr (.m2 rfl (.t2 (bJ rfl) (.m2 rfl (.g2 (aP rfl) (Rg.wd ⟨_,rfl,rfl⟩ (aD (aT _) rfl) rfl ?_)))));rintro _ w6 ⟨bt20,rfl,qt20,hx6,c⟩;replace a := bS a hp.und b hx6;replace hp := hp.extw hx6;obtain ⟨s6,h6a,h6b⟩ := aI hq2;obtain rfl := cN h6a;refine Rg.wd ⟨_,rfl,rfl⟩ (aC Tryz.call79 rfl (gT hC hp (texts := [⟨#[59]⟩]) c (by decide) d (aH h6b hb))) rfl ?_;rintro _ w7 ⟨rfl,hp1,hb7⟩;replace a := a.trans (hb7.sub b);clear hp;have hp := hp1;clear hp1;refine .t2 (aJ rfl rfl) (.done (.condT rfl (.sr (.m2 rfl (Rg.wd trivial (aC Tryz.call157 rfl (jV hp h6b hb)) rfl ?_)))));rintro _ w8 ⟨hp1,hb8⟩;replace a := a.trans (hb8.sub b);clear hp;have hp := hp1;clear hp1;refine .done (Wp.ret ?_);exact ⟨[],trivial,(fun h => by cases h),hp.sub b e,a⟩
 | false =>
  have hq2 := aU h5b d;refine .sr (.m2 rfl (.t2 (bJ rfl) (.m2 rfl (.g2 (aP rfl) (Rg.wd ⟨_,rfl,rfl⟩ (aD (aT _) rfl) rfl ?_)))));rintro _ w6 ⟨bt20,rfl,qt20,hx6,c⟩;replace a := bS a hp.und b hx6;replace hp := hp.extw hx6;refine Rg.wd ⟨_,rfl,rfl⟩ (aC Tryz.call79 rfl (gU hC hp (texts := [⟨#[59]⟩]) c (by decide) d)) rfl ?_;rintro _ w7 ⟨rfl,hp1,hb7⟩;replace a := a.trans (hb7.sub b);clear hp;have hp := hp1;clear hp1;refine .t2 (aJ rfl rfl) (.done (.condF rfl (Wp.skip (Wp.region (.m2 rfl (Rg.wd trivial (aC Tryz.call158 rfl (bG hD hp hq2 hb)) rfl ?_))))));rintro _ w8 ⟨hst,hp1,hb8⟩;replace a := a.trans (hb8.sub b);clear hp;have hp := hp1;clear hp1;refine .done ?_;exact ⟨[],trivial,(fun h => by cases h),hp.sub b e,a⟩
theorem Fw (hC : Cx w0 tv aG) (hD : ∀ m,m < n → DN w0 tv aG m) {b0 : Nat} (a : Var w b0 [.pointer (some ⟨bP,0,none⟩)] 80) (b : F b0) : Clo w0 tv aG n F bP 162 [] [.pointer (some ⟨b0,0,none⟩)] w (.seq .bump (.seq (Cmd.exp ⟨#[58]⟩) (.call .typeExpr))) := by
 refine ⟨Tryz.call162,fun w1 hw1 below k s r hp hr hb => ?_⟩;replace a := aE a hw1 b
 show Cl Tryz.prog 162 #[.pointer (some ⟨b0,0,none⟩)] w1 _
 have c := Bw.refl F w1;have d : ∀ z,F z → F z := fun z h => h;have e := hp.base;refine Cl.enter Tryz.func162 rfl Tryz.ntmps162 rfl rfl (.sr (.t2 (aB aL rfl (a.g 0 rfl)) ?_));obtain ⟨s1,h1a,h1b⟩ := aI hr;refine Rg.wd trivial (aC Tryz.call80 rfl (cJ hC hp h1a (aH h1b hb))) rfl ?_;rintro _ w1 ⟨hp1,hb1⟩;replace a := aE a hb1 b;replace c := c.trans (hb1.sub d);clear hp;have hp := hp1;clear hp1;refine .done (.sr (.t2 (aB aL rfl (a.g 0 rfl)) ?_));obtain ⟨s2,h2a,h2b⟩ := aI h1b;refine Rg.wd trivial (aC Tryz.call130 rfl (dI hC hp h2a (aH h2b hb))) rfl ?_;rintro _ w2 ⟨hp1,hb2⟩;replace a := aE a hb2 b;replace c := c.trans (hb2.sub d);clear hp;have hp := hp1;clear hp1;refine .done (Wp.region (.t2 (aB aL rfl (a.g 0 rfl)) (Rg.wd trivial (aC Tryz.call131 rfl (bG hD hp h2b hb)) rfl ?_)));rintro _ w3 ⟨hst,hp1,hb3⟩;replace a := aE a hb3 b;replace c := c.trans (hb3.sub d);clear hp;have hp := hp1;clear hp1;refine .done ?_;exact ⟨[],trivial,hp.sub d e,c⟩
theorem Fx (hC : Cx w0 tv aG) (hD : ∀ m,m < n → DN w0 tv aG m) {b0 : Nat} (a : Var w b0 [.pointer (some ⟨bP,0,none⟩)] 80) (d : F b0) : Clo w0 tv aG n F bP 163 [] [.pointer (some ⟨b0,0,none⟩)] w (.seq .bump (.cond (cE [⟨#[40]⟩]) (.seq .bump (Cmd.list ⟨#[41]⟩ (.call .typeExpr))) .skip)) := by
 refine ⟨Tryz.call163,fun w1 hw1 below k s r hp hr hb => ?_⟩;replace a := aE a hw1 d
 show Cl Tryz.prog 163 #[.pointer (some ⟨b0,0,none⟩)] w1 _
 have b := Bw.refl F w1;have c : ∀ z,F z → F z := fun z h => h;have f := hp.base;refine Cl.enter Tryz.func163 rfl Tryz.ntmps163 rfl rfl (.sr (.t2 (aB aL rfl (a.g 0 rfl)) ?_));obtain ⟨s1,h1a,h1b⟩ := aI hr;refine Rg.wd trivial (aC Tryz.call80 rfl (cJ hC hp h1a (aH h1b hb))) rfl ?_;rintro _ w1 ⟨hp1,hb1⟩;replace a := aE a hb1 d;replace b := b.trans (hb1.sub c);clear hp;have hp := hp1;clear hp1;refine .done ?_
 cases e : (aV [⟨#[40]⟩] (aO s1.rem)) with
 | true =>
  have hq2 := aX h1b e;refine .sr (.t2 (aB aL rfl (a.g 0 rfl)) (Rg.wd trivial (aD (aT _) rfl) rfl ?_));rintro _ w2 ⟨bt4,rfl,qt4,hx2,i⟩;replace b := bS b hp.und c hx2;replace hp := hp.extw hx2;replace a := a.ext hx2;obtain ⟨s2,h2a,h2b⟩ := aI hq2;obtain rfl := cN h2a;refine Rg.wd trivial (aC Tryz.call79 rfl (gT hC hp (texts := [⟨#[40]⟩]) i (by decide) e (aH h2b hb))) rfl ?_;rintro _ w3 ⟨rfl,hp1,hb3⟩;replace a := aE a hb3 d;replace b := b.trans (hb3.sub c);clear hp;have hp := hp1;clear hp1;refine .done (.condT rfl (Wp.region (.t2 (aB aL rfl (a.g 0 rfl)) (.t2 (aB aL rfl (a.g 0 rfl)) (.t2 (aM (us := [.pointer (some ⟨bP,0,none⟩)]) (vs := []) rfl rfl) (Rg.wd trivial (aC Tryz.call159 rfl (jJ hC hp (dL Tryz.call131 hD (.typeExpr)) h2b hb)) rfl ?_))))));rintro _ w4 ⟨hp1,hb4⟩;replace a := aE a hb4 d;replace b := b.trans (hb4.sub c);clear hp;have hp := hp1;clear hp1;refine .done ?_;exact ⟨[],trivial,hp.sub c f,b⟩
 | false =>
  have hq2 := aU h1b e;obtain rfl := cI hq2;refine .sr (.t2 (aB aL rfl (a.g 0 rfl)) (Rg.wd trivial (aD (aT _) rfl) rfl ?_));rintro _ w2 ⟨bt4,rfl,qt4,hx2,i⟩;replace b := bS b hp.und c hx2;replace hp := hp.extw hx2;replace a := a.ext hx2;refine Rg.wd trivial (aC Tryz.call79 rfl (gU hC hp (texts := [⟨#[40]⟩]) i (by decide) e)) rfl ?_;rintro _ w3 ⟨rfl,hp1,hb3⟩;replace a := aE a hb3 d;replace b := b.trans (hb3.sub c);clear hp;have hp := hp1;clear hp1;refine .done (.condF rfl (Wp.skip ?_));exact ⟨[],trivial,hp.sub c f,b⟩
theorem Fy {kd : Int} (hC : Cx w0 tv aG) (hD : ∀ m,m < n → DN w0 tv aG m) {b0 : Nat} (a : Var w b0 [.pointer (some ⟨bP,0,none⟩)] 80) (c : F b0) {b1 : Nat} (b : Var w b1 [.int .i64 kd] 3) (j : F b1) : Clo w0 tv aG n F bP 160 [] [.pointer (some ⟨b0,0,none⟩),.pointer (some ⟨b1,0,none⟩)] w (.cond cB (if kd = 4 then (.node 14 (.seq .bump (.seq (Cmd.exp ⟨#[58]⟩) (.call .typeExpr)))) else (.node 15 (.seq .bump (.cond (cE [⟨#[40]⟩]) (.seq .bump (Cmd.list ⟨#[41]⟩ (.call .typeExpr))) .skip)))) .skip) := by
 refine ⟨Tryz.call160,fun w1 hw1 below k s r hp hr hb => ?_⟩;replace a := aE a hw1 c;replace b := aE b hw1 j
 show Cl Tryz.prog 160 #[.pointer (some ⟨b0,0,none⟩),.pointer (some ⟨b1,0,none⟩)] w1 _
 have d := Bw.refl F w1;have f : ∀ z,F z → F z := fun z h => h;have l := hp.base;refine Cl.enter Tryz.func160 rfl Tryz.ntmps160 rfl rfl (Wp.block ?_)
 cases o : ((aO s.rem).1 == 103) with
 | true =>
  have hq2 := aX hr o;refine .sr (.t2 (aB aL rfl (a.g 0 rfl)) (Rg.wd trivial (aC Tryz.call161 rfl (bT hC hp)) rfl ?_));rintro _ w1 ⟨rfl,hx1⟩;replace d := bS d hp.und f hx1;replace hp := hp.extw hx1;replace a := a.ext hx1;replace b := b.ext hx1;rw [show ((aO s.rem).1 == 103) = true from o];refine .t2 (bJ rfl) (.a2 rfl (.done (.condF rfl ?_)))
  cases i : (kd == 4) with
  | true =>
   rw [if_pos (beq_iff_eq.1 i)] at hq2;refine .sr (.t2 (aB bA rfl (b.g 0 rfl)) (.t2 (aS rfl rfl (beq_iff_eq.1 i)) (.a2 rfl (.done (.condT rfl (Wp.region (.t2 (aB aL rfl (a.g 0 rfl)) (.t2 (aM (us := []) (vs := [.pointer (some ⟨b0,0,none⟩)]) rfl rfl) (Rg.wd trivial (aC Tryz.call77 rfl (bZ hp (Fw hC hD a c) hq2 hb)) rfl ?_)))))))));rintro _ w2 ⟨hp1,hb2⟩;replace a := aE a hb2 c;replace b := aE b hb2 j;replace d := d.trans (hb2.sub f);clear hp;have hp := hp1;clear hp1;refine .done ?_;exact ⟨[],trivial,hp.sub f l,d⟩
  | false =>
   rw [if_neg (fun e => by rw [beq_iff_eq.2 e] at i; cases i)] at hq2;refine .sr (.t2 (aB bA rfl (b.g 0 rfl)) ?_);refine .t2 (aR rfl rfl (fun e => by rw [beq_iff_eq.2 e] at i; cases i)) ?_;refine .a2 rfl (.done (.condF rfl (Wp.region (.t2 (aB aL rfl (a.g 0 rfl)) (.t2 (aM (us := []) (vs := [.pointer (some ⟨b0,0,none⟩)]) rfl rfl) (Rg.wd trivial (aC Tryz.call77 rfl (bZ hp (Fx hC hD a c) hq2 hb)) rfl ?_))))));rintro _ w2 ⟨hp1,hb2⟩;replace a := aE a hb2 c;replace b := aE b hb2 j;replace d := d.trans (hb2.sub f);clear hp;have hp := hp1;clear hp1;refine .done ?_;exact ⟨[],trivial,hp.sub f l,d⟩
 | false =>
  have hq2 := aU hr o;obtain rfl := cI hq2;refine .sr (.t2 (aB aL rfl (a.g 0 rfl)) (Rg.wd trivial (aC Tryz.call161 rfl (bT hC hp)) rfl ?_));rintro _ w1 ⟨rfl,hx1⟩;replace d := bS d hp.und f hx1;replace hp := hp.extw hx1;replace a := a.ext hx1;replace b := b.ext hx1;rw [show ((aO r.rem).1 == 103) = false from o];refine .t2 (bJ rfl) (.a2 rfl (.done (.condT rfl (Wp.skip ?_))));exact ⟨[],trivial,hp.sub f l,d⟩
theorem xL {kd : Int} (hC : Cx w0 tv aG) (hD : ∀ m,m < n → DN w0 tv aG m) (hp : Ps w0 tv aG F w bP below k s) (hr : run body n (body (.dataType kd)) s = some r) (hb : r.adds ≤ fR) :
  Cl Tryz.prog 126 #[.pointer (some ⟨bP,0,none⟩),.int .i64 kd] w (fun u w' => ((Nm.dataType kd) = Nm.statement → u = .bool r.flag) ∧ Ps w0 tv aG F w' bP below k r ∧ Bw F w w') := by
 have f := Bw.refl F w;have e : ∀ z,F z → F z := fun z h => h;have p := hp.base;have hr : run body n (.seq Cmd.expIdent (.seq (.call .typeParams) (.seq (Cmd.exp ⟨#[123]⟩) (Cmd.list ⟨#[125]⟩ (.cond cB (if kd = 4 then (.node 14 (.seq .bump (.seq (Cmd.exp ⟨#[58]⟩) (.call .typeExpr)))) else (.node 15 (.seq .bump (.cond (cE [⟨#[40]⟩]) (.seq .bump (Cmd.list ⟨#[41]⟩ (.call .typeExpr))) .skip)))) .skip))))) s = some r := hr;refine Cl.enter Tryz.func126 rfl Tryz.ntmps126 rfl rfl (.sr (Rg.wd trivial (aW rfl rfl) rfl ?_));rintro _ w1 ⟨l,rfl,i,hx1,a⟩;replace f := bS f hp.und e hx1;obtain ⟨q,hp1,c,hs1⟩ := hp.box hx1 i a.lt;clear hp;have hp := hp1;clear hp1;replace e := fun z hz => hs1 z (e z hz);refine Rg.wd trivial (aW rfl rfl) rfl ?_;rintro _ w2 ⟨o,rfl,j,hx2,b⟩;replace f := bS f hp.und e hx2;obtain ⟨t,hp1,d,hs2⟩ := hp.box hx2 j b.lt;clear hp;have hp := hp1;clear hp1;replace e := fun z hz => hs2 z (e z hz);replace a := a.ext hx2;replace c := hs2 _ c;refine .done (.sr (.t2 (aB aL rfl (a.g 0 rfl)) ?_));obtain ⟨s1,h1a,h1b⟩ := aI hr;refine Rg.wd trivial (aC Tryz.call127 rfl (dH hC hp h1a (aH h1b hb))) rfl ?_;rintro _ w3 ⟨hp1,hb3⟩;replace a := aE a hb3 c;replace b := aE b hb3 d;replace f := f.trans (hb3.sub e);clear hp;have hp := hp1;clear hp1;refine .done (.sr (.t2 (aB aL rfl (a.g 0 rfl)) ?_));obtain ⟨s2,h2a,h2b⟩ := aI h1b;refine Rg.wd trivial (aC Tryz.call155 rfl (bG hD hp h2a (aH h2b hb))) rfl ?_;rintro _ w4 ⟨hst,hp1,hb4⟩;replace a := aE a hb4 c;replace b := aE b hb4 d;replace f := f.trans (hb4.sub e);clear hp;have hp := hp1;clear hp1;refine .done (.sr (.t2 (aB aL rfl (a.g 0 rfl)) ?_));obtain ⟨s3,h3a,h3b⟩ := aI h2b;refine Rg.wd trivial (aC Tryz.call130 rfl (dI hC hp h3a (aH h3b hb))) rfl ?_;rintro _ w5 ⟨hp1,hb5⟩;replace a := aE a hb5 c;replace b := aE b hb5 d;replace f := f.trans (hb5.sub e);clear hp;have hp := hp1;clear hp1
 refine .done (Wp.region (.t2 (aB aL rfl (a.g 0 rfl)) (.t2 (aM (us := []) (vs := [.pointer (some ⟨l,0,none⟩),.pointer (some ⟨o,0,none⟩)]) rfl rfl) (Rg.wd trivial (aC Tryz.call159 rfl (jJ hC hp (Fy hC hD a c b d) h3b hb)) rfl ?_))));rintro _ w6 ⟨hp1,hb6⟩;replace a := aE a hb6 c;replace b := aE b hb6 d;replace f := f.trans (hb6.sub e);clear hp;have hp := hp1;clear hp1;refine .done ?_;exact ⟨[],trivial,(fun h => by cases h),hp.sub e p,f⟩
theorem Fz (hC : Cx w0 tv aG) (hD : ∀ m,m < n → DN w0 tv aG m) {b0 : Nat} (a : Var w b0 [.pointer (some ⟨bP,0,none⟩)] 80) (b : F b0) : Clo w0 tv aG n F bP 165 [] [.pointer (some ⟨b0,0,none⟩)] w (.seq .bump (.call (.function false))) := by
 refine ⟨Tryz.call165,fun w1 hw1 below k s r hp hr hb => ?_⟩;replace a := aE a hw1 b
 show Cl Tryz.prog 165 #[.pointer (some ⟨b0,0,none⟩)] w1 _
 have c := Bw.refl F w1;have d : ∀ z,F z → F z := fun z h => h;have e := hp.base;refine Cl.enter Tryz.func165 rfl Tryz.ntmps165 rfl rfl (.sr (.t2 (aB aL rfl (a.g 0 rfl)) ?_));obtain ⟨s1,h1a,h1b⟩ := aI hr;refine Rg.wd trivial (aC Tryz.call80 rfl (cJ hC hp h1a (aH h1b hb))) rfl ?_;rintro _ w1 ⟨hp1,hb1⟩;replace a := aE a hb1 b;replace c := c.trans (hb1.sub d);clear hp;have hp := hp1;clear hp1;refine .done (Wp.region (.t2 (aB aL rfl (a.g 0 rfl)) (Rg.wd trivial (aC Tryz.call125 rfl (bG hD hp h1b hb)) rfl ?_)));rintro _ w2 ⟨hst,hp1,hb2⟩;replace a := aE a hb2 b;replace c := c.trans (hb2.sub d);clear hp;have hp := hp1;clear hp1;refine .done ?_;exact ⟨[],trivial,hp.sub d e,c⟩
theorem F0 (hC : Cx w0 tv aG) (hD : ∀ m,m < n → DN w0 tv aG m) {b0 : Nat} (a : Var w b0 [.pointer (some ⟨bP,0,none⟩)] 80) (b : F b0) : Clo w0 tv aG n F bP 166 [] [.pointer (some ⟨b0,0,none⟩)] w (.seq .bump (.seq Cmd.expIdent (.seq (Cmd.opt ⟨#[61]⟩ (.call .typeExpr)) (Cmd.exp ⟨#[59]⟩)))) := by
 refine ⟨Tryz.call166,fun w1 hw1 below k s r hp hr hb => ?_⟩;replace a := aE a hw1 b
 show Cl Tryz.prog 166 #[.pointer (some ⟨b0,0,none⟩)] w1 _
 have c := Bw.refl F w1;have d : ∀ z,F z → F z := fun z h => h;have e := hp.base;refine Cl.enter Tryz.func166 rfl Tryz.ntmps166 rfl rfl (.sr (.t2 (aB aL rfl (a.g 0 rfl)) ?_));obtain ⟨s1,h1a,h1b⟩ := aI hr;refine Rg.wd trivial (aC Tryz.call80 rfl (cJ hC hp h1a (aH h1b hb))) rfl ?_;rintro _ w1 ⟨hp1,hb1⟩;replace a := aE a hb1 b;replace c := c.trans (hb1.sub d);clear hp;have hp := hp1;clear hp1;refine .done (.sr (.t2 (aB aL rfl (a.g 0 rfl)) ?_));obtain ⟨s2,h2a,h2b⟩ := aI h1b;refine Rg.wd trivial (aC Tryz.call127 rfl (dH hC hp h2a (aH h2b hb))) rfl ?_;rintro _ w2 ⟨hp1,hb2⟩;replace a := aE a hb2 b;replace c := c.trans (hb2.sub d);clear hp;have hp := hp1;clear hp1;refine .done (.sr (.t2 (aB aL rfl (a.g 0 rfl)) (.t2 (aB aL rfl (a.g 0 rfl)) (.t2 (aM (us := [.pointer (some ⟨bP,0,none⟩)]) (vs := []) rfl rfl) ?_))));obtain ⟨s3,h3a,h3b⟩ := aI h2b;refine Rg.wd trivial (aC Tryz.call156 rfl (pS hC hp (dL Tryz.call131 hD (.typeExpr)) h3a (aH h3b hb))) rfl ?_;rintro _ w3 ⟨hp1,hb3⟩;replace a := aE a hb3 b;replace c := c.trans (hb3.sub d);clear hp;have hp := hp1;clear hp1;refine .done (Wp.region (.t2 (aB aL rfl (a.g 0 rfl)) (Rg.wd trivial (aC Tryz.call130 rfl (dI hC hp h3b hb)) rfl ?_)));rintro _ w4 ⟨hp1,hb4⟩;replace a := aE a hb4 b;replace c := c.trans (hb4.sub d);clear hp;have hp := hp1;clear hp1;refine .done ?_;exact ⟨[],trivial,hp.sub d e,c⟩
theorem Ay (hC : Cx w0 tv aG) (hD : ∀ m,m < n → DN w0 tv aG m) (hp : Ps w0 tv aG F w bP below k s) (hr : run body n (body .members) s = some r) (hb : r.adds ≤ fR) :
  Cl Tryz.prog 128 #[.pointer (some ⟨bP,0,none⟩)] w (fun u w' => (Nm.members = Nm.statement → u = .bool r.flag) ∧ Ps w0 tv aG F w' bP below k r ∧ Bw F w w') := by
 have c := Bw.refl F w;have d : ∀ z,F z → F z := fun z h => h;have t := hp.base;have hr : run body n (.seq (Cmd.exp ⟨#[123]⟩) (.seq (.loop (cE [⟨#[116,121,112,101]⟩,⟨#[102,110]⟩]) (.cond (cE [⟨#[102,110]⟩]) (.node 3 (.seq .bump (.call (.function false)))) (.node 16 (.seq .bump (.seq Cmd.expIdent (.seq (Cmd.opt ⟨#[61]⟩ (.call .typeExpr)) (Cmd.exp ⟨#[59]⟩))))))) (Cmd.exp ⟨#[125]⟩))) s = some r := hr;refine Cl.enter Tryz.func128 rfl Tryz.ntmps128 rfl rfl (.sr (Rg.wd trivial (aW rfl rfl) rfl ?_));rintro _ w1 ⟨f,rfl,q,hx1,a⟩;replace c := bS c hp.und d hx1;obtain ⟨j,hp1,b,hs1⟩ := hp.box hx1 q a.lt;clear hp;have hp := hp1;clear hp1;replace d := fun z hz => hs1 z (d z hz);refine .done (.sr (.t2 (aB aL rfl (a.g 0 rfl)) ?_));obtain ⟨s1,h1a,h1b⟩ := aI hr;refine Rg.wd trivial (aC Tryz.call130 rfl (dI hC hp h1a (aH h1b hb))) rfl ?_;rintro _ w2 ⟨hp1,hb2⟩;replace a := aE a hb2 b;replace c := c.trans (hb2.sub d);clear hp;have hp := hp1;clear hp1;refine .done (.seq (Wp.block ?_));obtain ⟨s2,h2a,h2b⟩ := aI h1b;refine Wp.loop (ι := S × Nat) (fun _ => [(1,.pointer (some ⟨f,0,none⟩)),(0,.pointer (some ⟨bP,0,none⟩))])
  (fun i w' => Ps w0 tv aG j w' bP below k i.1 ∧ Bw j w2 w' ∧ run body i.2 (.loop (cE [⟨#[116,121,112,101]⟩,⟨#[102,110]⟩]) (.cond (cE [⟨#[102,110]⟩]) (.node 3 (.seq .bump (.call (.function false)))) (.node 16 (.seq .bump (.seq Cmd.expIdent (.seq (Cmd.opt ⟨#[61]⟩ (.call .typeExpr)) (Cmd.exp ⟨#[59]⟩))))))) i.1 = some s2 ∧ i.2 ≤ n) (fun i => i.2) (s1,n) (by repeat (first | exact .nil | refine .cons rfl ?_)) ⟨hp,Bw.refl _ _,h2a,Nat.le_refl _⟩ ?_
 clear hp;rintro ⟨s',m⟩ wl ⟨hp,hbl,hrun,hmn⟩;simp only at hp hrun hmn;replace c := c.trans (hbl.sub d);replace a := aE a hbl b;refine .seq ?_
 cases o : (aV [⟨#[116,121,112,101]⟩,⟨#[102,110]⟩] (aO s'.rem)) with
 | true =>
  obtain ⟨m1,s2,rfl,hbody,hrest⟩ := dP hrun o;replace hbody := dT hmn hbody;refine .sr (.t2 (aB aL rfl (a.g 0 rfl)) (Rg.wd trivial (aD (dE _ _) rfl) rfl ?_));rintro _ w3 ⟨bt5,rfl,qt5,hx3,e⟩;replace hbl := hbl.trans (Bw.of hx3 hp.und);replace c := bS c hp.und d hx3;replace hp := hp.extw hx3;replace a := a.ext hx3;refine Rg.wd trivial (aC Tryz.call73 rfl (bD hC hp (texts := [⟨#[116,121,112,101]⟩,⟨#[102,110]⟩]) e (by decide))) rfl ?_;rintro _ w4 ⟨rfl,hx4⟩;replace hbl := hbl.trans (Bw.of hx4 hp.und);replace c := bS c hp.und d hx4;replace hp := hp.extw hx4;replace a := a.ext hx4
  try replace e := e.ext hx4
  rw [show (aV [⟨#[116,121,112,101]⟩,⟨#[102,110]⟩] (aO s'.rem)) = true from o];refine .done (.condT rfl (Wp.skip (Wp.block (.seq ?_))))
  cases p : (aV [⟨#[102,110]⟩] (aO s'.rem)) with
  | true =>
   have hq3 := aX hbody p;refine .sr (.t2 (aB aL rfl (a.g 0 rfl)) (Rg.wd trivial (aD (aT _) rfl) rfl ?_));rintro _ w5 ⟨bt8,rfl,qt8,hx5,l⟩;replace hbl := hbl.trans (Bw.of hx5 hp.und);replace c := bS c hp.und d hx5;replace hp := hp.extw hx5;replace a := a.ext hx5
   try replace e := e.ext hx5
   refine Rg.wd trivial (aC Tryz.call73 rfl (bD hC hp (texts := [⟨#[102,110]⟩]) l (by decide))) rfl ?_;rintro _ w6 ⟨rfl,hx6⟩;replace hbl := hbl.trans (Bw.of hx6 hp.und);replace c := bS c hp.und d hx6;replace hp := hp.extw hx6;replace a := a.ext hx6
   try replace e := e.ext hx6
   try replace l := l.ext hx6
   rw [show (aV [⟨#[102,110]⟩] (aO s'.rem)) = true from p];refine .done (.condT rfl (.sr (.t2 (aB aL rfl (a.g 0 rfl)) (.t2 (aM (us := []) (vs := [.pointer (some ⟨f,0,none⟩)]) rfl rfl) (Rg.wd trivial (aC Tryz.call77 rfl (bZ hp (Fz hC hD a b) hq3 (aH hrest (aH h2b hb)))) rfl ?_)))));rintro _ w7 ⟨hp1,hb7⟩;replace hbl := hbl.trans hb7;replace a := aE a hb7 b;replace c := c.trans (hb7.sub d);clear hp;have hp := hp1;clear hp1;refine .done (Wp.exit ?_);exact ⟨(s2,m1),by repeat (first | exact .nil | refine .cons rfl ?_),⟨hp,hbl,hrest,by simp only; omega⟩,by simp only; omega⟩
  | false =>
   have hq3 := aU hbody p;refine .sr (.t2 (aB aL rfl (a.g 0 rfl)) (Rg.wd trivial (aD (aT _) rfl) rfl ?_));rintro _ w5 ⟨bt8,rfl,qt8,hx5,l⟩;replace hbl := hbl.trans (Bw.of hx5 hp.und);replace c := bS c hp.und d hx5;replace hp := hp.extw hx5;replace a := a.ext hx5
   try replace e := e.ext hx5
   refine Rg.wd trivial (aC Tryz.call73 rfl (bD hC hp (texts := [⟨#[102,110]⟩]) l (by decide))) rfl ?_;rintro _ w6 ⟨rfl,hx6⟩;replace hbl := hbl.trans (Bw.of hx6 hp.und);replace c := bS c hp.und d hx6;replace hp := hp.extw hx6;replace a := a.ext hx6
   try replace e := e.ext hx6
   try replace l := l.ext hx6
   rw [show (aV [⟨#[102,110]⟩] (aO s'.rem)) = false from p];refine .done (.condF rfl (Wp.skip (Wp.region (.t2 (aB aL rfl (a.g 0 rfl)) (.t2 (aM (us := []) (vs := [.pointer (some ⟨f,0,none⟩)]) rfl rfl) (Rg.wd trivial (aC Tryz.call77 rfl (bZ hp (F0 hC hD a b) hq3 (aH hrest (aH h2b hb)))) rfl ?_))))));rintro _ w7 ⟨hp1,hb7⟩;replace hbl := hbl.trans hb7;replace a := aE a hb7 b;replace c := c.trans (hb7.sub d);clear hp;have hp := hp1;clear hp1;refine .done ?_;exact ⟨(s2,m1),by repeat (first | exact .nil | refine .cons rfl ?_),⟨hp,hbl,hrest,by simp only; omega⟩,by simp only; omega⟩
 | false =>
  obtain rfl := cL hrun o;refine .sr (.t2 (aB aL rfl (a.g 0 rfl)) (Rg.wd trivial (aD (dE _ _) rfl) rfl ?_));rintro _ w3 ⟨bt5,rfl,qt5,hx3,e⟩;replace c := bS c hp.und d hx3;replace hp := hp.extw hx3;replace a := a.ext hx3;refine Rg.wd trivial (aC Tryz.call73 rfl (bD hC hp (texts := [⟨#[116,121,112,101]⟩,⟨#[102,110]⟩]) e (by decide))) rfl ?_;rintro _ w4 ⟨rfl,hx4⟩;replace c := bS c hp.und d hx4;replace hp := hp.extw hx4;replace a := a.ext hx4
  try replace e := e.ext hx4
  rw [show (aV [⟨#[116,121,112,101]⟩,⟨#[102,110]⟩] (aO s2.rem)) = false from o];refine .done (.condF rfl (Wp.exit (Wp.region (.t2 (aB aL rfl (a.g 0 rfl)) (Rg.wd trivial (aC Tryz.call130 rfl (dI hC hp h2b hb)) rfl ?_)))));rintro _ w5 ⟨hp1,hb5⟩;replace a := aE a hb5 b;replace c := c.trans (hb5.sub d);clear hp;have hp := hp1;clear hp1;refine .done ?_;exact ⟨[],trivial,(fun h => by cases h),hp.sub d t,c⟩
theorem F3 (hC : Cx w0 tv aG) (hD : ∀ m,m < n → DN w0 tv aG m) {b0 : Nat} (a : Var w b0 [.pointer (some ⟨bP,0,none⟩)] 80) (f : F b0) : Clo w0 tv aG n F bP 121 [] [.pointer (some ⟨b0,0,none⟩)] w (.seq .bump (.loop (fun t _ _ _ => t.1 != 100 && !aV eR t) .bump)) := by
 refine ⟨Tryz.call121,fun w1 hw1 below k s r hp hr hb => ?_⟩;replace a := aE a hw1 f
 show Cl Tryz.prog 121 #[.pointer (some ⟨b0,0,none⟩)] w1 _
 have b := Bw.refl F w1;have c : ∀ z,F z → F z := fun z h => h;have l := hp.base;refine Cl.enter Tryz.func121 rfl Tryz.ntmps121 rfl rfl (.sr (.t2 (aB aL rfl (a.g 0 rfl)) ?_));obtain ⟨s1,h1a,h1b⟩ := aI hr;refine Rg.wd trivial (aC Tryz.call80 rfl (cJ hC hp h1a (aH h1b hb))) rfl ?_;rintro _ w1 ⟨hp1,hb1⟩;replace a := aE a hb1 f;replace b := b.trans (hb1.sub c);clear hp;have hp := hp1;clear hp1;refine .done (Wp.block ?_);refine Wp.loop (ι := S × Nat) (fun _ => [(0,.pointer (some ⟨b0,0,none⟩))])
  (fun i w' => Ps w0 tv aG F w' bP below k i.1 ∧ Bw F w1 w' ∧ run body i.2 (.loop (fun t _ _ _ => t.1 != 100 && !aV eR t) .bump) i.1 = some r ∧ i.2 ≤ n) (fun i => i.2) (s1,n) (by repeat (first | exact .nil | refine .cons rfl ?_)) ⟨hp,Bw.refl _ _,h1b,Nat.le_refl _⟩ ?_
 clear hp;rintro ⟨s',m⟩ wl ⟨hp,hbl,hrun,hmn⟩;simp only at hp hrun hmn;replace b := b.trans (hbl.sub c);replace a := aE a hbl f;refine .seq ?_
 cases e : ((aO s'.rem).1 == 100) with
 | true =>
  obtain rfl := cL hrun (show S.test _ _ = false by simp only [S.test,cE,cB,bne,e]; (try rfl));refine Wp.seq (Wp.draw [0,1,2,3,4,5,6,7,8] [] mixed (by kernel_rfl) (by kernel_rfl) ?_);intro w2 hx2 _;replace b := bS b hp.und c hx2;replace hp := hp.extw hx2;replace a := a.ext hx2;refine .t2 (aB aL rfl (a.g 0 rfl)) (Rg.wdB trivial rfl (aC Tryz.call35 rfl (fQ hC hp)) rfl (fun _ _ h => h.2) ?_);rintro _ w3 ⟨rfl,hx3⟩;replace b := bS b hp.und c hx3;replace hp := hp.extw hx3;replace a := a.ext hx3;rw [show ((aO r.rem).1 == 100) = true from e];refine .t2 (bJ rfl) (.m2 rfl (.so rfl rfl (.so rfl rfl (.so rfl rfl (.so rfl rfl (.t2 (aN rfl rfl) (.done (.condF rfl (Wp.exit ?_)))))))));exact ⟨[],trivial,hp.sub c l,b⟩
 | false =>
  cases j : (aV eR (aO s'.rem)) with
  | true =>
   obtain rfl := cL hrun (show S.test _ _ = false by simp only [S.test,cE,cB,bne,e,j]; (try rfl));refine Wp.seq (Wp.draw [0,1,2,3,4,5,6,7,8] [] mixed (by kernel_rfl) (by kernel_rfl) ?_);intro w2 hx2 _;replace b := bS b hp.und c hx2;replace hp := hp.extw hx2;replace a := a.ext hx2;refine .t2 (aB aL rfl (a.g 0 rfl)) (Rg.wdB trivial rfl (aC Tryz.call35 rfl (fQ hC hp)) rfl (fun _ _ h => h.2) ?_);rintro _ w3 ⟨rfl,hx3⟩;replace b := bS b hp.und c hx3;replace hp := hp.extw hx3;replace a := a.ext hx3;rw [show ((aO r.rem).1 == 100) = false from e];refine .t2 (bJ rfl) (.m2 rfl (.g2 (aB aL rfl (a.g 0 rfl)) (Rg.wdB ⟨_,rfl,rfl⟩ rfl (aC Tryz.call122 rfl (iS (hC.asc.ext hp.ext))) rfl (fun _ _ h => h.2) ?_)));rintro _ w4 ⟨⟨bt8,rfl,d⟩,hx4⟩;replace b := bS b hp.und c hx4;replace hp := hp.extw hx4;replace a := a.ext hx4;refine Rg.wdB ⟨_,rfl,rfl⟩ rfl (aC Tryz.call73 rfl (bD hC hp (texts := eR) d (by rw [iT]; decide))) rfl (fun _ _ h => h.2) ?_;rintro _ w5 ⟨rfl,hx5⟩;replace b := bS b hp.und c hx5;replace hp := hp.extw hx5;replace a := a.ext hx5
   try replace d := d.ext hx5
   rw [show (aV eR (aO r.rem)) = true from j];refine .g2 (bJ rfl) (.t2 (aJ rfl rfl) (.done (.condF rfl (Wp.exit ?_))));exact ⟨[],trivial,hp.sub c l,b⟩
  | false =>
   obtain ⟨m1,s2,rfl,hbody,hrest⟩ := dP hrun (show S.test _ _ = true by simp only [S.test,cE,cB,bne,e,j]; (try rfl));replace hbody := dT hmn hbody;refine Wp.seq (Wp.draw [0,1,2,3,4,5,6,7,8] [] mixed (by kernel_rfl) (by kernel_rfl) ?_);intro w2 hx2 _;replace hbl := hbl.trans (Bw.of hx2 hp.und);replace b := bS b hp.und c hx2;replace hp := hp.extw hx2;replace a := a.ext hx2;refine .t2 (aB aL rfl (a.g 0 rfl)) (Rg.wdB trivial rfl (aC Tryz.call35 rfl (fQ hC hp)) rfl (fun _ _ h => h.2) ?_);rintro _ w3 ⟨rfl,hx3⟩;replace hbl := hbl.trans (Bw.of hx3 hp.und);replace b := bS b hp.und c hx3;replace hp := hp.extw hx3;replace a := a.ext hx3;rw [show ((aO s'.rem).1 == 100) = false from e];refine .t2 (bJ rfl) (.m2 rfl (.g2 (aB aL rfl (a.g 0 rfl)) (Rg.wdB ⟨_,rfl,rfl⟩ rfl (aC Tryz.call122 rfl (iS (hC.asc.ext hp.ext))) rfl (fun _ _ h => h.2) ?_)));rintro _ w4 ⟨⟨bt8,rfl,d⟩,hx4⟩;replace hbl := hbl.trans (Bw.of hx4 hp.und);replace b := bS b hp.und c hx4;replace hp := hp.extw hx4;replace a := a.ext hx4;refine Rg.wdB ⟨_,rfl,rfl⟩ rfl (aC Tryz.call73 rfl (bD hC hp (texts := eR) d (by rw [iT]; decide))) rfl (fun _ _ h => h.2) ?_;rintro _ w5 ⟨rfl,hx5⟩;replace hbl := hbl.trans (Bw.of hx5 hp.und);replace b := bS b hp.und c hx5;replace hp := hp.extw hx5;replace a := a.ext hx5
   try replace d := d.ext hx5
   rw [show (aV eR (aO s'.rem)) = false from j];refine .g2 (bJ rfl) (.t2 (aJ rfl rfl) (.done (.condT rfl (Wp.skip (Wp.block (Wp.region (.t2 (aB aL rfl (a.g 0 rfl)) (Rg.wd trivial (aC Tryz.call80 rfl (cJ hC hp hbody (aH hrest hb))) rfl ?_))))))));rintro _ w6 ⟨hp1,hb6⟩;replace hbl := hbl.trans hb6;replace a := aE a hb6 f;replace b := b.trans (hb6.sub c);clear hp;have hp := hp1;clear hp1;refine .done ?_;exact ⟨(s2,m1),by repeat (first | exact .nil | refine .cons rfl ?_),⟨hp,hbl,hrest,by simp only; omega⟩,by simp only; omega⟩
theorem Da (hC : Cx w0 tv aG) (hD : ∀ m,m < n → DN w0 tv aG m) (hp : Ps w0 tv aG F w bP below k s) (hr : run body n (body .skipTo) s = some r) (hb : r.adds ≤ fR) :
  Cl Tryz.prog 76 #[.pointer (some ⟨bP,0,none⟩)] w (fun u w' => (Nm.skipTo = Nm.statement → u = .bool r.flag) ∧ Ps w0 tv aG F w' bP below k r ∧ Bw F w w') := by
 have d := Bw.refl F w;have c : ∀ z,F z → F z := fun z h => h;have i := hp.base;have hr : run body n (.node 46 (.seq .bump (.loop (fun t _ _ _ => t.1 != 100 && !aV eR t) .bump))) s = some r := hr;refine Cl.enter Tryz.func76 rfl Tryz.ntmps76 rfl rfl (.sr (Rg.wd trivial (aW rfl rfl) rfl ?_));rintro _ w1 ⟨f,rfl,e,hx1,a⟩;replace d := bS d hp.und c hx1;obtain ⟨j,hp1,b,hs1⟩ := hp.box hx1 e a.lt;clear hp;have hp := hp1;clear hp1;replace c := fun z hz => hs1 z (c z hz);refine .done (Wp.region (.t2 (aB aL rfl (a.g 0 rfl)) (.t2 (aM (us := []) (vs := [.pointer (some ⟨f,0,none⟩)]) rfl rfl) (Rg.wd trivial (aC Tryz.call77 rfl (bZ hp (F3 hC hD a b) hr hb)) rfl ?_))));rintro _ w2 ⟨hp1,hb2⟩;replace a := aE a hb2 b;replace d := d.trans (hb2.sub c);clear hp;have hp := hp1;clear hp1;refine .done ?_;exact ⟨[],trivial,(fun h => by cases h),hp.sub c i,d⟩
end
end Go.Proofs.YtlndmiegodcfjaaGreatDoor.Par
