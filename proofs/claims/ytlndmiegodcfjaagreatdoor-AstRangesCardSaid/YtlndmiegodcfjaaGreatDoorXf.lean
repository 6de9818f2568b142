/- The parser: eR, binary expressions, blocks, uses. Printed by r6/Nt.py (auto.py). -/
import Derived.Test.YtlndmiegodcfjaaGreatDoorXe
import Derived.Test.YtlndmiegodcfjaaGreatDoorXd
import Derived.Test.YtlndmiegodcfjaaGreatDoorXc
import Derived.Test.YtlndmiegodcfjaaGreatDoorXb
set_option linter.unusedVariables false
set_option linter.unusedSimpArgs false
namespace Go.Proofs.YtlndmiegodcfjaaGreatDoor.Par
set_option maxRecDepth 20000
open Go.Gx Go.RowKit Go.Lib
open Lexi (Asc)
section
variable {w0 : World} {tv : Value} {aG : List Tok} {F : Fs} {w w' : World} {bP : Nat} {below : List (Int × List Tr)} {k : Int} {s r : S} {n : Nat}
theorem xM {kd : Int} (hC : Cx w0 tv aG) (hD : ∀ m,m < n → DN w0 tv aG m) (hp : Ps w0 tv aG F w bP below k s) (hr : run body n (body (.itemBody kd)) s = some r) (hb : r.adds ≤ fR) :
  Cl Tryz.prog 81 #[.pointer (some ⟨bP,0,none⟩),.int .i64 kd] w (fun u w' => ((Nm.itemBody kd) = Nm.statement → u = .bool r.flag) ∧ Ps w0 tv aG F w' bP below k r ∧ Bw F w w') := by
 have a := Bw.refl F w;have b : ∀ z,F z → F z := fun z h => h;have c := hp.base;have hr : run body n (if kd = 2 then (.call .use) else (if kd = 3 then (.call (.function true)) else (if kd = 4 ∨ kd = 5 then (.call (.dataType kd)) else (if kd = 6 then (.seq Cmd.expIdent (.call .members)) else (if kd = 7 then (.call .impl) else (if kd = 8 then (.seq Cmd.expIdent (.seq (Cmd.exp ⟨#[58]⟩) (.seq (.call .typeExpr) (.seq (Cmd.exp ⟨#[61]⟩) (.seq Cmd.expr (Cmd.exp ⟨#[59]⟩)))))) else (if kd = 9 then (.seq Cmd.expIdent (.seq (Cmd.exp ⟨#[40]⟩) (.seq (.call (.params ⟨#[41]⟩)) (.seq (Cmd.exp ⟨#[61]⟩) (.seq Cmd.expr (Cmd.exp ⟨#[59]⟩)))))) else .skip))))))) s = some r := hr;refine Cl.enter Tryz.func81 rfl Tryz.ntmps81 rfl rfl (.sr (.m2 rfl (.done (Wp.block ?_))))
 cases d : (kd == 2) with
 | true =>
  rw [if_pos (beq_iff_eq.1 d)] at hr;refine .sr (.t2 (aS rfl rfl (beq_iff_eq.1 d)) (.a2 rfl (.done (.condT rfl (Wp.region (.m2 rfl (Rg.wd trivial (aC Tryz.call124 rfl (bG hD hp hr hb)) rfl ?_)))))));rintro _ w1 ⟨hst,hp1,hb1⟩;replace a := a.trans (hb1.sub b);clear hp;have hp := hp1;clear hp1;refine .done ?_;exact ⟨[],trivial,(fun h => by cases h),hp.sub b c,a⟩
 | false =>
  rw [if_neg (fun e => by rw [beq_iff_eq.2 e] at d; cases d)] at hr;refine .sr ?_;refine .t2 (aR rfl rfl (fun e => by rw [beq_iff_eq.2 e] at d; cases d)) ?_;refine .a2 rfl (.done (.condF rfl ?_))
  cases f : (kd == 3) with
  | true =>
   rw [if_pos (beq_iff_eq.1 f)] at hr;refine .sr (.t2 (aS rfl rfl (beq_iff_eq.1 f)) (.a2 rfl (.done (.condT rfl (Wp.region (.m2 rfl (Rg.wd trivial (aC Tryz.call125 rfl (bG hD hp hr hb)) rfl ?_)))))));rintro _ w1 ⟨hst,hp1,hb1⟩;replace a := a.trans (hb1.sub b);clear hp;have hp := hp1;clear hp1;refine .done ?_;exact ⟨[],trivial,(fun h => by cases h),hp.sub b c,a⟩
  | false =>
   rw [if_neg (fun e => by rw [beq_iff_eq.2 e] at f; cases f)] at hr;refine .sr ?_;refine .t2 (aR rfl rfl (fun e => by rw [beq_iff_eq.2 e] at f; cases f)) ?_;refine .a2 rfl (.done (.condF rfl (.seq ?_)))
   cases g : (kd == 4) with
   | true =>
    rw [if_pos (.inl (beq_iff_eq.1 g))] at hr;refine .sr (.t2 (aS rfl rfl (beq_iff_eq.1 g)) (.a2 rfl (.done (.condT rfl (Wp.skip (.condT rfl (Wp.region (.m2 rfl (.m2 rfl (Rg.wd trivial (aC Tryz.call126 rfl (bG hD hp hr hb)) rfl ?_))))))))));rintro _ w1 ⟨hst,hp1,hb1⟩;replace a := a.trans (hb1.sub b);clear hp;have hp := hp1;clear hp1;refine .done ?_;exact ⟨[],trivial,(fun h => by cases h),hp.sub b c,a⟩
   | false =>
    refine .sr ?_;refine .t2 (aR rfl rfl (fun e => by rw [beq_iff_eq.2 e] at g; cases g)) ?_;refine .a2 rfl (.done (.condF rfl ?_))
    cases i : (kd == 5) with
    | true =>
     rw [if_pos (.inr (beq_iff_eq.1 i))] at hr;refine Wp.region (.t2 (aS rfl rfl (beq_iff_eq.1 i)) (.a2 rfl (.done (.condT rfl (Wp.region (.m2 rfl (.m2 rfl (Rg.wd trivial (aC Tryz.call126 rfl (bG hD hp hr hb)) rfl ?_))))))));rintro _ w1 ⟨hst,hp1,hb1⟩;replace a := a.trans (hb1.sub b);clear hp;have hp := hp1;clear hp1;refine .done ?_;exact ⟨[],trivial,(fun h => by cases h),hp.sub b c,a⟩
    | false =>
     rw [if_neg (fun h => h.elim (fun e => by rw [beq_iff_eq.2 e] at g; cases g) (fun e => by rw [beq_iff_eq.2 e] at i; cases i))] at hr;refine Wp.region ?_;refine .t2 (aR rfl rfl (fun e => by rw [beq_iff_eq.2 e] at i; cases i)) ?_;refine .a2 rfl (.done (.condF rfl ?_))
     cases j : (kd == 6) with
     | true =>
      rw [if_pos (beq_iff_eq.1 j)] at hr;refine .sr (.t2 (aS rfl rfl (beq_iff_eq.1 j)) (.a2 rfl (.done (.condT rfl (.sr (.m2 rfl ?_))))));obtain ⟨s1,h1a,h1b⟩ := aI hr;refine Rg.wd trivial (aC Tryz.call127 rfl (dH hC hp h1a (aH h1b hb))) rfl ?_;rintro _ w1 ⟨hp1,hb1⟩;replace a := a.trans (hb1.sub b);clear hp;have hp := hp1;clear hp1;refine .done (Wp.region (.m2 rfl (Rg.wd trivial (aC Tryz.call128 rfl (bG hD hp h1b hb)) rfl ?_)));rintro _ w2 ⟨hst,hp1,hb2⟩;replace a := a.trans (hb2.sub b);clear hp;have hp := hp1;clear hp1;refine .done ?_;exact ⟨[],trivial,(fun h => by cases h),hp.sub b c,a⟩
     | false =>
      rw [if_neg (fun e => by rw [beq_iff_eq.2 e] at j; cases j)] at hr;refine .sr ?_;refine .t2 (aR rfl rfl (fun e => by rw [beq_iff_eq.2 e] at j; cases j)) ?_;refine .a2 rfl (.done (.condF rfl ?_))
      cases l : (kd == 7) with
      | true =>
       rw [if_pos (beq_iff_eq.1 l)] at hr;refine .sr (.t2 (aS rfl rfl (beq_iff_eq.1 l)) (.a2 rfl (.done (.condT rfl (Wp.region (.m2 rfl (Rg.wd trivial (aC Tryz.call129 rfl (bG hD hp hr hb)) rfl ?_)))))));rintro _ w1 ⟨hst,hp1,hb1⟩;replace a := a.trans (hb1.sub b);clear hp;have hp := hp1;clear hp1;refine .done ?_;exact ⟨[],trivial,(fun h => by cases h),hp.sub b c,a⟩
      | false =>
       rw [if_neg (fun e => by rw [beq_iff_eq.2 e] at l; cases l)] at hr;refine .sr ?_;refine .t2 (aR rfl rfl (fun e => by rw [beq_iff_eq.2 e] at l; cases l)) ?_;refine .a2 rfl (.done (.condF rfl ?_))
       cases o : (kd == 8) with
       | true =>
        rw [if_pos (beq_iff_eq.1 o)] at hr;refine .sr (.t2 (aS rfl rfl (beq_iff_eq.1 o)) (.a2 rfl (.done (.condT rfl (.sr (.m2 rfl ?_))))));obtain ⟨s1,h1a,h1b⟩ := aI hr;refine Rg.wd trivial (aC Tryz.call127 rfl (dH hC hp h1a (aH h1b hb))) rfl ?_;rintro _ w1 ⟨hp1,hb1⟩;replace a := a.trans (hb1.sub b);clear hp;have hp := hp1;clear hp1;refine .done (.sr (.m2 rfl ?_));obtain ⟨s2,h2a,h2b⟩ := aI h1b;refine Rg.wd trivial (aC Tryz.call130 rfl (dI hC hp h2a (aH h2b hb))) rfl ?_;rintro _ w2 ⟨hp1,hb2⟩;replace a := a.trans (hb2.sub b);clear hp;have hp := hp1;clear hp1;refine .done (.sr (.m2 rfl ?_));obtain ⟨s3,h3a,h3b⟩ := aI h2b;refine Rg.wd trivial (aC Tryz.call131 rfl (bG hD hp h3a (aH h3b hb))) rfl ?_;rintro _ w3 ⟨hst,hp1,hb3⟩;replace a := a.trans (hb3.sub b);clear hp;have hp := hp1;clear hp1;refine .done (.sr (.m2 rfl ?_));obtain ⟨s4,h4a,h4b⟩ := aI h3b;refine Rg.wd trivial (aC Tryz.call130 rfl (dI hC hp h4a (aH h4b hb))) rfl ?_;rintro _ w4 ⟨hp1,hb4⟩;replace a := a.trans (hb4.sub b);clear hp;have hp := hp1;clear hp1;refine .done (.sr (.m2 rfl ?_));obtain ⟨s5,h5a,h5b⟩ := aI h4b;refine Rg.wd trivial (aC Tryz.call132 rfl (gH hC hD hp h5a (aH h5b hb))) rfl ?_;rintro _ w5 ⟨hp1,hb5⟩;replace a := a.trans (hb5.sub b);clear hp;have hp := hp1;clear hp1;refine .done (Wp.region (.m2 rfl (Rg.wd trivial (aC Tryz.call130 rfl (dI hC hp h5b hb)) rfl ?_)));rintro _ w6 ⟨hp1,hb6⟩;replace a := a.trans (hb6.sub b);clear hp;have hp := hp1;clear hp1;refine .done ?_;exact ⟨[],trivial,(fun h => by cases h),hp.sub b c,a⟩
       | false =>
        rw [if_neg (fun e => by rw [beq_iff_eq.2 e] at o; cases o)] at hr;refine .sr ?_;refine .t2 (aR rfl rfl (fun e => by rw [beq_iff_eq.2 e] at o; cases o)) ?_;refine .a2 rfl (.done (.condF rfl ?_))
        cases p : (kd == 9) with
        | true =>
         rw [if_pos (beq_iff_eq.1 p)] at hr;refine .sr (.t2 (aS rfl rfl (beq_iff_eq.1 p)) (.a2 rfl (.done (.condT rfl (.sr (.m2 rfl ?_))))));obtain ⟨s1,h1a,h1b⟩ := aI hr;refine Rg.wd trivial (aC Tryz.call127 rfl (dH hC hp h1a (aH h1b hb))) rfl ?_;rintro _ w1 ⟨hp1,hb1⟩;replace a := a.trans (hb1.sub b);clear hp;have hp := hp1;clear hp1;refine .done (.sr (.m2 rfl ?_));obtain ⟨s2,h2a,h2b⟩ := aI h1b;refine Rg.wd trivial (aC Tryz.call130 rfl (dI hC hp h2a (aH h2b hb))) rfl ?_;rintro _ w2 ⟨hp1,hb2⟩;replace a := a.trans (hb2.sub b);clear hp;have hp := hp1;clear hp1;refine .done (.sr (.m2 rfl ?_));obtain ⟨s3,h3a,h3b⟩ := aI h2b;refine Rg.wd trivial (aC Tryz.call133 rfl (bG hD hp h3a (aH h3b hb))) rfl ?_;rintro _ w3 ⟨hst,hp1,hb3⟩;replace a := a.trans (hb3.sub b);clear hp;have hp := hp1;clear hp1;refine .done (.sr (.m2 rfl ?_));obtain ⟨s4,h4a,h4b⟩ := aI h3b;refine Rg.wd trivial (aC Tryz.call130 rfl (dI hC hp h4a (aH h4b hb))) rfl ?_;rintro _ w4 ⟨hp1,hb4⟩;replace a := a.trans (hb4.sub b);clear hp;have hp := hp1;clear hp1;refine .done (.sr (.m2 rfl ?_));obtain ⟨s5,h5a,h5b⟩ := aI h4b;refine Rg.wd trivial (aC Tryz.call132 rfl (gH hC hD hp h5a (aH h5b hb))) rfl ?_;rintro _ w5 ⟨hp1,hb5⟩;replace a := a.trans (hb5.sub b);clear hp;have hp := hp1;clear hp1;refine .done (Wp.region (.m2 rfl (Rg.wd trivial (aC Tryz.call130 rfl (dI hC hp h5b hb)) rfl ?_)));rintro _ w6 ⟨hp1,hb6⟩;replace a := a.trans (hb6.sub b);clear hp;have hp := hp1;clear hp1;refine .done ?_;exact ⟨[],trivial,(fun h => by cases h),hp.sub b c,a⟩
        | false =>
         rw [if_neg (fun e => by rw [beq_iff_eq.2 e] at p; cases p)] at hr;obtain rfl := cI hr;refine .sr ?_;refine .t2 (aR rfl rfl (fun e => by rw [beq_iff_eq.2 e] at p; cases p)) ?_;refine .a2 rfl (.done (.condF rfl (Wp.skip ?_)));exact ⟨[],trivial,(fun h => by cases h),hp.sub b c,a⟩
theorem Db {kd : Int} (hC : Cx w0 tv aG) (hD : ∀ m,m < n → DN w0 tv aG m) {b0 : Nat} (a : Var w b0 [.pointer (some ⟨bP,0,none⟩)] 80) (e : F b0) {b1 : Nat} (b : Var w b1 [.int .i64 kd] 3) (f : F b1) : Clo w0 tv aG n F bP 78 [] [.pointer (some ⟨b0,0,none⟩),.pointer (some ⟨b1,0,none⟩)] w (.seq (Cmd.acc ⟨#[112,117,98]⟩) (.seq .bump (.call (.itemBody kd)))) := by
 refine ⟨Tryz.call78,fun w1 hw1 below k s r hp hr hb => ?_⟩;replace a := aE a hw1 e;replace b := aE b hw1 f
 show Cl Tryz.prog 78 #[.pointer (some ⟨b0,0,none⟩),.pointer (some ⟨b1,0,none⟩)] w1 _
 have c := Bw.refl F w1;have d : ∀ z,F z → F z := fun z h => h;have j := hp.base;refine Cl.enter Tryz.func78 rfl Tryz.ntmps78 rfl rfl ?_
 cases i : (aV [⟨#[112,117,98]⟩] (aO s.rem)) with
 | true =>
  obtain ⟨s1,h1a,h1b⟩ := aI hr;have hq2 := aX h1a i;refine .sr (.t2 (aB aL rfl (a.g 0 rfl)) (Rg.wd trivial (aD (aT _) rfl) rfl ?_));rintro _ w1 ⟨bt3,rfl,qt3,hx1,l⟩;replace c := bS c hp.und d hx1;replace hp := hp.extw hx1;replace a := a.ext hx1;replace b := b.ext hx1;obtain rfl := cN hq2;refine Rg.wd trivial (aC Tryz.call79 rfl (gT hC hp (texts := [⟨#[112,117,98]⟩]) l (by decide) i (aH h1b hb))) rfl ?_;rintro _ w2 ⟨rfl,hp1,hb2⟩;replace a := aE a hb2 e;replace b := aE b hb2 f;replace c := c.trans (hb2.sub d);clear hp;have hp := hp1;clear hp1;refine .done (.sr (.t2 (aB aL rfl (a.g 0 rfl)) ?_));obtain ⟨s2,h2a,h2b⟩ := aI h1b;refine Rg.wd trivial (aC Tryz.call80 rfl (cJ hC hp h2a (aH h2b hb))) rfl ?_;rintro _ w3 ⟨hp1,hb3⟩;replace a := aE a hb3 e;replace b := aE b hb3 f;replace c := c.trans (hb3.sub d);clear hp;have hp := hp1;clear hp1;refine .done (Wp.region (.t2 (aB aL rfl (a.g 0 rfl)) (.t2 (aB bA rfl (b.g 0 rfl)) (Rg.wd trivial (aC Tryz.call81 rfl (bG hD hp h2b hb)) rfl ?_))));rintro _ w4 ⟨hst,hp1,hb4⟩;replace a := aE a hb4 e;replace b := aE b hb4 f;replace c := c.trans (hb4.sub d);clear hp;have hp := hp1;clear hp1;refine .done ?_;exact ⟨[],trivial,hp.sub d j,c⟩
 | false =>
  obtain ⟨s1,h1a,h1b⟩ := aI hr;have hq2 := aU h1a i;obtain rfl := cI hq2;refine .sr (.t2 (aB aL rfl (a.g 0 rfl)) (Rg.wd trivial (aD (aT _) rfl) rfl ?_));rintro _ w1 ⟨bt3,rfl,qt3,hx1,l⟩;replace c := bS c hp.und d hx1;replace hp := hp.extw hx1;replace a := a.ext hx1;replace b := b.ext hx1;refine Rg.wd trivial (aC Tryz.call79 rfl (gU hC hp (texts := [⟨#[112,117,98]⟩]) l (by decide) i)) rfl ?_;rintro _ w2 ⟨rfl,hp1,hb2⟩;replace a := aE a hb2 e;replace b := aE b hb2 f;replace c := c.trans (hb2.sub d);clear hp;have hp := hp1;clear hp1;refine .done (.sr (.t2 (aB aL rfl (a.g 0 rfl)) ?_));obtain ⟨s2,h2a,h2b⟩ := aI h1b;refine Rg.wd trivial (aC Tryz.call80 rfl (cJ hC hp h2a (aH h2b hb))) rfl ?_;rintro _ w3 ⟨hp1,hb3⟩;replace a := aE a hb3 e;replace b := aE b hb3 f;replace c := c.trans (hb3.sub d);clear hp;have hp := hp1;clear hp1;refine .done (Wp.region (.t2 (aB aL rfl (a.g 0 rfl)) (.t2 (aB bA rfl (b.g 0 rfl)) (Rg.wd trivial (aC Tryz.call81 rfl (bG hD hp h2b hb)) rfl ?_))));rintro _ w4 ⟨hst,hp1,hb4⟩;replace a := aE a hb4 e;replace b := aE b hb4 f;replace c := c.trans (hb4.sub d);clear hp;have hp := hp1;clear hp1;refine .done ?_;exact ⟨[],trivial,hp.sub d j,c⟩
theorem G8 : Cl Tryz.prog 199 #[.int .i64 0] w (fun u w' => (∃ b,u = .slice (some ⟨b,0,none⟩) 1 1 ∧ Var w' b ([⟨#[124,124]⟩].map .string) 9) ∧ Ext w w') := by
 have hx := Ext.refl w;refine Cl.enter Tryz.func199 rfl Tryz.ntmps199 rfl rfl (.sr (.a2 rfl (.done (.sr (Rg.wd trivial (aD (aT _) rfl) rfl ?_)))));rintro _ w1 ⟨b3,rfl,q3,hx1,hv3⟩;replace hx := hx.ext hx1;refine Rg.wd trivial (aD (aT _) rfl) rfl ?_;rintro _ w2 ⟨b4,rfl,q4,hx2,hv4⟩;replace hx := hx.ext hx2;replace hv3 := hv3.ext hx2;clear hv4;refine Rg.wd trivial (aD (dE _ _) rfl) rfl ?_;rintro _ w3 ⟨b5,rfl,q5,hx3,hv5⟩;replace hx := hx.ext hx3;replace hv3 := hv3.ext hx3;clear hv5;refine Rg.wd trivial (aD (dE _ _) rfl) rfl ?_;rintro _ w4 ⟨b6,rfl,q6,hx4,hv6⟩;replace hx := hx.ext hx4;replace hv3 := hv3.ext hx4;clear hv6;refine Rg.wd trivial (aD (dE _ _) rfl) rfl ?_;rintro _ w5 ⟨b7,rfl,q7,hx5,hv7⟩;replace hx := hx.ext hx5;replace hv3 := hv3.ext hx5;clear hv7;refine Rg.wd trivial (aD (mX _ _ _ _ _ _ _ _ _ _ _ _ _ _ _) rfl) rfl ?_;rintro _ w6 ⟨b8,rfl,q8,hx6,hv8⟩;replace hx := hx.ext hx6;replace hv3 := hv3.ext hx6;refine .m2 rfl ?_;refine .t2 (bI Tryz.underlying252 mW rfl rfl (by decide)) ?_;refine .t2 (aB mW rfl (hv8.g 0 rfl)) (.a2 rfl (.done (Wp.ret ?_)));exact ⟨[_],⟨rfl,trivial⟩,⟨_,rfl,hv3⟩,hx⟩
theorem G9 : Cl Tryz.prog 199 #[.int .i64 1] w (fun u w' => (∃ b,u = .slice (some ⟨b,0,none⟩) 1 1 ∧ Var w' b ([⟨#[38,38]⟩].map .string) 9) ∧ Ext w w') := by
 have hx := Ext.refl w;refine Cl.enter Tryz.func199 rfl Tryz.ntmps199 rfl rfl (.sr (.a2 rfl (.done (.sr (Rg.wd trivial (aD (aT _) rfl) rfl ?_)))));rintro _ w1 ⟨b3,rfl,q3,hx1,hv3⟩;replace hx := hx.ext hx1;clear hv3;refine Rg.wd trivial (aD (aT _) rfl) rfl ?_;rintro _ w2 ⟨b4,rfl,q4,hx2,hv4⟩;replace hx := hx.ext hx2;refine Rg.wd trivial (aD (dE _ _) rfl) rfl ?_;rintro _ w3 ⟨b5,rfl,q5,hx3,hv5⟩;replace hx := hx.ext hx3;replace hv4 := hv4.ext hx3;clear hv5;refine Rg.wd trivial (aD (dE _ _) rfl) rfl ?_;rintro _ w4 ⟨b6,rfl,q6,hx4,hv6⟩;replace hx := hx.ext hx4;replace hv4 := hv4.ext hx4;clear hv6;refine Rg.wd trivial (aD (dE _ _) rfl) rfl ?_;rintro _ w5 ⟨b7,rfl,q7,hx5,hv7⟩;replace hx := hx.ext hx5;replace hv4 := hv4.ext hx5;clear hv7;refine Rg.wd trivial (aD (mX _ _ _ _ _ _ _ _ _ _ _ _ _ _ _) rfl) rfl ?_;rintro _ w6 ⟨b8,rfl,q8,hx6,hv8⟩;replace hx := hx.ext hx6;replace hv4 := hv4.ext hx6;refine .m2 rfl ?_;refine .t2 (bI Tryz.underlying252 mW rfl rfl (by decide)) ?_;refine .t2 (aB mW rfl (hv8.g 1 rfl)) (.a2 rfl (.done (Wp.ret ?_)));exact ⟨[_],⟨rfl,trivial⟩,⟨_,rfl,hv4⟩,hx⟩
theorem Ha : Cl Tryz.prog 199 #[.int .i64 2] w (fun u w' => (∃ b,u = .slice (some ⟨b,0,none⟩) 2 2 ∧ Var w' b ([⟨#[61,61]⟩,⟨#[60]⟩].map .string) 9) ∧ Ext w w') := by
 have hx := Ext.refl w;refine Cl.enter Tryz.func199 rfl Tryz.ntmps199 rfl rfl (.sr (.a2 rfl (.done (.sr (Rg.wd trivial (aD (aT _) rfl) rfl ?_)))));rintro _ w1 ⟨b3,rfl,q3,hx1,hv3⟩;replace hx := hx.ext hx1;clear hv3;refine Rg.wd trivial (aD (aT _) rfl) rfl ?_;rintro _ w2 ⟨b4,rfl,q4,hx2,hv4⟩;replace hx := hx.ext hx2;clear hv4;refine Rg.wd trivial (aD (dE _ _) rfl) rfl ?_;rintro _ w3 ⟨b5,rfl,q5,hx3,hv5⟩;replace hx := hx.ext hx3;refine Rg.wd trivial (aD (dE _ _) rfl) rfl ?_;rintro _ w4 ⟨b6,rfl,q6,hx4,hv6⟩;replace hx := hx.ext hx4;replace hv5 := hv5.ext hx4;clear hv6;refine Rg.wd trivial (aD (dE _ _) rfl) rfl ?_;rintro _ w5 ⟨b7,rfl,q7,hx5,hv7⟩;replace hx := hx.ext hx5;replace hv5 := hv5.ext hx5;clear hv7;refine Rg.wd trivial (aD (mX _ _ _ _ _ _ _ _ _ _ _ _ _ _ _) rfl) rfl ?_;rintro _ w6 ⟨b8,rfl,q8,hx6,hv8⟩;replace hx := hx.ext hx6;replace hv5 := hv5.ext hx6;refine .m2 rfl ?_;refine .t2 (bI Tryz.underlying252 mW rfl rfl (by decide)) ?_;refine .t2 (aB mW rfl (hv8.g 2 rfl)) (.a2 rfl (.done (Wp.ret ?_)));exact ⟨[_],⟨rfl,trivial⟩,⟨_,rfl,hv5⟩,hx⟩
theorem Hb : Cl Tryz.prog 199 #[.int .i64 3] w (fun u w' => (∃ b,u = .slice (some ⟨b,0,none⟩) 2 2 ∧ Var w' b ([⟨#[43]⟩,⟨#[45]⟩].map .string) 9) ∧ Ext w w') := by
 have hx := Ext.refl w;refine Cl.enter Tryz.func199 rfl Tryz.ntmps199 rfl rfl (.sr (.a2 rfl (.done (.sr (Rg.wd trivial (aD (aT _) rfl) rfl ?_)))));rintro _ w1 ⟨b3,rfl,q3,hx1,hv3⟩;replace hx := hx.ext hx1;clear hv3;refine Rg.wd trivial (aD (aT _) rfl) rfl ?_;rintro _ w2 ⟨b4,rfl,q4,hx2,hv4⟩;replace hx := hx.ext hx2;clear hv4;refine Rg.wd trivial (aD (dE _ _) rfl) rfl ?_;rintro _ w3 ⟨b5,rfl,q5,hx3,hv5⟩;replace hx := hx.ext hx3;clear hv5;refine Rg.wd trivial (aD (dE _ _) rfl) rfl ?_;rintro _ w4 ⟨b6,rfl,q6,hx4,hv6⟩;replace hx := hx.ext hx4;refine Rg.wd trivial (aD (dE _ _) rfl) rfl ?_;rintro _ w5 ⟨b7,rfl,q7,hx5,hv7⟩;replace hx := hx.ext hx5;replace hv6 := hv6.ext hx5;clear hv7;refine Rg.wd trivial (aD (mX _ _ _ _ _ _ _ _ _ _ _ _ _ _ _) rfl) rfl ?_;rintro _ w6 ⟨b8,rfl,q8,hx6,hv8⟩;replace hx := hx.ext hx6;replace hv6 := hv6.ext hx6;refine .m2 rfl ?_;refine .t2 (bI Tryz.underlying252 mW rfl rfl (by decide)) ?_;refine .t2 (aB mW rfl (hv8.g 3 rfl)) (.a2 rfl (.done (Wp.ret ?_)));exact ⟨[_],⟨rfl,trivial⟩,⟨_,rfl,hv6⟩,hx⟩
theorem Hc : Cl Tryz.prog 199 #[.int .i64 4] w (fun u w' => (∃ b,u = .slice (some ⟨b,0,none⟩) 2 2 ∧ Var w' b ([⟨#[42]⟩,⟨#[47]⟩].map .string) 9) ∧ Ext w w') := by
 have hx := Ext.refl w;refine Cl.enter Tryz.func199 rfl Tryz.ntmps199 rfl rfl (.sr (.a2 rfl (.done (.sr (Rg.wd trivial (aD (aT _) rfl) rfl ?_)))));rintro _ w1 ⟨b3,rfl,q3,hx1,hv3⟩;replace hx := hx.ext hx1;clear hv3;refine Rg.wd trivial (aD (aT _) rfl) rfl ?_;rintro _ w2 ⟨b4,rfl,q4,hx2,hv4⟩;replace hx := hx.ext hx2;clear hv4;refine Rg.wd trivial (aD (dE _ _) rfl) rfl ?_;rintro _ w3 ⟨b5,rfl,q5,hx3,hv5⟩;replace hx := hx.ext hx3;clear hv5;refine Rg.wd trivial (aD (dE _ _) rfl) rfl ?_;rintro _ w4 ⟨b6,rfl,q6,hx4,hv6⟩;replace hx := hx.ext hx4;clear hv6;refine Rg.wd trivial (aD (dE _ _) rfl) rfl ?_;rintro _ w5 ⟨b7,rfl,q7,hx5,hv7⟩;replace hx := hx.ext hx5;refine Rg.wd trivial (aD (mX _ _ _ _ _ _ _ _ _ _ _ _ _ _ _) rfl) rfl ?_;rintro _ w6 ⟨b8,rfl,q8,hx6,hv8⟩;replace hx := hx.ext hx6;replace hv7 := hv7.ext hx6;refine .m2 rfl ?_;refine .t2 (bI Tryz.underlying252 mW rfl rfl (by decide)) ?_;refine .t2 (aB mW rfl (hv8.g 4 rfl)) (.a2 rfl (.done (Wp.ret ?_)));exact ⟨[_],⟨rfl,trivial⟩,⟨_,rfl,hv7⟩,hx⟩
theorem Az (hC : Cx w0 tv aG) (hD : ∀ m,m < n → DN w0 tv aG m) {b0 : Nat} (a : Var w b0 [.pointer (some ⟨bP,0,none⟩)] 80) (c : F b0) {b1 : Nat} (b : Var w b1 [.int .i64 0] 3) (d : F b1) : Clo w0 tv aG n F bP 201 [] [.pointer (some ⟨b0,0,none⟩),.pointer (some ⟨b1,0,none⟩)] w (.seq .bump (.call (.binary 1))) := by
 refine ⟨Tryz.call201,fun w1 hw1 below k s r hp hr hb => ?_⟩;replace a := aE a hw1 c;replace b := aE b hw1 d
 show Cl Tryz.prog 201 #[.pointer (some ⟨b0,0,none⟩),.pointer (some ⟨b1,0,none⟩)] w1 _
 have e := Bw.refl F w1;have f : ∀ z,F z → F z := fun z h => h;have i := hp.base;refine Cl.enter Tryz.func201 rfl Tryz.ntmps201 rfl rfl (.sr (.t2 (aB aL rfl (a.g 0 rfl)) ?_));obtain ⟨s1,h1a,h1b⟩ := aI hr;refine Rg.wd trivial (aC Tryz.call80 rfl (cJ hC hp h1a (aH h1b hb))) rfl ?_;rintro _ w1 ⟨hp1,hb1⟩;replace a := aE a hb1 c;replace b := aE b hb1 d;replace e := e.trans (hb1.sub f);clear hp;have hp := hp1;clear hp1;refine .done (Wp.region (.t2 (aB aL rfl (a.g 0 rfl)) (.t2 (aB bA rfl (b.g 0 rfl)) ?_)))
 first | refine .tq (bC rfl rfl (by omega)) rfl ?_ | refine .tq (bV rfl rfl) rfl ?_
 refine Rg.wd trivial (aC Tryz.call172 rfl (bG hD hp h1b hb)) rfl ?_;rintro _ w2 ⟨hst,hp1,hb2⟩;replace a := aE a hb2 c;replace b := aE b hb2 d;replace e := e.trans (hb2.sub f);clear hp;have hp := hp1;clear hp1;refine .done ?_;exact ⟨[],trivial,hp.sub f i,e⟩
theorem xN (hC : Cx w0 tv aG) (hD : ∀ m,m < n → DN w0 tv aG m) (hp : Ps w0 tv aG F w bP below k s) (hr : run body n (body (.binary 0)) s = some r) (hb : r.adds ≤ fR) :
  Cl Tryz.prog 172 #[.pointer (some ⟨bP,0,none⟩),.int .i64 0] w (fun u w' => ((Nm.binary 0) = Nm.statement → u = .bool r.flag) ∧ Ps w0 tv aG F w' bP below k r ∧ Bw F w w') := by
 have e := Bw.refl F w;have d : ∀ z,F z → F z := fun z h => h;have x := hp.base;have hr : run body n (.seq (.call (.binary 1)) (.loop (cE [⟨#[124,124]⟩]) (.wrap 39 (.seq .bump (.call (.binary 1)))))) s = some r := hr;refine Cl.enter Tryz.func172 rfl Tryz.ntmps172 rfl rfl (.sr (Rg.wd trivial (aW rfl rfl) rfl ?_));rintro _ w1 ⟨o,rfl,t,hx1,a⟩;replace e := bS e hp.und d hx1;obtain ⟨y,hp1,c,hs1⟩ := hp.box hx1 t a.lt;clear hp;have hp := hp1;clear hp1;replace d := fun z hz => hs1 z (d z hz);refine Rg.wd trivial (aW rfl rfl) rfl ?_;rintro _ w2 ⟨p,rfl,v,hx2,b⟩;replace e := bS e hp.und d hx2;obtain ⟨l,hp1,f,hs2⟩ := hp.box hx2 v b.lt;clear hp;have hp := hp1;clear hp1;replace d := fun z hz => hs2 z (d z hz);replace a := a.ext hx2;replace c := hs2 _ c;refine .done (.seq (.sr (.t2 (aB bA rfl (b.g 0 rfl)) ?_)));refine .t2 (aR rfl rfl (by decide)) ?_;refine .done (.condF rfl (Wp.skip (.sr (.t2 (aB aL rfl (a.g 0 rfl)) (.t2 (aB bA rfl (b.g 0 rfl)) ?_)))))
 first | refine .tq (bC rfl rfl (by omega)) rfl ?_ | refine .tq (bV rfl rfl) rfl ?_
 obtain ⟨s1,h1a,h1b⟩ := aI hr;refine Rg.wd trivial (aC Tryz.call172 rfl (bG hD hp h1a (aH h1b hb))) rfl ?_;rintro _ w3 ⟨hst,hp1,hb3⟩;replace a := aE a hb3 c;replace b := aE b hb3 f;replace e := e.trans (hb3.sub d);clear hp;have hp := hp1;clear hp1;refine .done (Wp.block ?_);refine Wp.loop (ι := S × Nat) (fun _ => [(2,.pointer (some ⟨o,0,none⟩)),(3,.pointer (some ⟨p,0,none⟩)),(0,.pointer (some ⟨bP,0,none⟩)),(1,.int .i64 0)])
  (fun i w' => Ps w0 tv aG l w' bP below k i.1 ∧ Bw l w3 w' ∧ run body i.2 (.loop (cE [⟨#[124,124]⟩]) (.wrap 39 (.seq .bump (.call (.binary 1))))) i.1 = some r ∧ i.2 ≤ n) (fun i => i.2) (s1,n) (by repeat (first | exact .nil | refine .cons rfl ?_)) ⟨hp,Bw.refl _ _,h1b,Nat.le_refl _⟩ ?_
 clear hp;rintro ⟨s',m⟩ wl ⟨hp,hbl,hrun,hmn⟩;simp only at hp hrun hmn;replace e := e.trans (hbl.sub d);replace a := aE a hbl c;replace b := aE b hbl f;refine .seq ?_
 cases q : (aV [⟨#[124,124]⟩] (aO s'.rem)) with
 | true =>
  obtain ⟨m1,s2,rfl,hbody,hrest⟩ := dP hrun q;replace hbody := dT hmn hbody;refine Wp.seq (Wp.draw [0,1,2,3] [] mixed (by kernel_rfl) (by kernel_rfl) ?_);intro w4 hx4 _;replace hbl := hbl.trans (Bw.of hx4 hp.und);replace e := bS e hp.und d hx4;replace hp := hp.extw hx4;replace a := a.ext hx4;replace b := b.ext hx4;refine .t2 (aB aL rfl (a.g 0 rfl)) (.t2 (aB bA rfl (b.g 0 rfl)) (Rg.wdB trivial rfl (aC Tryz.call199 rfl G8) rfl (fun _ _ h => h.2) ?_));rintro _ w5 ⟨⟨bt14,rfl,j⟩,hx5⟩;replace hbl := hbl.trans (Bw.of hx5 hp.und);replace e := bS e hp.und d hx5;replace hp := hp.extw hx5;replace a := a.ext hx5;replace b := b.ext hx5;refine Rg.wdB trivial rfl (aC Tryz.call73 rfl (bD hC hp (texts := [⟨#[124,124]⟩]) j (by decide))) rfl (fun _ _ h => h.2) ?_;rintro _ w6 ⟨rfl,hx6⟩;replace hbl := hbl.trans (Bw.of hx6 hp.und);replace e := bS e hp.und d hx6;replace hp := hp.extw hx6;replace a := a.ext hx6;replace b := b.ext hx6
  try replace j := j.ext hx6
  rw [show (aV [⟨#[124,124]⟩] (aO s'.rem)) = true from q];refine .done (.condT rfl (Wp.skip (Wp.block (.sr (.t2 (aB aL rfl (a.g 0 rfl)) (.t2 (aM (us := []) (vs := [.pointer (some ⟨o,0,none⟩),.pointer (some ⟨p,0,none⟩)]) rfl rfl) (Rg.wd trivial (aC Tryz.call200 rfl (gN hp (Az hC hD a c b f) hbody (aH hrest hb))) rfl ?_)))))));rintro _ w7 ⟨hp1,hb7⟩;replace hbl := hbl.trans hb7;replace a := aE a hb7 c;replace b := aE b hb7 f;replace e := e.trans (hb7.sub d);clear hp;have hp := hp1;clear hp1;refine .done (.sr (.t2 (aB bA rfl (b.g 0 rfl)) ?_));refine .t2 (aR rfl rfl (by decide)) ?_;refine .done (.condF rfl (Wp.skip ?_));exact ⟨(s2,m1),by repeat (first | exact .nil | refine .cons rfl ?_),⟨hp,hbl,hrest,by simp only; omega⟩,by simp only; omega⟩
 | false =>
  obtain rfl := cL hrun q;refine Wp.seq (Wp.draw [0,1,2,3] [] mixed (by kernel_rfl) (by kernel_rfl) ?_);intro w4 hx4 _;replace e := bS e hp.und d hx4;replace hp := hp.extw hx4;replace a := a.ext hx4;replace b := b.ext hx4;refine .t2 (aB aL rfl (a.g 0 rfl)) (.t2 (aB bA rfl (b.g 0 rfl)) (Rg.wdB trivial rfl (aC Tryz.call199 rfl G8) rfl (fun _ _ h => h.2) ?_));rintro _ w5 ⟨⟨bt14,rfl,j⟩,hx5⟩;replace e := bS e hp.und d hx5;replace hp := hp.extw hx5;replace a := a.ext hx5;replace b := b.ext hx5;refine Rg.wdB trivial rfl (aC Tryz.call73 rfl (bD hC hp (texts := [⟨#[124,124]⟩]) j (by decide))) rfl (fun _ _ h => h.2) ?_;rintro _ w6 ⟨rfl,hx6⟩;replace e := bS e hp.und d hx6;replace hp := hp.extw hx6;replace a := a.ext hx6;replace b := b.ext hx6
  try replace j := j.ext hx6
  rw [show (aV [⟨#[124,124]⟩] (aO r.rem)) = false from q];refine .done (.condF rfl (Wp.exit ?_));exact ⟨[],trivial,(fun h => by cases h),hp.sub d x,e⟩
theorem A0 (hC : Cx w0 tv aG) (hD : ∀ m,m < n → DN w0 tv aG m) {b0 : Nat} (a : Var w b0 [.pointer (some ⟨bP,0,none⟩)] 80) (c : F b0) {b1 : Nat} (b : Var w b1 [.int .i64 1] 3) (d : F b1) : Clo w0 tv aG n F bP 201 [] [.pointer (some ⟨b0,0,none⟩),.pointer (some ⟨b1,0,none⟩)] w (.seq .bump (.call (.binary 2))) := by
 refine ⟨Tryz.call201,fun w1 hw1 below k s r hp hr hb => ?_⟩;replace a := aE a hw1 c;replace b := aE b hw1 d
 show Cl Tryz.prog 201 #[.pointer (some ⟨b0,0,none⟩),.pointer (some ⟨b1,0,none⟩)] w1 _
 have e := Bw.refl F w1;have f : ∀ z,F z → F z := fun z h => h;have i := hp.base;refine Cl.enter Tryz.func201 rfl Tryz.ntmps201 rfl rfl (.sr (.t2 (aB aL rfl (a.g 0 rfl)) ?_));obtain ⟨s1,h1a,h1b⟩ := aI hr;refine Rg.wd trivial (aC Tryz.call80 rfl (cJ hC hp h1a (aH h1b hb))) rfl ?_;rintro _ w1 ⟨hp1,hb1⟩;replace a := aE a hb1 c;replace b := aE b hb1 d;replace e := e.trans (hb1.sub f);clear hp;have hp := hp1;clear hp1;refine .done (Wp.region (.t2 (aB aL rfl (a.g 0 rfl)) (.t2 (aB bA rfl (b.g 0 rfl)) ?_)))
 first | refine .tq (bC rfl rfl (by omega)) rfl ?_ | refine .tq (bV rfl rfl) rfl ?_
 refine Rg.wd trivial (aC Tryz.call172 rfl (bG hD hp h1b hb)) rfl ?_;rintro _ w2 ⟨hst,hp1,hb2⟩;replace a := aE a hb2 c;replace b := aE b hb2 d;replace e := e.trans (hb2.sub f);clear hp;have hp := hp1;clear hp1;refine .done ?_;exact ⟨[],trivial,hp.sub f i,e⟩
theorem xO (hC : Cx w0 tv aG) (hD : ∀ m,m < n → DN w0 tv aG m) (hp : Ps w0 tv aG F w bP below k s) (hr : run body n (body (.binary 1)) s = some r) (hb : r.adds ≤ fR) :
  Cl Tryz.prog 172 #[.pointer (some ⟨bP,0,none⟩),.int .i64 1] w (fun u w' => ((Nm.binary 1) = Nm.statement → u = .bool r.flag) ∧ Ps w0 tv aG F w' bP below k r ∧ Bw F w w') := by
 have e := Bw.refl F w;have d : ∀ z,F z → F z := fun z h => h;have x := hp.base;have hr : run body n (.seq (.call (.binary 2)) (.loop (cE [⟨#[38,38]⟩]) (.wrap 39 (.seq .bump (.call (.binary 2)))))) s = some r := hr;refine Cl.enter Tryz.func172 rfl Tryz.ntmps172 rfl rfl (.sr (Rg.wd trivial (aW rfl rfl) rfl ?_));rintro _ w1 ⟨o,rfl,t,hx1,a⟩;replace e := bS e hp.und d hx1;obtain ⟨y,hp1,c,hs1⟩ := hp.box hx1 t a.lt;clear hp;have hp := hp1;clear hp1;replace d := fun z hz => hs1 z (d z hz);refine Rg.wd trivial (aW rfl rfl) rfl ?_;rintro _ w2 ⟨p,rfl,v,hx2,b⟩;replace e := bS e hp.und d hx2;obtain ⟨l,hp1,f,hs2⟩ := hp.box hx2 v b.lt;clear hp;have hp := hp1;clear hp1;replace d := fun z hz => hs2 z (d z hz);replace a := a.ext hx2;replace c := hs2 _ c;refine .done (.seq (.sr (.t2 (aB bA rfl (b.g 0 rfl)) ?_)));refine .t2 (aR rfl rfl (by decide)) ?_;refine .done (.condF rfl (Wp.skip (.sr (.t2 (aB aL rfl (a.g 0 rfl)) (.t2 (aB bA rfl (b.g 0 rfl)) ?_)))))
 first | refine .tq (bC rfl rfl (by omega)) rfl ?_ | refine .tq (bV rfl rfl) rfl ?_
 obtain ⟨s1,h1a,h1b⟩ := aI hr;refine Rg.wd trivial (aC Tryz.call172 rfl (bG hD hp h1a (aH h1b hb))) rfl ?_;rintro _ w3 ⟨hst,hp1,hb3⟩;replace a := aE a hb3 c;replace b := aE b hb3 f;replace e := e.trans (hb3.sub d);clear hp;have hp := hp1;clear hp1;refine .done (Wp.block ?_);refine Wp.loop (ι := S × Nat) (fun _ => [(2,.pointer (some ⟨o,0,none⟩)),(3,.pointer (some ⟨p,0,none⟩)),(0,.pointer (some ⟨bP,0,none⟩)),(1,.int .i64 1)])
  (fun i w' => Ps w0 tv aG l w' bP below k i.1 ∧ Bw l w3 w' ∧ run body i.2 (.loop (cE [⟨#[38,38]⟩]) (.wrap 39 (.seq .bump (.call (.binary 2))))) i.1 = some r ∧ i.2 ≤ n) (fun i => i.2) (s1,n) (by repeat (first | exact .nil | refine .cons rfl ?_)) ⟨hp,Bw.refl _ _,h1b,Nat.le_refl _⟩ ?_
 clear hp;rintro ⟨s',m⟩ wl ⟨hp,hbl,hrun,hmn⟩;simp only at hp hrun hmn;replace e := e.trans (hbl.sub d);replace a := aE a hbl c;replace b := aE b hbl f;refine .seq ?_
 cases q : (aV [⟨#[38,38]⟩] (aO s'.rem)) with
 | true =>
  obtain ⟨m1,s2,rfl,hbody,hrest⟩ := dP hrun q;replace hbody := dT hmn hbody;refine Wp.seq (Wp.draw [0,1,2,3] [] mixed (by kernel_rfl) (by kernel_rfl) ?_);intro w4 hx4 _;replace hbl := hbl.trans (Bw.of hx4 hp.und);replace e := bS e hp.und d hx4;replace hp := hp.extw hx4;replace a := a.ext hx4;replace b := b.ext hx4;refine .t2 (aB aL rfl (a.g 0 rfl)) (.t2 (aB bA rfl (b.g 0 rfl)) (Rg.wdB trivial rfl (aC Tryz.call199 rfl G9) rfl (fun _ _ h => h.2) ?_));rintro _ w5 ⟨⟨bt14,rfl,j⟩,hx5⟩;replace hbl := hbl.trans (Bw.of hx5 hp.und);replace e := bS e hp.und d hx5;replace hp := hp.extw hx5;replace a := a.ext hx5;replace b := b.ext hx5;refine Rg.wdB trivial rfl (aC Tryz.call73 rfl (bD hC hp (texts := [⟨#[38,38]⟩]) j (by decide))) rfl (fun _ _ h => h.2) ?_;rintro _ w6 ⟨rfl,hx6⟩;replace hbl := hbl.trans (Bw.of hx6 hp.und);replace e := bS e hp.und d hx6;replace hp := hp.extw hx6;replace a := a.ext hx6;replace b := b.ext hx6
  try replace j := j.ext hx6
  rw [show (aV [⟨#[38,38]⟩] (aO s'.rem)) = true from q];refine .done (.condT rfl (Wp.skip (Wp.block (.sr (.t2 (aB aL rfl (a.g 0 rfl)) (.t2 (aM (us := []) (vs := [.pointer (some ⟨o,0,none⟩),.pointer (some ⟨p,0,none⟩)]) rfl rfl) (Rg.wd trivial (aC Tryz.call200 rfl (gN hp (A0 hC hD a c b f) hbody (aH hrest hb))) rfl ?_)))))));rintro _ w7 ⟨hp1,hb7⟩;replace hbl := hbl.trans hb7;replace a := aE a hb7 c;replace b := aE b hb7 f;replace e := e.trans (hb7.sub d);clear hp;have hp := hp1;clear hp1;refine .done (.sr (.t2 (aB bA rfl (b.g 0 rfl)) ?_));refine .t2 (aR rfl rfl (by decide)) ?_;refine .done (.condF rfl (Wp.skip ?_));exact ⟨(s2,m1),by repeat (first | exact .nil | refine .cons rfl ?_),⟨hp,hbl,hrest,by simp only; omega⟩,by simp only; omega⟩
 | false =>
  obtain rfl := cL hrun q;refine Wp.seq (Wp.draw [0,1,2,3] [] mixed (by kernel_rfl) (by kernel_rfl) ?_);intro w4 hx4 _;replace e := bS e hp.und d hx4;replace hp := hp.extw hx4;replace a := a.ext hx4;replace b := b.ext hx4;refine .t2 (aB aL rfl (a.g 0 rfl)) (.t2 (aB bA rfl (b.g 0 rfl)) (Rg.wdB trivial rfl (aC Tryz.call199 rfl G9) rfl (fun _ _ h => h.2) ?_));rintro _ w5 ⟨⟨bt14,rfl,j⟩,hx5⟩;replace e := bS e hp.und d hx5;replace hp := hp.extw hx5;replace a := a.ext hx5;replace b := b.ext hx5;refine Rg.wdB trivial rfl (aC Tryz.call73 rfl (bD hC hp (texts := [⟨#[38,38]⟩]) j (by decide))) rfl (fun _ _ h => h.2) ?_;rintro _ w6 ⟨rfl,hx6⟩;replace e := bS e hp.und d hx6;replace hp := hp.extw hx6;replace a := a.ext hx6;replace b := b.ext hx6
  try replace j := j.ext hx6
  rw [show (aV [⟨#[38,38]⟩] (aO r.rem)) = false from q];refine .done (.condF rfl (Wp.exit ?_));exact ⟨[],trivial,(fun h => by cases h),hp.sub d x,e⟩
theorem A2 (hC : Cx w0 tv aG) (hD : ∀ m,m < n → DN w0 tv aG m) {b0 : Nat} (a : Var w b0 [.pointer (some ⟨bP,0,none⟩)] 80) (c : F b0) {b1 : Nat} (b : Var w b1 [.int .i64 2] 3) (d : F b1) : Clo w0 tv aG n F bP 201 [] [.pointer (some ⟨b0,0,none⟩),.pointer (some ⟨b1,0,none⟩)] w (.seq .bump (.call (.binary 3))) := by
 refine ⟨Tryz.call201,fun w1 hw1 below k s r hp hr hb => ?_⟩;replace a := aE a hw1 c;replace b := aE b hw1 d
 show Cl Tryz.prog 201 #[.pointer (some ⟨b0,0,none⟩),.pointer (some ⟨b1,0,none⟩)] w1 _
 have e := Bw.refl F w1;have f : ∀ z,F z → F z := fun z h => h;have i := hp.base;refine Cl.enter Tryz.func201 rfl Tryz.ntmps201 rfl rfl (.sr (.t2 (aB aL rfl (a.g 0 rfl)) ?_));obtain ⟨s1,h1a,h1b⟩ := aI hr;refine Rg.wd trivial (aC Tryz.call80 rfl (cJ hC hp h1a (aH h1b hb))) rfl ?_;rintro _ w1 ⟨hp1,hb1⟩;replace a := aE a hb1 c;replace b := aE b hb1 d;replace e := e.trans (hb1.sub f);clear hp;have hp := hp1;clear hp1;refine .done (Wp.region (.t2 (aB aL rfl (a.g 0 rfl)) (.t2 (aB bA rfl (b.g 0 rfl)) ?_)))
 first | refine .tq (bC rfl rfl (by omega)) rfl ?_ | refine .tq (bV rfl rfl) rfl ?_
 refine Rg.wd trivial (aC Tryz.call172 rfl (bG hD hp h1b hb)) rfl ?_;rintro _ w2 ⟨hst,hp1,hb2⟩;replace a := aE a hb2 c;replace b := aE b hb2 d;replace e := e.trans (hb2.sub f);clear hp;have hp := hp1;clear hp1;refine .done ?_;exact ⟨[],trivial,hp.sub f i,e⟩
theorem xP (hC : Cx w0 tv aG) (hD : ∀ m,m < n → DN w0 tv aG m) (hp : Ps w0 tv aG F w bP below k s) (hr : run body n (body (.binary 2)) s = some r) (hb : r.adds ≤ fR) :
  Cl Tryz.prog 172 #[.pointer (some ⟨bP,0,none⟩),.int .i64 2] w (fun u w' => ((Nm.binary 2) = Nm.statement → u = .bool r.flag) ∧ Ps w0 tv aG F w' bP below k r ∧ Bw F w w') := by
 have e := Bw.refl F w;have d : ∀ z,F z → F z := fun z h => h;have v := hp.base;have hr : run body n (.seq (.call (.binary 3)) (.cond (cE [⟨#[61,61]⟩,⟨#[60]⟩]) (.wrap 39 (.seq .bump (.call (.binary 3)))) .skip)) s = some r := hr;refine Cl.enter Tryz.func172 rfl Tryz.ntmps172 rfl rfl (.sr (Rg.wd trivial (aW rfl rfl) rfl ?_));rintro _ w1 ⟨l,rfl,q,hx1,a⟩;replace e := bS e hp.und d hx1;obtain ⟨x,hp1,c,hs1⟩ := hp.box hx1 q a.lt;clear hp;have hp := hp1;clear hp1;replace d := fun z hz => hs1 z (d z hz);refine Rg.wd trivial (aW rfl rfl) rfl ?_;rintro _ w2 ⟨o,rfl,t,hx2,b⟩;replace e := bS e hp.und d hx2;obtain ⟨j,hp1,f,hs2⟩ := hp.box hx2 t b.lt;clear hp;have hp := hp1;clear hp1;replace d := fun z hz => hs2 z (d z hz);replace a := a.ext hx2;replace c := hs2 _ c;refine .done (.seq (.sr (.t2 (aB bA rfl (b.g 0 rfl)) ?_)));refine .t2 (aR rfl rfl (by decide)) ?_;refine .done (.condF rfl (Wp.skip (.sr (.t2 (aB aL rfl (a.g 0 rfl)) (.t2 (aB bA rfl (b.g 0 rfl)) ?_)))))
 first | refine .tq (bC rfl rfl (by omega)) rfl ?_ | refine .tq (bV rfl rfl) rfl ?_
 obtain ⟨s1,h1a,h1b⟩ := aI hr;refine Rg.wd trivial (aC Tryz.call172 rfl (bG hD hp h1a (aH h1b hb))) rfl ?_;rintro _ w3 ⟨hst,hp1,hb3⟩;replace a := aE a hb3 c;replace b := aE b hb3 f;replace e := e.trans (hb3.sub d);clear hp;have hp := hp1;clear hp1;refine .done (Wp.block ?_);refine Wp.loop (ι := Unit) (fun _ => [(2,.pointer (some ⟨l,0,none⟩)),(3,.pointer (some ⟨o,0,none⟩))]) (fun _ w' => Ps w0 tv aG j w' bP below k s1 ∧ Bw j w3 w') (fun _ => 0) () (by repeat (first | exact .nil | refine .cons rfl ?_)) ⟨hp,Bw.refl _ _⟩ ?_;clear hp;rintro _ wl ⟨hp,hbl⟩;replace e := e.trans (hbl.sub d);replace a := aE a hbl c;replace b := aE b hbl f;refine .seq ?_
 cases p : (aV [⟨#[61,61]⟩,⟨#[60]⟩] (aO s1.rem)) with
 | true =>
  have hq2 := aX h1b p;refine Wp.seq (Wp.draw [0,1,2,3] [] mixed (by kernel_rfl) (by kernel_rfl) ?_);intro w4 hx4 _;replace hbl := hbl.trans (Bw.of hx4 hp.und);replace e := bS e hp.und d hx4;replace hp := hp.extw hx4;replace a := a.ext hx4;replace b := b.ext hx4;refine .t2 (aB aL rfl (a.g 0 rfl)) (.t2 (aB bA rfl (b.g 0 rfl)) (Rg.wdB trivial rfl (aC Tryz.call199 rfl Ha) rfl (fun _ _ h => h.2) ?_));rintro _ w5 ⟨⟨bt14,rfl,i⟩,hx5⟩;replace hbl := hbl.trans (Bw.of hx5 hp.und);replace e := bS e hp.und d hx5;replace hp := hp.extw hx5;replace a := a.ext hx5;replace b := b.ext hx5;refine Rg.wdB trivial rfl (aC Tryz.call73 rfl (bD hC hp (texts := [⟨#[61,61]⟩,⟨#[60]⟩]) i (by decide))) rfl (fun _ _ h => h.2) ?_;rintro _ w6 ⟨rfl,hx6⟩;replace hbl := hbl.trans (Bw.of hx6 hp.und);replace e := bS e hp.und d hx6;replace hp := hp.extw hx6;replace a := a.ext hx6;replace b := b.ext hx6
  try replace i := i.ext hx6
  rw [show (aV [⟨#[61,61]⟩,⟨#[60]⟩] (aO s1.rem)) = true from p];refine .done (.condT rfl (Wp.skip (Wp.block (.sr (.t2 (aB aL rfl (a.g 0 rfl)) (.t2 (aM (us := []) (vs := [.pointer (some ⟨l,0,none⟩),.pointer (some ⟨o,0,none⟩)]) rfl rfl) (Rg.wd trivial (aC Tryz.call200 rfl (gN hp (A2 hC hD a c b f) hq2 hb)) rfl ?_)))))));rintro _ w7 ⟨hp1,hb7⟩;replace hbl := hbl.trans hb7;replace a := aE a hb7 c;replace b := aE b hb7 f;replace e := e.trans (hb7.sub d);clear hp;have hp := hp1;clear hp1;refine .done (.sr (.t2 (aB bA rfl (b.g 0 rfl)) ?_));refine .t2 (aS rfl rfl (by decide)) ?_;refine .done (.condT rfl (Wp.ret ?_));exact ⟨[],trivial,(fun h => by cases h),hp.sub d v,e⟩
 | false =>
  have hq2 := aU h1b p;obtain rfl := cI hq2;refine Wp.seq (Wp.draw [0,1,2,3] [] mixed (by kernel_rfl) (by kernel_rfl) ?_);intro w4 hx4 _;replace hbl := hbl.trans (Bw.of hx4 hp.und);replace e := bS e hp.und d hx4;replace hp := hp.extw hx4;replace a := a.ext hx4;replace b := b.ext hx4;refine .t2 (aB aL rfl (a.g 0 rfl)) (.t2 (aB bA rfl (b.g 0 rfl)) (Rg.wdB trivial rfl (aC Tryz.call199 rfl Ha) rfl (fun _ _ h => h.2) ?_));rintro _ w5 ⟨⟨bt14,rfl,i⟩,hx5⟩;replace hbl := hbl.trans (Bw.of hx5 hp.und);replace e := bS e hp.und d hx5;replace hp := hp.extw hx5;replace a := a.ext hx5;replace b := b.ext hx5;refine Rg.wdB trivial rfl (aC Tryz.call73 rfl (bD hC hp (texts := [⟨#[61,61]⟩,⟨#[60]⟩]) i (by decide))) rfl (fun _ _ h => h.2) ?_;rintro _ w6 ⟨rfl,hx6⟩;replace hbl := hbl.trans (Bw.of hx6 hp.und);replace e := bS e hp.und d hx6;replace hp := hp.extw hx6;replace a := a.ext hx6;replace b := b.ext hx6
  try replace i := i.ext hx6
  rw [show (aV [⟨#[61,61]⟩,⟨#[60]⟩] (aO r.rem)) = false from p];refine .done (.condF rfl (Wp.exit ?_));exact ⟨[],trivial,(fun h => by cases h),hp.sub d v,e⟩
theorem A3 (hC : Cx w0 tv aG) (hD : ∀ m,m < n → DN w0 tv aG m) {b0 : Nat} (a : Var w b0 [.pointer (some ⟨bP,0,none⟩)] 80) (c : F b0) {b1 : Nat} (b : Var w b1 [.int .i64 3] 3) (d : F b1) : Clo w0 tv aG n F bP 201 [] [.pointer (some ⟨b0,0,none⟩),.pointer (some ⟨b1,0,none⟩)] w (.seq .bump (.call (.binary 4))) := by
 refine ⟨Tryz.call201,fun w1 hw1 below k s r hp hr hb => ?_⟩;replace a := aE a hw1 c;replace b := aE b hw1 d
 show Cl Tryz.prog 201 #[.pointer (some ⟨b0,0,none⟩),.pointer (some ⟨b1,0,none⟩)] w1 _
 have e := Bw.refl F w1;have f : ∀ z,F z → F z := fun z h => h;have i := hp.base;refine Cl.enter Tryz.func201 rfl Tryz.ntmps201 rfl rfl (.sr (.t2 (aB aL rfl (a.g 0 rfl)) ?_));obtain ⟨s1,h1a,h1b⟩ := aI hr;refine Rg.wd trivial (aC Tryz.call80 rfl (cJ hC hp h1a (aH h1b hb))) rfl ?_;rintro _ w1 ⟨hp1,hb1⟩;replace a := aE a hb1 c;replace b := aE b hb1 d;replace e := e.trans (hb1.sub f);clear hp;have hp := hp1;clear hp1;refine .done (Wp.region (.t2 (aB aL rfl (a.g 0 rfl)) (.t2 (aB bA rfl (b.g 0 rfl)) ?_)))
 first | refine .tq (bC rfl rfl (by omega)) rfl ?_ | refine .tq (bV rfl rfl) rfl ?_
 refine Rg.wd trivial (aC Tryz.call172 rfl (bG hD hp h1b hb)) rfl ?_;rintro _ w2 ⟨hst,hp1,hb2⟩;replace a := aE a hb2 c;replace b := aE b hb2 d;replace e := e.trans (hb2.sub f);clear hp;have hp := hp1;clear hp1;refine .done ?_;exact ⟨[],trivial,hp.sub f i,e⟩
theorem xQ (hC : Cx w0 tv aG) (hD : ∀ m,m < n → DN w0 tv aG m) (hp : Ps w0 tv aG F w bP below k s) (hr : run body n (body (.binary 3)) s = some r) (hb : r.adds ≤ fR) :
  Cl Tryz.prog 172 #[.pointer (some ⟨bP,0,none⟩),.int .i64 3] w (fun u w' => ((Nm.binary 3) = Nm.statement → u = .bool r.flag) ∧ Ps w0 tv aG F w' bP below k r ∧ Bw F w w') := by
 have e := Bw.refl F w;have d : ∀ z,F z → F z := fun z h => h;have x := hp.base;have hr : run body n (.seq (.call (.binary 4)) (.loop (cE [⟨#[43]⟩,⟨#[45]⟩]) (.wrap 39 (.seq .bump (.call (.binary 4)))))) s = some r := hr;refine Cl.enter Tryz.func172 rfl Tryz.ntmps172 rfl rfl (.sr (Rg.wd trivial (aW rfl rfl) rfl ?_));rintro _ w1 ⟨o,rfl,t,hx1,a⟩;replace e := bS e hp.und d hx1;obtain ⟨y,hp1,c,hs1⟩ := hp.box hx1 t a.lt;clear hp;have hp := hp1;clear hp1;replace d := fun z hz => hs1 z (d z hz);refine Rg.wd trivial (aW rfl rfl) rfl ?_;rintro _ w2 ⟨p,rfl,v,hx2,b⟩;replace e := bS e hp.und d hx2;obtain ⟨l,hp1,f,hs2⟩ := hp.box hx2 v b.lt;clear hp;have hp := hp1;clear hp1;replace d := fun z hz => hs2 z (d z hz);replace a := a.ext hx2;replace c := hs2 _ c;refine .done (.seq (.sr (.t2 (aB bA rfl (b.g 0 rfl)) ?_)));refine .t2 (aR rfl rfl (by decide)) ?_;refine .done (.condF rfl (Wp.skip (.sr (.t2 (aB aL rfl (a.g 0 rfl)) (.t2 (aB bA rfl (b.g 0 rfl)) ?_)))))
 first | refine .tq (bC rfl rfl (by omega)) rfl ?_ | refine .tq (bV rfl rfl) rfl ?_
 obtain ⟨s1,h1a,h1b⟩ := aI hr;refine Rg.wd trivial (aC Tryz.call172 rfl (bG hD hp h1a (aH h1b hb))) rfl ?_;rintro _ w3 ⟨hst,hp1,hb3⟩;replace a := aE a hb3 c;replace b := aE b hb3 f;replace e := e.trans (hb3.sub d);clear hp;have hp := hp1;clear hp1;refine .done (Wp.block ?_);refine Wp.loop (ι := S × Nat) (fun _ => [(2,.pointer (some ⟨o,0,none⟩)),(3,.pointer (some ⟨p,0,none⟩)),(0,.pointer (some ⟨bP,0,none⟩)),(1,.int .i64 3)])
  (fun i w' => Ps w0 tv aG l w' bP below k i.1 ∧ Bw l w3 w' ∧ run body i.2 (.loop (cE [⟨#[43]⟩,⟨#[45]⟩]) (.wrap 39 (.seq .bump (.call (.binary 4))))) i.1 = some r ∧ i.2 ≤ n) (fun i => i.2) (s1,n) (by repeat (first | exact .nil | refine .cons rfl ?_)) ⟨hp,Bw.refl _ _,h1b,Nat.le_refl _⟩ ?_
 clear hp;rintro ⟨s',m⟩ wl ⟨hp,hbl,hrun,hmn⟩;simp only at hp hrun hmn;replace e := e.trans (hbl.sub d);replace a := aE a hbl c;replace b := aE b hbl f;refine .seq ?_
 cases q : (aV [⟨#[43]⟩,⟨#[45]⟩] (aO s'.rem)) with
 | true =>
  obtain ⟨m1,s2,rfl,hbody,hrest⟩ := dP hrun q;replace hbody := dT hmn hbody;refine Wp.seq (Wp.draw [0,1,2,3] [] mixed (by kernel_rfl) (by kernel_rfl) ?_);intro w4 hx4 _;replace hbl := hbl.trans (Bw.of hx4 hp.und);replace e := bS e hp.und d hx4;replace hp := hp.extw hx4;replace a := a.ext hx4;replace b := b.ext hx4;refine .t2 (aB aL rfl (a.g 0 rfl)) (.t2 (aB bA rfl (b.g 0 rfl)) (Rg.wdB trivial rfl (aC Tryz.call199 rfl Hb) rfl (fun _ _ h => h.2) ?_));rintro _ w5 ⟨⟨bt14,rfl,j⟩,hx5⟩;replace hbl := hbl.trans (Bw.of hx5 hp.und);replace e := bS e hp.und d hx5;replace hp := hp.extw hx5;replace a := a.ext hx5;replace b := b.ext hx5;refine Rg.wdB trivial rfl (aC Tryz.call73 rfl (bD hC hp (texts := [⟨#[43]⟩,⟨#[45]⟩]) j (by decide))) rfl (fun _ _ h => h.2) ?_;rintro _ w6 ⟨rfl,hx6⟩;replace hbl := hbl.trans (Bw.of hx6 hp.und);replace e := bS e hp.und d hx6;replace hp := hp.extw hx6;replace a := a.ext hx6;replace b := b.ext hx6
  try replace j := j.ext hx6
  rw [show (aV [⟨#[43]⟩,⟨#[45]⟩] (aO s'.rem)) = true from q];refine .done (.condT rfl (Wp.skip (Wp.block (.sr (.t2 (aB aL rfl (a.g 0 rfl)) (.t2 (aM (us := []) (vs := [.pointer (some ⟨o,0,none⟩),.pointer (some ⟨p,0,none⟩)]) rfl rfl) (Rg.wd trivial (aC Tryz.call200 rfl (gN hp (A3 hC hD a c b f) hbody (aH hrest hb))) rfl ?_)))))));rintro _ w7 ⟨hp1,hb7⟩;replace hbl := hbl.trans hb7;replace a := aE a hb7 c;replace b := aE b hb7 f;replace e := e.trans (hb7.sub d);clear hp;have hp := hp1;clear hp1;refine .done (.sr (.t2 (aB bA rfl (b.g 0 rfl)) ?_));refine .t2 (aR rfl rfl (by decide)) ?_;refine .done (.condF rfl (Wp.skip ?_));exact ⟨(s2,m1),by repeat (first | exact .nil | refine .cons rfl ?_),⟨hp,hbl,hrest,by simp only; omega⟩,by simp only; omega⟩
 | false =>
  obtain rfl := cL hrun q;refine Wp.seq (Wp.draw [0,1,2,3] [] mixed (by kernel_rfl) (by kernel_rfl) ?_);intro w4 hx4 _;replace e := bS e hp.und d hx4;replace hp := hp.extw hx4;replace a := a.ext hx4;replace b := b.ext hx4;refine .t2 (aB aL rfl (a.g 0 rfl)) (.t2 (aB bA rfl (b.g 0 rfl)) (Rg.wdB trivial rfl (aC Tryz.call199 rfl Hb) rfl (fun _ _ h => h.2) ?_));rintro _ w5 ⟨⟨bt14,rfl,j⟩,hx5⟩;replace e := bS e hp.und d hx5;replace hp := hp.extw hx5;replace a := a.ext hx5;replace b := b.ext hx5;refine Rg.wdB trivial rfl (aC Tryz.call73 rfl (bD hC hp (texts := [⟨#[43]⟩,⟨#[45]⟩]) j (by decide))) rfl (fun _ _ h => h.2) ?_;rintro _ w6 ⟨rfl,hx6⟩;replace e := bS e hp.und d hx6;replace hp := hp.extw hx6;replace a := a.ext hx6;replace b := b.ext hx6
  try replace j := j.ext hx6
  rw [show (aV [⟨#[43]⟩,⟨#[45]⟩] (aO r.rem)) = false from q];refine .done (.condF rfl (Wp.exit ?_));exact ⟨[],trivial,(fun h => by cases h),hp.sub d x,e⟩
theorem A4 (hC : Cx w0 tv aG) (hD : ∀ m,m < n → DN w0 tv aG m) {b0 : Nat} (a : Var w b0 [.pointer (some ⟨bP,0,none⟩)] 80) (c : F b0) {b1 : Nat} (b : Var w b1 [.int .i64 4] 3) (d : F b1) : Clo w0 tv aG n F bP 201 [] [.pointer (some ⟨b0,0,none⟩),.pointer (some ⟨b1,0,none⟩)] w (.seq .bump (.call (.binary 5))) := by
 refine ⟨Tryz.call201,fun w1 hw1 below k s r hp hr hb => ?_⟩;replace a := aE a hw1 c;replace b := aE b hw1 d
 show Cl Tryz.prog 201 #[.pointer (some ⟨b0,0,none⟩),.pointer (some ⟨b1,0,none⟩)] w1 _
 have e := Bw.refl F w1;have f : ∀ z,F z → F z := fun z h => h;have i := hp.base;refine Cl.enter Tryz.func201 rfl Tryz.ntmps201 rfl rfl (.sr (.t2 (aB aL rfl (a.g 0 rfl)) ?_));obtain ⟨s1,h1a,h1b⟩ := aI hr;refine Rg.wd trivial (aC Tryz.call80 rfl (cJ hC hp h1a (aH h1b hb))) rfl ?_;rintro _ w1 ⟨hp1,hb1⟩;replace a := aE a hb1 c;replace b := aE b hb1 d;replace e := e.trans (hb1.sub f);clear hp;have hp := hp1;clear hp1;refine .done (Wp.region (.t2 (aB aL rfl (a.g 0 rfl)) (.t2 (aB bA rfl (b.g 0 rfl)) ?_)))
 first | refine .tq (bC rfl rfl (by omega)) rfl ?_ | refine .tq (bV rfl rfl) rfl ?_
 refine Rg.wd trivial (aC Tryz.call172 rfl (bG hD hp h1b hb)) rfl ?_;rintro _ w2 ⟨hst,hp1,hb2⟩;replace a := aE a hb2 c;replace b := aE b hb2 d;replace e := e.trans (hb2.sub f);clear hp;have hp := hp1;clear hp1;refine .done ?_;exact ⟨[],trivial,hp.sub f i,e⟩
theorem xR (hC : Cx w0 tv aG) (hD : ∀ m,m < n → DN w0 tv aG m) (hp : Ps w0 tv aG F w bP below k s) (hr : run body n (body (.binary 4)) s = some r) (hb : r.adds ≤ fR) :
  Cl Tryz.prog 172 #[.pointer (some ⟨bP,0,none⟩),.int .i64 4] w (fun u w' => ((Nm.binary 4) = Nm.statement → u = .bool r.flag) ∧ Ps w0 tv aG F w' bP below k r ∧ Bw F w w') := by
 have e := Bw.refl F w;have d : ∀ z,F z → F z := fun z h => h;have x := hp.base;have hr : run body n (.seq (.call (.binary 5)) (.loop (cE [⟨#[42]⟩,⟨#[47]⟩]) (.wrap 39 (.seq .bump (.call (.binary 5)))))) s = some r := hr;refine Cl.enter Tryz.func172 rfl Tryz.ntmps172 rfl rfl (.sr (Rg.wd trivial (aW rfl rfl) rfl ?_));rintro _ w1 ⟨o,rfl,t,hx1,a⟩;replace e := bS e hp.und d hx1;obtain ⟨y,hp1,c,hs1⟩ := hp.box hx1 t a.lt;clear hp;have hp := hp1;clear hp1;replace d := fun z hz => hs1 z (d z hz);refine Rg.wd trivial (aW rfl rfl) rfl ?_;rintro _ w2 ⟨p,rfl,v,hx2,b⟩;replace e := bS e hp.und d hx2;obtain ⟨l,hp1,f,hs2⟩ := hp.box hx2 v b.lt;clear hp;have hp := hp1;clear hp1;replace d := fun z hz => hs2 z (d z hz);replace a := a.ext hx2;replace c := hs2 _ c;refine .done (.seq (.sr (.t2 (aB bA rfl (b.g 0 rfl)) ?_)));refine .t2 (aR rfl rfl (by decide)) ?_;refine .done (.condF rfl (Wp.skip (.sr (.t2 (aB aL rfl (a.g 0 rfl)) (.t2 (aB bA rfl (b.g 0 rfl)) ?_)))))
 first | refine .tq (bC rfl rfl (by omega)) rfl ?_ | refine .tq (bV rfl rfl) rfl ?_
 obtain ⟨s1,h1a,h1b⟩ := aI hr;refine Rg.wd trivial (aC Tryz.call172 rfl (bG hD hp h1a (aH h1b hb))) rfl ?_;rintro _ w3 ⟨hst,hp1,hb3⟩;replace a := aE a hb3 c;replace b := aE b hb3 f;replace e := e.trans (hb3.sub d);clear hp;have hp := hp1;clear hp1;refine .done (Wp.block ?_);refine Wp.loop (ι := S × Nat) (fun _ => [(2,.pointer (some ⟨o,0,none⟩)),(3,.pointer (some ⟨p,0,none⟩)),(0,.pointer (some ⟨bP,0,none⟩)),(1,.int .i64 4)])
  (fun i w' => Ps w0 tv aG l w' bP below k i.1 ∧ Bw l w3 w' ∧ run body i.2 (.loop (cE [⟨#[42]⟩,⟨#[47]⟩]) (.wrap 39 (.seq .bump (.call (.binary 5))))) i.1 = some r ∧ i.2 ≤ n) (fun i => i.2) (s1,n) (by repeat (first | exact .nil | refine .cons rfl ?_)) ⟨hp,Bw.refl _ _,h1b,Nat.le_refl _⟩ ?_
 clear hp;rintro ⟨s',m⟩ wl ⟨hp,hbl,hrun,hmn⟩;simp only at hp hrun hmn;replace e := e.trans (hbl.sub d);replace a := aE a hbl c;replace b := aE b hbl f;refine .seq ?_
 cases q : (aV [⟨#[42]⟩,⟨#[47]⟩] (aO s'.rem)) with
 | true =>
  obtain ⟨m1,s2,rfl,hbody,hrest⟩ := dP hrun q;replace hbody := dT hmn hbody;refine Wp.seq (Wp.draw [0,1,2,3] [] mixed (by kernel_rfl) (by kernel_rfl) ?_);intro w4 hx4 _;replace hbl := hbl.trans (Bw.of hx4 hp.und);replace e := bS e hp.und d hx4;replace hp := hp.extw hx4;replace a := a.ext hx4;replace b := b.ext hx4;refine .t2 (aB aL rfl (a.g 0 rfl)) (.t2 (aB bA rfl (b.g 0 rfl)) (Rg.wdB trivial rfl (aC Tryz.call199 rfl Hc) rfl (fun _ _ h => h.2) ?_));rintro _ w5 ⟨⟨bt14,rfl,j⟩,hx5⟩;replace hbl := hbl.trans (Bw.of hx5 hp.und);replace e := bS e hp.und d hx5;replace hp := hp.extw hx5;replace a := a.ext hx5;replace b := b.ext hx5;refine Rg.wdB trivial rfl (aC Tryz.call73 rfl (bD hC hp (texts := [⟨#[42]⟩,⟨#[47]⟩]) j (by decide))) rfl (fun _ _ h => h.2) ?_;rintro _ w6 ⟨rfl,hx6⟩;replace hbl := hbl.trans (Bw.of hx6 hp.und);replace e := bS e hp.und d hx6;replace hp := hp.extw hx6;replace a := a.ext hx6;replace b := b.ext hx6
  try replace j := j.ext hx6
  rw [show (aV [⟨#[42]⟩,⟨#[47]⟩] (aO s'.rem)) = true from q];refine .done (.condT rfl (Wp.skip (Wp.block (.sr (.t2 (aB aL rfl (a.g 0 rfl)) (.t2 (aM (us := []) (vs := [.pointer (some ⟨o,0,none⟩),.pointer (some ⟨p,0,none⟩)]) rfl rfl) (Rg.wd trivial (aC Tryz.call200 rfl (gN hp (A4 hC hD a c b f) hbody (aH hrest hb))) rfl ?_)))))));rintro _ w7 ⟨hp1,hb7⟩;replace hbl := hbl.trans hb7;replace a := aE a hb7 c;replace b := aE b hb7 f;replace e := e.trans (hb7.sub d);clear hp;have hp := hp1;clear hp1;refine .done (.sr (.t2 (aB bA rfl (b.g 0 rfl)) ?_));refine .t2 (aR rfl rfl (by decide)) ?_;refine .done (.condF rfl (Wp.skip ?_));exact ⟨(s2,m1),by repeat (first | exact .nil | refine .cons rfl ?_),⟨hp,hbl,hrest,by simp only; omega⟩,by simp only; omega⟩
 | false =>
  obtain rfl := cL hrun q;refine Wp.seq (Wp.draw [0,1,2,3] [] mixed (by kernel_rfl) (by kernel_rfl) ?_);intro w4 hx4 _;replace e := bS e hp.und d hx4;replace hp := hp.extw hx4;replace a := a.ext hx4;replace b := b.ext hx4;refine .t2 (aB aL rfl (a.g 0 rfl)) (.t2 (aB bA rfl (b.g 0 rfl)) (Rg.wdB trivial rfl (aC Tryz.call199 rfl Hc) rfl (fun _ _ h => h.2) ?_));rintro _ w5 ⟨⟨bt14,rfl,j⟩,hx5⟩;replace e := bS e hp.und d hx5;replace hp := hp.extw hx5;replace a := a.ext hx5;replace b := b.ext hx5;refine Rg.wdB trivial rfl (aC Tryz.call73 rfl (bD hC hp (texts := [⟨#[42]⟩,⟨#[47]⟩]) j (by decide))) rfl (fun _ _ h => h.2) ?_;rintro _ w6 ⟨rfl,hx6⟩;replace e := bS e hp.und d hx6;replace hp := hp.extw hx6;replace a := a.ext hx6;replace b := b.ext hx6
  try replace j := j.ext hx6
  rw [show (aV [⟨#[42]⟩,⟨#[47]⟩] (aO r.rem)) = false from q];refine .done (.condF rfl (Wp.exit ?_));exact ⟨[],trivial,(fun h => by cases h),hp.sub d x,e⟩
theorem xS (hC : Cx w0 tv aG) (hD : ∀ m,m < n → DN w0 tv aG m) (hp : Ps w0 tv aG F w bP below k s) (hr : run body n (body (.binary 5)) s = some r) (hb : r.adds ≤ fR) :
  Cl Tryz.prog 172 #[.pointer (some ⟨bP,0,none⟩),.int .i64 5] w (fun u w' => ((Nm.binary 5) = Nm.statement → u = .bool r.flag) ∧ Ps w0 tv aG F w' bP below k r ∧ Bw F w w') := by
 have f := Bw.refl F w;have d : ∀ z,F z → F z := fun z h => h;have l := hp.base;have hr : run body n (.call .unary) s = some r := hr;refine Cl.enter Tryz.func172 rfl Tryz.ntmps172 rfl rfl (.sr (Rg.wd trivial (aW rfl rfl) rfl ?_));rintro _ w1 ⟨q,rfl,i,hx1,a⟩;replace f := bS f hp.und d hx1;obtain ⟨o,hp1,c,hs1⟩ := hp.box hx1 i a.lt;clear hp;have hp := hp1;clear hp1;replace d := fun z hz => hs1 z (d z hz);refine Rg.wd trivial (aW rfl rfl) rfl ?_;rintro _ w2 ⟨t,rfl,j,hx2,b⟩;replace f := bS f hp.und d hx2;obtain ⟨p,hp1,e,hs2⟩ := hp.box hx2 j b.lt;clear hp;have hp := hp1;clear hp1;replace d := fun z hz => hs2 z (d z hz);replace a := a.ext hx2;replace c := hs2 _ c;refine .done (.seq (.sr (.t2 (aB bA rfl (b.g 0 rfl)) ?_)));refine .t2 (aS rfl rfl (by decide)) ?_;refine .done (.condT rfl (.sr (.t2 (aB aL rfl (a.g 0 rfl)) (Rg.wd trivial (aC Tryz.call198 rfl (bG hD hp hr hb)) rfl ?_))));rintro _ w3 ⟨hst,hp1,hb3⟩;replace a := aE a hb3 c;replace b := aE b hb3 e;replace f := f.trans (hb3.sub d);clear hp;have hp := hp1;clear hp1;refine .done (Wp.ret ?_);exact ⟨[],trivial,(fun h => by cases h),hp.sub d l,f⟩
theorem F4 (hC : Cx w0 tv aG) (hD : ∀ m,m < n → DN w0 tv aG m) {b0 : Nat} (a : Var w b0 [.pointer (some ⟨bP,0,none⟩)] 80) (e : F b0) : Clo w0 tv aG n F bP 190 [] [.pointer (some ⟨b0,0,none⟩)] w (.seq (Cmd.exp ⟨#[123]⟩) (.seq (.flag false) (.seq (.loop (fun t _ _ f => !f && !aV [⟨#[125]⟩] t && t.1 != 100 && !aV eR t) (.call .statement)) (.seq (.cond (fun _ _ _ f => f) .skip (.leaf 0)) (Cmd.exp ⟨#[125]⟩))))) := by
 refine ⟨Tryz.call190,fun w1 hw1 below k s r hp hr hb => ?_⟩;replace a := aE a hw1 e
 show Cl Tryz.prog 190 #[.pointer (some ⟨b0,0,none⟩)] w1 _
 have b := Bw.refl F w1;have c : ∀ z,F z → F z := fun z h => h;have q := hp.base;refine Cl.enter Tryz.func190 rfl Tryz.ntmps190 rfl rfl (.sr (.t2 (aB aL rfl (a.g 0 rfl)) ?_));obtain ⟨s1,h1a,h1b⟩ := aI hr;refine Rg.wd trivial (aC Tryz.call130 rfl (dI hC hp h1a (aH h1b hb))) rfl ?_;rintro _ w1 ⟨hp1,hb1⟩;replace a := aE a hb1 e;replace b := b.trans (hb1.sub c);clear hp;have hp := hp1;clear hp1;refine .done ?_;obtain ⟨s2,h2a,h2b⟩ := aI h1b;have hp1 : Ps w0 tv aG F w1 bP below k s2 := by rw [cD h2a]; exact hp
 clear hp;have hp := hp1;clear hp1;have hfl_s2 : s2.flag = false := by rw [cD h2a]
 refine .sr (.a2 rfl (.done (.seq (Wp.block ?_))));obtain ⟨s3,h3a,h3b⟩ := aI h2b;refine Wp.loop (ι := S × Nat) (fun i => [(1,.bool i.1.flag),(0,.pointer (some ⟨b0,0,none⟩))])
  (fun i w' => Ps w0 tv aG F w' bP below k i.1 ∧ Bw F w1 w' ∧ run body i.2 (.loop (fun t _ _ f => !f && !aV [⟨#[125]⟩] t && t.1 != 100 && !aV eR t) (.call .statement)) i.1 = some s3 ∧ i.2 ≤ n) (fun i => i.2) (s2,n) (by simp only [hfl_s2]; repeat (first | exact .nil | refine .cons rfl ?_)) ⟨hp,Bw.refl _ _,h3a,Nat.le_refl _⟩ ?_
 clear hp;rintro ⟨s',m⟩ wl ⟨hp,hbl,hrun,hmn⟩;simp only at hp hrun hmn;replace b := b.trans (hbl.sub c);replace a := aE a hbl e;refine .seq ?_
 cases o : s'.flag with
 | true =>
  obtain rfl := cL hrun (show S.test _ _ = false by simp only [S.test,cE,cB,bne,o]; (try rfl));obtain ⟨s4,h4a,h4b⟩ := aI h3b;have hq2 := aX h4a (show S.test _ _ = true by simp only [S.test,cE,cB,bne,o]; (try rfl));obtain rfl := cI hq2;refine Wp.seq (Wp.draw [0,1,2,3,4,5,6,7,8,9,10,11,12,13,14,15,16,17,18] [] mixed (by kernel_rfl) (by kernel_rfl) ?_);intro w2 hx2 _;replace b := bS b hp.und c hx2;replace hp := hp.extw hx2;replace a := a.ext hx2;refine .m2 rfl (.t2 (bJ rfl) (.m2 rfl (.so rfl rfl (.so rfl rfl (.so rfl rfl (.so rfl rfl (.t2 (aN rfl rfl) (.m2 rfl (.so rfl rfl (.so rfl rfl (.so rfl rfl (.t2 (aN rfl rfl) ?_))))))))))));refine .m2 rfl (.so rfl rfl (.so rfl rfl (.so rfl rfl (.so rfl rfl (.t2 (aN rfl rfl) (.done (.condF rfl (Wp.exit (.seq (.sr (.m2 rfl (.t2 (bJ rfl) ?_))))))))))));refine .done (.condF rfl (Wp.skip (Wp.region (.t2 (aB aL rfl (a.g 0 rfl)) (Rg.wd trivial (aC Tryz.call130 rfl (dI hC hp h4b hb)) rfl ?_)))));rintro _ w3 ⟨hp1,hb3⟩;replace a := aE a hb3 e;replace b := b.trans (hb3.sub c);clear hp;have hp := hp1;clear hp1;refine .done ?_;exact ⟨[],trivial,hp.sub c q,b⟩
 | false =>
  cases j : (aV [⟨#[125]⟩] (aO s'.rem)) with
  | true =>
   obtain rfl := cL hrun (show S.test _ _ = false by simp only [S.test,cE,cB,bne,o,j]; (try rfl));obtain ⟨s4,h4a,h4b⟩ := aI h3b;have hq3 := aU h4a (show S.test _ _ = false by simp only [S.test,cE,cB,bne,o,j]; (try rfl));refine Wp.seq (Wp.draw [0,1,2,3,4,5,6,7,8,9,10,11,12,13,14,15,16,17,18] [] mixed (by kernel_rfl) (by kernel_rfl) ?_);intro w2 hx2 _;replace b := bS b hp.und c hx2;replace hp := hp.extw hx2;replace a := a.ext hx2;refine .m2 rfl (.t2 (bJ rfl) (.m2 rfl (.g2 (aB aL rfl (a.g 0 rfl)) ?_)));refine Rg.wdB ⟨_,rfl,rfl⟩ rfl (aD (aT _) rfl) rfl (fun _ _ h => by obtain ⟨_,_,_,h,_⟩ := h; exact h) ?_;rintro _ w3 ⟨bt8,rfl,qt8,hx3,d⟩;replace b := bS b hp.und c hx3;replace hp := hp.extw hx3;replace a := a.ext hx3;refine Rg.wdB ⟨_,rfl,rfl⟩ rfl (aC Tryz.call73 rfl (bD hC hp (texts := [⟨#[125]⟩]) d (by decide))) rfl (fun _ _ h => h.2) ?_;rintro _ w4 ⟨rfl,hx4⟩;replace b := bS b hp.und c hx4;replace hp := hp.extw hx4;replace a := a.ext hx4
   try replace d := d.ext hx4
   rw [show (aV [⟨#[125]⟩] (aO s3.rem)) = true from j];refine .g2 (bJ rfl) (.t2 (aJ rfl rfl) (.m2 rfl (.so rfl rfl (.so rfl rfl (.so rfl rfl (.t2 (aN rfl rfl) (.m2 rfl (.so rfl rfl (.so rfl rfl (.so rfl rfl (.so rfl rfl (.t2 (aN rfl rfl) ?_))))))))))));refine .done (.condF rfl (Wp.exit (.seq (.sr (.m2 rfl (.t2 (bJ rfl) (.done (.condT rfl (Wp.region (.t2 (aB aL rfl (a.g 0 rfl)) (Rg.wd trivial (aC Tryz.call157 rfl (jV hp hq3 (aH h4b hb))) rfl ?_)))))))))));rintro _ w5 ⟨hp1,hb5⟩;replace a := aE a hb5 e;replace b := b.trans (hb5.sub c);clear hp;have hp := hp1;clear hp1;refine .done (Wp.region (.t2 (aB aL rfl (a.g 0 rfl)) (Rg.wd trivial (aC Tryz.call130 rfl (dI hC hp h4b hb)) rfl ?_)));rintro _ w6 ⟨hp1,hb6⟩;replace a := aE a hb6 e;replace b := b.trans (hb6.sub c);clear hp;have hp := hp1;clear hp1;refine .done ?_;exact ⟨[],trivial,hp.sub c q,b⟩
  | false =>
   cases p : ((aO s'.rem).1 == 100) with
   | true =>
    obtain rfl := cL hrun (show S.test _ _ = false by simp only [S.test,cE,cB,bne,o,j,p]; (try rfl));obtain ⟨s4,h4a,h4b⟩ := aI h3b;have hq4 := aU h4a (show S.test _ _ = false by simp only [S.test,cE,cB,bne,o,j,p]; (try rfl));refine Wp.seq (Wp.draw [0,1,2,3,4,5,6,7,8,9,10,11,12,13,14,15,16,17,18] [] mixed (by kernel_rfl) (by kernel_rfl) ?_);intro w2 hx2 _;replace b := bS b hp.und c hx2;replace hp := hp.extw hx2;replace a := a.ext hx2;refine .m2 rfl (.t2 (bJ rfl) (.m2 rfl (.g2 (aB aL rfl (a.g 0 rfl)) ?_)));refine Rg.wdB ⟨_,rfl,rfl⟩ rfl (aD (aT _) rfl) rfl (fun _ _ h => by obtain ⟨_,_,_,h,_⟩ := h; exact h) ?_;rintro _ w3 ⟨bt8,rfl,qt8,hx3,d⟩;replace b := bS b hp.und c hx3;replace hp := hp.extw hx3;replace a := a.ext hx3;refine Rg.wdB ⟨_,rfl,rfl⟩ rfl (aC Tryz.call73 rfl (bD hC hp (texts := [⟨#[125]⟩]) d (by decide))) rfl (fun _ _ h => h.2) ?_;rintro _ w4 ⟨rfl,hx4⟩;replace b := bS b hp.und c hx4;replace hp := hp.extw hx4;replace a := a.ext hx4
    try replace d := d.ext hx4
    rw [show (aV [⟨#[125]⟩] (aO s3.rem)) = false from j];refine .g2 (bJ rfl) (.t2 (aJ rfl rfl) (.m2 rfl (.g2 (aB aL rfl (a.g 0 rfl)) (Rg.wdB ⟨_,rfl,rfl⟩ rfl (aC Tryz.call35 rfl (fQ hC hp)) rfl (fun _ _ h => h.2) ?_))));rintro _ w5 ⟨rfl,hx5⟩;replace b := bS b hp.und c hx5;replace hp := hp.extw hx5;replace a := a.ext hx5
    try replace d := d.ext hx5
    rw [show ((aO s3.rem).1 == 100) = true from p];refine .g2 (bJ rfl) (.t2 (aJ rfl rfl) (.m2 rfl (.so rfl rfl (.so rfl rfl (.so rfl rfl (.so rfl rfl (.t2 (aN rfl rfl) (.done (.condF rfl (Wp.exit (.seq (.sr ?_))))))))))));refine .m2 rfl (.t2 (bJ rfl) (.done (.condT rfl (Wp.region (.t2 (aB aL rfl (a.g 0 rfl)) (Rg.wd trivial (aC Tryz.call157 rfl (jV hp hq4 (aH h4b hb))) rfl ?_))))));rintro _ w6 ⟨hp1,hb6⟩;replace a := aE a hb6 e;replace b := b.trans (hb6.sub c);clear hp;have hp := hp1;clear hp1;refine .done (Wp.region (.t2 (aB aL rfl (a.g 0 rfl)) (Rg.wd trivial (aC Tryz.call130 rfl (dI hC hp h4b hb)) rfl ?_)));rintro _ w7 ⟨hp1,hb7⟩;replace a := aE a hb7 e;replace b := b.trans (hb7.sub c);clear hp;have hp := hp1;clear hp1;refine .done ?_;exact ⟨[],trivial,hp.sub c q,b⟩
   | false =>
    cases u : (aV eR (aO s'.rem)) with
    | true =>
     obtain rfl := cL hrun (show S.test _ _ = false by simp only [S.test,cE,cB,bne,o,j,p,u]; (try rfl));obtain ⟨s4,h4a,h4b⟩ := aI h3b;have hq5 := aU h4a (show S.test _ _ = false by simp only [S.test,cE,cB,bne,o,j,p,u]; (try rfl));refine Wp.seq (Wp.draw [0,1,2,3,4,5,6,7,8,9,10,11,12,13,14,15,16,17,18] [] mixed (by kernel_rfl) (by kernel_rfl) ?_);intro w2 hx2 _;replace b := bS b hp.und c hx2;replace hp := hp.extw hx2;replace a := a.ext hx2;refine .m2 rfl (.t2 (bJ rfl) (.m2 rfl (.g2 (aB aL rfl (a.g 0 rfl)) ?_)));refine Rg.wdB ⟨_,rfl,rfl⟩ rfl (aD (aT _) rfl) rfl (fun _ _ h => by obtain ⟨_,_,_,h,_⟩ := h; exact h) ?_;rintro _ w3 ⟨bt8,rfl,qt8,hx3,d⟩;replace b := bS b hp.und c hx3;replace hp := hp.extw hx3;replace a := a.ext hx3;refine Rg.wdB ⟨_,rfl,rfl⟩ rfl (aC Tryz.call73 rfl (bD hC hp (texts := [⟨#[125]⟩]) d (by decide))) rfl (fun _ _ h => h.2) ?_;rintro _ w4 ⟨rfl,hx4⟩;replace b := bS b hp.und c hx4;replace hp := hp.extw hx4;replace a := a.ext hx4
     try replace d := d.ext hx4
     rw [show (aV [⟨#[125]⟩] (aO s3.rem)) = false from j];refine .g2 (bJ rfl) (.t2 (aJ rfl rfl) (.m2 rfl (.g2 (aB aL rfl (a.g 0 rfl)) (Rg.wdB ⟨_,rfl,rfl⟩ rfl (aC Tryz.call35 rfl (fQ hC hp)) rfl (fun _ _ h => h.2) ?_))));rintro _ w5 ⟨rfl,hx5⟩;replace b := bS b hp.und c hx5;replace hp := hp.extw hx5;replace a := a.ext hx5
     try replace d := d.ext hx5
     rw [show ((aO s3.rem).1 == 100) = false from p];refine .g2 (bJ rfl) (.t2 (aJ rfl rfl) (.m2 rfl (.g2 (aB aL rfl (a.g 0 rfl)) (Rg.wdB ⟨_,rfl,rfl⟩ rfl (aC Tryz.call122 rfl (iS (hC.asc.ext hp.ext))) rfl (fun _ _ h => h.2) ?_))));rintro _ w6 ⟨⟨bt19,rfl,l⟩,hx6⟩;replace b := bS b hp.und c hx6;replace hp := hp.extw hx6;replace a := a.ext hx6
     try replace d := d.ext hx6
     refine Rg.wdB ⟨_,rfl,rfl⟩ rfl (aC Tryz.call73 rfl (bD hC hp (texts := eR) l (by rw [iT]; decide))) rfl (fun _ _ h => h.2) ?_;rintro _ w7 ⟨rfl,hx7⟩;replace b := bS b hp.und c hx7;replace hp := hp.extw hx7;replace a := a.ext hx7
     try replace d := d.ext hx7
     try replace l := l.ext hx7
     rw [show (aV eR (aO s3.rem)) = true from u];refine .g2 (bJ rfl) (.t2 (aJ rfl rfl) (.done (.condF rfl (Wp.exit (.seq (.sr (.m2 rfl (.t2 (bJ rfl) (.done (.condT rfl (Wp.region (.t2 (aB aL rfl (a.g 0 rfl)) ?_))))))))))));refine Rg.wd trivial (aC Tryz.call157 rfl (jV hp hq5 (aH h4b hb))) rfl ?_;rintro _ w8 ⟨hp1,hb8⟩;replace a := aE a hb8 e;replace b := b.trans (hb8.sub c);clear hp;have hp := hp1;clear hp1;refine .done (Wp.region (.t2 (aB aL rfl (a.g 0 rfl)) (Rg.wd trivial (aC Tryz.call130 rfl (dI hC hp h4b hb)) rfl ?_)));rintro _ w9 ⟨hp1,hb9⟩;replace a := aE a hb9 e;replace b := b.trans (hb9.sub c);clear hp;have hp := hp1;clear hp1;refine .done ?_;exact ⟨[],trivial,hp.sub c q,b⟩
    | false =>
     obtain ⟨m1,s2,rfl,hbody,hrest⟩ := dP hrun (show S.test _ _ = true by simp only [S.test,cE,cB,bne,o,j,p,u]; (try rfl));replace hbody := dT hmn hbody;refine Wp.seq (Wp.draw [0,1,2,3,4,5,6,7,8,9,10,11,12,13,14,15,16,17,18] [] mixed (by kernel_rfl) (by kernel_rfl) ?_);intro w2 hx2 _;replace hbl := hbl.trans (Bw.of hx2 hp.und);replace b := bS b hp.und c hx2;replace hp := hp.extw hx2;replace a := a.ext hx2;refine .m2 rfl (.t2 (bJ rfl) (.m2 rfl (.g2 (aB aL rfl (a.g 0 rfl)) ?_)));refine Rg.wdB ⟨_,rfl,rfl⟩ rfl (aD (aT _) rfl) rfl (fun _ _ h => by obtain ⟨_,_,_,h,_⟩ := h; exact h) ?_;rintro _ w3 ⟨bt8,rfl,qt8,hx3,d⟩;replace hbl := hbl.trans (Bw.of hx3 hp.und);replace b := bS b hp.und c hx3;replace hp := hp.extw hx3;replace a := a.ext hx3;refine Rg.wdB ⟨_,rfl,rfl⟩ rfl (aC Tryz.call73 rfl (bD hC hp (texts := [⟨#[125]⟩]) d (by decide))) rfl (fun _ _ h => h.2) ?_;rintro _ w4 ⟨rfl,hx4⟩;replace hbl := hbl.trans (Bw.of hx4 hp.und);replace b := bS b hp.und c hx4;replace hp := hp.extw hx4;replace a := a.ext hx4
     try replace d := d.ext hx4
     rw [show (aV [⟨#[125]⟩] (aO s'.rem)) = false from j];refine .g2 (bJ rfl) (.t2 (aJ rfl rfl) (.m2 rfl (.g2 (aB aL rfl (a.g 0 rfl)) (Rg.wdB ⟨_,rfl,rfl⟩ rfl (aC Tryz.call35 rfl (fQ hC hp)) rfl (fun _ _ h => h.2) ?_))));rintro _ w5 ⟨rfl,hx5⟩;replace hbl := hbl.trans (Bw.of hx5 hp.und);replace b := bS b hp.und c hx5;replace hp := hp.extw hx5;replace a := a.ext hx5
     try replace d := d.ext hx5
     rw [show ((aO s'.rem).1 == 100) = false from p];refine .g2 (bJ rfl) (.t2 (aJ rfl rfl) (.m2 rfl (.g2 (aB aL rfl (a.g 0 rfl)) (Rg.wdB ⟨_,rfl,rfl⟩ rfl (aC Tryz.call122 rfl (iS (hC.asc.ext hp.ext))) rfl (fun _ _ h => h.2) ?_))));rintro _ w6 ⟨⟨bt19,rfl,l⟩,hx6⟩;replace hbl := hbl.trans (Bw.of hx6 hp.und);replace b := bS b hp.und c hx6;replace hp := hp.extw hx6;replace a := a.ext hx6
     try replace d := d.ext hx6
     refine Rg.wdB ⟨_,rfl,rfl⟩ rfl (aC Tryz.call73 rfl (bD hC hp (texts := eR) l (by rw [iT]; decide))) rfl (fun _ _ h => h.2) ?_;rintro _ w7 ⟨rfl,hx7⟩;replace hbl := hbl.trans (Bw.of hx7 hp.und);replace b := bS b hp.und c hx7;replace hp := hp.extw hx7;replace a := a.ext hx7
     try replace d := d.ext hx7
     try replace l := l.ext hx7
     rw [show (aV eR (aO s'.rem)) = false from u];refine .g2 (bJ rfl) (.t2 (aJ rfl rfl) (.done (.condT rfl (Wp.skip (Wp.block (Wp.region (.t2 (aB aL rfl (a.g 0 rfl)) (Rg.wd trivial (aC Tryz.call191 rfl (bG hD hp hbody (aH hrest (aH h3b hb)))) rfl ?_))))))));rintro v154 w8 ⟨hst,hp1,hb8⟩;replace hbl := hbl.trans hb8;replace a := aE a hb8 e;replace b := b.trans (hb8.sub c);clear hp;have hp := hp1;clear hp1;obtain rfl := hst rfl;refine .a2 rfl (.done ?_);exact ⟨(s2,m1),by repeat (first | exact .nil | refine .cons rfl ?_),⟨hp,hbl,hrest,by simp only; omega⟩,by simp only; omega⟩
theorem F5 (hC : Cx w0 tv aG) (hD : ∀ m,m < n → DN w0 tv aG m) (hp : Ps w0 tv aG F w bP below k s) (hr : run body n (body .block) s = some r) (hb : r.adds ≤ fR) :
  Cl Tryz.prog 158 #[.pointer (some ⟨bP,0,none⟩)] w (fun u w' => (Nm.block = Nm.statement → u = .bool r.flag) ∧ Ps w0 tv aG F w' bP below k r ∧ Bw F w w') := by
 have e := Bw.refl F w;have c : ∀ z,F z → F z := fun z h => h;have j := hp.base;have hr : run body n (.node 21 (.seq (Cmd.exp ⟨#[123]⟩) (.seq (.flag false) (.seq (.loop (fun t _ _ f => !f && !aV [⟨#[125]⟩] t && t.1 != 100 && !aV eR t) (.call .statement)) (.seq (.cond (fun _ _ _ f => f) .skip (.leaf 0)) (Cmd.exp ⟨#[125]⟩)))))) s = some r := hr;refine Cl.enter Tryz.func158 rfl Tryz.ntmps158 rfl rfl (.sr (Rg.wd trivial (aW rfl rfl) rfl ?_));rintro _ w1 ⟨i,rfl,d,hx1,a⟩;replace e := bS e hp.und c hx1;obtain ⟨l,hp1,b,hs1⟩ := hp.box hx1 d a.lt;clear hp;have hp := hp1;clear hp1;replace c := fun z hz => hs1 z (c z hz);refine .done (Wp.region (.t2 (aB aL rfl (a.g 0 rfl)) (.t2 (aM (us := []) (vs := [.pointer (some ⟨i,0,none⟩)]) rfl rfl) (Rg.wd trivial (aC Tryz.call77 rfl (bZ hp (F4 hC hD a b) hr hb)) rfl ?_))));rintro _ w2 ⟨hp1,hb2⟩;replace a := aE a hb2 b;replace e := e.trans (hb2.sub c);clear hp;have hp := hp1;clear hp1;refine .done ?_;exact ⟨[],trivial,(fun h => by cases h),hp.sub c j,e⟩
end
variable {w0 : World} {tv : Value} {aG : List Tok} {F : Fs} {w : World} {bP : Nat} {below : List (Int × List Tr)} {k : Int} {s : S}
structure pU (w0 : World) (tv : Value) (aG : List Tok) (F : Fs) (w : World) (bP : Nat) (below : List (Int × List Tr)) (k : Int) (s : S) (gs np caps pos : Nat) (cv : Value) (kl : List Gt) (Q : Fs) (old : List Value) : Prop where
 var : Var w bP [tv,.int .i64 pos,.slice (some ⟨gs,0,none⟩) (np + 1) caps] 82
 cap : np + 1 ≤ caps
 small : np ≤ s.adds
 cell : w.cell? ⟨gs,0 + (((np + 1 : Nat) : Int) - 1).toNat * 3 + 2,none⟩ = some cv
 own : w.ownsRow 0 54 3 cv kl.length (aK Gt.cells kl)
 er : kS kl = s.kids
 few : kl.length ≤ s.adds
 ok : ∀ t ∈ kl,GOk Q w t
 undQ : Und Q w.heap.size
 row : Var w gs old 54
 len : np * 3 + 3 ≤ old.length
 ne : gs ≠ bP
 nq : ¬ Q gs
 nk : some gs ≠ cv.ownBlock
 nF : ¬ F gs
 nFk : ∀ b,cv.ownBlock = some b → ¬ F b ∧ ¬ Q b
 next : ∀ (w' : World) (cv' : Value) (kids' : List Gt) (G : Fs) (a' : Nat),Bw G w w' → (∀ z,z < w.heap.size → z ≠ gs → some z ≠ cv'.ownBlock → G z) → Var w' gs (old.take (np * 3 + 2) ++ [cv'] ++ old.drop (np * 3 + 2 + 1)) 54 → w'.ownsRow 0 54 3 cv' kids'.length (aK Gt.cells kids') →
  (∀ b,cv'.ownBlock = some b → cv.ownBlock = some b ∨ w.heap.size ≤ b) → (∀ t ∈ kids',GOk Q w t) → s.adds ≤ a' → kids'.length ≤ a' → Ps w0 tv aG F w' bP below k { s with kids := kS kids',adds := a' } ∧ Bw F w w'
theorem Ps.topRow (h : Ps w0 tv aG F w bP below k s) : ∃ gs np caps pos cv kl Q old,pU w0 tv aG F w bP below k s gs np caps pos cv kl Q old := by
 obtain ⟨g,hW,e0,hd,hpos,hm,hks,hfl⟩ := h;obtain ⟨gP,sv,pos,frs,Q⟩ := g;simp only at e0 hd hpos hm hks hfl;subst e0;obtain ⟨pre,f,rfl,em,e2⟩ := jA hm;obtain ⟨fk,cv,kl⟩ := f
 injection e2 with e3 e4
 simp only at e3 e4;have hvar := hW.var;simp only at hvar
 rcases bH hW.stk with ⟨_,h0⟩ | ⟨gs,caps,sps,es,_,gs1,gs2,gs3,hS⟩
 ·simp at h0
 simp only at es gs1 gs3 hS;subst es;have hlen : (pre ++ [(⟨fk,cv,kl⟩ : Fr)]).length = pre.length + 1 := by simp
 rw [hlen] at gs1 gs3 hvar hW hfl;have hown := hW.kid ⟨fk,cv,kl⟩ (by simp);have hSl : (aK Fr.cells (pre ++ [(⟨fk,cv,kl⟩ : Fr)]) ++ sps).length = (pre.length + 1) * 3 + sps.length := by rw [List.length_append,aQ Fr.len,hlen]
 have hn := hW.nod;have hoff := hW.off;have hn2 := hn;rw [gF] at hn2;have hn3 := List.nodup_append.1 hn2;refine ⟨gs,pre.length,caps,pos,cv,kl,Q,_,hvar,gs1,by omega,?_,hown,e4,hks ⟨fk,cv,kl⟩ (by simp),fun t ht => hW.ok ⟨fk,cv,kl⟩ (by simp) t ht,hW.undQ,hS,by rw [hSl]; omega,?_,?_,?_,?_,?_,?_⟩
 ·have := hS.cells _ _ (mZ (pre := pre) (f := ⟨fk,cv,kl⟩) (sp := sps) 2 (by decide))
  rw [Nat.zero_add] at this;rw [show 0 + (((pre.length + 1 : Nat) : Int) - 1).toNat * 3 + 2 = pre.length * 3 + 2 by omega];exact this
 ·intro e
  simp only [Pg.muts,List.nodup_cons] at hn;exact hn.1 (by simp [Value.ownBlock,e])
 ·exact (hoff gs (by simp [Pg.muts,Value.ownBlock])).2
 ·intro e
  exact hn3.2.2 gs (by simp [Value.ownBlock]) gs (by simp [← e]) rfl
 ·exact (hoff gs (by simp [Pg.muts,Value.ownBlock])).1
 ·intro b hb
  exact hoff b (by rw [gF]; exact List.mem_append_right _ (by simp [hb]))
 ·intro w' cv' kids' G a' hB hG hV hO hfr hok ha hka
  have hV2 : Var w' gs (aK Fr.cells (pre ++ [⟨fk,cv',kids'⟩]) ++ sps) 54 := by
   have := oY (pre := pre) (f := ⟨fk,cv,kl⟩) (sp := sps) cv';rw [show aK Fr.cells (pre ++ [⟨fk,cv',kids'⟩]) = aK Fr.cells (pre ++ [⟨fk,cv',kl⟩]) by simp [aK,Fr.cells],← this];exact hV
  obtain ⟨q1,q2⟩ := hW.top hB (fun z h1 h2 h3 => hG z h1 (fun e => h2 (by rw [e]; rfl)) h3) (bK (Nat.zero_le _) ((aQ Fr.len _).trans (by simp)) gs1 gs2 gs3 hV2) hO hfr hok;refine ⟨⟨_,q1,rfl,hd,hpos,?_,fun x hx => ?_,?_⟩,q2⟩
  ·simp only [List.map_append,em,List.map_cons,List.map_nil,e3]
  ·rcases List.mem_append.1 hx with hx | hx
   ·have := hks x (by simp [hx])
    simp only;omega
   ·obtain rfl : x = ⟨fk,cv',kids'⟩ := by simpa using hx
    exact hka
  ·simp only [List.length_append,List.length_singleton]
   omega
theorem pU.drop {gs np caps pos : Nat} {cv : Value} {kl : List Gt} {Q : Fs} {old : List Value} (h : pU w0 tv aG F w bP below k s gs np caps pos cv kl Q old) (hne : s.kids ≠ []) : ∃ gk capk,cv = .slice (some ⟨gk,0,none⟩) (kl.length - 1 + 1) capk ∧ kl.length - 1 + 1 ≤ capk ∧ kl.length = kl.length - 1 + 1 ∧
  ∀ w',Upd gs w w' → Var w' gs (old.take (np * 3 + 2) ++ [.slice (some ⟨gk,0,none⟩) (kl.length - 1) capk] ++ old.drop (np * 3 + 2 + 1)) 54 → Ps w0 tv aG F w' bP below k { s with kids := s.kids.dropLast } ∧ Bw F w w' := by
 have hkn : kl ≠ [] := fun e => hne (by rw [← h.er,e]; rfl);have hpos : 0 < kl.length := List.length_pos_iff.2 hkn
 rcases bH h.own with ⟨_,h0⟩ | ⟨gk,capk,spk,ek,_,gk1,gk2,gk3,hK⟩
 ·omega
 refine ⟨gk,capk,by rw [ek]; congr 1; omega,by omega,by omega,fun w' hu hv => ?_⟩;have hsn : kl = kl.dropLast ++ [kl.getLast hkn] := (List.dropLast_concat_getLast hkn).symm;have hngk : gk ≠ gs := fun e => h.nk (by rw [ek,e]; rfl);have hl : kl.dropLast.length = kl.length - 1 := List.length_dropLast;have hfw := h.few;have hK' := hK.upd hu hngk;obtain ⟨q1,q2⟩ := h.next w' (.slice (some ⟨gk,0,none⟩) (kl.length - 1) capk) kl.dropLast (fun z => z ≠ gs) s.adds (Bw.upd hu fun hh => hh rfl) (fun z _ h2 _ => h2) hv
  (by
   rw [hl];refine bK (sp := (kl.getLast hkn).cells ++ spk) (Nat.zero_le _) ((aQ Gt.len _).trans (by rw [hl])) (by omega) gk2 (by rw [List.length_append,Gt.len,gk3]; omega) ?_;rw [← List.append_assoc,← iF Gt.cells (kl.getLast hkn),← fF,← hsn];exact hK')
  (fun b hb => .inl (by rw [ek]; exact hb)) (fun t ht => h.ok t (List.dropLast_subset _ ht)) (Nat.le_refl _) (by rw [hl]; omega)
 refine ⟨?_,q2⟩;have : kS kl.dropLast = s.kids.dropLast := by rw [← h.er,hZ,hZ,List.map_dropLast]
 rw [this] at q1;exact q1
end Go.Proofs.YtlndmiegodcfjaaGreatDoor.Par
namespace Go.Proofs.YtlndmiegodcfjaaGreatDoor.Par
set_option maxRecDepth 20000
open Go.Gx Go.RowKit Go.Lib
open Lexi (Asc)
section
variable {w0 : World} {tv : Value} {aG : List Tok} {F : Fs} {w w' : World} {bP : Nat} {below : List (Int × List Tr)} {k : Int} {s r : S} {n : Nat}
theorem tC (hC : Cx w0 tv aG) (hD : ∀ m,m < n → DN w0 tv aG m) {b0 : Nat} (a : Var w b0 [.pointer (some ⟨bP,0,none⟩)] 80) (e : F b0) {b1 : Nat} (b : Var w b1 [.bool true] 4) (f : F b1) : Clo w0 tv aG n F bP 229 [] [.pointer (some ⟨b0,0,none⟩),.pointer (some ⟨b1,0,none⟩)] w (.cond (cE [⟨#[59]⟩]) .bump .skip) := by
 refine ⟨Tryz.call229,fun w1 hw1 below k s r hp hr hb => ?_⟩;replace a := aE a hw1 e;replace b := aE b hw1 f
 show Cl Tryz.prog 229 #[.pointer (some ⟨b0,0,none⟩),.pointer (some ⟨b1,0,none⟩)] w1 _
 have c := Bw.refl F w1;have d : ∀ z,F z → F z := fun z h => h;have j := hp.base;refine Cl.enter Tryz.func229 rfl Tryz.ntmps229 rfl rfl ?_
 cases i : (aV [⟨#[59]⟩] (aO s.rem)) with
 | true =>
  have hq2 := aX hr i;refine .sr (.t2 (aB aL rfl (a.g 0 rfl)) (Rg.wd trivial (aD (aT _) rfl) rfl ?_));rintro _ w1 ⟨bt3,rfl,qt3,hx1,l⟩;replace c := bS c hp.und d hx1;replace hp := hp.extw hx1;replace a := a.ext hx1;replace b := b.ext hx1;obtain rfl := cN hq2;refine Rg.wd trivial (aC Tryz.call79 rfl (gT hC hp (texts := [⟨#[59]⟩]) l (by decide) i hb)) rfl ?_;rintro _ w2 ⟨rfl,hp1,hb2⟩;replace a := aE a hb2 e;replace b := aE b hb2 f;replace c := c.trans (hb2.sub d);clear hp;have hp := hp1;clear hp1;refine .t2 (bJ rfl) (.m2 rfl (.so rfl rfl (.so rfl rfl (.t2 (aN rfl rfl) (.done (.condF rfl (Wp.skip ?_)))))));exact ⟨[],trivial,hp.sub d j,c⟩
 | false =>
  have hq2 := aU hr i;obtain rfl := cI hq2;refine .sr (.t2 (aB aL rfl (a.g 0 rfl)) (Rg.wd trivial (aD (aT _) rfl) rfl ?_));rintro _ w1 ⟨bt3,rfl,qt3,hx1,l⟩;replace c := bS c hp.und d hx1;replace hp := hp.extw hx1;replace a := a.ext hx1;replace b := b.ext hx1;refine Rg.wd trivial (aC Tryz.call79 rfl (gU hC hp (texts := [⟨#[59]⟩]) l (by decide) i)) rfl ?_;rintro _ w2 ⟨rfl,hp1,hb2⟩;replace a := aE a hb2 e;replace b := aE b hb2 f;replace c := c.trans (hb2.sub d);clear hp;have hp := hp1;clear hp1;refine .t2 (bJ rfl) (.m2 rfl (.g2 (aB uB rfl (b.g 0 rfl)) (.g2 (bJ rfl) (.t2 (aJ rfl rfl) (.done (.condF rfl (Wp.skip ?_)))))));exact ⟨[],trivial,hp.sub d j,c⟩
theorem qV (hC : Cx w0 tv aG) (hD : ∀ m,m < n → DN w0 tv aG m) {b0 : Nat} (a : Var w b0 [.pointer (some ⟨bP,0,none⟩)] 80) (e : F b0) {b1 : Nat} (b : Var w b1 [.bool false] 4) (f : F b1) : Clo w0 tv aG n F bP 229 [] [.pointer (some ⟨b0,0,none⟩),.pointer (some ⟨b1,0,none⟩)] w (.cond (cE [⟨#[59]⟩]) .bump (.leaf 108)) := by
 refine ⟨Tryz.call229,fun w1 hw1 below k s r hp hr hb => ?_⟩;replace a := aE a hw1 e;replace b := aE b hw1 f
 show Cl Tryz.prog 229 #[.pointer (some ⟨b0,0,none⟩),.pointer (some ⟨b1,0,none⟩)] w1 _
 have c := Bw.refl F w1;have d : ∀ z,F z → F z := fun z h => h;have j := hp.base;refine Cl.enter Tryz.func229 rfl Tryz.ntmps229 rfl rfl ?_
 cases i : (aV [⟨#[59]⟩] (aO s.rem)) with
 | true =>
  have hq2 := aX hr i;refine .sr (.t2 (aB aL rfl (a.g 0 rfl)) (Rg.wd trivial (aD (aT _) rfl) rfl ?_));rintro _ w1 ⟨bt3,rfl,qt3,hx1,l⟩;replace c := bS c hp.und d hx1;replace hp := hp.extw hx1;replace a := a.ext hx1;replace b := b.ext hx1;obtain rfl := cN hq2;refine Rg.wd trivial (aC Tryz.call79 rfl (gT hC hp (texts := [⟨#[59]⟩]) l (by decide) i hb)) rfl ?_;rintro _ w2 ⟨rfl,hp1,hb2⟩;replace a := aE a hb2 e;replace b := aE b hb2 f;replace c := c.trans (hb2.sub d);clear hp;have hp := hp1;clear hp1;refine .t2 (bJ rfl) (.m2 rfl (.so rfl rfl (.so rfl rfl (.t2 (aN rfl rfl) (.done (.condF rfl (Wp.skip ?_)))))));exact ⟨[],trivial,hp.sub d j,c⟩
 | false =>
  have hq2 := aU hr i;refine .sr (.t2 (aB aL rfl (a.g 0 rfl)) (Rg.wd trivial (aD (aT _) rfl) rfl ?_));rintro _ w1 ⟨bt3,rfl,qt3,hx1,l⟩;replace c := bS c hp.und d hx1;replace hp := hp.extw hx1;replace a := a.ext hx1;replace b := b.ext hx1;refine Rg.wd trivial (aC Tryz.call79 rfl (gU hC hp (texts := [⟨#[59]⟩]) l (by decide) i)) rfl ?_;rintro _ w2 ⟨rfl,hp1,hb2⟩;replace a := aE a hb2 e;replace b := aE b hb2 f;replace c := c.trans (hb2.sub d);clear hp;have hp := hp1;clear hp1;refine .t2 (bJ rfl) (.m2 rfl (.g2 (aB uB rfl (b.g 0 rfl)) (.g2 (bJ rfl) (.t2 (aJ rfl rfl) (.done (.condT rfl (Wp.region (.t2 (aB aL rfl (a.g 0 rfl)) (Rg.wd trivial (aC Tryz.call164 rfl (nX hp hq2 hb)) rfl ?_)))))))));rintro _ w3 ⟨hp1,hb3⟩;replace a := aE a hb3 e;replace b := aE b hb3 f;replace c := c.trans (hb3.sub d);clear hp;have hp := hp1;clear hp1;refine .done ?_;exact ⟨[],trivial,hp.sub d j,c⟩
theorem Ps.val (hC : Cx w0 tv aG) (hp : Ps w0 tv aG F w bP below k s) : V s.rem := by
 obtain ⟨g,_,_,h2,_⟩ := hp;rw [← h2];exact fun t ht => hC.val t (List.mem_of_mem_drop ht)
theorem He {x : Nm} {q : S} (hx : pF x = true) (hpre : Pre x s) (hv : V s.rem) (h : run body n (.call x) s = some q) : q.kids ≠ [] := by
 obtain ⟨m,q',h1,t,g⟩ := (I8 x s hv hpre).one hx;rw [pD h h1,g.kids];simp
theorem vH (hC : Cx w0 tv aG) (hD : ∀ m,m < n → DN w0 tv aG m) (hp : Ps w0 tv aG F w bP below k s) (hr : run body n (body .statement) s = some r) (hb : r.adds ≤ fR) :
  Cl Tryz.prog 191 #[.pointer (some ⟨bP,0,none⟩)] w (fun u w' => (Nm.statement = Nm.statement → u = .bool r.flag) ∧ Ps w0 tv aG F w' bP below k r ∧ Bw F w w') := by
 have c := Bw.refl F w;have d : ∀ z,F z → F z := fun z h => h;have D := hp.base;have hr : run body n (.cond (cE [⟨#[108,101,116]⟩]) (.seq (.node 22 (.call .letS)) (.flag false)) (.cond (cE [⟨#[119,104,105,108,101]⟩]) (.seq (.node 24 (.seq .bump (.seq Cmd.expr (.call .block)))) (.flag false)) (.cond (cE [⟨#[114,101,116,117,114,110]⟩]) (.seq (.node 25 (.call .returnS)) (.flag false)) (.cond (cE [⟨#[105,102]⟩,⟨#[109,97,116,99,104]⟩,⟨#[123]⟩]) (.prog (.call .primary) (.seq .drop (.seq Cmd.unexpected (.flag false))) (.cond (cE [⟨#[125]⟩]) (.flag true) (.seq (.cond (cE [⟨#[61]⟩]) (.wrap 23 (.seq .bump (.seq Cmd.expr (Cmd.exp ⟨#[59]⟩)))) (.wrap 26 (.cond (cE [⟨#[59]⟩]) .bump .skip))) (.flag false)))) (.prog Cmd.expr (.seq .drop (.seq Cmd.unexpected (.flag false))) (.cond (cE [⟨#[125]⟩]) (.flag true) (.seq (.cond (cE [⟨#[61]⟩]) (.wrap 23 (.seq .bump (.seq Cmd.expr (Cmd.exp ⟨#[59]⟩)))) (.wrap 26 (.cond (cE [⟨#[59]⟩]) .bump (.leaf 108)))) (.flag false)))))))) s = some r := hr;refine Cl.enter Tryz.func191 rfl Tryz.ntmps191 rfl rfl (.sr (Rg.wd trivial (aW rfl rfl) rfl ?_));rintro _ w1 ⟨E,rfl,f',hx1,a⟩;replace c := bS c hp.und d hx1;obtain ⟨U,hp1,f,hs1⟩ := hp.box hx1 f' a.lt;clear hp;have hp := hp1;clear hp1;replace d := fun z hz => hs1 z (d z hz);refine .a2 rfl (.done (.seq (Wp.block ?_)))
 cases b' : (aV [⟨#[108,101,116]⟩] (aO s.rem)) with
 | true =>
  have hq2 := aX hr b';refine .sr (.t2 (aB aL rfl (a.g 0 rfl)) (Rg.wd trivial (aD (aT _) rfl) rfl ?_));rintro _ w2 ⟨bt8,rfl,qt8,hx2,o⟩;replace c := bS c hp.und d hx2;replace hp := hp.extw hx2;replace a := a.ext hx2;refine Rg.wd trivial (aC Tryz.call73 rfl (bD hC hp (texts := [⟨#[108,101,116]⟩]) o (by decide))) rfl ?_;rintro _ w3 ⟨rfl,hx3⟩;replace c := bS c hp.und d hx3;replace hp := hp.extw hx3;replace a := a.ext hx3
  try replace o := o.ext hx3
  rw [show (aV [⟨#[108,101,116]⟩] (aO s.rem)) = true from b'];refine .a2 rfl (.done (.condT rfl (.sr (.t2 (aB aL rfl (a.g 0 rfl)) (.t2 (aB aL rfl (a.g 0 rfl)) (.t2 (aM (us := [.pointer (some ⟨bP,0,none⟩)]) (vs := []) rfl rfl) ?_))))));obtain ⟨s1,h1a,h1b⟩ := aI hq2;refine Rg.wd trivial (aC Tryz.call77 rfl (bZ hp (dL Tryz.call224 hD (.letS)) h1a (aH h1b hb))) rfl ?_;rintro _ w4 ⟨hp1,hb4⟩;replace a := aE a hb4 f;replace c := c.trans (hb4.sub d);clear hp;have hp := hp1;clear hp1;refine .done ?_;have hp1 : Ps w0 tv aG U w4 bP below k r := by rw [cD h1b]; exact hp
  clear hp;have hp := hp1;clear hp1;have hfl_r : r.flag = false := by rw [cD h1b]
  refine .sr (.a2 rfl (.done (Wp.ret ?_)));exact ⟨[_],⟨rfl,trivial⟩,(fun _ => by rw [hfl_r]; rfl),hp.sub d D,c⟩
 | false =>
  have hq2 := aU hr b';refine .sr (.t2 (aB aL rfl (a.g 0 rfl)) (Rg.wd trivial (aD (aT _) rfl) rfl ?_));rintro _ w2 ⟨bt8,rfl,qt8,hx2,o⟩;replace c := bS c hp.und d hx2;replace hp := hp.extw hx2;replace a := a.ext hx2;refine Rg.wd trivial (aC Tryz.call73 rfl (bD hC hp (texts := [⟨#[108,101,116]⟩]) o (by decide))) rfl ?_;rintro _ w3 ⟨rfl,hx3⟩;replace c := bS c hp.und d hx3;replace hp := hp.extw hx3;replace a := a.ext hx3
  try replace o := o.ext hx3
  rw [show (aV [⟨#[108,101,116]⟩] (aO s.rem)) = false from b'];refine .a2 rfl (.done (.condF rfl ?_))
  cases c' : (aV [⟨#[119,104,105,108,101]⟩] (aO s.rem)) with
  | true =>
   have hq4 := aX hq2 c';refine .sr (.t2 (aB aL rfl (a.g 0 rfl)) (Rg.wd trivial (aD (aT _) rfl) rfl ?_));rintro _ w4 ⟨bt16,rfl,qt16,hx4,l⟩;replace c := bS c hp.und d hx4;replace hp := hp.extw hx4;replace a := a.ext hx4
   try replace o := o.ext hx4
   refine Rg.wd trivial (aC Tryz.call73 rfl (bD hC hp (texts := [⟨#[119,104,105,108,101]⟩]) l (by decide))) rfl ?_;rintro _ w5 ⟨rfl,hx5⟩;replace c := bS c hp.und d hx5;replace hp := hp.extw hx5;replace a := a.ext hx5
   try replace o := o.ext hx5
   try replace l := l.ext hx5
   rw [show (aV [⟨#[119,104,105,108,101]⟩] (aO s.rem)) = true from c'];refine .a2 rfl (.done (.condT rfl (.sr (.t2 (aB aL rfl (a.g 0 rfl)) (.t2 (aM (us := []) (vs := [.pointer (some ⟨E,0,none⟩)]) rfl rfl) ?_)))));obtain ⟨s1,h1a,h1b⟩ := aI hq4;refine Rg.wd trivial (aC Tryz.call77 rfl (bZ hp (E5 hC hD a f) h1a (aH h1b hb))) rfl ?_;rintro _ w6 ⟨hp1,hb6⟩;replace a := aE a hb6 f;replace c := c.trans (hb6.sub d);clear hp;have hp := hp1;clear hp1;refine .done ?_;have hp1 : Ps w0 tv aG U w6 bP below k r := by rw [cD h1b]; exact hp
   clear hp;have hp := hp1;clear hp1;have hfl_r : r.flag = false := by rw [cD h1b]
   refine .sr (.a2 rfl (.done (Wp.ret ?_)));exact ⟨[_],⟨rfl,trivial⟩,(fun _ => by rw [hfl_r]; rfl),hp.sub d D,c⟩
  | false =>
   have hq4 := aU hq2 c';refine .sr (.t2 (aB aL rfl (a.g 0 rfl)) (Rg.wd trivial (aD (aT _) rfl) rfl ?_));rintro _ w4 ⟨bt16,rfl,qt16,hx4,l⟩;replace c := bS c hp.und d hx4;replace hp := hp.extw hx4;replace a := a.ext hx4
   try replace o := o.ext hx4
   refine Rg.wd trivial (aC Tryz.call73 rfl (bD hC hp (texts := [⟨#[119,104,105,108,101]⟩]) l (by decide))) rfl ?_;rintro _ w5 ⟨rfl,hx5⟩;replace c := bS c hp.und d hx5;replace hp := hp.extw hx5;replace a := a.ext hx5
   try replace o := o.ext hx5
   try replace l := l.ext hx5
   rw [show (aV [⟨#[119,104,105,108,101]⟩] (aO s.rem)) = false from c'];refine .a2 rfl (.done (.condF rfl ?_))
   cases d' : (aV [⟨#[114,101,116,117,114,110]⟩] (aO s.rem)) with
   | true =>
    have hq6 := aX hq4 d';refine .sr (.t2 (aB aL rfl (a.g 0 rfl)) (Rg.wd trivial (aD (aT _) rfl) rfl ?_));rintro _ w6 ⟨bt23,rfl,qt23,hx6,t⟩;replace c := bS c hp.und d hx6;replace hp := hp.extw hx6;replace a := a.ext hx6
    try replace o := o.ext hx6
    try replace l := l.ext hx6
    refine Rg.wd trivial (aC Tryz.call73 rfl (bD hC hp (texts := [⟨#[114,101,116,117,114,110]⟩]) t (by decide))) rfl ?_;rintro _ w7 ⟨rfl,hx7⟩;replace c := bS c hp.und d hx7;replace hp := hp.extw hx7;replace a := a.ext hx7
    try replace o := o.ext hx7
    try replace l := l.ext hx7
    try replace t := t.ext hx7
    rw [show (aV [⟨#[114,101,116,117,114,110]⟩] (aO s.rem)) = true from d'];refine .a2 rfl (.done (.condT rfl (.sr (.t2 (aB aL rfl (a.g 0 rfl)) (.t2 (aB aL rfl (a.g 0 rfl)) (.t2 (aM (us := [.pointer (some ⟨bP,0,none⟩)]) (vs := []) rfl rfl) ?_))))));obtain ⟨s1,h1a,h1b⟩ := aI hq6;refine Rg.wd trivial (aC Tryz.call77 rfl (bZ hp (dL Tryz.call226 hD (.returnS)) h1a (aH h1b hb))) rfl ?_;rintro _ w8 ⟨hp1,hb8⟩;replace a := aE a hb8 f;replace c := c.trans (hb8.sub d);clear hp;have hp := hp1;clear hp1;refine .done ?_;have hp1 : Ps w0 tv aG U w8 bP below k r := by rw [cD h1b]; exact hp
    clear hp;have hp := hp1;clear hp1;have hfl_r : r.flag = false := by rw [cD h1b]
    refine .sr (.a2 rfl (.done (Wp.ret ?_)));exact ⟨[_],⟨rfl,trivial⟩,(fun _ => by rw [hfl_r]; rfl),hp.sub d D,c⟩
   | false =>
    have hq6 := aU hq4 d';refine .sr (.t2 (aB aL rfl (a.g 0 rfl)) (Rg.wd trivial (aD (aT _) rfl) rfl ?_));rintro _ w6 ⟨bt23,rfl,qt23,hx6,t⟩;replace c := bS c hp.und d hx6;replace hp := hp.extw hx6;replace a := a.ext hx6
    try replace o := o.ext hx6
    try replace l := l.ext hx6
    refine Rg.wd trivial (aC Tryz.call73 rfl (bD hC hp (texts := [⟨#[114,101,116,117,114,110]⟩]) t (by decide))) rfl ?_;rintro _ w7 ⟨rfl,hx7⟩;replace c := bS c hp.und d hx7;replace hp := hp.extw hx7;replace a := a.ext hx7
    try replace o := o.ext hx7
    try replace l := l.ext hx7
    try replace t := t.ext hx7
    rw [show (aV [⟨#[114,101,116,117,114,110]⟩] (aO s.rem)) = false from d'];refine .a2 rfl (.done (.condF rfl (Wp.skip (.sr (.t2 (aB aL rfl (a.g 0 rfl)) (.t2 (aF rfl) (.t2 (aA fA rfl) ?_)))))));obtain ⟨gp1,_,_,hg1,hl1,hvp1⟩ := hp.var;have hgl1 := congrArg List.length hg1;rw [List.length_drop] at hgl1;refine .t2 (aB bA rfl (hvp1.g 1 rfl)) (.a2 rfl (.done ?_))
    cases e' : (aV [⟨#[105,102]⟩,⟨#[109,97,116,99,104]⟩,⟨#[123]⟩] (aO s.rem)) with
    | true =>
     have hq8 := aX hq6 e';refine .sr (.t2 (aB aL rfl (a.g 0 rfl)) (Rg.wd trivial (aD (pP _ _ _) rfl) rfl ?_));rintro _ w8 ⟨bt34,rfl,qt34,hx8,C⟩;replace c := bS c hp.und d hx8;replace hp := hp.extw hx8;replace a := a.ext hx8
     try replace o := o.ext hx8
     try replace l := l.ext hx8
     try replace t := t.ext hx8
     refine Rg.wd trivial (aC Tryz.call73 rfl (bD hC hp (texts := [⟨#[105,102]⟩,⟨#[109,97,116,99,104]⟩,⟨#[123]⟩]) C (by decide))) rfl ?_;rintro _ w9 ⟨rfl,hx9⟩;replace c := bS c hp.und d hx9;replace hp := hp.extw hx9;replace a := a.ext hx9
     try replace o := o.ext hx9
     try replace l := l.ext hx9
     try replace t := t.ext hx9
     try replace C := C.ext hx9
     rw [show (aV [⟨#[105,102]⟩,⟨#[109,97,116,99,104]⟩,⟨#[123]⟩] (aO s.rem)) = true from e'];have a' := hp.ext.le;have M := a.lt;have H := fun z hz => hp.und z (d z hz);refine Rg.wd trivial (dB Tryz.zeroValue4 rfl) rfl ?_;rintro _ w10 ⟨A,rfl,Z,hx10,b⟩;replace c := bS c hp.und d hx10;obtain ⟨p,hp1,i,hs10⟩ := hp.box hx10 Z b.lt;clear hp;have hp := hp1;clear hp1;replace d := fun z hz => hs10 z (d z hz);replace a := a.ext hx10;replace f := hs10 _ f
     try replace o := o.ext hx10
     try replace l := l.ext hx10
     try replace t := t.ext hx10
     try replace C := C.ext hx10
     have O : ¬ F A := fun hh => by have := H _ hh; omega
     have R : w0.heap.size ≤ A := by omega
     have v : E ≠ A := by omega
     refine Rg.wn trivial (cW b rfl rfl rfl uB rfl rfl) ?_;rintro _ w11 ⟨hu11,hvn⟩;replace c := c.trans (Bw.upd hu11 O);replace hp := hp.updF hu11 i R;clear b;have b := hvn;clear hvn;replace a := a.upd hu11 v;clear o;clear l;clear t;clear C;refine .done (.seq (.sr (.t2 (aB uB rfl (b.g 0 rfl)) (.done (.condT rfl (Wp.region (.t2 (aB aL rfl (a.g 0 rfl)) ?_)))))));have hvs := hp.val hC;obtain ⟨q,hq,hsame,hmore⟩ := nW hq8;have hqb : q.adds ≤ fR := by
      by_cases e : q.rem.length = s.rem.length
      ·exact aH (hsame e) hb
      ·exact aH (hmore e) hb
     refine Rg.wd trivial (aC Tryz.call227 rfl (bG hD hp hq hqb)) rfl ?_;rintro _ w12 ⟨hst,hp1,hb12⟩;replace a := aE a hb12 f;replace b := aE b hb12 i;replace c := c.trans (hb12.sub d);clear hp;have hp := hp1;clear hp1;refine .done (.seq (Wp.block ?_))
     cases Y : (decide (q.rem.length = s.rem.length)) with
     | true =>
      refine .sr (.t2 (aB aL rfl (a.g 0 rfl)) (.t2 (aF rfl) (.t2 (aA fA rfl) ?_)));obtain ⟨gp2,_,_,hg2,hl2,hvp2⟩ := hp.var;have hgl2 := congrArg List.length hg2;rw [List.length_drop] at hgl2;refine .t2 (aB bA rfl (hvp2.g 1 rfl)) (.m2 rfl ?_);refine .t2 (aS rfl rfl (by have := of_decide_eq_true Y; omega)) ?_;refine .a2 rfl (.done (.condT rfl ?_));have hsa := hsame (of_decide_eq_true Y);have hqk : q.kids ≠ [] := by
       exact He (x := .primary) rfl trivial hvs hq
      obtain ⟨gs,np,caps,ppos,cvk,kl,Q,old,tr0⟩ := hp.topRow;refine Wp.seq (Wp.draw [0,1,2,3,4,5,6,7,8,9,10,11] [] mixed (by kernel_rfl) (by kernel_rfl) ?_);intro w13 hx13 _;replace c := bS c hp.und d hx13;replace hp := hp.extw hx13;replace a := a.ext hx13;replace b := b.ext hx13;obtain ⟨gs,np,caps,ppos,cvk,kl,Q,old,tr⟩ := hp.topRow;have trcap := tr.cap;have trs := tr.small;have hqb2 : q.adds ≤ 1000000000 := hqb;refine .t2 (aB aL rfl (a.g 0 rfl)) (.t2 (aF rfl) (.t2 (aA eI rfl) (.t2 (aB eH rfl (tr.var.g 2 rfl)) (.t2 (aB aL rfl (a.g 0 rfl)) (.t2 (aF rfl) (.t2 (aA eI rfl) (.t2 (aB eH rfl (tr.var.g 2 rfl)) (.t2 (dC Tryz.underlying52 rfl) ?_))))))));refine .t2 (eG rfl rfl (by omega)) ?_;refine .t2 (bI Tryz.underlying52 dA rfl rfl (by omega)) ?_;refine .a2 rfl (.done ?_);refine Wp.seq (Wp.draw [0,1,2,3,4,5,6,7,8,9,10,11,12,13,14] [0] mixed (by kernel_rfl) (by kernel_rfl) ?_);intro w14 hx14 _;replace c := bS c hp.und d hx14;replace hp := hp.extw hx14;replace a := a.ext hx14;replace b := b.ext hx14;obtain ⟨gs2,np2,caps2,ppos2,cvk2,kl2,Q2,old2,tr2⟩ := hp.topRow;have e := Option.some.inj ((tr.var.ext hx14).symm.trans tr2.var);simp at e;obtain ⟨_,rfl,rfl,rfl⟩ := e;clear tr;have tr := tr2;clear tr2;obtain ⟨gk,capk,rfl,hck,hkk,trd⟩ := tr.drop hqk;have trc := tr.cell;have trf := tr.few;refine .m2 rfl (.m2 rfl (.t2 (aF rfl) (.t2 (aA gE rfl) (.t2 (aB eH rfl trc) (.m2 rfl (.t2 (aF rfl) (.t2 (aA gE rfl) (.t2 (aB eH rfl trc) (.t2 (dC Tryz.underlying52 rfl) ?_)))))))));refine .t2 (eG rfl rfl (by omega)) ?_;refine .t2 (dG Tryz.underlying52 dA rfl rfl rfl (by omega)) ?_;have e5 : Value.slice (some (if capk = (0 : Int).toNat then (⟨gk,0,none⟩ : Addr) else ⟨gk,0 + (0 : Int).toNat * 3,none⟩)) ((((kl2.length - 1 + 1 : Nat) : Int) - 1).toNat - (0 : Int).toNat) (capk - (0 : Int).toNat) = .slice (some ⟨gk,0,none⟩) (kl2.length - 1) capk := by
       rw [if_neg (by simp; omega),show ((((kl2.length - 1 + 1 : Nat) : Int) - 1).toNat - (0 : Int).toNat) = kl2.length - 1 by omega,show capk - (0 : Int).toNat = capk by omega,show 0 + (0 : Int).toNat * 3 = 0 by omega]
      rw [e5];refine .t2 (aF rfl) (.t2 (aA gE rfl) ?_);have hoS : 0 + (((np + 1 : Nat) : Int) - 1).toNat * 3 + 2 = np * 3 + 2 := by omega
      have trl := tr.len;refine Rg.wnB trivial rfl (dZ (cs := [.slice (some ⟨gk,0,none⟩) (kl2.length - 1) capk]) tr.row rfl rfl rfl eH (by rw [hoS]; simp only [List.length_singleton]; omega) (by intro u hu; simp at hu; subst hu; rfl)) (by rfl) ?_;rintro _ w15 ⟨hu15,hvS⟩;rw [hoS] at hvS;obtain ⟨hpd,hbd⟩ := trd _ hu15 hvS;replace c := c.trans (hbd.sub d);replace a := aE a hbd f;replace b := aE b hbd i;refine .done ?_;obtain ⟨s1,h1a,h1b⟩ := aI hsa;have hp1 : Ps w0 tv aG p w15 bP below k s1 := by rw [rK h1a]; exact hpd
      clear hp;have hp := hp1;clear hp1;refine .sr (.t2 (aB aL rfl (a.g 0 rfl)) ?_);obtain ⟨s2,h2a,h2b⟩ := aI h1b;refine Rg.wd trivial (aC Tryz.call193 rfl (sX hC hp h2a (aH h2b hb))) rfl ?_;rintro _ w16 ⟨hp1,hb16⟩;replace a := aE a hb16 f;replace b := aE b hb16 i;replace c := c.trans (hb16.sub d);clear hp;have hp := hp1;clear hp1;refine .done ?_;have hp1 : Ps w0 tv aG p w16 bP below k r := by rw [cD h2b]; exact hp
      clear hp;have hp := hp1;clear hp1;have hfl_r : r.flag = false := by rw [cD h2b]
      refine .sr (.a2 rfl (.done (Wp.ret ?_)));exact ⟨[_],⟨rfl,trivial⟩,(fun _ => by rw [hfl_r]; rfl),hp.sub d D,c⟩
     | false =>
      refine .sr (.t2 (aB aL rfl (a.g 0 rfl)) (.t2 (aF rfl) (.t2 (aA fA rfl) ?_)));obtain ⟨gp2,_,_,hg2,hl2,hvp2⟩ := hp.var;have hgl2 := congrArg List.length hg2;rw [List.length_drop] at hgl2;refine .t2 (aB bA rfl (hvp2.g 1 rfl)) (.m2 rfl ?_);refine .t2 (aR rfl rfl (by have := of_decide_eq_false Y; omega)) ?_;refine .a2 rfl (.done (.condF rfl ?_));have hmo := hmore (of_decide_eq_false Y)
      cases I : (aV [⟨#[125]⟩] (aO q.rem)) with
      | true =>
       have hq11 := aX hmo I;refine .sr (.t2 (aB aL rfl (a.g 0 rfl)) (Rg.wd trivial (aD (aT _) rfl) rfl ?_));rintro _ w13 ⟨bt80,rfl,qt80,hx13,j⟩;replace c := bS c hp.und d hx13;replace hp := hp.extw hx13;replace a := a.ext hx13;replace b := b.ext hx13;refine Rg.wd trivial (aC Tryz.call73 rfl (bD hC hp (texts := [⟨#[125]⟩]) j (by decide))) rfl ?_;rintro _ w14 ⟨rfl,hx14⟩;replace c := bS c hp.und d hx14;replace hp := hp.extw hx14;replace a := a.ext hx14;replace b := b.ext hx14
       try replace j := j.ext hx14
       rw [show (aV [⟨#[125]⟩] (aO q.rem)) = true from I];refine .a2 rfl (.done ?_);have hp1 : Ps w0 tv aG p w14 bP below k r := by rw [cD hq11]; exact hp
       clear hp;have hp := hp1;clear hp1;have hfl_r : r.flag = true := by rw [cD hq11]
       refine .condT rfl (.sr (.a2 rfl (.done (Wp.ret ?_))));exact ⟨[_],⟨rfl,trivial⟩,(fun _ => by rw [hfl_r]; rfl),hp.sub d D,c⟩
      | false =>
       have hq11 := aU hmo I;obtain ⟨s1,h1a,h1b⟩ := aI hq11;refine .sr (.t2 (aB aL rfl (a.g 0 rfl)) (Rg.wd trivial (aD (aT _) rfl) rfl ?_));rintro _ w13 ⟨bt80,rfl,qt80,hx13,j⟩;replace c := bS c hp.und d hx13;replace hp := hp.extw hx13;replace a := a.ext hx13;replace b := b.ext hx13;refine Rg.wd trivial (aC Tryz.call73 rfl (bD hC hp (texts := [⟨#[125]⟩]) j (by decide))) rfl ?_;rintro _ w14 ⟨rfl,hx14⟩;replace c := bS c hp.und d hx14;replace hp := hp.extw hx14;replace a := a.ext hx14;replace b := b.ext hx14
       try replace j := j.ext hx14
       rw [show (aV [⟨#[125]⟩] (aO q.rem)) = false from I];refine .a2 rfl (.done (.condF rfl ?_))
       cases K : (aV [⟨#[61]⟩] (aO q.rem)) with
       | true =>
        have hq13 := aX h1a K;refine .sr (.t2 (aB aL rfl (a.g 0 rfl)) (Rg.wd trivial (aD (aT _) rfl) rfl ?_));rintro _ w15 ⟨bt84,rfl,qt84,hx15,y⟩;replace c := bS c hp.und d hx15;replace hp := hp.extw hx15;replace a := a.ext hx15;replace b := b.ext hx15
        try replace j := j.ext hx15
        refine Rg.wd trivial (aC Tryz.call73 rfl (bD hC hp (texts := [⟨#[61]⟩]) y (by decide))) rfl ?_;rintro _ w16 ⟨rfl,hx16⟩;replace c := bS c hp.und d hx16;replace hp := hp.extw hx16;replace a := a.ext hx16;replace b := b.ext hx16
        try replace j := j.ext hx16
        try replace y := y.ext hx16
        rw [show (aV [⟨#[61]⟩] (aO q.rem)) = true from K];refine .a2 rfl (.done (.condT rfl (Wp.region (.t2 (aB aL rfl (a.g 0 rfl)) (.t2 (aM (us := []) (vs := [.pointer (some ⟨E,0,none⟩)]) rfl rfl) (Rg.wd trivial (aC Tryz.call200 rfl (gN hp (zB hC hD a f) hq13 (aH h1b hb))) rfl ?_))))));rintro _ w17 ⟨hp1,hb17⟩;replace a := aE a hb17 f;replace b := aE b hb17 i;replace c := c.trans (hb17.sub d);clear hp;have hp := hp1;clear hp1;refine .done ?_;have hp1 : Ps w0 tv aG p w17 bP below k r := by rw [cD h1b]; exact hp
        clear hp;have hp := hp1;clear hp1;have hfl_r : r.flag = false := by rw [cD h1b]
        refine .sr (.a2 rfl (.done (Wp.ret ?_)));exact ⟨[_],⟨rfl,trivial⟩,(fun _ => by rw [hfl_r]; rfl),hp.sub d D,c⟩
       | false =>
        have hq13 := aU h1a K;refine .sr (.t2 (aB aL rfl (a.g 0 rfl)) (Rg.wd trivial (aD (aT _) rfl) rfl ?_));rintro _ w15 ⟨bt84,rfl,qt84,hx15,y⟩;replace c := bS c hp.und d hx15;replace hp := hp.extw hx15;replace a := a.ext hx15;replace b := b.ext hx15
        try replace j := j.ext hx15
        refine Rg.wd trivial (aC Tryz.call73 rfl (bD hC hp (texts := [⟨#[61]⟩]) y (by decide))) rfl ?_;rintro _ w16 ⟨rfl,hx16⟩;replace c := bS c hp.und d hx16;replace hp := hp.extw hx16;replace a := a.ext hx16;replace b := b.ext hx16
        try replace j := j.ext hx16
        try replace y := y.ext hx16
        rw [show (aV [⟨#[61]⟩] (aO q.rem)) = false from K];refine .a2 rfl (.done (.condF rfl (Wp.region (.t2 (aB aL rfl (a.g 0 rfl)) (.t2 (aM (us := []) (vs := [.pointer (some ⟨E,0,none⟩),.pointer (some ⟨A,0,none⟩)]) rfl rfl) (Rg.wd trivial (aC Tryz.call200 rfl (gN hp (tC hC hD a f b i) hq13 (aH h1b hb))) rfl ?_))))));rintro _ w17 ⟨hp1,hb17⟩;replace a := aE a hb17 f;replace b := aE b hb17 i;replace c := c.trans (hb17.sub d);clear hp;have hp := hp1;clear hp1;refine .done ?_;have hp1 : Ps w0 tv aG p w17 bP below k r := by rw [cD h1b]; exact hp
        clear hp;have hp := hp1;clear hp1;have hfl_r : r.flag = false := by rw [cD h1b]
        refine .sr (.a2 rfl (.done (Wp.ret ?_)));exact ⟨[_],⟨rfl,trivial⟩,(fun _ => by rw [hfl_r]; rfl),hp.sub d D,c⟩
    | false =>
     have hq8 := aU hq6 e';refine .sr (.t2 (aB aL rfl (a.g 0 rfl)) (Rg.wd trivial (aD (pP _ _ _) rfl) rfl ?_));rintro _ w8 ⟨bt34,rfl,qt34,hx8,C⟩;replace c := bS c hp.und d hx8;replace hp := hp.extw hx8;replace a := a.ext hx8
     try replace o := o.ext hx8
     try replace l := l.ext hx8
     try replace t := t.ext hx8
     refine Rg.wd trivial (aC Tryz.call73 rfl (bD hC hp (texts := [⟨#[105,102]⟩,⟨#[109,97,116,99,104]⟩,⟨#[123]⟩]) C (by decide))) rfl ?_;rintro _ w9 ⟨rfl,hx9⟩;replace c := bS c hp.und d hx9;replace hp := hp.extw hx9;replace a := a.ext hx9
     try replace o := o.ext hx9
     try replace l := l.ext hx9
     try replace t := t.ext hx9
     try replace C := C.ext hx9
     rw [show (aV [⟨#[105,102]⟩,⟨#[109,97,116,99,104]⟩,⟨#[123]⟩] (aO s.rem)) = false from e'];have a' := hp.ext.le;have M := a.lt;have H := fun z hz => hp.und z (d z hz);refine Rg.wd trivial (dB Tryz.zeroValue4 rfl) rfl ?_;rintro _ w10 ⟨A,rfl,Z,hx10,b⟩;replace c := bS c hp.und d hx10;obtain ⟨p,hp1,i,hs10⟩ := hp.box hx10 Z b.lt;clear hp;have hp := hp1;clear hp1;replace d := fun z hz => hs10 z (d z hz);replace a := a.ext hx10;replace f := hs10 _ f
     try replace o := o.ext hx10
     try replace l := l.ext hx10
     try replace t := t.ext hx10
     try replace C := C.ext hx10
     have O : ¬ F A := fun hh => by have := H _ hh; omega
     have R : w0.heap.size ≤ A := by omega
     have v : E ≠ A := by omega
     refine Rg.wn trivial (cW b rfl rfl rfl uB rfl rfl) ?_;rintro _ w11 ⟨hu11,hvn⟩;replace c := c.trans (Bw.upd hu11 O);replace hp := hp.updF hu11 i R;clear b;have b := hvn;clear hvn;replace a := a.upd hu11 v;clear o;clear l;clear t;clear C;refine .done (.seq (.sr (.t2 (aB uB rfl (b.g 0 rfl)) (.done (.condF rfl (Wp.region (.t2 (aB aL rfl (a.g 0 rfl)) ?_)))))));have hvs := hp.val hC;obtain ⟨q,hq,hsame,hmore⟩ := nW hq8;have hqb : q.adds ≤ fR := by
      by_cases e : q.rem.length = s.rem.length
      ·exact aH (hsame e) hb
      ·exact aH (hmore e) hb
     refine Rg.wd trivial (aC Tryz.call132 rfl (gH hC hD hp hq hqb)) rfl ?_;rintro _ w12 ⟨hp1,hb12⟩;replace a := aE a hb12 f;replace b := aE b hb12 i;replace c := c.trans (hb12.sub d);clear hp;have hp := hp1;clear hp1;refine .done (.seq (Wp.block ?_))
     cases Y : (decide (q.rem.length = s.rem.length)) with
     | true =>
      refine .sr (.t2 (aB aL rfl (a.g 0 rfl)) (.t2 (aF rfl) (.t2 (aA fA rfl) ?_)));obtain ⟨gp2,_,_,hg2,hl2,hvp2⟩ := hp.var;have hgl2 := congrArg List.length hg2;rw [List.length_drop] at hgl2;refine .t2 (aB bA rfl (hvp2.g 1 rfl)) (.m2 rfl ?_);refine .t2 (aS rfl rfl (by have := of_decide_eq_true Y; omega)) ?_;refine .a2 rfl (.done (.condT rfl ?_));have hsa := hsame (of_decide_eq_true Y);have hqk : q.kids ≠ [] := by
       exact He (x := .binary 0) rfl (Nat.zero_le 5) hvs hq
      obtain ⟨gs,np,caps,ppos,cvk,kl,Q,old,tr0⟩ := hp.topRow;refine Wp.seq (Wp.draw [0,1,2,3,4,5,6,7,8,9,10,11] [] mixed (by kernel_rfl) (by kernel_rfl) ?_);intro w13 hx13 _;replace c := bS c hp.und d hx13;replace hp := hp.extw hx13;replace a := a.ext hx13;replace b := b.ext hx13;obtain ⟨gs,np,caps,ppos,cvk,kl,Q,old,tr⟩ := hp.topRow;have trcap := tr.cap;have trs := tr.small;have hqb2 : q.adds ≤ 1000000000 := hqb;refine .t2 (aB aL rfl (a.g 0 rfl)) (.t2 (aF rfl) (.t2 (aA eI rfl) (.t2 (aB eH rfl (tr.var.g 2 rfl)) (.t2 (aB aL rfl (a.g 0 rfl)) (.t2 (aF rfl) (.t2 (aA eI rfl) (.t2 (aB eH rfl (tr.var.g 2 rfl)) (.t2 (dC Tryz.underlying52 rfl) ?_))))))));refine .t2 (eG rfl rfl (by omega)) ?_;refine .t2 (bI Tryz.underlying52 dA rfl rfl (by omega)) ?_;refine .a2 rfl (.done ?_);refine Wp.seq (Wp.draw [0,1,2,3,4,5,6,7,8,9,10,11,12,13,14] [0] mixed (by kernel_rfl) (by kernel_rfl) ?_);intro w14 hx14 _;replace c := bS c hp.und d hx14;replace hp := hp.extw hx14;replace a := a.ext hx14;replace b := b.ext hx14;obtain ⟨gs2,np2,caps2,ppos2,cvk2,kl2,Q2,old2,tr2⟩ := hp.topRow;have e := Option.some.inj ((tr.var.ext hx14).symm.trans tr2.var);simp at e;obtain ⟨_,rfl,rfl,rfl⟩ := e;clear tr;have tr := tr2;clear tr2;obtain ⟨gk,capk,rfl,hck,hkk,trd⟩ := tr.drop hqk;have trc := tr.cell;have trf := tr.few;refine .m2 rfl (.m2 rfl (.t2 (aF rfl) (.t2 (aA gE rfl) (.t2 (aB eH rfl trc) (.m2 rfl (.t2 (aF rfl) (.t2 (aA gE rfl) (.t2 (aB eH rfl trc) (.t2 (dC Tryz.underlying52 rfl) ?_)))))))));refine .t2 (eG rfl rfl (by omega)) ?_;refine .t2 (dG Tryz.underlying52 dA rfl rfl rfl (by omega)) ?_;have e5 : Value.slice (some (if capk = (0 : Int).toNat then (⟨gk,0,none⟩ : Addr) else ⟨gk,0 + (0 : Int).toNat * 3,none⟩)) ((((kl2.length - 1 + 1 : Nat) : Int) - 1).toNat - (0 : Int).toNat) (capk - (0 : Int).toNat) = .slice (some ⟨gk,0,none⟩) (kl2.length - 1) capk := by
       rw [if_neg (by simp; omega),show ((((kl2.length - 1 + 1 : Nat) : Int) - 1).toNat - (0 : Int).toNat) = kl2.length - 1 by omega,show capk - (0 : Int).toNat = capk by omega,show 0 + (0 : Int).toNat * 3 = 0 by omega]
      rw [e5];refine .t2 (aF rfl) (.t2 (aA gE rfl) ?_);have hoS : 0 + (((np + 1 : Nat) : Int) - 1).toNat * 3 + 2 = np * 3 + 2 := by omega
      have trl := tr.len;refine Rg.wnB trivial rfl (dZ (cs := [.slice (some ⟨gk,0,none⟩) (kl2.length - 1) capk]) tr.row rfl rfl rfl eH (by rw [hoS]; simp only [List.length_singleton]; omega) (by intro u hu; simp at hu; subst hu; rfl)) (by rfl) ?_;rintro _ w15 ⟨hu15,hvS⟩;rw [hoS] at hvS;obtain ⟨hpd,hbd⟩ := trd _ hu15 hvS;replace c := c.trans (hbd.sub d);replace a := aE a hbd f;replace b := aE b hbd i;refine .done ?_;obtain ⟨s1,h1a,h1b⟩ := aI hsa;have hp1 : Ps w0 tv aG p w15 bP below k s1 := by rw [rK h1a]; exact hpd
      clear hp;have hp := hp1;clear hp1;refine .sr (.t2 (aB aL rfl (a.g 0 rfl)) ?_);obtain ⟨s2,h2a,h2b⟩ := aI h1b;refine Rg.wd trivial (aC Tryz.call193 rfl (sX hC hp h2a (aH h2b hb))) rfl ?_;rintro _ w16 ⟨hp1,hb16⟩;replace a := aE a hb16 f;replace b := aE b hb16 i;replace c := c.trans (hb16.sub d);clear hp;have hp := hp1;clear hp1;refine .done ?_;have hp1 : Ps w0 tv aG p w16 bP below k r := by rw [cD h2b]; exact hp
      clear hp;have hp := hp1;clear hp1;have hfl_r : r.flag = false := by rw [cD h2b]
      refine .sr (.a2 rfl (.done (Wp.ret ?_)));exact ⟨[_],⟨rfl,trivial⟩,(fun _ => by rw [hfl_r]; rfl),hp.sub d D,c⟩
     | false =>
      refine .sr (.t2 (aB aL rfl (a.g 0 rfl)) (.t2 (aF rfl) (.t2 (aA fA rfl) ?_)));obtain ⟨gp2,_,_,hg2,hl2,hvp2⟩ := hp.var;have hgl2 := congrArg List.length hg2;rw [List.length_drop] at hgl2;refine .t2 (aB bA rfl (hvp2.g 1 rfl)) (.m2 rfl ?_);refine .t2 (aR rfl rfl (by have := of_decide_eq_false Y; omega)) ?_;refine .a2 rfl (.done (.condF rfl ?_));have hmo := hmore (of_decide_eq_false Y)
      cases I : (aV [⟨#[125]⟩] (aO q.rem)) with
      | true =>
       have hq11 := aX hmo I;refine .sr (.t2 (aB aL rfl (a.g 0 rfl)) (Rg.wd trivial (aD (aT _) rfl) rfl ?_));rintro _ w13 ⟨bt80,rfl,qt80,hx13,j⟩;replace c := bS c hp.und d hx13;replace hp := hp.extw hx13;replace a := a.ext hx13;replace b := b.ext hx13;refine Rg.wd trivial (aC Tryz.call73 rfl (bD hC hp (texts := [⟨#[125]⟩]) j (by decide))) rfl ?_;rintro _ w14 ⟨rfl,hx14⟩;replace c := bS c hp.und d hx14;replace hp := hp.extw hx14;replace a := a.ext hx14;replace b := b.ext hx14
       try replace j := j.ext hx14
       rw [show (aV [⟨#[125]⟩] (aO q.rem)) = true from I];refine .a2 rfl (.done ?_);have hp1 : Ps w0 tv aG p w14 bP below k r := by rw [cD hq11]; exact hp
       clear hp;have hp := hp1;clear hp1;have hfl_r : r.flag = true := by rw [cD hq11]
       refine .condT rfl (.sr (.a2 rfl (.done (Wp.ret ?_))));exact ⟨[_],⟨rfl,trivial⟩,(fun _ => by rw [hfl_r]; rfl),hp.sub d D,c⟩
      | false =>
       have hq11 := aU hmo I;obtain ⟨s1,h1a,h1b⟩ := aI hq11;refine .sr (.t2 (aB aL rfl (a.g 0 rfl)) (Rg.wd trivial (aD (aT _) rfl) rfl ?_));rintro _ w13 ⟨bt80,rfl,qt80,hx13,j⟩;replace c := bS c hp.und d hx13;replace hp := hp.extw hx13;replace a := a.ext hx13;replace b := b.ext hx13;refine Rg.wd trivial (aC Tryz.call73 rfl (bD hC hp (texts := [⟨#[125]⟩]) j (by decide))) rfl ?_;rintro _ w14 ⟨rfl,hx14⟩;replace c := bS c hp.und d hx14;replace hp := hp.extw hx14;replace a := a.ext hx14;replace b := b.ext hx14
       try replace j := j.ext hx14
       rw [show (aV [⟨#[125]⟩] (aO q.rem)) = false from I];refine .a2 rfl (.done (.condF rfl ?_))
       cases K : (aV [⟨#[61]⟩] (aO q.rem)) with
       | true =>
        have hq13 := aX h1a K;refine .sr (.t2 (aB aL rfl (a.g 0 rfl)) (Rg.wd trivial (aD (aT _) rfl) rfl ?_));rintro _ w15 ⟨bt84,rfl,qt84,hx15,y⟩;replace c := bS c hp.und d hx15;replace hp := hp.extw hx15;replace a := a.ext hx15;replace b := b.ext hx15
        try replace j := j.ext hx15
        refine Rg.wd trivial (aC Tryz.call73 rfl (bD hC hp (texts := [⟨#[61]⟩]) y (by decide))) rfl ?_;rintro _ w16 ⟨rfl,hx16⟩;replace c := bS c hp.und d hx16;replace hp := hp.extw hx16;replace a := a.ext hx16;replace b := b.ext hx16
        try replace j := j.ext hx16
        try replace y := y.ext hx16
        rw [show (aV [⟨#[61]⟩] (aO q.rem)) = true from K];refine .a2 rfl (.done (.condT rfl (Wp.region (.t2 (aB aL rfl (a.g 0 rfl)) (.t2 (aM (us := []) (vs := [.pointer (some ⟨E,0,none⟩)]) rfl rfl) (Rg.wd trivial (aC Tryz.call200 rfl (gN hp (zB hC hD a f) hq13 (aH h1b hb))) rfl ?_))))));rintro _ w17 ⟨hp1,hb17⟩;replace a := aE a hb17 f;replace b := aE b hb17 i;replace c := c.trans (hb17.sub d);clear hp;have hp := hp1;clear hp1;refine .done ?_;have hp1 : Ps w0 tv aG p w17 bP below k r := by rw [cD h1b]; exact hp
        clear hp;have hp := hp1;clear hp1;have hfl_r : r.flag = false := by rw [cD h1b]
        refine .sr (.a2 rfl (.done (Wp.ret ?_)));exact ⟨[_],⟨rfl,trivial⟩,(fun _ => by rw [hfl_r]; rfl),hp.sub d D,c⟩
       | false =>
        have hq13 := aU h1a K;refine .sr (.t2 (aB aL rfl (a.g 0 rfl)) (Rg.wd trivial (aD (aT _) rfl) rfl ?_));rintro _ w15 ⟨bt84,rfl,qt84,hx15,y⟩;replace c := bS c hp.und d hx15;replace hp := hp.extw hx15;replace a := a.ext hx15;replace b := b.ext hx15
        try replace j := j.ext hx15
        refine Rg.wd trivial (aC Tryz.call73 rfl (bD hC hp (texts := [⟨#[61]⟩]) y (by decide))) rfl ?_;rintro _ w16 ⟨rfl,hx16⟩;replace c := bS c hp.und d hx16;replace hp := hp.extw hx16;replace a := a.ext hx16;replace b := b.ext hx16
        try replace j := j.ext hx16
        try replace y := y.ext hx16
        rw [show (aV [⟨#[61]⟩] (aO q.rem)) = false from K];refine .a2 rfl (.done (.condF rfl (Wp.region (.t2 (aB aL rfl (a.g 0 rfl)) (.t2 (aM (us := []) (vs := [.pointer (some ⟨E,0,none⟩),.pointer (some ⟨A,0,none⟩)]) rfl rfl) (Rg.wd trivial (aC Tryz.call200 rfl (gN hp (qV hC hD a f b i) hq13 (aH h1b hb))) rfl ?_))))));rintro _ w17 ⟨hp1,hb17⟩;replace a := aE a hb17 f;replace b := aE b hb17 i;replace c := c.trans (hb17.sub d);clear hp;have hp := hp1;clear hp1;refine .done ?_;have hp1 : Ps w0 tv aG p w17 bP below k r := by rw [cD h1b]; exact hp
        clear hp;have hp := hp1;clear hp1;have hfl_r : r.flag = false := by rw [cD h1b]
        refine .sr (.a2 rfl (.done (Wp.ret ?_)));exact ⟨[_],⟨rfl,trivial⟩,(fun _ => by rw [hfl_r]; rfl),hp.sub d D,c⟩
end
section
variable {w0 : World} {tv : Value} {aG : List Tok} {F : Fs} {w w' : World} {bP : Nat} {below : List (Int × List Tr)} {k : Int} {s r : S} {n : Nat}
theorem Ic (hC : Cx w0 tv aG) (hD : ∀ m,m < n → DN w0 tv aG m) (hp : Ps w0 tv aG F w bP below k s) (hr : run body n (body .item) s = some r) (hb : r.adds ≤ fR) :
  Cl Tryz.prog 36 #[.pointer (some ⟨bP,0,none⟩)] w (fun u w' => (Nm.item = Nm.statement → u = .bool r.flag) ∧ Ps w0 tv aG F w' bP below k r ∧ Bw F w w') := by
 have l := Bw.refl F w;have j : ∀ z,F z → F z := fun z h => h;have Q := hp.base;obtain ⟨kd,hkd⟩ : ∃ kd,cY (aO s.rem) (aO (left s.rem)) = kd := ⟨_,rfl⟩;replace hr : run body n (if kd = 0 then .call .skipTo else (.node kd (.seq (Cmd.acc ⟨#[112,117,98]⟩) (.seq .bump (.call (.itemBody kd)))))) s = some r := by
  have := C3 (f := cY) (c := fun kd => if kd = 0 then .call .skipTo else (.node kd (.seq (Cmd.acc ⟨#[112,117,98]⟩) (.seq .bump (.call (.itemBody kd)))))) hr;rw [hkd] at this;exact this
 refine Cl.enter Tryz.func36 rfl Tryz.ntmps36 rfl rfl (.sr (Rg.wd trivial (aW rfl rfl) rfl ?_));rintro _ w1 ⟨M,rfl,e',hx1,a⟩;replace l := bS l hp.und j hx1;obtain ⟨h',hp1,i,hs1⟩ := hp.box hx1 e' a.lt;clear hp;have hp := hp1;clear hp1;replace j := fun z hz => hs1 z (j z hz);refine .done (.sr (.t2 (aB aL rfl (a.g 0 rfl)) (Rg.wd trivial (aC Tryz.call72 rfl (hp.peek hC)) rfl ?_)));rintro _ w2 ⟨rfl,hx2⟩;replace l := bS l hp.und j hx2;replace hp := hp.extw hx2;replace a := a.ext hx2;have g' := hp.ext.le;have c' := a.lt;have a' := fun z hz => hp.und z (j z hz);refine Rg.wd trivial (dB Tryz.zeroValue43 rfl) rfl ?_;rintro _ w3 ⟨O,rfl,f',hx3,b⟩;replace l := bS l hp.und j hx3;obtain ⟨i',hp1,o,hs3⟩ := hp.box hx3 f' b.lt;clear hp;have hp := hp1;clear hp1;replace j := fun z hz => hs3 z (j z hz);replace a := a.ext hx3;replace i := hs3 _ i;have U : ¬ F O := fun hh => by have := a' _ hh; omega
 have Y : w0.heap.size ≤ O := by omega
 have A : M ≠ O := by omega
 refine Rg.wn trivial (cW b rfl rfl rfl mK rfl rfl) ?_;rintro _ w4 ⟨hu4,hvn⟩;replace l := l.trans (Bw.upd hu4 U);replace hp := hp.updF hu4 o Y;clear b;have b := hvn;clear hvn;replace a := a.upd hu4 A;refine .done (.seq ?_)
 cases R : (aV [⟨#[112,117,98]⟩] (aO s.rem)) with
 | true =>
  refine .sr (.t2 (aB aL rfl (a.g 0 rfl)) (Rg.wd trivial (aD (aT _) rfl) rfl ?_));rintro _ w5 ⟨bt7,rfl,qt7,hx5,y⟩;replace l := bS l hp.und j hx5;replace hp := hp.extw hx5;replace a := a.ext hx5;replace b := b.ext hx5;refine Rg.wd trivial (aC Tryz.call73 rfl (bD hC hp (texts := [⟨#[112,117,98]⟩]) y (by decide))) rfl ?_;rintro _ w6 ⟨rfl,hx6⟩;replace l := bS l hp.und j hx6;replace hp := hp.extw hx6;replace a := a.ext hx6;replace b := b.ext hx6
  try replace y := y.ext hx6
  rw [show (aV [⟨#[112,117,98]⟩] (aO s.rem)) = true from R];refine .done (.condT rfl (Wp.region (.t2 (aB aL rfl (a.g 0 rfl)) (Rg.wd trivial (aC Tryz.call74 rfl (dJ hC hp)) rfl ?_))));rintro _ w7 ⟨bk10,rfl,hk10,hx7⟩;replace l := bS l hp.und j hx7;replace hp := hp.extw hx7;replace a := a.ext hx7;replace b := b.ext hx7
  try replace y := y.ext hx7
  refine Rg.wd trivial (aC Tryz.call72 rfl (hk10.peek hC)) rfl ?_;rintro _ w8 ⟨rfl,hx8⟩;replace l := bS l hp.und j hx8;replace hp := hp.extw hx8;replace a := a.ext hx8;replace b := b.ext hx8
  try replace y := y.ext hx8
  try replace hk10 := hk10.extw hx8
  rw [C4];refine Rg.wn trivial (cW b rfl rfl rfl mK rfl rfl) ?_;rintro _ w9 ⟨hu9,hvn⟩;replace l := l.trans (Bw.upd hu9 U);replace hp := hp.updF hu9 o Y;clear b;have b := hvn;clear hvn;replace a := a.upd hu9 A;clear y;refine .done (.sr (.t2 (aA mL rfl) (.t2 (aB hY rfl (b.g 1 rfl)) (Rg.wd trivial (aC Tryz.call75 rfl (oL (hC.asc.ext hp.ext))) rfl ?_))));rintro _ w10 ⟨rfl,hx10⟩;replace l := bS l hp.und j hx10;replace hp := hp.extw hx10;replace a := a.ext hx10;replace b := b.ext hx10
  try replace hk10 := hk10.extw hx10
  have b' := hp.ext.le;have E := a.lt;have H := b.lt;have C := fun z hz => hp.und z (j z hz);refine Rg.wd trivial (dB Tryz.zeroValue3 rfl) rfl ?_;rintro _ w11 ⟨x,rfl,Z,hx11,d⟩;replace l := bS l hp.und j hx11;obtain ⟨d',hp1,p,hs11⟩ := hp.box hx11 Z d.lt;clear hp;have hp := hp1;clear hp1;replace j := fun z hz => hs11 z (j z hz);replace a := a.ext hx11;replace i := hs11 _ i;replace b := b.ext hx11;replace o := hs11 _ o;have I : ¬ F x := fun hh => by have := C _ hh; omega
  have K : w0.heap.size ≤ x := by omega
  have t : M ≠ x := by omega
  have v : O ≠ x := by omega
  refine Rg.wn trivial (cW d rfl rfl rfl bA rfl rfl) ?_;rintro _ w12 ⟨hu12,hvn⟩;replace l := l.trans (Bw.upd hu12 I);replace hp := hp.updF hu12 p K;clear d;have d := hvn;clear hvn;replace a := a.upd hu12 t;replace b := b.upd hu12 v;refine .done (.seq ?_)
  cases q : (eF (aO (left s.rem)).2 == 0) with
  | true =>
   refine .sr (.t2 (aB bA rfl (d.g 0 rfl)) (.t2 (aS rfl rfl (beq_iff_eq.1 q)) (.m2 rfl (.so rfl rfl (.so rfl rfl (.so rfl rfl (.t2 (aJ rfl rfl) (.done (.condT rfl ?_)))))))));have hk0 : kd = 0 := by rw [← hkd]; unfold cY; simp [R,q,bne]
   rw [if_pos hk0] at hr;refine .sr (.t2 (aB aL rfl (a.g 0 rfl)) (Rg.wd trivial (aC Tryz.call76 rfl (bG hD hp hr hb)) rfl ?_));rintro _ w13 ⟨hst,hp1,hb13⟩;replace a := aE a hb13 i;replace b := aE b hb13 o;replace d := aE d hb13 p;replace l := l.trans (hb13.sub j);clear hp;have hp := hp1;clear hp1;refine .done (Wp.ret ?_);exact ⟨[],trivial,(fun h => by cases h),hp.sub j Q,l⟩
  | false =>
   cases D : ((aO (left s.rem)).1 == 104) with
   | true =>
    refine .sr (.t2 (aB bA rfl (d.g 0 rfl)) ?_);refine .t2 (aR rfl rfl (fun e => by rw [beq_iff_eq.2 e] at q; cases q)) ?_;refine .m2 rfl (.g2 (aA eV rfl) (.g2 (aB bA rfl (b.g 0 rfl)) (.g2 (cU rfl rfl (beq_iff_eq.1 D)) (.t2 (aN rfl rfl) (.done (.condF rfl (Wp.skip ?_)))))));have hke : eF (aO (left s.rem)).2 = kd := by rw [← hkd]; unfold cY; simp [R,q,D,bne]
    have hk0 : kd ≠ 0 := fun e => by rw [hke,e] at q; cases q
    rw [if_neg hk0] at hr;rw [hke] at d;refine Wp.region (.t2 (aB aL rfl (a.g 0 rfl)) (.t2 (aB bA rfl (d.g 0 rfl)) (.t2 (aM (us := []) (vs := [.pointer (some ⟨M,0,none⟩),.pointer (some ⟨x,0,none⟩)]) rfl rfl) (Rg.wd trivial (aC Tryz.call77 rfl (bZ hp (Db hC hD a i d p) hr hb)) rfl ?_))));rintro _ w13 ⟨hp1,hb13⟩;replace a := aE a hb13 i;replace b := aE b hb13 o;replace d := aE d hb13 p;replace l := l.trans (hb13.sub j);clear hp;have hp := hp1;clear hp1;refine .done ?_;exact ⟨[],trivial,(fun h => by cases h),hp.sub j Q,l⟩
   | false =>
    refine .sr (.t2 (aB bA rfl (d.g 0 rfl)) ?_);refine .t2 (aR rfl rfl (fun e => by rw [beq_iff_eq.2 e] at q; cases q)) ?_;refine .m2 rfl (.g2 (aA eV rfl) (.g2 (aB bA rfl (b.g 0 rfl)) ?_));refine .g2 (dX rfl rfl (fun e => by rw [beq_iff_eq.2 e] at D; cases D)) ?_;refine .t2 (aN rfl rfl) (.done (.condT rfl ?_));have hk0 : kd = 0 := by rw [← hkd]; unfold cY; simp [R,q,D,bne]
    rw [if_pos hk0] at hr;refine .sr (.t2 (aB aL rfl (a.g 0 rfl)) (Rg.wd trivial (aC Tryz.call76 rfl (bG hD hp hr hb)) rfl ?_));rintro _ w13 ⟨hst,hp1,hb13⟩;replace a := aE a hb13 i;replace b := aE b hb13 o;replace d := aE d hb13 p;replace l := l.trans (hb13.sub j);clear hp;have hp := hp1;clear hp1;refine .done (Wp.ret ?_);exact ⟨[],trivial,(fun h => by cases h),hp.sub j Q,l⟩
 | false =>
  refine .sr (.t2 (aB aL rfl (a.g 0 rfl)) (Rg.wd trivial (aD (aT _) rfl) rfl ?_));rintro _ w5 ⟨bt7,rfl,qt7,hx5,y⟩;replace l := bS l hp.und j hx5;replace hp := hp.extw hx5;replace a := a.ext hx5;replace b := b.ext hx5;refine Rg.wd trivial (aC Tryz.call73 rfl (bD hC hp (texts := [⟨#[112,117,98]⟩]) y (by decide))) rfl ?_;rintro _ w6 ⟨rfl,hx6⟩;replace l := bS l hp.und j hx6;replace hp := hp.extw hx6;replace a := a.ext hx6;replace b := b.ext hx6
  try replace y := y.ext hx6
  rw [show (aV [⟨#[112,117,98]⟩] (aO s.rem)) = false from R];refine .done (.condF rfl (Wp.skip (.sr (.t2 (aA mL rfl) (.t2 (aB hY rfl (b.g 1 rfl)) (Rg.wd trivial (aC Tryz.call75 rfl (oL (hC.asc.ext hp.ext))) rfl ?_))))));rintro _ w7 ⟨rfl,hx7⟩;replace l := bS l hp.und j hx7;replace hp := hp.extw hx7;replace a := a.ext hx7;replace b := b.ext hx7
  try replace y := y.ext hx7
  have b' := hp.ext.le;have E := a.lt;have H := b.lt;have C := fun z hz => hp.und z (j z hz);refine Rg.wd trivial (dB Tryz.zeroValue3 rfl) rfl ?_;rintro _ w8 ⟨x,rfl,Z,hx8,d⟩;replace l := bS l hp.und j hx8;obtain ⟨d',hp1,p,hs8⟩ := hp.box hx8 Z d.lt;clear hp;have hp := hp1;clear hp1;replace j := fun z hz => hs8 z (j z hz);replace a := a.ext hx8;replace i := hs8 _ i;replace b := b.ext hx8;replace o := hs8 _ o
  try replace y := y.ext hx8
  have I : ¬ F x := fun hh => by have := C _ hh; omega
  have K : w0.heap.size ≤ x := by omega
  have t : M ≠ x := by omega
  have v : O ≠ x := by omega
  refine Rg.wn trivial (cW d rfl rfl rfl bA rfl rfl) ?_;rintro _ w9 ⟨hu9,hvn⟩;replace l := l.trans (Bw.upd hu9 I);replace hp := hp.updF hu9 p K;clear d;have d := hvn;clear hvn;replace a := a.upd hu9 t;replace b := b.upd hu9 v;clear y;refine .done (.seq ?_)
  cases q : (eF (aO s.rem).2 == 0) with
  | true =>
   refine .sr (.t2 (aB bA rfl (d.g 0 rfl)) (.t2 (aS rfl rfl (beq_iff_eq.1 q)) (.m2 rfl (.so rfl rfl (.so rfl rfl (.so rfl rfl (.t2 (aJ rfl rfl) (.done (.condT rfl ?_)))))))));have hk0 : kd = 0 := by rw [← hkd]; unfold cY; simp [R,q,bne]
   rw [if_pos hk0] at hr;refine .sr (.t2 (aB aL rfl (a.g 0 rfl)) (Rg.wd trivial (aC Tryz.call76 rfl (bG hD hp hr hb)) rfl ?_));rintro _ w10 ⟨hst,hp1,hb10⟩;replace a := aE a hb10 i;replace b := aE b hb10 o;replace d := aE d hb10 p;replace l := l.trans (hb10.sub j);clear hp;have hp := hp1;clear hp1;refine .done (Wp.ret ?_);exact ⟨[],trivial,(fun h => by cases h),hp.sub j Q,l⟩
  | false =>
   cases D : ((aO s.rem).1 == 104) with
   | true =>
    refine .sr (.t2 (aB bA rfl (d.g 0 rfl)) ?_);refine .t2 (aR rfl rfl (fun e => by rw [beq_iff_eq.2 e] at q; cases q)) ?_;refine .m2 rfl (.g2 (aA eV rfl) (.g2 (aB bA rfl (b.g 0 rfl)) (.g2 (cU rfl rfl (beq_iff_eq.1 D)) (.t2 (aN rfl rfl) (.done (.condF rfl (Wp.skip ?_)))))));have hke : eF (aO s.rem).2 = kd := by rw [← hkd]; unfold cY; simp [R,q,D,bne]
    have hk0 : kd ≠ 0 := fun e => by rw [hke,e] at q; cases q
    rw [if_neg hk0] at hr;rw [hke] at d;refine Wp.region (.t2 (aB aL rfl (a.g 0 rfl)) (.t2 (aB bA rfl (d.g 0 rfl)) (.t2 (aM (us := []) (vs := [.pointer (some ⟨M,0,none⟩),.pointer (some ⟨x,0,none⟩)]) rfl rfl) (Rg.wd trivial (aC Tryz.call77 rfl (bZ hp (Db hC hD a i d p) hr hb)) rfl ?_))));rintro _ w10 ⟨hp1,hb10⟩;replace a := aE a hb10 i;replace b := aE b hb10 o;replace d := aE d hb10 p;replace l := l.trans (hb10.sub j);clear hp;have hp := hp1;clear hp1;refine .done ?_;exact ⟨[],trivial,(fun h => by cases h),hp.sub j Q,l⟩
   | false =>
    refine .sr (.t2 (aB bA rfl (d.g 0 rfl)) ?_);refine .t2 (aR rfl rfl (fun e => by rw [beq_iff_eq.2 e] at q; cases q)) ?_;refine .m2 rfl (.g2 (aA eV rfl) (.g2 (aB bA rfl (b.g 0 rfl)) ?_));refine .g2 (dX rfl rfl (fun e => by rw [beq_iff_eq.2 e] at D; cases D)) ?_;refine .t2 (aN rfl rfl) (.done (.condT rfl ?_));have hk0 : kd = 0 := by rw [← hkd]; unfold cY; simp [R,q,D,bne]
    rw [if_pos hk0] at hr;refine .sr (.t2 (aB aL rfl (a.g 0 rfl)) (Rg.wd trivial (aC Tryz.call76 rfl (bG hD hp hr hb)) rfl ?_));rintro _ w10 ⟨hst,hp1,hb10⟩;replace a := aE a hb10 i;replace b := aE b hb10 o;replace d := aE d hb10 p;replace l := l.trans (hb10.sub j);clear hp;have hp := hp1;clear hp1;refine .done (Wp.ret ?_);exact ⟨[],trivial,(fun h => by cases h),hp.sub j Q,l⟩
end
section
variable {w0 : World} {tv : Value} {aG : List Tok} {F : Fs} {w w' : World} {bP : Nat} {below : List (Int × List Tr)} {k : Int} {s r : S} {n : Nat}
theorem Dc {X : World → Prop} {F' : Fs} (hFF : ∀ z,F z → F' z) (hX : ∀ a b,X a → Bw F' a b → X b) {k' : Int} {r : S} {cf : FuncId} {fst cap : List Value} (hcf : ∀ (args : Array Value) (w : World),(callFunc cf args).run Tryz.prog w = .ok (.enter cf args) w) (h : Ps w0 tv aG F' w bP below k s)
  (hP : ∀ w1,Bw F' w w1 → Ps w0 tv aG F' w1 bP (below ++ [(k,s.kids)]) k' { s with kids := [],adds := s.adds + 1 } → Cl Tryz.prog cf (fst ++ ([] : List Value) ++ cap).toArray w1 (fun u w2 => Ps w0 tv aG F' w2 bP (below ++ [(k,s.kids)]) k' r ∧ Bw F w1 w2 ∧ X w2)) (h1 : s.adds + 1 ≤ r.adds) (hb : r.adds ≤ fR) :
  Cl Tryz.prog 77 #[.pointer (some ⟨bP,0,none⟩),.int .i64 k',.func (.func cf) fst.toArray cap.toArray] w (fun u w' => Ps w0 tv aG F' w' bP below k { r with kids := s.kids ++ [.mk k' fS r.kids] } ∧ Bw F w w' ∧ X w') := by
 have hk1 := h.kids_le;have hU := h.und;obtain ⟨g,hW,e0,hd,hpos,hm,hks,hfl⟩ := h;obtain ⟨gP,sv,pos,frs,Q⟩ := g;simp only at e0 hd hpos hm hks hfl;subst e0;have hb' : s.adds + 1 ≤ 1000000000 := by unfold fR at hb; omega
 have hvar := hW.var;have hown := hW.stk;simp only at hvar hown;obtain ⟨pc,cc,rfl⟩ : ∃ pc cc,sv = .slice pc frs.length cc := by
  rcases bH hown with ⟨rfl,e⟩ | ⟨_,_,_,rfl,_⟩
  ·exact ⟨none,0,by rw [e]⟩
  ·exact ⟨_,_,rfl⟩
 have hx := Ext.refl w;obtain ⟨i25,hi25,hz25,hsi25,hby25⟩ := rJ;refine Cl.enter Tryz.func77 rfl Tryz.ntmps77 rfl rfl ?_;refine Wp.seq (Wp.cut (fun L w' => ∃ i_ : Unit,Sub ((fun _ => [(0,.pointer (some ⟨gP,0,none⟩)),(1,.int .i64 k'),(2,.func (.func cf) fst.toArray cap.toArray)]) i_) L ∧ (fun _ w' => ∃ sv',PsW w0 tv F' w' { bP := gP,sv := sv',pos := pos,frs := frs ++ [⟨k',.slice none 0 0,[]⟩],Q := Q } ∧ Bw F' w w') i_ w') ?_ ?_)
 ·skip
  refine Wp.drawB (fun w' => Var w' gP [tv,.int .i64 pos,.slice pc frs.length cc] 82) 8 mixed ?_;intro w1 hx1 hh1;replace hx := hx.ext hx1;refine ⟨hvar.ext hx,?_⟩;refine Qb.tameW (by kernel_rfl) 0 rfl (by kernel_rfl) trivial (bY fun wz => aP rfl) rfl ?_;refine Qb.tameW (by kernel_rfl) 1 rfl (by kernel_rfl) trivial (bY fun wz => aF rfl) rfl ?_;refine Qb.tameW (by kernel_rfl) 2 rfl (by kernel_rfl) trivial (bY fun wz => aA eI rfl) rfl ?_;refine Qb.tame (by kernel_rfl) 3 rfl (by kernel_rfl) trivial (ts fun wz hkz => by exact aB eH rfl (hkz.g 2 rfl)) rfl ?_;refine Qb.tameW (by kernel_rfl) 4 rfl (by kernel_rfl) trivial (bY fun wz => aP rfl) rfl ?_;refine Qb.tameW (by kernel_rfl) 5 rfl (by kernel_rfl) trivial (bY fun wz => cH (mM _) rfl) rfl ?_;refine Qb.tame (by kernel_rfl) 6 rfl (by kernel_rfl) trivial (ts fun wz hkz => by exact dC Tryz.underlying52 rfl) rfl ?_;refine Qb.alt1 (i := 7) (by kernel_rfl) ?_;refine ⟨_,_,rfl,rfl,trivial,aD (jH _ _ _ _ _) rfl,rfl,fun _ _ hr => by obtain ⟨_,_,_,hr,_⟩ := hr; exact hvar.ext (hx.ext hr),?_⟩;rintro _ w2 ⟨b13,rfl,q13,hx2,hv13⟩;replace hx := hx.ext hx2;refine Qb.bar (fun _ => True) 8 14 rfl (by kernel_rfl) rfl trivial (bL Tryz.underlying52 hi25 hz25 hsi25 hby25 rfl rfl rfl (cM hown hx) (bX hv13 rfl) (by decide) (by decide) (by unfold maxLen; omega) (by omega)) rfl (fun _ _ _ => trivial) ?_;rintro _ w3 ⟨gk,capk,spk,rfl,hck,hmk,hlk,hvk,hwhere⟩;have hfr : (Value.slice pc frs.length cc).ownBlock = some gk ∨ w.heap.size ≤ gk := by
   rcases hwhere with ⟨⟨c,e⟩,_⟩ | ⟨e,_⟩
   ·exact .inl (by rw [e]; rfl)
   ·exact .inr (Nat.le_trans hx.le e)
  have hne : gP ≠ gk := fun e => by
   rcases hfr with e1 | e1
   ·have hn := hW.nod
    simp only [Pg.muts,List.nodup_cons] at hn;exact hn.1 (by simp [e1,e])
   ·have := hvar.lt
    omega
  obtain ⟨G,hGd⟩ : ∃ G : Fs,G = fun z => z < w.heap.size ∧ z ≠ gk ∧ z ≠ gP := ⟨_,rfl⟩;have nGk : ¬ G gk := by rw [hGd]; exact fun h => h.2.1 rfl
  have nGP : ¬ G gP := by rw [hGd]; exact fun h => h.2.2 rfl
  have hB : Bw G w w3 := by
   have h1 : Bw G w w2 := Bw.of hx (by rw [hGd]; exact fun z hz => hz.1)
   rcases hwhere with ⟨_,hu⟩ | ⟨_,hu⟩
   ·exact h1.trans (Bw.upd hu nGk)
   ·exact h1.trans (Bw.of hu (by rw [hGd]; exact fun z hz => Nat.lt_of_lt_of_le hz.1 hx.le))
  have hvP := hvar.ext hx;replace hvP : Var w3 gP [tv,.int .i64 pos,.slice pc frs.length cc] 82 := by
   rcases hwhere with ⟨_,hu⟩ | ⟨_,hu⟩
   ·exact hvP.upd hu hne
   ·exact hvP.ext hu
  have hoE : 0 + (frs.length : Int).toNat * 3 = frs.length * 3 := by omega
  have hKl : (aK Fr.cells frs ++ [Value.int .i64 0,Value.string ⟨#[]⟩,Value.slice none 0 0] ++ spk).length = frs.length * 3 + 3 + spk.length := by rw [List.length_append,List.length_append,aQ Fr.len]; rfl
  refine Qb.tameW (by kernel_rfl) 9 rfl (by kernel_rfl) trivial (bY fun wz => bI Tryz.underlying52 dA rfl rfl (by omega)) rfl ?_;refine Qb.tameW (by kernel_rfl) 11 rfl (by kernel_rfl) trivial (bY fun wz => aF rfl) rfl ?_;refine Qb.tameW (by kernel_rfl) 12 rfl (by kernel_rfl) trivial (bY fun wz => aA eI rfl) rfl ?_;refine Qb.alt2 (i := 10) (j := 13) (by kernel_rfl) ?_ ?_
  ·skip
   refine ⟨_,_,rfl,rfl,trivial,dZ (cs := [.int .i64 k',.string fS,.slice none 0 0]) hvk rfl rfl rfl dA (by rw [hoE,hKl]; simp) (Fr.one (f := ⟨k',.slice none 0 0,[]⟩) rfl),rfl,fun _ _ h => trivial,?_⟩;rintro _ wE ⟨huE,hvE⟩;rw [hoE] at hvE;replace hvE : Var wE gk (aK Fr.cells (frs ++ [⟨k',.slice none 0 0,[]⟩]) ++ spk) 54 := (lH (frs := frs) (f := ⟨k',.slice none 0 0,[]⟩) (z := [Value.int .i64 0,Value.string ⟨#[]⟩,Value.slice none 0 0]) (sp := spk) rfl) ▸ hvE;clear hvk;have hvk := hvE;clear hvE;replace hvP := hvP.upd huE hne;replace hB := hB.trans (Bw.upd huE nGk);refine Qb.alt1 (i := 13) (by kernel_rfl) ?_;refine ⟨_,_,rfl,rfl,trivial,cG hvP eH rfl rfl rfl rfl rfl,rfl,fun _ _ h => trivial,?_⟩;rintro _ wS ⟨huS,hvS⟩;simp only [List.set] at hvS;clear hvP;have hvP := hvS;clear hvS;replace hvk := hvk.upd huS (Ne.symm hne);replace hB := hB.trans (Bw.upd huS nGP);refine Qb.done (by kernel_rfl) ?_;exact ⟨(),by repeat (first | exact .nil | refine .cons rfl ?_),_,hW.push (f := ⟨k',.slice none 0 0,[]⟩) (sv' := .slice (some ⟨gk,0,none⟩) (frs.length + 1) capk) hB (fun z h1 h2 h3 => by rw [hGd]; exact ⟨h1,fun e => h3 (by rw [e]; rfl),h2⟩) hvP (bK (Nat.zero_le _) (aQ Fr.len _ |>.trans (by simp)) hck hmk hlk hvk) (fun b hb => by injection hb with hb; subst hb; exact hfr) ⟨rfl,.inl ⟨rfl,rfl⟩⟩ (fun b hb => by cases hb) (fun t ht => by cases ht)⟩
  ·skip
   refine ⟨_,_,rfl,rfl,trivial,cG hvP eH rfl rfl rfl rfl rfl,rfl,fun _ _ h => trivial,?_⟩;rintro _ wS ⟨huS,hvS⟩;simp only [List.set] at hvS;clear hvP;have hvP := hvS;clear hvS;replace hvk := hvk.upd huS (Ne.symm hne);replace hB := hB.trans (Bw.upd huS nGP);refine Qb.alt1 (i := 10) (by kernel_rfl) ?_;refine ⟨_,_,rfl,rfl,trivial,dZ (cs := [.int .i64 k',.string fS,.slice none 0 0]) hvk rfl rfl rfl dA (by rw [hoE,hKl]; simp) (Fr.one (f := ⟨k',.slice none 0 0,[]⟩) rfl),rfl,fun _ _ h => trivial,?_⟩;rintro _ wE ⟨huE,hvE⟩;rw [hoE] at hvE;replace hvE : Var wE gk (aK Fr.cells (frs ++ [⟨k',.slice none 0 0,[]⟩]) ++ spk) 54 := (lH (frs := frs) (f := ⟨k',.slice none 0 0,[]⟩) (z := [Value.int .i64 0,Value.string ⟨#[]⟩,Value.slice none 0 0]) (sp := spk) rfl) ▸ hvE;clear hvk;have hvk := hvE;clear hvE;replace hvP := hvP.upd huE hne;replace hB := hB.trans (Bw.upd huE nGk);refine Qb.done (by kernel_rfl) ?_;exact ⟨(),by repeat (first | exact .nil | refine .cons rfl ?_),_,hW.push (f := ⟨k',.slice none 0 0,[]⟩) (sv' := .slice (some ⟨gk,0,none⟩) (frs.length + 1) capk) hB (fun z h1 h2 h3 => by rw [hGd]; exact ⟨h1,fun e => h3 (by rw [e]; rfl),h2⟩) hvP (bK (Nat.zero_le _) (aQ Fr.len _ |>.trans (by simp)) hck hmk hlk hvk) (fun b hb => by injection hb with hb; subst hb; exact hfr) ⟨rfl,.inl ⟨rfl,rfl⟩⟩ (fun b hb => by cases hb) (fun t ht => by cases ht)⟩
 ·rintro L' wF ⟨_,hs,sv',q1,q2⟩
  refine Wp.sub hs (.sr (.m2 rfl ?_));refine Rg.wd trivial (mY rfl hcf rfl (hP _ q2 ⟨_,q1,rfl,hd,hpos,by simp [hm,kS],fun f hf => by (rcases List.mem_append.1 hf with hf | hf); (have := hks f hf; simp only; omega); (obtain rfl : f = ⟨k',.slice none 0 0,[]⟩ := by simpa using hf); simp,by simp; omega⟩)) rfl ?_;rintro _ w20 ⟨q3,q4,qX⟩;refine .done (Wp.region (.m2 rfl ?_));refine Rg.wd trivial (aC Tryz.call123 rfl (jT q3 (by omega) hb)) rfl ?_;rintro _ w21 ⟨q5,q6⟩;refine .done ?_;exact ⟨[],trivial,q5,(q2.sub hFF).trans (q4.trans (q6.sub hFF)),hX _ _ qX q6⟩
theorem F6 {F' : Fs} (hC : Cx w0 tv aG) (hD : ∀ m,m < n → DN w0 tv aG m) {b0 b1 : Nat} (a : Var w b0 [.pointer (some ⟨bP,0,none⟩)] 80) (p : F' b0) (b : Var w b1 [.bool false] 4) (j : F' b1) (v : ¬ F b1) (x : w0.heap.size ≤ b1) (l : b0 ≠ b1) (e : ∀ z,F z → F' z) (y : ∀ z,z < w0.heap.size → F z)
  (hp : Ps w0 tv aG F' w bP below k s) (hr : run body n (.seq (.node 18 Cmd.expIdent) (.loop (fun t u _ _ => aV [⟨#[58,58]⟩] t && !aV [⟨#[42]⟩] u) (.seq .bump (.node 18 Cmd.expIdent)))) s = some r) (hb : r.adds ≤ fR) :
  Cl Tryz.prog 154 (([] : List Value) ++ ([] : List Value) ++ ([.pointer (some ⟨b0,0,none⟩),.pointer (some ⟨b1,0,none⟩)] : List Value)).toArray w (fun u w2 => Ps w0 tv aG F' w2 bP below k r ∧ Bw F w w2 ∧ Var w2 b1 [.bool (aV [⟨#[58,58]⟩] (aO r.rem))] 4) := by
 show Cl Tryz.prog 154 #[.pointer (some ⟨b0,0,none⟩),.pointer (some ⟨b1,0,none⟩)] w _
 have c := Bw.refl F w;refine Cl.enter Tryz.func154 rfl Tryz.ntmps154 rfl rfl (.sr (.t2 (aB aL rfl (a.g 0 rfl)) (.t2 (aB aL rfl (a.g 0 rfl)) (.t2 (aM (us := [.pointer (some ⟨bP,0,none⟩)]) (vs := []) rfl rfl) ?_))));obtain ⟨s1,h1a,h1b⟩ := aI hr;refine Rg.wd trivial (aC Tryz.call77 rfl (bZ hp (nA hC) h1a (aH h1b hb))) rfl ?_;rintro _ w1 ⟨hp1,hb1⟩;replace a := aE a hb1 p;replace b := aE b hb1 j;replace c := c.trans (hb1.sub e);clear hp;have hp := hp1;clear hp1;refine .done (Wp.block ?_);refine Wp.loop (ι := S × Nat × Bool) (fun i => [(0,.pointer (some ⟨b0,0,none⟩)),(1,.pointer (some ⟨b1,0,none⟩))])
  (fun i w' => Ps w0 tv aG F' w' bP below k i.1 ∧ Bw F w w' ∧ Var w' b0 [.pointer (some ⟨bP,0,none⟩)] 80 ∧ Var w' b1 [.bool i.2.2] 4 ∧ run body i.2.1 (.loop (fun t u _ _ => aV [⟨#[58,58]⟩] t && !aV [⟨#[42]⟩] u) (.seq .bump (.node 18 Cmd.expIdent))) i.1 = some r ∧ i.2.1 ≤ n ∧ (i.2.2 = true → aV [⟨#[58,58]⟩] (aO i.1.rem) = true ∧ aV [⟨#[42]⟩] (aO (left i.1.rem)) = true)) (fun i => 2 * i.2.1 + if i.2.2 = true then 0 else 1) (s1,n,false) (by repeat (first | exact .nil | refine .cons rfl ?_)) ⟨hp,c,a,b,h1b,Nat.le_refl _,fun h => by cases h⟩ ?_
 clear hp a b c;rintro ⟨s',m,gl⟩ wl ⟨hp,c,a,b,hrun,hmn,hgl⟩;simp only at hp hrun hmn hgl b
 cases gl with
 | true =>
  obtain ⟨hg1,hg2⟩ := hgl rfl;refine .seq (.sr (.t2 (aB aL rfl (a.g 0 rfl)) (Rg.wd trivial (aD (aT _) rfl) rfl ?_)));rintro _ w2 ⟨bt7,rfl,qt7,hx2,d⟩;replace c := bS c hp.und e hx2;replace hp := hp.extw hx2;replace a := a.ext hx2;replace b := b.ext hx2;refine Rg.wd trivial (aC Tryz.call73 rfl (bD hC hp (texts := [⟨#[58,58]⟩]) d (by decide))) rfl ?_;rintro _ w3 ⟨rfl,hx3⟩;replace c := bS c hp.und e hx3;replace hp := hp.extw hx3;replace a := a.ext hx3;replace b := b.ext hx3
  try replace d := d.ext hx3
  rw [show (aV [⟨#[58,58]⟩] (aO s'.rem)) = true from hg1];refine .m2 rfl (.g2 (aB uB rfl (b.g 0 rfl)) (.g2 (bJ rfl) (.t2 (aJ rfl rfl) (.done (.condF rfl (Wp.exit ?_))))));have hte := cL hrun (show S.test _ _ = false by simp only [S.test,hg1,hg2]; rfl);subst hte;exact ⟨[],trivial,hp,c,by rw [hg1]; exact b⟩
 | false =>
  refine .seq ?_
  cases o : (aV [⟨#[58,58]⟩] (aO s'.rem)) with
  | true =>
   refine .sr (.t2 (aB aL rfl (a.g 0 rfl)) (Rg.wd trivial (aD (aT _) rfl) rfl ?_));rintro _ w2 ⟨bt7,rfl,qt7,hx2,d⟩;replace c := bS c hp.und e hx2;replace hp := hp.extw hx2;replace a := a.ext hx2;replace b := b.ext hx2;refine Rg.wd trivial (aC Tryz.call73 rfl (bD hC hp (texts := [⟨#[58,58]⟩]) d (by decide))) rfl ?_;rintro _ w3 ⟨rfl,hx3⟩;replace c := bS c hp.und e hx3;replace hp := hp.extw hx3;replace a := a.ext hx3;replace b := b.ext hx3
   try replace d := d.ext hx3
   rw [show (aV [⟨#[58,58]⟩] (aO s'.rem)) = true from o];refine .m2 rfl (.g2 (aB uB rfl (b.g 0 rfl)) (.g2 (bJ rfl) (.t2 (aJ rfl rfl) (.done (.condT rfl (Wp.skip (Wp.block ?_)))))))
   cases q : (aV [⟨#[42]⟩] (aO (left s'.rem))) with
   | true =>
    refine .sr (.t2 (aB aL rfl (a.g 0 rfl)) (Rg.wd trivial (aC Tryz.call74 rfl (dJ hC hp)) rfl ?_));rintro _ w4 ⟨bk14,rfl,hk14,hx4⟩;replace c := bS c hp.und e hx4;replace hp := hp.extw hx4;replace a := a.ext hx4;replace b := b.ext hx4
    try replace d := d.ext hx4
    refine Rg.wd trivial (aD (aT _) rfl) rfl ?_;rintro _ w5 ⟨bt15,rfl,qt15,hx5,f⟩;replace c := bS c hp.und e hx5;replace hp := hp.extw hx5;replace a := a.ext hx5;replace b := b.ext hx5
    try replace d := d.ext hx5
    try replace hk14 := hk14.extw hx5
    refine Rg.wd trivial (aC Tryz.call73 rfl (bD hC hk14 (texts := [⟨#[42]⟩]) f (by decide))) rfl ?_;rintro _ w6 ⟨rfl,hx6⟩;replace c := bS c hp.und e hx6;replace hp := hp.extw hx6;replace a := a.ext hx6;replace b := b.ext hx6
    try replace d := d.ext hx6
    try replace f := f.ext hx6
    try replace hk14 := hk14.extw hx6
    rw [show (aV [⟨#[42]⟩] (aO s'.look.rem)) = true from q];refine Rg.wn trivial (cW b rfl rfl rfl uB rfl rfl) ?_;rintro _ w7 ⟨hu7,hvn⟩;replace c := c.trans (Bw.upd hu7 v);replace hp := hp.updF hu7 j x;clear b;have b := hvn;clear hvn;replace a := a.upd hu7 l;clear d;clear f;refine .done (.sr (.t2 (aB uB rfl (b.g 0 rfl)) (.t2 (bJ rfl) (.done (.condF rfl (Wp.skip ?_))))));exact ⟨(s',m,true),by repeat (first | exact .nil | refine .cons rfl ?_),⟨hp,c,a,b,hrun,hmn,fun _ => ⟨o,q⟩⟩,by simp⟩
   | false =>
    refine .sr (.t2 (aB aL rfl (a.g 0 rfl)) (Rg.wd trivial (aC Tryz.call74 rfl (dJ hC hp)) rfl ?_));rintro _ w4 ⟨bk14,rfl,hk14,hx4⟩;replace c := bS c hp.und e hx4;replace hp := hp.extw hx4;replace a := a.ext hx4;replace b := b.ext hx4
    try replace d := d.ext hx4
    refine Rg.wd trivial (aD (aT _) rfl) rfl ?_;rintro _ w5 ⟨bt15,rfl,qt15,hx5,f⟩;replace c := bS c hp.und e hx5;replace hp := hp.extw hx5;replace a := a.ext hx5;replace b := b.ext hx5
    try replace d := d.ext hx5
    try replace hk14 := hk14.extw hx5
    refine Rg.wd trivial (aC Tryz.call73 rfl (bD hC hk14 (texts := [⟨#[42]⟩]) f (by decide))) rfl ?_;rintro _ w6 ⟨rfl,hx6⟩;replace c := bS c hp.und e hx6;replace hp := hp.extw hx6;replace a := a.ext hx6;replace b := b.ext hx6
    try replace d := d.ext hx6
    try replace f := f.ext hx6
    try replace hk14 := hk14.extw hx6
    rw [show (aV [⟨#[42]⟩] (aO s'.look.rem)) = false from q];refine Rg.wn trivial (cW b rfl rfl rfl uB rfl rfl) ?_;rintro _ w7 ⟨hu7,hvn⟩;replace c := c.trans (Bw.upd hu7 v);replace hp := hp.updF hu7 j x;clear b;have b := hvn;clear hvn;replace a := a.upd hu7 l;clear d;clear f;obtain ⟨m1,sZ,rfl,hbody,hrest⟩ := dP hrun (show S.test _ _ = true by simp only [S.test,cE,cB,bne,o,q]; (try rfl));replace hbody := dT hmn hbody;refine .done (.sr (.t2 (aB uB rfl (b.g 0 rfl)) (.t2 (bJ rfl) (.done (.condT rfl (.sr (.t2 (aB aL rfl (a.g 0 rfl)) ?_)))))));obtain ⟨s2,h2a,h2b⟩ := aI hbody;refine Rg.wd trivial (aC Tryz.call80 rfl (cJ hC hp h2a (aH h2b (aH hrest hb)))) rfl ?_;rintro _ w8 ⟨hp1,hb8⟩;replace a := aE a hb8 p;replace b := aE b hb8 j;replace c := c.trans (hb8.sub e);clear hp;have hp := hp1;clear hp1;refine .done (Wp.region (.t2 (aB aL rfl (a.g 0 rfl)) (.t2 (aB aL rfl (a.g 0 rfl)) (.t2 (aM (us := [.pointer (some ⟨bP,0,none⟩)]) (vs := []) rfl rfl) (Rg.wd trivial (aC Tryz.call77 rfl (bZ hp (nA hC) h2b (aH hrest hb))) rfl ?_)))));rintro _ w9 ⟨hp1,hb9⟩;replace a := aE a hb9 p;replace b := aE b hb9 j;replace c := c.trans (hb9.sub e);clear hp;have hp := hp1;clear hp1;refine .done ?_;exact ⟨(sZ,m1,false),by repeat (first | exact .nil | refine .cons rfl ?_),⟨hp,c,a,b,hrest,by simp only; omega,fun h => by cases h⟩,by simp⟩
  | false =>
   refine .sr (.t2 (aB aL rfl (a.g 0 rfl)) (Rg.wd trivial (aD (aT _) rfl) rfl ?_));rintro _ w2 ⟨bt7,rfl,qt7,hx2,d⟩;replace c := bS c hp.und e hx2;replace hp := hp.extw hx2;replace a := a.ext hx2;replace b := b.ext hx2;refine Rg.wd trivial (aC Tryz.call73 rfl (bD hC hp (texts := [⟨#[58,58]⟩]) d (by decide))) rfl ?_;rintro _ w3 ⟨rfl,hx3⟩;replace c := bS c hp.und e hx3;replace hp := hp.extw hx3;replace a := a.ext hx3;replace b := b.ext hx3
   try replace d := d.ext hx3
   rw [show (aV [⟨#[58,58]⟩] (aO s'.rem)) = false from o];refine .m2 rfl (.so rfl rfl (.so rfl rfl (.t2 (aN rfl rfl) (.done (.condF rfl (Wp.exit ?_))))));have hte := cL hrun (show S.test _ _ = false by simp only [S.test,o]; rfl);subst hte;exact ⟨[],trivial,hp,c,by rw [o]; exact b⟩
theorem Jh (hC : Cx w0 tv aG) (hD : ∀ m,m < n → DN w0 tv aG m) (hp : Ps w0 tv aG F w bP below k s) (hr : run body n (body .use) s = some r) (hb : r.adds ≤ fR) :
  Cl Tryz.prog 124 #[.pointer (some ⟨bP,0,none⟩)] w (fun u w' => (Nm.use = Nm.statement → u = .bool r.flag) ∧ Ps w0 tv aG F w' bP below k r ∧ Bw F w w') := by
 have j := Bw.refl F w;have i : ∀ z,F z → F z := fun z h => h;have C := hp.base;have hr : run body n (.seq (.node 17 (.seq (.node 18 Cmd.expIdent) (.loop (fun t u _ _ => aV [⟨#[58,58]⟩] t && !aV [⟨#[42]⟩] u) (.seq .bump (.node 18 Cmd.expIdent))))) (.seq (.cond (cE [⟨#[58,58]⟩]) (.seq .bump .bump) (.cond (cE [⟨#[97,115]⟩]) (.seq .bump Cmd.expIdent) .skip)) (Cmd.exp ⟨#[59]⟩))) s = some r := hr;refine Cl.enter Tryz.func124 rfl Tryz.ntmps124 rfl rfl (.sr (Rg.wd trivial (aW rfl rfl) rfl ?_));rintro _ w1 ⟨x,rfl,K,hx1,c⟩;replace j := bS j hp.und i hx1;obtain ⟨q,hp1,e,hs1⟩ := hp.box hx1 K c.lt;clear hp;have hp := hp1;clear hp1;replace i := fun z hz => hs1 z (i z hz);refine .done (.sr ?_);have hunc := hp.und;have hbase1 := hp.base;have hsub1 := i;have Q := e;have O := hp.ext.le;have y := c.lt;have v := fun z hz => hp.und z (i z hz);refine Rg.wd trivial (dB Tryz.zeroValue4 rfl) rfl ?_;rintro _ w2 ⟨o,rfl,M,hx2,d⟩;replace j := bS j hp.und i hx2;obtain ⟨D,hp1,f,hs2⟩ := hp.box hx2 M d.lt;clear hp;have hp := hp1;clear hp1;replace i := fun z hz => hs2 z (i z hz);replace c := c.ext hx2;replace e := hs2 _ e;have A : ¬ F o := fun hh => by have := v _ hh; omega
 have p : w0.heap.size ≤ o := by omega
 have l : x ≠ o := by omega
 have hnc : ¬ q o := fun hh => by have := hunc _ hh; omega
 refine Rg.wn trivial (cW d rfl rfl rfl uB rfl rfl) ?_;rintro _ w3 ⟨hu3,hvn⟩;replace j := j.trans (Bw.upd hu3 A);replace hp := hp.updF hu3 f p;clear d;have d := hvn;clear hvn;replace c := c.upd hu3 l;refine .done (.sr (.t2 (aB aL rfl (c.g 0 rfl)) (.t2 (aM (us := []) (vs := [.pointer (some ⟨x,0,none⟩),.pointer (some ⟨o,0,none⟩)]) rfl rfl) ?_)));obtain ⟨s1,h1a,h1b⟩ := aI hr;obtain ⟨qn,hqn,hen⟩ := rL h1a;have hqb : qn.adds ≤ fR := by have := (aH h1b hb); rw [hen] at this; exact this
 refine Rg.wd trivial (aC Tryz.call77 rfl (Dc (F := q) (F' := D) (X := (fun w => Var w o [.bool (aV [⟨#[58,58]⟩] (aO qn.rem))] 4)) hs2 (fun a b hv hb => aE hv hb f) Tryz.call154 hp (fun w1 hw1 hp1 => F6 hC hD (aE c hw1 e) e (aE d hw1 f) f hnc p l hs2 hbase1 hp1 hqn hqb) (jU hqn) hqb)) rfl ?_;rintro _ w4 ⟨hp1,hb4,hvg⟩;rw [← hen] at hp1;have hqr : qn.rem = s1.rem := by rw [hen]
 simp only [hqr] at hvg;replace j := j.trans (hb4.sub hsub1);replace c := aE c hb4 Q;clear d;have d := hvg;clear hp;have hp := hp1;clear hp1;refine .done ?_;obtain ⟨s2,h2a,h2b⟩ := aI h1b;refine .seq (Wp.block ?_)
 cases H : (aV [⟨#[58,58]⟩] (aO s1.rem)) with
 | true =>
  have hq2 := aX h2a H;refine .sr (.t2 (aB uB rfl (d.g 0 rfl)) ?_);rw [H];refine .a2 rfl (.done (.condT rfl (.sr (.t2 (aB aL rfl (c.g 0 rfl)) ?_))));obtain ⟨s3,h3a,h3b⟩ := aI hq2;refine Rg.wd trivial (aC Tryz.call80 rfl (cJ hC hp h3a (aH h3b (aH h2b hb)))) rfl ?_;rintro _ w5 ⟨hp1,hb5⟩;replace c := aE c hb5 e;replace d := aE d hb5 f;replace j := j.trans (hb5.sub i);clear hp;have hp := hp1;clear hp1;refine .done (Wp.region (.t2 (aB aL rfl (c.g 0 rfl)) (Rg.wd trivial (aC Tryz.call80 rfl (cJ hC hp h3b (aH h2b hb))) rfl ?_)));rintro _ w6 ⟨hp1,hb6⟩;replace c := aE c hb6 e;replace d := aE d hb6 f;replace j := j.trans (hb6.sub i);clear hp;have hp := hp1;clear hp1;refine .done (Wp.region (.t2 (aB aL rfl (c.g 0 rfl)) (Rg.wd trivial (aC Tryz.call130 rfl (dI hC hp h2b hb)) rfl ?_)));rintro _ w7 ⟨hp1,hb7⟩;replace c := aE c hb7 e;replace d := aE d hb7 f;replace j := j.trans (hb7.sub i);clear hp;have hp := hp1;clear hp1;refine .done ?_;exact ⟨[],trivial,(fun h => by cases h),hp.sub i C,j⟩
 | false =>
  have hq2 := aU h2a H;refine .sr (.t2 (aB uB rfl (d.g 0 rfl)) ?_);rw [H];refine .a2 rfl (.done (.condF rfl ?_))
  cases I : (aV [⟨#[97,115]⟩] (aO s1.rem)) with
  | true =>
   have hq4 := aX hq2 I;refine .sr (.t2 (aB aL rfl (c.g 0 rfl)) (Rg.wd trivial (aD (aT _) rfl) rfl ?_));rintro _ w5 ⟨bt14,rfl,qt14,hx5,E⟩;replace j := bS j hp.und i hx5;replace hp := hp.extw hx5;replace c := c.ext hx5;replace d := d.ext hx5;obtain ⟨s3,h3a,h3b⟩ := aI hq4;obtain rfl := cN h3a;refine Rg.wd trivial (aC Tryz.call79 rfl (gT hC hp (texts := [⟨#[97,115]⟩]) E (by decide) I (aH h3b (aH h2b hb)))) rfl ?_;rintro _ w6 ⟨rfl,hp1,hb6⟩;replace c := aE c hb6 e;replace d := aE d hb6 f;replace j := j.trans (hb6.sub i);clear hp;have hp := hp1;clear hp1;refine .a2 rfl (.done (.condT rfl (Wp.region (.t2 (aB aL rfl (c.g 0 rfl)) (Rg.wd trivial (aC Tryz.call127 rfl (dH hC hp h3b (aH h2b hb))) rfl ?_)))));rintro _ w7 ⟨hp1,hb7⟩;replace c := aE c hb7 e;replace d := aE d hb7 f;replace j := j.trans (hb7.sub i);clear hp;have hp := hp1;clear hp1;refine .done (Wp.region (.t2 (aB aL rfl (c.g 0 rfl)) (Rg.wd trivial (aC Tryz.call130 rfl (dI hC hp h2b hb)) rfl ?_)));rintro _ w8 ⟨hp1,hb8⟩;replace c := aE c hb8 e;replace d := aE d hb8 f;replace j := j.trans (hb8.sub i);clear hp;have hp := hp1;clear hp1;refine .done ?_;exact ⟨[],trivial,(fun h => by cases h),hp.sub i C,j⟩
  | false =>
   have hq4 := aU hq2 I;obtain rfl := cI hq4;refine .sr (.t2 (aB aL rfl (c.g 0 rfl)) (Rg.wd trivial (aD (aT _) rfl) rfl ?_));rintro _ w5 ⟨bt14,rfl,qt14,hx5,E⟩;replace j := bS j hp.und i hx5;replace hp := hp.extw hx5;replace c := c.ext hx5;replace d := d.ext hx5;refine Rg.wd trivial (aC Tryz.call79 rfl (gU hC hp (texts := [⟨#[97,115]⟩]) E (by decide) I)) rfl ?_;rintro _ w6 ⟨rfl,hp1,hb6⟩;replace c := aE c hb6 e;replace d := aE d hb6 f;replace j := j.trans (hb6.sub i);clear hp;have hp := hp1;clear hp1;refine .a2 rfl (.done (.condF rfl (Wp.skip (Wp.region (.t2 (aB aL rfl (c.g 0 rfl)) (Rg.wd trivial (aC Tryz.call130 rfl (dI hC hp h2b hb)) rfl ?_))))));rintro _ w7 ⟨hp1,hb7⟩;replace c := aE c hb7 e;replace d := aE d hb7 f;replace j := j.trans (hb7.sub i);clear hp;have hp := hp1;clear hp1;refine .done ?_;exact ⟨[],trivial,(fun h => by cases h),hp.sub i C,j⟩
end
abbrev G3 := Int × ByteArray × Option Addr × Nat × Nat
def gc (x : G3) : List Value := [.int .i64 x.1,.string x.2.1,.slice x.2.2.1 x.2.2.2.1 x.2.2.2.2]
theorem fC (x : G3) : (gc x).length = 3 := rfl
theorem tD (x : G3) : ∀ u ∈ gc x,u.oneCell' = true := by
 intro u hu;simp [gc] at hu
 rcases hu with rfl | rfl | rfl <;> rfl
def dQ {α : Type} (l : List α) (i : Nat) (x : α) : List α := l.take i ++ x :: l.drop i
theorem gO {α : Type} (l : List α) (i : Nat) (x : α) : (dQ l i x).length = l.length + 1 := by
 simp [dQ];omega
theorem rP {α : Type} {f : α → List Value} {k : Nat} (hf : ∀ a,(f a).length = k) : ∀ (l : List α) (i : Nat),(aK f l).drop (i * k) = aK f (l.drop i)
 | l,0 => by simp
 | [],i + 1 => by simp [aK]
 | a :: l,i + 1 => by
  rw [show aK f (a :: l) = f a ++ aK f l from List.flatMap_cons,Nat.add_mul,Nat.one_mul,Nat.add_comm (i * k) k,← List.drop_drop,List.drop_left' (hf a),rP hf l i,List.drop_succ_cons]
theorem rQ {α : Type} {f : α → List Value} {k : Nat} (hf : ∀ a,(f a).length = k) : ∀ (l : List α) (i : Nat),(aK f l).take (i * k) = aK f (l.take i)
 | l,0 => by simp [aK]
 | [],i + 1 => by simp [aK]
 | a :: l,i + 1 => by
  rw [show aK f (a :: l) = f a ++ aK f l from List.flatMap_cons,List.take_succ_cons,show aK f (a :: l.take i) = f a ++ aK f (l.take i) from List.flatMap_cons,Nat.add_mul,Nat.one_mul,Nat.add_comm (i * k) k,← rQ hf l i];rw [← hf a,List.take_length_add_append]
theorem pV {w : World} {b t : Nat} {cs : List Value} (h : Var w b cs t) (o : Nat) : w.frozen? ⟨b,o,none⟩ = false := by
 unfold Var at h;unfold World.frozen?;simp only [h];rw [decide_eq_false (Nat.not_lt_zero o),Bool.and_false]
theorem rR {w : World} {b t : Nat} {cs : List Value} (h : Var w b cs t) : w.shape? b = some (t,cs.length) := by
 unfold Var at h;unfold World.shape?;simp [h]
section
variable {α : Type} {f : α → List Value} {k : Nat}
theorem jK (hf : ∀ a,(f a).length = k) (l : List α) (sp : List Value) (i : Nat) (hi : i ≤ l.length) : (aK f l ++ sp).drop (i * k) = aK f (l.drop i) ++ sp := by
 have hl := aQ hf l;rw [List.drop_append_of_le_length (by rw [hl]; exact Nat.mul_le_mul_right _ hi),rP hf]
theorem mA (hf : ∀ a,(f a).length = k) (l : List α) (sp : List Value) (i : Nat) (hi : i ≤ l.length) : (aK f l ++ sp).take (i * k) = aK f (l.take i) := by
 have hl := aQ hf l;rw [List.take_append_of_le_length (by rw [hl]; exact Nat.mul_le_mul_right _ hi),rQ hf]
theorem nD (l : List α) (i : Nat) (x : α) : aK f (dQ l i x) = aK f (l.take i) ++ f x ++ aK f (l.drop i) := by
 unfold dQ;rw [fF,show aK f (x :: l.drop i) = f x ++ aK f (l.drop i) from List.flatMap_cons,List.append_assoc]
end
set_option maxHeartbeats 2000000 in
theorem vI {w : World} {B vb g cap : Nat} {sp : List Value} {l : List G3} {x : G3} {i : Nat} (hg : B ≤ g) (hcap : l.length ≤ cap) (hmx : cap ≤ maxLen) (hsp : sp.length = (cap - l.length) * 3) (hv : Var w g (aK gc l ++ sp) 54) (hB : B ≤ w.heap.size) (hl : l.length ≤ 1000000000) (hvb : Var w vb (gc x) 54) (hi : i < l.length) (hrm : cap < l.length + 1) (hne : vb ≠ g) :
  Cl Tryz.prog 167 #[.slice (some ⟨g,0,none⟩) l.length cap,.int .i64 i,.slice (some ⟨vb,0,none⟩) 1 1] w (fun u w' => w'.ownsRow B 54 3 u (l.length + 1) (aK gc (dQ l i x)) ∧ Bw (fun z => z < w.heap.size ∧ some z ≠ u.ownBlock) w w' ∧ (∀ b,u.ownBlock = some b → b = g ∨ w.heap.size ≤ b)) := by
 have hsv : SlC w (.slice (some ⟨vb,0,none⟩) 1 1) 3 1 (gc x) := bX hvb rfl;have hmx' : cap ≤ 9223372036854775807 := hmx;have hll := aQ fC l;obtain ⟨i0,hi0,hz0,hsi0,hby0⟩ := rJ;have hxs : ∀ (w' : World) (a : Nat) (ys : List Value),Var w' g (aK gc l ++ ys) 54 → a ≤ l.length → SlC w' (.slice (some ⟨g,0 + a * 3,none⟩) (l.length - a) (cap - a)) 3 (l.length - a) (aK gc (l.drop a)) := fun w' a ys h ha => by
  refine ⟨by rw [aQ fC,List.length_drop],_,_,rfl,by omega,.inr ⟨g,0 + a * 3,rfl,?_⟩⟩;have := h.cells.sub (a * 3) ((aK gc (l.drop a)).length);rw [jK fC l ys a ha,List.take_left' rfl] at this;exact this
 have hst : SlC w (.slice (some ⟨g,0,none⟩) i cap) 3 i (aK gc (l.take i)) := by
  refine ⟨by rw [aQ fC,List.length_take]; congr 1; omega,_,_,rfl,by omega,.inr ⟨g,0,rfl,?_⟩⟩;have := hv.cells.sub 0 (i * 3);rw [List.drop_zero,mA fC l sp i (by omega)] at this;exact this
 refine Cl.enter Tryz.func167 rfl Tryz.ntmps167 rfl rfl (.sr (.a2 rfl (.done (.sr (.m2 rfl (.m2 rfl ?_))))));refine .t2 (dG Tryz.underlying52 dA rfl rfl rfl (by omega)) ?_;refine .done (.sr (.m2 rfl (.t2 (dC Tryz.underlying52 rfl) ?_)));rw [show ((1 : Nat) : Int) = 1 from rfl];refine .a2 rfl (.done (.seq (.sr (.m2 rfl ?_))))
 first | refine .tq (aS rfl rfl (by omega)) rfl ?_ | refine .tq (aR rfl rfl (by omega)) rfl ?_ | refine .tq (bM rfl rfl) rfl ?_
 refine .done (.condF rfl (Wp.skip (.sr (.m2 rfl (.t2 (dC Tryz.underlying52 rfl) (.a2 rfl (.done (.seq (.sr (.m2 rfl (.m2 rfl ?_)))))))))))
 first | refine .tq (aS rfl rfl (by omega)) rfl ?_ | refine .tq (aR rfl rfl (by omega)) rfl ?_ | refine .tq (bM rfl rfl) rfl ?_
 refine .done (.condF rfl (Wp.skip (.seq (.sr (.m2 rfl (.m2 rfl ?_))))));refine .t2 (bC rfl rfl (by omega)) ?_;refine .m2 rfl (.t2 (Ca Tryz.underlying52 rfl) ?_)
 first | refine .tq (gB rfl rfl (by omega)) rfl ?_ | refine .tq (eN rfl rfl (by omega)) rfl ?_ | refine .tq (jF rfl rfl) rfl ?_
 refine .done (.condT rfl (.sr (.m2 rfl (.m2 rfl ?_))));refine .t2 (dG Tryz.underlying52 dA rfl rfl rfl (by omega)) ?_;rw [show (Value.slice (some (if cap = (0 : Int).toNat then (⟨g,0,none⟩ : Addr) else ⟨g,0 + (0 : Int).toNat * 3,none⟩)) ((i : Int).toNat - (0 : Int).toNat) (cap - (0 : Int).toNat)) = .slice (some ⟨g,0,none⟩) i cap from by simp];refine .m2 rfl (.m2 rfl ?_);refine .t2 (bC rfl rfl (by omega)) ?_;refine .m2 rfl ?_;refine .t2 (eG rfl rfl (by omega)) ?_;rw [show ((l.length : Int) + 1 - i) = ((l.length + 1 - i : Nat) : Int) from by omega];refine Rg.wd trivial (Ag Tryz.underlying52 Tryz.underlying3 hi0 hz0 hsi0 hby0 rfl rfl (by decide) rfl rfl hst (by omega) (by omega) (by unfold maxLen; omega) (by omega)) rfl ?_;rintro v9 w1 ⟨hx,news,hnl,ho9⟩;rw [show i + (l.length + 1 - i) = l.length + 1 from by omega] at ho9
 rcases bH ho9 with ⟨_,h0⟩ | ⟨g2,cap2,sp2,rfl,hg2,hcap2,hmx2,hsp2,hv2⟩
 ·omega
 have hmx2' : cap2 ≤ 9223372036854775807 := hmx2;have htl : (aK gc (l.take i)).length = i * 3 := by rw [aQ fC,List.length_take]; congr 1; omega
 have hlt2 := hv2.lt;refine .a2 rfl (.done (.sr (.m2 rfl (.m2 rfl ?_))));refine .t2 (dG Tryz.underlying52 dA rfl rfl rfl (by omega)) ?_;rw [show (Value.slice (some (if cap2 = (i : Int).toNat then (⟨g2,0,none⟩ : Addr) else ⟨g2,0 + (i : Int).toNat * 3,none⟩)) (((l.length + 1 : Nat) : Int).toNat - (i : Int).toNat) (cap2 - (i : Int).toNat)) = .slice (some ⟨g2,0 + (i) * 3,none⟩) (l.length + 1 - (i)) (cap2 - (i)) from by rw [if_neg (by omega),show (i : Int).toNat = i from by omega]; rfl];refine .m2 rfl ?_;have hmin1 : min 1 (l.length + 1 - i) = 1 := by omega
 have hfit : 0 + i * 3 + min 1 (l.length + 1 - i) * 3 ≤ (aK gc (l.take i) ++ news ++ sp2).length := by
  rw [hmin1,List.length_append,List.length_append,htl,hnl]; omega
 refine Rg.wd trivial (oV Tryz.underlying52 dA hv2 rfl rfl (hsv.ext hx) hfit (fun u hu => tD x u (List.mem_of_mem_take hu))) rfl ?_;rintro _ w2 ⟨hu2,hv3⟩;have hx2 := hx.upd hu2 hg2;rw [hmin1] at hv3;replace hv := (hv.ext hx).upd hu2 (by have := hv.lt; omega);clear hv2;refine .done ?_;refine Wp.seq (Wp.draw [0,1,2,3,4,5,6,7,8] [0] mixed (by kernel_rfl) (by kernel_rfl) ?_);intro w1 hx1 _;have hx2 := Ext.tr hx2 hx1;replace hv3 := hv3.ext hx1;replace hv := hv.ext hx1;refine .m2 rfl (.m2 rfl (.m2 rfl ?_));refine .t2 (bC rfl rfl (by omega)) ?_;refine .t2 (dG Tryz.underlying52 dA rfl rfl rfl (by omega)) ?_;rw [show (Value.slice (some (if cap2 = ((i : Int) + 1 : Int).toNat then (⟨g2,0,none⟩ : Addr) else ⟨g2,0 + ((i : Int) + 1 : Int).toNat * 3,none⟩)) (((l.length + 1 : Nat) : Int).toNat - ((i : Int) + 1 : Int).toNat) (cap2 - ((i : Int) + 1 : Int).toNat)) = .slice (some ⟨g2,0 + (i + 1) * 3,none⟩) (l.length + 1 - (i + 1)) (cap2 - (i + 1)) from by rw [if_neg (by omega),show ((i : Int) + 1 : Int).toNat = i + 1 from by omega]; rfl];refine .m2 rfl (.m2 rfl ?_);refine .t2 (dG Tryz.underlying52 dA rfl rfl rfl (by omega)) ?_;rw [show (Value.slice (some (if cap = (i : Int).toNat then (⟨g,0,none⟩ : Addr) else ⟨g,0 + (i : Int).toNat * 3,none⟩)) (((l.length : Nat) : Int).toNat - (i : Int).toNat) (cap - (i : Int).toNat)) = .slice (some ⟨g,0 + (i) * 3,none⟩) (l.length - (i)) (cap - (i)) from by rw [if_neg (by omega),show (i : Int).toNat = i from by omega]; rfl];have hmul : ∀ m,m * 3 = 3 * m := fun m => Nat.mul_comm _ _;have hnl2 : news.length = 3 * (l.length + 1 - i) := by rw [hnl,hmul]
 have hsp22 : sp2.length = 3 * (cap2 - (l.length + 1)) := by rw [hsp2,hmul]
 have hfit54 : 0 + (i + 1) * 3 + min (l.length - i) (l.length + 1 - (i + 1)) * 3 ≤ (List.take (0 + i * 3) (aK gc (l.take i) ++ news ++ sp2) ++ List.take (1 * 3) (gc x) ++ List.drop (0 + i * 3 + 1 * 3) (aK gc (l.take i) ++ news ++ sp2)).length := by
  rw [List.length_append,List.length_append,List.length_take,List.length_take,List.length_drop,List.length_append,List.length_append,htl,hnl2,hsp22,fC,hmul,hmul,hmul];omega
 refine pK trivial rfl (oV Tryz.underlying52 dA hv3 rfl rfl (hxs _ i sp hv (by omega)) hfit54 (fun u hu => nT tD _ u (List.mem_of_mem_take hu))) rfl (by rfl) ?_;rintro _ w4 ⟨hu4,hv4⟩;have hx4 := hx2.upd hu4 hg2;refine .done (.sr (.m2 rfl (.a2 rfl (.done (Wp.ret ?_)))));refine ⟨[_],⟨rfl,trivial⟩,?_,Bw.of hx4 (fun z hz => hz.1),fun b hb => .inr (by injection hb with hb; subst hb; exact hg2)⟩;have hmin : min (l.length - i) (l.length + 1 - (i + 1)) = l.length - i := by omega
 rw [hmin] at hv4;have hdl : (aK gc (l.drop i)).length = (l.length - i) * 3 := by rw [aQ fC,List.length_drop]
 have e1 : (aK gc (l.take i) ++ news ++ sp2).take (0 + i * 3) = aK gc (l.take i) := by rw [Nat.zero_add,List.append_assoc,List.take_left' htl]
 have e2 : (gc x).take (1 * 3) = gc x := List.take_of_length_le (Nat.le_refl _);have e3 : (aK gc (l.take i) ++ gc x).length = (i + 1) * 3 := by rw [List.length_append,htl,fC,Nat.add_mul,Nat.one_mul]
 have e4 : (aK gc (l.drop i)).take ((l.length - i) * 3) = aK gc (l.drop i) := List.take_of_length_le (by rw [hdl]; exact Nat.le_refl _);rw [e1,e2,Nat.zero_add,List.take_left' e3,e4] at hv4;obtain ⟨tl,htl2⟩ : ∃ tl,tl = (aK gc (l.take i) ++ gc x ++ (aK gc (l.take i) ++ news ++ sp2).drop (0 + i * 3 + 1 * 3)).drop ((i + 1) * 3 + (l.length - i) * 3) := ⟨_,rfl⟩;rw [← htl2] at hv4;refine bK (sp := tl) (Nat.le_trans hB hg2) (by rw [aQ fC,gO]) hcap2 hmx2 ?_ (by rw [nD]; exact hv4);rw [htl2];simp only [List.length_drop,List.length_append,htl,hnl,fC,hsp2];have h1 : (i + 1) * 3 + (l.length - i) * 3 = (l.length + 1) * 3 := by rw [← Nat.add_mul]; congr 1; omega
 omega
set_option maxHeartbeats 2000000 in
theorem vJ {w : World} {B vb g cap : Nat} {sp : List Value} {l : List G3} {x : G3} {i : Nat} (hg : B ≤ g) (hcap : l.length ≤ cap) (hmx : cap ≤ maxLen) (hsp : sp.length = (cap - l.length) * 3) (hv : Var w g (aK gc l ++ sp) 54) (hB : B ≤ w.heap.size) (hl : l.length ≤ 1000000000) (hvb : Var w vb (gc x) 54) (hi : i < l.length) (hrm : l.length + 1 ≤ cap) (hne : vb ≠ g) :
  Cl Tryz.prog 167 #[.slice (some ⟨g,0,none⟩) l.length cap,.int .i64 i,.slice (some ⟨vb,0,none⟩) 1 1] w (fun u w' => w'.ownsRow B 54 3 u (l.length + 1) (aK gc (dQ l i x)) ∧ Bw (fun z => z < w.heap.size ∧ some z ≠ u.ownBlock) w w' ∧ (∀ b,u.ownBlock = some b → b = g ∨ w.heap.size ≤ b)) := by
 have hsv : SlC w (.slice (some ⟨vb,0,none⟩) 1 1) 3 1 (gc x) := bX hvb rfl;have hmx' : cap ≤ 9223372036854775807 := hmx;have hll := aQ fC l;obtain ⟨i0,hi0,hz0,hsi0,hby0⟩ := rJ;have hxs : ∀ (w' : World) (a : Nat) (ys : List Value),Var w' g (aK gc l ++ ys) 54 → a ≤ l.length → SlC w' (.slice (some ⟨g,0 + a * 3,none⟩) (l.length - a) (cap - a)) 3 (l.length - a) (aK gc (l.drop a)) := fun w' a ys h ha => by
  refine ⟨by rw [aQ fC,List.length_drop],_,_,rfl,by omega,.inr ⟨g,0 + a * 3,rfl,?_⟩⟩;have := h.cells.sub (a * 3) ((aK gc (l.drop a)).length);rw [jK fC l ys a ha,List.take_left' rfl] at this;exact this
 refine Cl.enter Tryz.func167 rfl Tryz.ntmps167 rfl rfl (.sr (.a2 rfl (.done (.sr (.m2 rfl (.m2 rfl ?_))))));refine .t2 (dG Tryz.underlying52 dA rfl rfl rfl (by omega)) ?_;refine .done (.sr (.m2 rfl (.t2 (dC Tryz.underlying52 rfl) ?_)));rw [show ((1 : Nat) : Int) = 1 from rfl];refine .a2 rfl (.done (.seq (.sr (.m2 rfl ?_))))
 first | refine .tq (aS rfl rfl (by omega)) rfl ?_ | refine .tq (aR rfl rfl (by omega)) rfl ?_ | refine .tq (bM rfl rfl) rfl ?_
 refine .done (.condF rfl (Wp.skip (.sr (.m2 rfl (.t2 (dC Tryz.underlying52 rfl) (.a2 rfl (.done (.seq (.sr (.m2 rfl (.m2 rfl ?_)))))))))))
 first | refine .tq (aS rfl rfl (by omega)) rfl ?_ | refine .tq (aR rfl rfl (by omega)) rfl ?_ | refine .tq (bM rfl rfl) rfl ?_
 refine .done (.condF rfl (Wp.skip (.seq (.sr (.m2 rfl (.m2 rfl ?_))))));refine .t2 (bC rfl rfl (by omega)) ?_;refine .m2 rfl (.t2 (Ca Tryz.underlying52 rfl) ?_)
 first | refine .tq (gB rfl rfl (by omega)) rfl ?_ | refine .tq (eN rfl rfl (by omega)) rfl ?_ | refine .tq (jF rfl rfl) rfl ?_
 refine .done (.condF rfl (Wp.skip (.sr (.m2 rfl (.m2 rfl (.m2 rfl ?_))))));refine .t2 (bC rfl rfl (by omega)) ?_;refine .t2 (dG Tryz.underlying52 dA rfl rfl rfl (by omega)) ?_;rw [show (Value.slice (some (if cap = (0 : Int).toNat then (⟨g,0,none⟩ : Addr) else ⟨g,0 + (0 : Int).toNat * 3,none⟩)) (((l.length : Int) + 1).toNat - (0 : Int).toNat) (cap - (0 : Int).toNat)) = .slice (some ⟨g,0,none⟩) (l.length + 1) cap from by simp];refine .a2 rfl (.done (.seq (.sr (.m2 rfl (.m2 rfl (.m2 rfl (.m2 rfl ?_)))))));refine .t2 (bC rfl rfl (by omega)) ?_;refine .t2 (dG Tryz.underlying52 dA rfl rfl rfl (by omega)) ?_;rw [show (Value.slice (some (if cap = ((i : Int) + 1 : Int).toNat then (⟨g,0,none⟩ : Addr) else ⟨g,0 + ((i : Int) + 1 : Int).toNat * 3,none⟩)) (((l.length + 1 : Nat) : Int).toNat - ((i : Int) + 1 : Int).toNat) (cap - ((i : Int) + 1 : Int).toNat)) = .slice (some ⟨g,0 + (i + 1) * 3,none⟩) (l.length + 1 - (i + 1)) (cap - (i + 1)) from by rw [if_neg (by omega),show ((i : Int) + 1 : Int).toNat = i + 1 from by omega]; rfl];have hspl : 3 ≤ sp.length := by
  rw [hsp];have : 1 ≤ cap - l.length := by omega
  calc 3 = 1 * 3 := by simp
   _ ≤ (cap - l.length) * 3 := Nat.mul_le_mul_right _ this
 have hcapk : l.length * 3 + sp.length = cap * 3 := by rw [hsp,← Nat.add_mul]; congr 1; omega
 have hn1 : (l.length + 1) * 3 ≤ cap * 3 := Nat.mul_le_mul_right _ hrm;refine Rg.wd trivial (uP (R := fun v w' => v = .bool false ∧ w = w') Tryz.func194 (by kernel_rfl) (by kernel_rfl) (by kernel_rfl) (by kernel_rfl) rfl ⟨_,_,Lib.run_overlaps_apart _ 52 4 54 Tryz.underlying52 3 Tryz.sizeOf54 ⟨vb,0,none⟩ ⟨g,_,none⟩ 1 1 _ _ hne _ _ _ _ (rR hvb) (rR hv) (by rw [List.length_append,hll]; omega) (pV hvb _) (pV hvb _),rfl,rfl⟩) rfl ?_;rintro _ _ ⟨rfl,rfl⟩;refine .t2 (bJ rfl) (.done (.condT rfl ?_));refine Wp.seq (Wp.draw [0,1,2,3,4,5,6,7,8] [0] mixed (by kernel_rfl) (by kernel_rfl) ?_);intro w1 hx1 _;replace hvb := hvb.ext hx1;replace hv := hv.ext hx1;have hko : Bw (fun z => z < w.heap.size ∧ z ≠ g) w _ := Bw.of hx1 (fun z hz => hz.1);refine .m2 rfl (.m2 rfl (.m2 rfl ?_));refine .t2 (bC rfl rfl (by omega)) ?_;refine .t2 (dG Tryz.underlying52 dA rfl rfl rfl (by omega)) ?_;rw [show (Value.slice (some (if cap = ((i : Int) + 1 : Int).toNat then (⟨g,0,none⟩ : Addr) else ⟨g,0 + ((i : Int) + 1 : Int).toNat * 3,none⟩)) (((l.length + 1 : Nat) : Int).toNat - ((i : Int) + 1 : Int).toNat) (cap - ((i : Int) + 1 : Int).toNat)) = .slice (some ⟨g,0 + (i + 1) * 3,none⟩) (l.length + 1 - (i + 1)) (cap - (i + 1)) from by rw [if_neg (by omega),show ((i : Int) + 1 : Int).toNat = i + 1 from by omega]; rfl];refine .m2 rfl (.m2 rfl ?_);refine .t2 (dG Tryz.underlying52 dA rfl rfl rfl (by omega)) ?_;rw [show (Value.slice (some (if cap = (i : Int).toNat then (⟨g,0,none⟩ : Addr) else ⟨g,0 + (i : Int).toNat * 3,none⟩)) (((l.length + 1 : Nat) : Int).toNat - (i : Int).toNat) (cap - (i : Int).toNat)) = .slice (some ⟨g,0 + (i) * 3,none⟩) (l.length + 1 - (i)) (cap - (i)) from by rw [if_neg (by omega),show (i : Int).toNat = i from by omega]; rfl];have hmin2 : min (l.length + 1 - i) (l.length + 1 - (i + 1)) = l.length - i := by omega
 have hik : i * 3 + (l.length - i) * 3 = l.length * 3 := by rw [← Nat.add_mul]; congr 1; omega
 have hik1 : (i + 1) * 3 + (l.length - i) * 3 = (l.length + 1) * 3 := by rw [← Nat.add_mul]; congr 1; omega
 have hk1 : (l.length + 1) * 3 = l.length * 3 + 3 := by rw [Nat.add_mul,Nat.one_mul]
 have hi1 : (i + 1) * 3 = i * 3 + 3 := by rw [Nat.add_mul,Nat.one_mul]
 have hfit2 : 0 + (i + 1) * 3 + min (l.length + 1 - i) (l.length + 1 - (i + 1)) * 3 ≤ (aK gc l ++ sp).length := by rw [hmin2,List.length_append,hll]; omega
 have hdl : (aK gc (l.drop i)).length = (l.length - i) * 3 := by rw [aQ fC,List.length_drop]
 have hcs2 : ∀ m,(((aK gc l ++ sp).drop (i * 3)).take m).take ((l.length - i) * 3) = (aK gc (l.drop i)).take m := fun m => by
  rw [List.take_take,Nat.min_comm,← List.take_take,jK fC l sp i (by omega),List.take_left' hdl]
 have hone2 : ∀ u ∈ (((aK gc l ++ sp).drop (i * 3)).take ((l.length + 1 - i) * 3)).take (min (l.length + 1 - i) (l.length + 1 - (i + 1)) * 3),u.oneCell' = true := by
  rw [hmin2,hcs2];exact fun u hu => nT tD _ u (List.mem_of_mem_take hu)
 have hs2 : ∀ w',Var w' g (aK gc l ++ sp) 54 → SlC w' (.slice (some ⟨g,0 + i * 3,none⟩) (l.length + 1 - i) (cap - i)) 3 (l.length + 1 - i) (((aK gc l ++ sp).drop (i * 3)).take ((l.length + 1 - i) * 3)) := fun w' h => by
  refine ⟨?_,_,_,rfl,by omega,.inr ⟨g,0 + i * 3,rfl,h.cells.sub _ _⟩⟩;rw [List.length_take,List.length_drop,List.length_append,hll];have : (l.length + 1 - i) * 3 = (l.length + 1) * 3 - i * 3 := Nat.mul_sub_right_distrib _ _ _;omega
 refine pK trivial rfl (oV Tryz.underlying52 dA hv rfl rfl (hs2 _ hv) hfit2 hone2) rfl (by rfl) ?_;rintro _ w4 ⟨hu4,hv4⟩;refine .done (.sr (.m2 rfl (.m2 rfl ?_)));refine .t2 (dG Tryz.underlying52 dA rfl rfl rfl (by omega)) ?_;rw [show (Value.slice (some (if cap = (i : Int).toNat then (⟨g,0,none⟩ : Addr) else ⟨g,0 + (i : Int).toNat * 3,none⟩)) (((l.length + 1 : Nat) : Int).toNat - (i : Int).toNat) (cap - (i : Int).toNat)) = .slice (some ⟨g,0 + (i) * 3,none⟩) (l.length + 1 - (i)) (cap - (i)) from by rw [if_neg (by omega),show (i : Int).toNat = i from by omega]; rfl];refine .m2 rfl ?_;replace hvb := hvb.upd hu4 hne;have hcl4 : (List.take (0 + (i + 1) * 3) (aK gc l ++ sp)).length = (i + 1) * 3 := by rw [List.length_take,List.length_append,hll]; omega
 have e4 : (aK gc (l.drop i)).take ((l.length + 1 - i) * 3) = aK gc (l.drop i) := List.take_of_length_le (by rw [hdl]; exact Nat.mul_le_mul_right _ (by omega));rw [hmin2,hcs2,e4] at hv4;have hmin1 : min 1 (l.length + 1 - i) = 1 := by omega
 have hfit3 : 0 + i * 3 + min 1 (l.length + 1 - i) * 3 ≤ (List.take (0 + (i + 1) * 3) (aK gc l ++ sp) ++ aK gc (l.drop i) ++ List.drop (0 + (i + 1) * 3 + (l.length - i) * 3) (aK gc l ++ sp)).length := by
  rw [hmin1,List.length_append,List.length_append,hcl4,hdl]; omega
 refine Rg.wd trivial (oV Tryz.underlying52 dA hv4 rfl rfl (bX hvb rfl) hfit3 (fun u hu => tD x u (List.mem_of_mem_take hu))) rfl ?_;rintro _ w5 ⟨hu5,hv5⟩;refine .done (.sr (.m2 rfl (.a2 rfl (.done (Wp.ret ?_)))));rw [hmin1] at hv5;have ea : (List.take (0 + (i + 1) * 3) (aK gc l ++ sp) ++ aK gc (l.drop i) ++ List.drop (0 + (i + 1) * 3 + (l.length - i) * 3) (aK gc l ++ sp)).take (0 + i * 3) = aK gc (l.take i) := by
  rw [List.append_assoc,List.take_append_of_le_length (by rw [hcl4]; omega),List.take_take,Nat.min_eq_left (by omega),Nat.zero_add,mA fC l sp i (by omega)]
 have eb : (List.take (0 + (i + 1) * 3) (aK gc l ++ sp) ++ aK gc (l.drop i) ++ List.drop (0 + (i + 1) * 3 + (l.length - i) * 3) (aK gc l ++ sp)).drop (0 + i * 3 + 1 * 3) = aK gc (l.drop i) ++ List.drop (0 + (i + 1) * 3 + (l.length - i) * 3) (aK gc l ++ sp) := by
  rw [List.append_assoc,show 0 + i * 3 + 1 * 3 = (i + 1) * 3 from by rw [hi1]; omega,List.drop_left' hcl4]
 rw [ea,eb,List.take_of_length_le (show (gc x).length ≤ 1 * 3 from by rw [fC]; omega),← List.append_assoc,← nD] at hv5;refine ⟨[_],⟨rfl,trivial⟩,?_,((hko.trans (Bw.upd hu4 fun hh => hh.2 rfl)).trans (Bw.upd hu5 fun hh => hh.2 rfl)).sub (fun z hz => ⟨hz.1,fun e => hz.2 (by rw [e]; rfl)⟩),fun b hb => .inl (by injection hb with hb; exact hb.symm)⟩;refine bK hg (by rw [aQ fC,gO]) hrm hmx ?_ hv5;rw [List.length_drop,List.length_append,hll];have : (cap - (l.length + 1)) * 3 = cap * 3 - (l.length + 1) * 3 := Nat.mul_sub_right_distrib _ _ _;omega
def xT : Gt → G3
 | .mk k t (.slice p n c) _ => (k,t,p,n,c)
 | .mk k t _ _ => (k,t,none,0,0)
theorem xU {F : Fs} {w : World} {g : Gt} (h : GOk F w g) : gc (xT g) = g.cells := by
 cases h with
 | mk hs h1 h2 h3 =>
  obtain ⟨_,p,cap,e,_⟩ := hs;subst e;rfl
theorem rS {F : Fs} {w : World} {l : List Gt} (h : ∀ g ∈ l,GOk F w g) : aK gc (l.map xT) = aK Gt.cells l := by
 induction l with
 | nil => rfl
 | cons g l ih =>
  show gc (xT g) ++ aK gc (l.map xT) = g.cells ++ aK Gt.cells l
  rw [xU (h g List.mem_cons_self),ih fun x hx => h x (List.mem_cons_of_mem _ hx)]
theorem oM {α β : Type} (f : α → β) (l : List α) (i : Nat) (x : α) : (dQ l i x).map f = dQ (l.map f) i (f x) := by simp [dQ,List.map_take,List.map_drop]
theorem xV {w : World} {Q : Fs} {vb : Nat} {cv : Value} {kl : List Gt} {i : Nat} (ho : w.ownsRow 0 54 3 cv kl.length (aK Gt.cells kl)) (hok : ∀ g ∈ kl,GOk Q w g) (hl : kl.length ≤ 1000000000) (hi : i < kl.length) (hvb : Var w vb [.int .i64 0,.string fS,.slice none 0 0] 54) (hne : some vb ≠ cv.ownBlock) :
  Cl Tryz.prog 167 #[cv,.int .i64 i,.slice (some ⟨vb,0,none⟩) 1 1] w (fun u w' => w'.ownsRow 0 54 3 u (kl.length + 1) (aK Gt.cells (dQ kl i (.mk 0 fS (.slice none 0 0) []))) ∧ Bw (fun z => z < w.heap.size ∧ some z ≠ u.ownBlock) w w' ∧ (∀ b,u.ownBlock = some b → cv.ownBlock = some b ∨ w.heap.size ≤ b)) := by
 rcases bH ho with ⟨_,h0⟩ | ⟨g,cap,sp,rfl,hg,hcap,hmx,hsp,hv⟩
 ·omega
 have e1 : aK gc (kl.map xT) = aK Gt.cells kl := rS hok;have hleaf : GOk Q w (.mk 0 fS (.slice none 0 0) []) := .mk ⟨by simp [aK],none,0,rfl,Nat.le_refl _,.inl rfl⟩ rfl (fun b hb => by cases hb) fun g hg => by cases hg
 have e2 : aK gc (dQ (kl.map xT) i (0,fS,none,0,0)) = aK Gt.cells (dQ kl i (.mk 0 fS (.slice none 0 0) [])) := by
  rw [← rS (F := Q) (w := w) (l := dQ kl i (.mk 0 fS (.slice none 0 0) [])),oM]
  ·rfl
  ·intro g hg
   simp only [dQ,List.mem_append,List.mem_cons] at hg
   rcases hg with hg | rfl | hg
   ·exact hok g (List.mem_of_mem_take hg)
   ·exact hleaf
   ·exact hok g (List.mem_of_mem_drop hg)
 have hlm : (kl.map xT).length = kl.length := List.length_map _;have hng : vb ≠ g := fun e => hne (by rw [e]; rfl)
 by_cases hr : kl.length + 1 ≤ cap
 ·have := vJ (B := 0) (x := (0,fS,none,0,0)) hg (by rw [hlm]; exact hcap) hmx (by rw [hlm]; exact hsp) (by rw [e1]; exact hv) (Nat.zero_le _) (by rw [hlm]; exact hl) hvb (by rw [hlm]; exact hi) (by rw [hlm]; exact hr) hng
  rw [hlm] at this;exact this.mono fun u w' ⟨a,b,c⟩ => ⟨e2 ▸ a,b,fun z hz => (c z hz).imp (fun e => by rw [e]; rfl) id⟩
 ·have := vI (B := 0) (x := (0,fS,none,0,0)) hg (by rw [hlm]; exact hcap) hmx (by rw [hlm]; exact hsp) (by rw [e1]; exact hv) (Nat.zero_le _) (by rw [hlm]; exact hl) hvb (by rw [hlm]; exact hi) (by rw [hlm]; omega) hng
  rw [hlm] at this;exact this.mono fun u w' ⟨a,b,c⟩ => ⟨e2 ▸ a,b,fun z hz => (c z hz).imp (fun e => by rw [e]; rfl) id⟩
end Go.Proofs.YtlndmiegodcfjaaGreatDoor.Par
