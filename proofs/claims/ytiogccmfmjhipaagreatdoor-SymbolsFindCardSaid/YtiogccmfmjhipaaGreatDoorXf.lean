/- The parser: items, binary expressions, blocks, uses. Printed by r6/Nt.py (auto.py). -/
import Derived.Test.YtiogccmfmjhipaaGreatDoorXe
import Derived.Test.YtiogccmfmjhipaaGreatDoorXd
import Derived.Test.YtiogccmfmjhipaaGreatDoorXc
import Derived.Test.YtiogccmfmjhipaaGreatDoorXb
set_option linter.unusedVariables false
set_option linter.unusedSimpArgs false
namespace Go.Proofs.YtiogccmfmjhipaaGreatDoor.Par
set_option maxRecDepth 20000
open Go.Gx Go.RowKit Go.Lib
open Lexi (Asc)
section
variable {w0 : World} {tv : Value} {toks : List Tok} {F : Fs} {w w' : World} {bP : Nat} {below : List (Int × List Tr)} {k : Int} {s r : S} {n : Nat}
theorem N_itemBody {kd : Int} (hC : Cx w0 tv toks) (hD : ∀ m,m < n → DN w0 tv toks m) (hp : Ps w0 tv toks F w bP below k s) (hr : run body n (body (.itemBody kd)) s = some r) (hb : r.adds ≤ big) :
  Cl Tryz.prog 102 #[.pointer (some ⟨bP,0,none⟩),.int .i64 kd] w (fun u w' => ((Nm.itemBody kd) = Nm.statement → u = .bool r.flag) ∧ Ps w0 tv toks F w' bP below k r ∧ Bw F w w') := by
 have hbw := Bw.refl F w
 have hsub : ∀ z,F z → F z := fun z h => h
 have hbase := hp.base
 have hr : run body n (if kd = 2 then (.call .use) else (if kd = 3 then (.call (.function true)) else (if kd = 4 ∨ kd = 5 then (.call (.dataType kd)) else (if kd = 6 then (.seq Cmd.expIdent (.call .members)) else (if kd = 7 then (.call .impl) else (if kd = 8 then (.seq Cmd.expIdent (.seq (Cmd.exp ⟨#[58]⟩) (.seq (.call .typeExpr) (.seq (Cmd.exp ⟨#[61]⟩) (.seq Cmd.expr (Cmd.exp ⟨#[59]⟩)))))) else (if kd = 9 then (.seq Cmd.expIdent (.seq (Cmd.exp ⟨#[40]⟩) (.seq (.call (.params ⟨#[41]⟩)) (.seq (Cmd.exp ⟨#[61]⟩) (.seq Cmd.expr (Cmd.exp ⟨#[59]⟩)))))) else .skip))))))) s = some r := hr
 refine Cl.enter Tryz.func102 rfl Tryz.ntmps102 rfl rfl (.sr (.m2 rfl (.done (Wp.block ?_))))
 cases haq1 : (kd == 2) with
 | true =>
  rw [if_pos (beq_iff_eq.1 haq1)] at hr
  refine .sr (.t2 (t_eqlT rfl rfl (beq_iff_eq.1 haq1)) (.a2 rfl (.done (.condT rfl (Wp.region (.m2 rfl (Rg.wd trivial (w_call Tryz.call150 rfl (D_call hD hp hr hb)) rfl ?_)))))))
  rintro _ w1 ⟨hst,hp1,hb1⟩
  replace hbw := hbw.trans (hb1.sub hsub)
  clear hp
  have hp := hp1
  clear hp1
  refine .done ?_
  exact ⟨[],trivial,(fun h => by cases h),hp.sub hsub hbase,hbw⟩
 | false =>
  rw [if_neg (fun e => by rw [beq_iff_eq.2 e] at haq1; cases haq1)] at hr
  refine .sr ?_
  refine .t2 (t_eqlF rfl rfl (fun e => by rw [beq_iff_eq.2 e] at haq1; cases haq1)) ?_
  refine .a2 rfl (.done (.condF rfl ?_))
  cases haq2 : (kd == 3) with
  | true =>
   rw [if_pos (beq_iff_eq.1 haq2)] at hr
   refine .sr (.t2 (t_eqlT rfl rfl (beq_iff_eq.1 haq2)) (.a2 rfl (.done (.condT rfl (Wp.region (.m2 rfl (Rg.wd trivial (w_call Tryz.call151 rfl (D_call hD hp hr hb)) rfl ?_)))))))
   rintro _ w1 ⟨hst,hp1,hb1⟩
   replace hbw := hbw.trans (hb1.sub hsub)
   clear hp
   have hp := hp1
   clear hp1
   refine .done ?_
   exact ⟨[],trivial,(fun h => by cases h),hp.sub hsub hbase,hbw⟩
  | false =>
   rw [if_neg (fun e => by rw [beq_iff_eq.2 e] at haq2; cases haq2)] at hr
   refine .sr ?_
   refine .t2 (t_eqlF rfl rfl (fun e => by rw [beq_iff_eq.2 e] at haq2; cases haq2)) ?_
   refine .a2 rfl (.done (.condF rfl (.seq ?_)))
   cases haq3 : (kd == 4) with
   | true =>
    rw [if_pos (.inl (beq_iff_eq.1 haq3))] at hr
    refine .sr (.t2 (t_eqlT rfl rfl (beq_iff_eq.1 haq3)) (.a2 rfl (.done (.condT rfl (Wp.skip (.condT rfl (Wp.region (.m2 rfl (.m2 rfl (Rg.wd trivial (w_call Tryz.call152 rfl (D_call hD hp hr hb)) rfl ?_))))))))))
    rintro _ w1 ⟨hst,hp1,hb1⟩
    replace hbw := hbw.trans (hb1.sub hsub)
    clear hp
    have hp := hp1
    clear hp1
    refine .done ?_
    exact ⟨[],trivial,(fun h => by cases h),hp.sub hsub hbase,hbw⟩
   | false =>
    refine .sr ?_
    refine .t2 (t_eqlF rfl rfl (fun e => by rw [beq_iff_eq.2 e] at haq3; cases haq3)) ?_
    refine .a2 rfl (.done (.condF rfl ?_))
    cases haq4 : (kd == 5) with
    | true =>
     rw [if_pos (.inr (beq_iff_eq.1 haq4))] at hr
     refine Wp.region (.t2 (t_eqlT rfl rfl (beq_iff_eq.1 haq4)) (.a2 rfl (.done (.condT rfl (Wp.region (.m2 rfl (.m2 rfl (Rg.wd trivial (w_call Tryz.call152 rfl (D_call hD hp hr hb)) rfl ?_))))))))
     rintro _ w1 ⟨hst,hp1,hb1⟩
     replace hbw := hbw.trans (hb1.sub hsub)
     clear hp
     have hp := hp1
     clear hp1
     refine .done ?_
     exact ⟨[],trivial,(fun h => by cases h),hp.sub hsub hbase,hbw⟩
    | false =>
     rw [if_neg (fun h => h.elim (fun e => by rw [beq_iff_eq.2 e] at haq3; cases haq3) (fun e => by rw [beq_iff_eq.2 e] at haq4; cases haq4))] at hr
     refine Wp.region ?_
     refine .t2 (t_eqlF rfl rfl (fun e => by rw [beq_iff_eq.2 e] at haq4; cases haq4)) ?_
     refine .a2 rfl (.done (.condF rfl ?_))
     cases haq5 : (kd == 6) with
     | true =>
      rw [if_pos (beq_iff_eq.1 haq5)] at hr
      refine .sr (.t2 (t_eqlT rfl rfl (beq_iff_eq.1 haq5)) (.a2 rfl (.done (.condT rfl (.sr (.m2 rfl ?_))))))
      obtain ⟨s1,h1a,h1b⟩ := run_seq' hr
      refine Rg.wd trivial (w_call Tryz.call153 rfl (D_expIdent hC hp h1a (adds_le h1b hb))) rfl ?_
      rintro _ w1 ⟨hp1,hb1⟩
      replace hbw := hbw.trans (hb1.sub hsub)
      clear hp
      have hp := hp1
      clear hp1
      refine .done (Wp.region (.m2 rfl (Rg.wd trivial (w_call Tryz.call154 rfl (D_call hD hp h1b hb)) rfl ?_)))
      rintro _ w2 ⟨hst,hp1,hb2⟩
      replace hbw := hbw.trans (hb2.sub hsub)
      clear hp
      have hp := hp1
      clear hp1
      refine .done ?_
      exact ⟨[],trivial,(fun h => by cases h),hp.sub hsub hbase,hbw⟩
     | false =>
      rw [if_neg (fun e => by rw [beq_iff_eq.2 e] at haq5; cases haq5)] at hr
      refine .sr ?_
      refine .t2 (t_eqlF rfl rfl (fun e => by rw [beq_iff_eq.2 e] at haq5; cases haq5)) ?_
      refine .a2 rfl (.done (.condF rfl ?_))
      cases haq6 : (kd == 7) with
      | true =>
       rw [if_pos (beq_iff_eq.1 haq6)] at hr
       refine .sr (.t2 (t_eqlT rfl rfl (beq_iff_eq.1 haq6)) (.a2 rfl (.done (.condT rfl (Wp.region (.m2 rfl (Rg.wd trivial (w_call Tryz.call155 rfl (D_call hD hp hr hb)) rfl ?_)))))))
       rintro _ w1 ⟨hst,hp1,hb1⟩
       replace hbw := hbw.trans (hb1.sub hsub)
       clear hp
       have hp := hp1
       clear hp1
       refine .done ?_
       exact ⟨[],trivial,(fun h => by cases h),hp.sub hsub hbase,hbw⟩
      | false =>
       rw [if_neg (fun e => by rw [beq_iff_eq.2 e] at haq6; cases haq6)] at hr
       refine .sr ?_
       refine .t2 (t_eqlF rfl rfl (fun e => by rw [beq_iff_eq.2 e] at haq6; cases haq6)) ?_
       refine .a2 rfl (.done (.condF rfl ?_))
       cases haq7 : (kd == 8) with
       | true =>
        rw [if_pos (beq_iff_eq.1 haq7)] at hr
        refine .sr (.t2 (t_eqlT rfl rfl (beq_iff_eq.1 haq7)) (.a2 rfl (.done (.condT rfl (.sr (.m2 rfl ?_))))))
        obtain ⟨s1,h1a,h1b⟩ := run_seq' hr
        refine Rg.wd trivial (w_call Tryz.call153 rfl (D_expIdent hC hp h1a (adds_le h1b hb))) rfl ?_
        rintro _ w1 ⟨hp1,hb1⟩
        replace hbw := hbw.trans (hb1.sub hsub)
        clear hp
        have hp := hp1
        clear hp1
        refine .done (.sr (.m2 rfl ?_))
        obtain ⟨s2,h2a,h2b⟩ := run_seq' h1b
        refine Rg.wd trivial (w_call Tryz.call156 rfl (D_exp hC hp h2a (adds_le h2b hb))) rfl ?_
        rintro _ w2 ⟨hp1,hb2⟩
        replace hbw := hbw.trans (hb2.sub hsub)
        clear hp
        have hp := hp1
        clear hp1
        refine .done (.sr (.m2 rfl ?_))
        obtain ⟨s3,h3a,h3b⟩ := run_seq' h2b
        refine Rg.wd trivial (w_call Tryz.call157 rfl (D_call hD hp h3a (adds_le h3b hb))) rfl ?_
        rintro _ w3 ⟨hst,hp1,hb3⟩
        replace hbw := hbw.trans (hb3.sub hsub)
        clear hp
        have hp := hp1
        clear hp1
        refine .done (.sr (.m2 rfl ?_))
        obtain ⟨s4,h4a,h4b⟩ := run_seq' h3b
        refine Rg.wd trivial (w_call Tryz.call156 rfl (D_exp hC hp h4a (adds_le h4b hb))) rfl ?_
        rintro _ w4 ⟨hp1,hb4⟩
        replace hbw := hbw.trans (hb4.sub hsub)
        clear hp
        have hp := hp1
        clear hp1
        refine .done (.sr (.m2 rfl ?_))
        obtain ⟨s5,h5a,h5b⟩ := run_seq' h4b
        refine Rg.wd trivial (w_call Tryz.call158 rfl (D_expr hC hD hp h5a (adds_le h5b hb))) rfl ?_
        rintro _ w5 ⟨hp1,hb5⟩
        replace hbw := hbw.trans (hb5.sub hsub)
        clear hp
        have hp := hp1
        clear hp1
        refine .done (Wp.region (.m2 rfl (Rg.wd trivial (w_call Tryz.call156 rfl (D_exp hC hp h5b hb)) rfl ?_)))
        rintro _ w6 ⟨hp1,hb6⟩
        replace hbw := hbw.trans (hb6.sub hsub)
        clear hp
        have hp := hp1
        clear hp1
        refine .done ?_
        exact ⟨[],trivial,(fun h => by cases h),hp.sub hsub hbase,hbw⟩
       | false =>
        rw [if_neg (fun e => by rw [beq_iff_eq.2 e] at haq7; cases haq7)] at hr
        refine .sr ?_
        refine .t2 (t_eqlF rfl rfl (fun e => by rw [beq_iff_eq.2 e] at haq7; cases haq7)) ?_
        refine .a2 rfl (.done (.condF rfl ?_))
        cases haq8 : (kd == 9) with
        | true =>
         rw [if_pos (beq_iff_eq.1 haq8)] at hr
         refine .sr (.t2 (t_eqlT rfl rfl (beq_iff_eq.1 haq8)) (.a2 rfl (.done (.condT rfl (.sr (.m2 rfl ?_))))))
         obtain ⟨s1,h1a,h1b⟩ := run_seq' hr
         refine Rg.wd trivial (w_call Tryz.call153 rfl (D_expIdent hC hp h1a (adds_le h1b hb))) rfl ?_
         rintro _ w1 ⟨hp1,hb1⟩
         replace hbw := hbw.trans (hb1.sub hsub)
         clear hp
         have hp := hp1
         clear hp1
         refine .done (.sr (.m2 rfl ?_))
         obtain ⟨s2,h2a,h2b⟩ := run_seq' h1b
         refine Rg.wd trivial (w_call Tryz.call156 rfl (D_exp hC hp h2a (adds_le h2b hb))) rfl ?_
         rintro _ w2 ⟨hp1,hb2⟩
         replace hbw := hbw.trans (hb2.sub hsub)
         clear hp
         have hp := hp1
         clear hp1
         refine .done (.sr (.m2 rfl ?_))
         obtain ⟨s3,h3a,h3b⟩ := run_seq' h2b
         refine Rg.wd trivial (w_call Tryz.call159 rfl (D_call hD hp h3a (adds_le h3b hb))) rfl ?_
         rintro _ w3 ⟨hst,hp1,hb3⟩
         replace hbw := hbw.trans (hb3.sub hsub)
         clear hp
         have hp := hp1
         clear hp1
         refine .done (.sr (.m2 rfl ?_))
         obtain ⟨s4,h4a,h4b⟩ := run_seq' h3b
         refine Rg.wd trivial (w_call Tryz.call156 rfl (D_exp hC hp h4a (adds_le h4b hb))) rfl ?_
         rintro _ w4 ⟨hp1,hb4⟩
         replace hbw := hbw.trans (hb4.sub hsub)
         clear hp
         have hp := hp1
         clear hp1
         refine .done (.sr (.m2 rfl ?_))
         obtain ⟨s5,h5a,h5b⟩ := run_seq' h4b
         refine Rg.wd trivial (w_call Tryz.call158 rfl (D_expr hC hD hp h5a (adds_le h5b hb))) rfl ?_
         rintro _ w5 ⟨hp1,hb5⟩
         replace hbw := hbw.trans (hb5.sub hsub)
         clear hp
         have hp := hp1
         clear hp1
         refine .done (Wp.region (.m2 rfl (Rg.wd trivial (w_call Tryz.call156 rfl (D_exp hC hp h5b hb)) rfl ?_)))
         rintro _ w6 ⟨hp1,hb6⟩
         replace hbw := hbw.trans (hb6.sub hsub)
         clear hp
         have hp := hp1
         clear hp1
         refine .done ?_
         exact ⟨[],trivial,(fun h => by cases h),hp.sub hsub hbase,hbw⟩
        | false =>
         rw [if_neg (fun e => by rw [beq_iff_eq.2 e] at haq8; cases haq8)] at hr
         obtain rfl := run_skip' hr
         refine .sr ?_
         refine .t2 (t_eqlF rfl rfl (fun e => by rw [beq_iff_eq.2 e] at haq8; cases haq8)) ?_
         refine .a2 rfl (.done (.condF rfl (Wp.skip ?_)))
         exact ⟨[],trivial,(fun h => by cases h),hp.sub hsub hbase,hbw⟩
theorem clo_53 {kd : Int} (hC : Cx w0 tv toks) (hD : ∀ m,m < n → DN w0 tv toks m) {b0 : Nat} (hv_b0 : Var w b0 [.pointer (some ⟨bP,0,none⟩)] 100) (hF_b0 : F b0) {b1 : Nat} (hv_b1 : Var w b1 [.int .i64 kd] 3) (hF_b1 : F b1) : Clo w0 tv toks n F bP 99 [] [.pointer (some ⟨b0,0,none⟩),.pointer (some ⟨b1,0,none⟩)] w (.seq (Cmd.acc ⟨#[112,117,98]⟩) (.seq .bump (.call (.itemBody kd)))) := by
 refine ⟨Tryz.call99,fun w1 hw1 below k s r hp hr hb => ?_⟩
 replace hv_b0 := var_bw hv_b0 hw1 hF_b0
 replace hv_b1 := var_bw hv_b1 hw1 hF_b1
 show Cl Tryz.prog 99 #[.pointer (some ⟨b0,0,none⟩),.pointer (some ⟨b1,0,none⟩)] w1 _
 have hbw := Bw.refl F w1
 have hsub : ∀ z,F z → F z := fun z h => h
 have hbase := hp.base
 refine Cl.enter Tryz.func99 rfl Tryz.ntmps99 rfl rfl ?_
 cases haq1 : (isAt [⟨#[112,117,98]⟩] (sig1 s.rem)) with
 | true =>
  obtain ⟨s1,h1a,h1b⟩ := run_seq' hr
  have hq2 := run_condT h1a haq1
  refine .sr (.t2 (t_load ty100 rfl (hv_b0.g 0 rfl)) (Rg.wd trivial (w_buildSlice (bs38_1 _) rfl) rfl ?_))
  rintro _ w1 ⟨bt3,rfl,qt3,hx1,hvt3⟩
  replace hbw := bS hbw hp.und hsub hx1
  replace hp := hp.extw hx1
  replace hv_b0 := hv_b0.ext hx1
  replace hv_b1 := hv_b1.ext hx1
  obtain rfl := run_bump' hq2
  refine Rg.wd trivial (w_call Tryz.call100 rfl (acc_T hC hp (texts := [⟨#[112,117,98]⟩]) hvt3 (by decide) haq1 (adds_le h1b hb))) rfl ?_
  rintro _ w2 ⟨rfl,hp1,hb2⟩
  replace hv_b0 := var_bw hv_b0 hb2 hF_b0
  replace hv_b1 := var_bw hv_b1 hb2 hF_b1
  replace hbw := hbw.trans (hb2.sub hsub)
  clear hp
  have hp := hp1
  clear hp1
  refine .done (.sr (.t2 (t_load ty100 rfl (hv_b0.g 0 rfl)) ?_))
  obtain ⟨s2,h2a,h2b⟩ := run_seq' h1b
  refine Rg.wd trivial (w_call Tryz.call101 rfl (D_bump hC hp h2a (adds_le h2b hb))) rfl ?_
  rintro _ w3 ⟨hp1,hb3⟩
  replace hv_b0 := var_bw hv_b0 hb3 hF_b0
  replace hv_b1 := var_bw hv_b1 hb3 hF_b1
  replace hbw := hbw.trans (hb3.sub hsub)
  clear hp
  have hp := hp1
  clear hp1
  refine .done (Wp.region (.t2 (t_load ty100 rfl (hv_b0.g 0 rfl)) (.t2 (t_load ty3 rfl (hv_b1.g 0 rfl)) (Rg.wd trivial (w_call Tryz.call102 rfl (D_call hD hp h2b hb)) rfl ?_))))
  rintro _ w4 ⟨hst,hp1,hb4⟩
  replace hv_b0 := var_bw hv_b0 hb4 hF_b0
  replace hv_b1 := var_bw hv_b1 hb4 hF_b1
  replace hbw := hbw.trans (hb4.sub hsub)
  clear hp
  have hp := hp1
  clear hp1
  refine .done ?_
  exact ⟨[],trivial,hp.sub hsub hbase,hbw⟩
 | false =>
  obtain ⟨s1,h1a,h1b⟩ := run_seq' hr
  have hq2 := run_condF h1a haq1
  obtain rfl := run_skip' hq2
  refine .sr (.t2 (t_load ty100 rfl (hv_b0.g 0 rfl)) (Rg.wd trivial (w_buildSlice (bs38_1 _) rfl) rfl ?_))
  rintro _ w1 ⟨bt3,rfl,qt3,hx1,hvt3⟩
  replace hbw := bS hbw hp.und hsub hx1
  replace hp := hp.extw hx1
  replace hv_b0 := hv_b0.ext hx1
  replace hv_b1 := hv_b1.ext hx1
  refine Rg.wd trivial (w_call Tryz.call100 rfl (acc_F hC hp (texts := [⟨#[112,117,98]⟩]) hvt3 (by decide) haq1)) rfl ?_
  rintro _ w2 ⟨rfl,hp1,hb2⟩
  replace hv_b0 := var_bw hv_b0 hb2 hF_b0
  replace hv_b1 := var_bw hv_b1 hb2 hF_b1
  replace hbw := hbw.trans (hb2.sub hsub)
  clear hp
  have hp := hp1
  clear hp1
  refine .done (.sr (.t2 (t_load ty100 rfl (hv_b0.g 0 rfl)) ?_))
  obtain ⟨s2,h2a,h2b⟩ := run_seq' h1b
  refine Rg.wd trivial (w_call Tryz.call101 rfl (D_bump hC hp h2a (adds_le h2b hb))) rfl ?_
  rintro _ w3 ⟨hp1,hb3⟩
  replace hv_b0 := var_bw hv_b0 hb3 hF_b0
  replace hv_b1 := var_bw hv_b1 hb3 hF_b1
  replace hbw := hbw.trans (hb3.sub hsub)
  clear hp
  have hp := hp1
  clear hp1
  refine .done (Wp.region (.t2 (t_load ty100 rfl (hv_b0.g 0 rfl)) (.t2 (t_load ty3 rfl (hv_b1.g 0 rfl)) (Rg.wd trivial (w_call Tryz.call102 rfl (D_call hD hp h2b hb)) rfl ?_))))
  rintro _ w4 ⟨hst,hp1,hb4⟩
  replace hv_b0 := var_bw hv_b0 hb4 hF_b0
  replace hv_b1 := var_bw hv_b1 hb4 hF_b1
  replace hbw := hbw.trans (hb4.sub hsub)
  clear hp
  have hp := hp1
  clear hp1
  refine .done ?_
  exact ⟨[],trivial,hp.sub hsub hbase,hbw⟩
theorem ops_0 : Cl Tryz.prog 266 #[.int .i64 0] w (fun u w' => (∃ b,u = .slice (some ⟨b,0,none⟩) 1 1 ∧ Var w' b ([⟨#[124,124]⟩].map .string) 9) ∧ Ext w w') := by
 have hx := Ext.refl w
 refine Cl.enter Tryz.func266 rfl Tryz.ntmps266 rfl rfl (.sr (.a2 rfl (.done (.sr (Rg.wd trivial (w_buildSlice (bs38_1 _) rfl) rfl ?_)))))
 rintro _ w1 ⟨b3,rfl,q3,hx1,hv3⟩
 replace hx := hx.ext hx1
 refine Rg.wd trivial (w_buildSlice (bs38_1 _) rfl) rfl ?_
 rintro _ w2 ⟨b4,rfl,q4,hx2,hv4⟩
 replace hx := hx.ext hx2
 replace hv3 := hv3.ext hx2
 clear hv4
 refine Rg.wd trivial (w_buildSlice (bs38_2 _ _) rfl) rfl ?_
 rintro _ w3 ⟨b5,rfl,q5,hx3,hv5⟩
 replace hx := hx.ext hx3
 replace hv3 := hv3.ext hx3
 clear hv5
 refine Rg.wd trivial (w_buildSlice (bs38_2 _ _) rfl) rfl ?_
 rintro _ w4 ⟨b6,rfl,q6,hx4,hv6⟩
 replace hx := hx.ext hx4
 replace hv3 := hv3.ext hx4
 clear hv6
 refine Rg.wd trivial (w_buildSlice (bs38_2 _ _) rfl) rfl ?_
 rintro _ w5 ⟨b7,rfl,q7,hx5,hv7⟩
 replace hx := hx.ext hx5
 replace hv3 := hv3.ext hx5
 clear hv7
 refine Rg.wd trivial (w_buildSlice (bs284_5 _ _ _ _ _ _ _ _ _ _ _ _ _ _ _) rfl) rfl ?_
 rintro _ w6 ⟨b8,rfl,q8,hx6,hv8⟩
 replace hx := hx.ext hx6
 replace hv3 := hv3.ext hx6
 refine .m2 rfl ?_
 refine .t2 (t_indexAddrL Tryz.underlying284 ty38 rfl rfl (by decide)) ?_
 refine .t2 (t_load ty38 rfl (hv8.g 0 rfl)) (.a2 rfl (.done (Wp.ret ?_)))
 exact ⟨[_],⟨rfl,trivial⟩,⟨_,rfl,hv3⟩,hx⟩
theorem ops_1 : Cl Tryz.prog 266 #[.int .i64 1] w (fun u w' => (∃ b,u = .slice (some ⟨b,0,none⟩) 1 1 ∧ Var w' b ([⟨#[38,38]⟩].map .string) 9) ∧ Ext w w') := by
 have hx := Ext.refl w
 refine Cl.enter Tryz.func266 rfl Tryz.ntmps266 rfl rfl (.sr (.a2 rfl (.done (.sr (Rg.wd trivial (w_buildSlice (bs38_1 _) rfl) rfl ?_)))))
 rintro _ w1 ⟨b3,rfl,q3,hx1,hv3⟩
 replace hx := hx.ext hx1
 clear hv3
 refine Rg.wd trivial (w_buildSlice (bs38_1 _) rfl) rfl ?_
 rintro _ w2 ⟨b4,rfl,q4,hx2,hv4⟩
 replace hx := hx.ext hx2
 refine Rg.wd trivial (w_buildSlice (bs38_2 _ _) rfl) rfl ?_
 rintro _ w3 ⟨b5,rfl,q5,hx3,hv5⟩
 replace hx := hx.ext hx3
 replace hv4 := hv4.ext hx3
 clear hv5
 refine Rg.wd trivial (w_buildSlice (bs38_2 _ _) rfl) rfl ?_
 rintro _ w4 ⟨b6,rfl,q6,hx4,hv6⟩
 replace hx := hx.ext hx4
 replace hv4 := hv4.ext hx4
 clear hv6
 refine Rg.wd trivial (w_buildSlice (bs38_2 _ _) rfl) rfl ?_
 rintro _ w5 ⟨b7,rfl,q7,hx5,hv7⟩
 replace hx := hx.ext hx5
 replace hv4 := hv4.ext hx5
 clear hv7
 refine Rg.wd trivial (w_buildSlice (bs284_5 _ _ _ _ _ _ _ _ _ _ _ _ _ _ _) rfl) rfl ?_
 rintro _ w6 ⟨b8,rfl,q8,hx6,hv8⟩
 replace hx := hx.ext hx6
 replace hv4 := hv4.ext hx6
 refine .m2 rfl ?_
 refine .t2 (t_indexAddrL Tryz.underlying284 ty38 rfl rfl (by decide)) ?_
 refine .t2 (t_load ty38 rfl (hv8.g 1 rfl)) (.a2 rfl (.done (Wp.ret ?_)))
 exact ⟨[_],⟨rfl,trivial⟩,⟨_,rfl,hv4⟩,hx⟩
theorem ops_2 : Cl Tryz.prog 266 #[.int .i64 2] w (fun u w' => (∃ b,u = .slice (some ⟨b,0,none⟩) 2 2 ∧ Var w' b ([⟨#[61,61]⟩,⟨#[60]⟩].map .string) 9) ∧ Ext w w') := by
 have hx := Ext.refl w
 refine Cl.enter Tryz.func266 rfl Tryz.ntmps266 rfl rfl (.sr (.a2 rfl (.done (.sr (Rg.wd trivial (w_buildSlice (bs38_1 _) rfl) rfl ?_)))))
 rintro _ w1 ⟨b3,rfl,q3,hx1,hv3⟩
 replace hx := hx.ext hx1
 clear hv3
 refine Rg.wd trivial (w_buildSlice (bs38_1 _) rfl) rfl ?_
 rintro _ w2 ⟨b4,rfl,q4,hx2,hv4⟩
 replace hx := hx.ext hx2
 clear hv4
 refine Rg.wd trivial (w_buildSlice (bs38_2 _ _) rfl) rfl ?_
 rintro _ w3 ⟨b5,rfl,q5,hx3,hv5⟩
 replace hx := hx.ext hx3
 refine Rg.wd trivial (w_buildSlice (bs38_2 _ _) rfl) rfl ?_
 rintro _ w4 ⟨b6,rfl,q6,hx4,hv6⟩
 replace hx := hx.ext hx4
 replace hv5 := hv5.ext hx4
 clear hv6
 refine Rg.wd trivial (w_buildSlice (bs38_2 _ _) rfl) rfl ?_
 rintro _ w5 ⟨b7,rfl,q7,hx5,hv7⟩
 replace hx := hx.ext hx5
 replace hv5 := hv5.ext hx5
 clear hv7
 refine Rg.wd trivial (w_buildSlice (bs284_5 _ _ _ _ _ _ _ _ _ _ _ _ _ _ _) rfl) rfl ?_
 rintro _ w6 ⟨b8,rfl,q8,hx6,hv8⟩
 replace hx := hx.ext hx6
 replace hv5 := hv5.ext hx6
 refine .m2 rfl ?_
 refine .t2 (t_indexAddrL Tryz.underlying284 ty38 rfl rfl (by decide)) ?_
 refine .t2 (t_load ty38 rfl (hv8.g 2 rfl)) (.a2 rfl (.done (Wp.ret ?_)))
 exact ⟨[_],⟨rfl,trivial⟩,⟨_,rfl,hv5⟩,hx⟩
theorem ops_3 : Cl Tryz.prog 266 #[.int .i64 3] w (fun u w' => (∃ b,u = .slice (some ⟨b,0,none⟩) 2 2 ∧ Var w' b ([⟨#[43]⟩,⟨#[45]⟩].map .string) 9) ∧ Ext w w') := by
 have hx := Ext.refl w
 refine Cl.enter Tryz.func266 rfl Tryz.ntmps266 rfl rfl (.sr (.a2 rfl (.done (.sr (Rg.wd trivial (w_buildSlice (bs38_1 _) rfl) rfl ?_)))))
 rintro _ w1 ⟨b3,rfl,q3,hx1,hv3⟩
 replace hx := hx.ext hx1
 clear hv3
 refine Rg.wd trivial (w_buildSlice (bs38_1 _) rfl) rfl ?_
 rintro _ w2 ⟨b4,rfl,q4,hx2,hv4⟩
 replace hx := hx.ext hx2
 clear hv4
 refine Rg.wd trivial (w_buildSlice (bs38_2 _ _) rfl) rfl ?_
 rintro _ w3 ⟨b5,rfl,q5,hx3,hv5⟩
 replace hx := hx.ext hx3
 clear hv5
 refine Rg.wd trivial (w_buildSlice (bs38_2 _ _) rfl) rfl ?_
 rintro _ w4 ⟨b6,rfl,q6,hx4,hv6⟩
 replace hx := hx.ext hx4
 refine Rg.wd trivial (w_buildSlice (bs38_2 _ _) rfl) rfl ?_
 rintro _ w5 ⟨b7,rfl,q7,hx5,hv7⟩
 replace hx := hx.ext hx5
 replace hv6 := hv6.ext hx5
 clear hv7
 refine Rg.wd trivial (w_buildSlice (bs284_5 _ _ _ _ _ _ _ _ _ _ _ _ _ _ _) rfl) rfl ?_
 rintro _ w6 ⟨b8,rfl,q8,hx6,hv8⟩
 replace hx := hx.ext hx6
 replace hv6 := hv6.ext hx6
 refine .m2 rfl ?_
 refine .t2 (t_indexAddrL Tryz.underlying284 ty38 rfl rfl (by decide)) ?_
 refine .t2 (t_load ty38 rfl (hv8.g 3 rfl)) (.a2 rfl (.done (Wp.ret ?_)))
 exact ⟨[_],⟨rfl,trivial⟩,⟨_,rfl,hv6⟩,hx⟩
theorem ops_4 : Cl Tryz.prog 266 #[.int .i64 4] w (fun u w' => (∃ b,u = .slice (some ⟨b,0,none⟩) 2 2 ∧ Var w' b ([⟨#[42]⟩,⟨#[47]⟩].map .string) 9) ∧ Ext w w') := by
 have hx := Ext.refl w
 refine Cl.enter Tryz.func266 rfl Tryz.ntmps266 rfl rfl (.sr (.a2 rfl (.done (.sr (Rg.wd trivial (w_buildSlice (bs38_1 _) rfl) rfl ?_)))))
 rintro _ w1 ⟨b3,rfl,q3,hx1,hv3⟩
 replace hx := hx.ext hx1
 clear hv3
 refine Rg.wd trivial (w_buildSlice (bs38_1 _) rfl) rfl ?_
 rintro _ w2 ⟨b4,rfl,q4,hx2,hv4⟩
 replace hx := hx.ext hx2
 clear hv4
 refine Rg.wd trivial (w_buildSlice (bs38_2 _ _) rfl) rfl ?_
 rintro _ w3 ⟨b5,rfl,q5,hx3,hv5⟩
 replace hx := hx.ext hx3
 clear hv5
 refine Rg.wd trivial (w_buildSlice (bs38_2 _ _) rfl) rfl ?_
 rintro _ w4 ⟨b6,rfl,q6,hx4,hv6⟩
 replace hx := hx.ext hx4
 clear hv6
 refine Rg.wd trivial (w_buildSlice (bs38_2 _ _) rfl) rfl ?_
 rintro _ w5 ⟨b7,rfl,q7,hx5,hv7⟩
 replace hx := hx.ext hx5
 refine Rg.wd trivial (w_buildSlice (bs284_5 _ _ _ _ _ _ _ _ _ _ _ _ _ _ _) rfl) rfl ?_
 rintro _ w6 ⟨b8,rfl,q8,hx6,hv8⟩
 replace hx := hx.ext hx6
 replace hv7 := hv7.ext hx6
 refine .m2 rfl ?_
 refine .t2 (t_indexAddrL Tryz.underlying284 ty38 rfl rfl (by decide)) ?_
 refine .t2 (t_load ty38 rfl (hv8.g 4 rfl)) (.a2 rfl (.done (Wp.ret ?_)))
 exact ⟨[_],⟨rfl,trivial⟩,⟨_,rfl,hv7⟩,hx⟩
theorem clo_164_0 (hC : Cx w0 tv toks) (hD : ∀ m,m < n → DN w0 tv toks m) {b0 : Nat} (hv_b0 : Var w b0 [.pointer (some ⟨bP,0,none⟩)] 100) (hF_b0 : F b0) {b1 : Nat} (hv_b1 : Var w b1 [.int .i64 0] 3) (hF_b1 : F b1) : Clo w0 tv toks n F bP 268 [] [.pointer (some ⟨b0,0,none⟩),.pointer (some ⟨b1,0,none⟩)] w (.seq .bump (.call (.binary 1))) := by
 refine ⟨Tryz.call268,fun w1 hw1 below k s r hp hr hb => ?_⟩
 replace hv_b0 := var_bw hv_b0 hw1 hF_b0
 replace hv_b1 := var_bw hv_b1 hw1 hF_b1
 show Cl Tryz.prog 268 #[.pointer (some ⟨b0,0,none⟩),.pointer (some ⟨b1,0,none⟩)] w1 _
 have hbw := Bw.refl F w1
 have hsub : ∀ z,F z → F z := fun z h => h
 have hbase := hp.base
 refine Cl.enter Tryz.func268 rfl Tryz.ntmps268 rfl rfl (.sr (.t2 (t_load ty100 rfl (hv_b0.g 0 rfl)) ?_))
 obtain ⟨s1,h1a,h1b⟩ := run_seq' hr
 refine Rg.wd trivial (w_call Tryz.call101 rfl (D_bump hC hp h1a (adds_le h1b hb))) rfl ?_
 rintro _ w1 ⟨hp1,hb1⟩
 replace hv_b0 := var_bw hv_b0 hb1 hF_b0
 replace hv_b1 := var_bw hv_b1 hb1 hF_b1
 replace hbw := hbw.trans (hb1.sub hsub)
 clear hp
 have hp := hp1
 clear hp1
 refine .done (Wp.region (.t2 (t_load ty100 rfl (hv_b0.g 0 rfl)) (.t2 (t_load ty3 rfl (hv_b1.g 0 rfl)) ?_)))
 refine .t2 (t_addI rfl rfl (by omega)) ?_
 refine Rg.wd trivial (w_call Tryz.call222 rfl (D_call hD hp h1b hb)) rfl ?_
 rintro _ w2 ⟨hst,hp1,hb2⟩
 replace hv_b0 := var_bw hv_b0 hb2 hF_b0
 replace hv_b1 := var_bw hv_b1 hb2 hF_b1
 replace hbw := hbw.trans (hb2.sub hsub)
 clear hp
 have hp := hp1
 clear hp1
 refine .done ?_
 exact ⟨[],trivial,hp.sub hsub hbase,hbw⟩
theorem N_binary_0 (hC : Cx w0 tv toks) (hD : ∀ m,m < n → DN w0 tv toks m) (hp : Ps w0 tv toks F w bP below k s) (hr : run body n (body (.binary 0)) s = some r) (hb : r.adds ≤ big) :
  Cl Tryz.prog 222 #[.pointer (some ⟨bP,0,none⟩),.int .i64 0] w (fun u w' => ((Nm.binary 0) = Nm.statement → u = .bool r.flag) ∧ Ps w0 tv toks F w' bP below k r ∧ Bw F w w') := by
 have hbw := Bw.refl F w
 have hsub : ∀ z,F z → F z := fun z h => h
 have hbase := hp.base
 have hr : run body n (.seq (.call (.binary 1)) (.loop (at1 [⟨#[124,124]⟩]) (.wrap 39 (.seq .bump (.call (.binary 1)))))) s = some r := hr
 refine Cl.enter Tryz.func222 rfl Tryz.ntmps222 rfl rfl (.sr (Rg.wd trivial (w_boxed rfl rfl) rfl ?_))
 rintro _ w1 ⟨bx143_2,rfl,qbx143_2,hx1,hv_bx143_2⟩
 replace hbw := bS hbw hp.und hsub hx1
 obtain ⟨F_bx143_2,hp1,hF_bx143_2,hs1⟩ := hp.box hx1 qbx143_2 hv_bx143_2.lt
 clear hp
 have hp := hp1
 clear hp1
 replace hsub := fun z hz => hs1 z (hsub z hz)
 refine Rg.wd trivial (w_boxed rfl rfl) rfl ?_
 rintro _ w2 ⟨bx143_3,rfl,qbx143_3,hx2,hv_bx143_3⟩
 replace hbw := bS hbw hp.und hsub hx2
 obtain ⟨F_bx143_3,hp1,hF_bx143_3,hs2⟩ := hp.box hx2 qbx143_3 hv_bx143_3.lt
 clear hp
 have hp := hp1
 clear hp1
 replace hsub := fun z hz => hs2 z (hsub z hz)
 replace hv_bx143_2 := hv_bx143_2.ext hx2
 replace hF_bx143_2 := hs2 _ hF_bx143_2
 refine .done (.seq (.sr (.t2 (t_load ty3 rfl (hv_bx143_3.g 0 rfl)) ?_)))
 refine .t2 (t_eqlF rfl rfl (by decide)) ?_
 refine .done (.condF rfl (Wp.skip (.sr (.t2 (t_load ty100 rfl (hv_bx143_2.g 0 rfl)) (.t2 (t_load ty3 rfl (hv_bx143_3.g 0 rfl)) ?_)))))
 refine .t2 (t_addI rfl rfl (by omega)) ?_
 obtain ⟨s1,h1a,h1b⟩ := run_seq' hr
 refine Rg.wd trivial (w_call Tryz.call222 rfl (D_call hD hp h1a (adds_le h1b hb))) rfl ?_
 rintro _ w3 ⟨hst,hp1,hb3⟩
 replace hv_bx143_2 := var_bw hv_bx143_2 hb3 hF_bx143_2
 replace hv_bx143_3 := var_bw hv_bx143_3 hb3 hF_bx143_3
 replace hbw := hbw.trans (hb3.sub hsub)
 clear hp
 have hp := hp1
 clear hp1
 refine .done (Wp.block ?_)
 refine Wp.loop (ι := S × Nat) (fun _ => [(2,.pointer (some ⟨bx143_2,0,none⟩)),(3,.pointer (some ⟨bx143_3,0,none⟩)),(0,.pointer (some ⟨bP,0,none⟩)),(1,.int .i64 0)])
  (fun i w' => Ps w0 tv toks F_bx143_3 w' bP below k i.1 ∧ Bw F_bx143_3 w3 w' ∧ run body i.2 (.loop (at1 [⟨#[124,124]⟩]) (.wrap 39 (.seq .bump (.call (.binary 1))))) i.1 = some r ∧ i.2 ≤ n) (fun i => i.2) (s1,n) (by repeat (first | exact .nil | refine .cons rfl ?_)) ⟨hp,Bw.refl _ _,h1b,Nat.le_refl _⟩ ?_
 clear hp
 rintro ⟨s',m⟩ wl ⟨hp,hbl,hrun,hmn⟩
 simp only at hp hrun hmn
 replace hbw := hbw.trans (hbl.sub hsub)
 replace hv_bx143_2 := var_bw hv_bx143_2 hbl hF_bx143_2
 replace hv_bx143_3 := var_bw hv_bx143_3 hbl hF_bx143_3
 refine .seq ?_
 cases haq1 : (isAt [⟨#[124,124]⟩] (sig1 s'.rem)) with
 | true =>
  obtain ⟨m1,s2,rfl,hbody,hrest⟩ := run_loopT hrun haq1
  replace hbody := run_le hmn hbody
  refine Wp.seq (Wp.draw [0,1,2,3] [] mixed (by kernel_rfl) (by kernel_rfl) ?_)
  intro w4 hx4 _
  replace hbl := hbl.trans (Bw.of hx4 hp.und)
  replace hbw := bS hbw hp.und hsub hx4
  replace hp := hp.extw hx4
  replace hv_bx143_2 := hv_bx143_2.ext hx4
  replace hv_bx143_3 := hv_bx143_3.ext hx4
  refine .t2 (t_load ty100 rfl (hv_bx143_2.g 0 rfl)) (.t2 (t_load ty3 rfl (hv_bx143_3.g 0 rfl)) (Rg.wdB trivial rfl (w_call Tryz.call266 rfl ops_0) rfl (fun _ _ h => h.2) ?_))
  rintro _ w5 ⟨⟨bt14,rfl,hvt14⟩,hx5⟩
  replace hbl := hbl.trans (Bw.of hx5 hp.und)
  replace hbw := bS hbw hp.und hsub hx5
  replace hp := hp.extw hx5
  replace hv_bx143_2 := hv_bx143_2.ext hx5
  replace hv_bx143_3 := hv_bx143_3.ext hx5
  refine Rg.wdB trivial rfl (w_call Tryz.call94 rfl (at_ok hC hp (texts := [⟨#[124,124]⟩]) hvt14 (by decide))) rfl (fun _ _ h => h.2) ?_
  rintro _ w6 ⟨rfl,hx6⟩
  replace hbl := hbl.trans (Bw.of hx6 hp.und)
  replace hbw := bS hbw hp.und hsub hx6
  replace hp := hp.extw hx6
  replace hv_bx143_2 := hv_bx143_2.ext hx6
  replace hv_bx143_3 := hv_bx143_3.ext hx6
  try replace hvt14 := hvt14.ext hx6
  rw [show (isAt [⟨#[124,124]⟩] (sig1 s'.rem)) = true from haq1]
  refine .done (.condT rfl (Wp.skip (Wp.block (.sr (.t2 (t_load ty100 rfl (hv_bx143_2.g 0 rfl)) (.t2 (t_makeFuncB (us := []) (vs := [.pointer (some ⟨bx143_2,0,none⟩),.pointer (some ⟨bx143_3,0,none⟩)]) rfl rfl) (Rg.wd trivial (w_call Tryz.call267 rfl (D_wrap hp (clo_164_0 hC hD hv_bx143_2 hF_bx143_2 hv_bx143_3 hF_bx143_3) hbody (adds_le hrest hb))) rfl ?_)))))))
  rintro _ w7 ⟨hp1,hb7⟩
  replace hbl := hbl.trans hb7
  replace hv_bx143_2 := var_bw hv_bx143_2 hb7 hF_bx143_2
  replace hv_bx143_3 := var_bw hv_bx143_3 hb7 hF_bx143_3
  replace hbw := hbw.trans (hb7.sub hsub)
  clear hp
  have hp := hp1
  clear hp1
  refine .done (.sr (.t2 (t_load ty3 rfl (hv_bx143_3.g 0 rfl)) ?_))
  refine .t2 (t_eqlF rfl rfl (by decide)) ?_
  refine .done (.condF rfl (Wp.skip ?_))
  exact ⟨(s2,m1),by repeat (first | exact .nil | refine .cons rfl ?_),⟨hp,hbl,hrest,by simp only; omega⟩,by simp only; omega⟩
 | false =>
  obtain rfl := run_loopF hrun haq1
  refine Wp.seq (Wp.draw [0,1,2,3] [] mixed (by kernel_rfl) (by kernel_rfl) ?_)
  intro w4 hx4 _
  replace hbw := bS hbw hp.und hsub hx4
  replace hp := hp.extw hx4
  replace hv_bx143_2 := hv_bx143_2.ext hx4
  replace hv_bx143_3 := hv_bx143_3.ext hx4
  refine .t2 (t_load ty100 rfl (hv_bx143_2.g 0 rfl)) (.t2 (t_load ty3 rfl (hv_bx143_3.g 0 rfl)) (Rg.wdB trivial rfl (w_call Tryz.call266 rfl ops_0) rfl (fun _ _ h => h.2) ?_))
  rintro _ w5 ⟨⟨bt14,rfl,hvt14⟩,hx5⟩
  replace hbw := bS hbw hp.und hsub hx5
  replace hp := hp.extw hx5
  replace hv_bx143_2 := hv_bx143_2.ext hx5
  replace hv_bx143_3 := hv_bx143_3.ext hx5
  refine Rg.wdB trivial rfl (w_call Tryz.call94 rfl (at_ok hC hp (texts := [⟨#[124,124]⟩]) hvt14 (by decide))) rfl (fun _ _ h => h.2) ?_
  rintro _ w6 ⟨rfl,hx6⟩
  replace hbw := bS hbw hp.und hsub hx6
  replace hp := hp.extw hx6
  replace hv_bx143_2 := hv_bx143_2.ext hx6
  replace hv_bx143_3 := hv_bx143_3.ext hx6
  try replace hvt14 := hvt14.ext hx6
  rw [show (isAt [⟨#[124,124]⟩] (sig1 r.rem)) = false from haq1]
  refine .done (.condF rfl (Wp.exit ?_))
  exact ⟨[],trivial,(fun h => by cases h),hp.sub hsub hbase,hbw⟩
theorem clo_164_1 (hC : Cx w0 tv toks) (hD : ∀ m,m < n → DN w0 tv toks m) {b0 : Nat} (hv_b0 : Var w b0 [.pointer (some ⟨bP,0,none⟩)] 100) (hF_b0 : F b0) {b1 : Nat} (hv_b1 : Var w b1 [.int .i64 1] 3) (hF_b1 : F b1) : Clo w0 tv toks n F bP 268 [] [.pointer (some ⟨b0,0,none⟩),.pointer (some ⟨b1,0,none⟩)] w (.seq .bump (.call (.binary 2))) := by
 refine ⟨Tryz.call268,fun w1 hw1 below k s r hp hr hb => ?_⟩
 replace hv_b0 := var_bw hv_b0 hw1 hF_b0
 replace hv_b1 := var_bw hv_b1 hw1 hF_b1
 show Cl Tryz.prog 268 #[.pointer (some ⟨b0,0,none⟩),.pointer (some ⟨b1,0,none⟩)] w1 _
 have hbw := Bw.refl F w1
 have hsub : ∀ z,F z → F z := fun z h => h
 have hbase := hp.base
 refine Cl.enter Tryz.func268 rfl Tryz.ntmps268 rfl rfl (.sr (.t2 (t_load ty100 rfl (hv_b0.g 0 rfl)) ?_))
 obtain ⟨s1,h1a,h1b⟩ := run_seq' hr
 refine Rg.wd trivial (w_call Tryz.call101 rfl (D_bump hC hp h1a (adds_le h1b hb))) rfl ?_
 rintro _ w1 ⟨hp1,hb1⟩
 replace hv_b0 := var_bw hv_b0 hb1 hF_b0
 replace hv_b1 := var_bw hv_b1 hb1 hF_b1
 replace hbw := hbw.trans (hb1.sub hsub)
 clear hp
 have hp := hp1
 clear hp1
 refine .done (Wp.region (.t2 (t_load ty100 rfl (hv_b0.g 0 rfl)) (.t2 (t_load ty3 rfl (hv_b1.g 0 rfl)) ?_)))
 refine .t2 (t_addI rfl rfl (by omega)) ?_
 refine Rg.wd trivial (w_call Tryz.call222 rfl (D_call hD hp h1b hb)) rfl ?_
 rintro _ w2 ⟨hst,hp1,hb2⟩
 replace hv_b0 := var_bw hv_b0 hb2 hF_b0
 replace hv_b1 := var_bw hv_b1 hb2 hF_b1
 replace hbw := hbw.trans (hb2.sub hsub)
 clear hp
 have hp := hp1
 clear hp1
 refine .done ?_
 exact ⟨[],trivial,hp.sub hsub hbase,hbw⟩
theorem N_binary_1 (hC : Cx w0 tv toks) (hD : ∀ m,m < n → DN w0 tv toks m) (hp : Ps w0 tv toks F w bP below k s) (hr : run body n (body (.binary 1)) s = some r) (hb : r.adds ≤ big) :
  Cl Tryz.prog 222 #[.pointer (some ⟨bP,0,none⟩),.int .i64 1] w (fun u w' => ((Nm.binary 1) = Nm.statement → u = .bool r.flag) ∧ Ps w0 tv toks F w' bP below k r ∧ Bw F w w') := by
 have hbw := Bw.refl F w
 have hsub : ∀ z,F z → F z := fun z h => h
 have hbase := hp.base
 have hr : run body n (.seq (.call (.binary 2)) (.loop (at1 [⟨#[38,38]⟩]) (.wrap 39 (.seq .bump (.call (.binary 2)))))) s = some r := hr
 refine Cl.enter Tryz.func222 rfl Tryz.ntmps222 rfl rfl (.sr (Rg.wd trivial (w_boxed rfl rfl) rfl ?_))
 rintro _ w1 ⟨bx143_2,rfl,qbx143_2,hx1,hv_bx143_2⟩
 replace hbw := bS hbw hp.und hsub hx1
 obtain ⟨F_bx143_2,hp1,hF_bx143_2,hs1⟩ := hp.box hx1 qbx143_2 hv_bx143_2.lt
 clear hp
 have hp := hp1
 clear hp1
 replace hsub := fun z hz => hs1 z (hsub z hz)
 refine Rg.wd trivial (w_boxed rfl rfl) rfl ?_
 rintro _ w2 ⟨bx143_3,rfl,qbx143_3,hx2,hv_bx143_3⟩
 replace hbw := bS hbw hp.und hsub hx2
 obtain ⟨F_bx143_3,hp1,hF_bx143_3,hs2⟩ := hp.box hx2 qbx143_3 hv_bx143_3.lt
 clear hp
 have hp := hp1
 clear hp1
 replace hsub := fun z hz => hs2 z (hsub z hz)
 replace hv_bx143_2 := hv_bx143_2.ext hx2
 replace hF_bx143_2 := hs2 _ hF_bx143_2
 refine .done (.seq (.sr (.t2 (t_load ty3 rfl (hv_bx143_3.g 0 rfl)) ?_)))
 refine .t2 (t_eqlF rfl rfl (by decide)) ?_
 refine .done (.condF rfl (Wp.skip (.sr (.t2 (t_load ty100 rfl (hv_bx143_2.g 0 rfl)) (.t2 (t_load ty3 rfl (hv_bx143_3.g 0 rfl)) ?_)))))
 refine .t2 (t_addI rfl rfl (by omega)) ?_
 obtain ⟨s1,h1a,h1b⟩ := run_seq' hr
 refine Rg.wd trivial (w_call Tryz.call222 rfl (D_call hD hp h1a (adds_le h1b hb))) rfl ?_
 rintro _ w3 ⟨hst,hp1,hb3⟩
 replace hv_bx143_2 := var_bw hv_bx143_2 hb3 hF_bx143_2
 replace hv_bx143_3 := var_bw hv_bx143_3 hb3 hF_bx143_3
 replace hbw := hbw.trans (hb3.sub hsub)
 clear hp
 have hp := hp1
 clear hp1
 refine .done (Wp.block ?_)
 refine Wp.loop (ι := S × Nat) (fun _ => [(2,.pointer (some ⟨bx143_2,0,none⟩)),(3,.pointer (some ⟨bx143_3,0,none⟩)),(0,.pointer (some ⟨bP,0,none⟩)),(1,.int .i64 1)])
  (fun i w' => Ps w0 tv toks F_bx143_3 w' bP below k i.1 ∧ Bw F_bx143_3 w3 w' ∧ run body i.2 (.loop (at1 [⟨#[38,38]⟩]) (.wrap 39 (.seq .bump (.call (.binary 2))))) i.1 = some r ∧ i.2 ≤ n) (fun i => i.2) (s1,n) (by repeat (first | exact .nil | refine .cons rfl ?_)) ⟨hp,Bw.refl _ _,h1b,Nat.le_refl _⟩ ?_
 clear hp
 rintro ⟨s',m⟩ wl ⟨hp,hbl,hrun,hmn⟩
 simp only at hp hrun hmn
 replace hbw := hbw.trans (hbl.sub hsub)
 replace hv_bx143_2 := var_bw hv_bx143_2 hbl hF_bx143_2
 replace hv_bx143_3 := var_bw hv_bx143_3 hbl hF_bx143_3
 refine .seq ?_
 cases haq1 : (isAt [⟨#[38,38]⟩] (sig1 s'.rem)) with
 | true =>
  obtain ⟨m1,s2,rfl,hbody,hrest⟩ := run_loopT hrun haq1
  replace hbody := run_le hmn hbody
  refine Wp.seq (Wp.draw [0,1,2,3] [] mixed (by kernel_rfl) (by kernel_rfl) ?_)
  intro w4 hx4 _
  replace hbl := hbl.trans (Bw.of hx4 hp.und)
  replace hbw := bS hbw hp.und hsub hx4
  replace hp := hp.extw hx4
  replace hv_bx143_2 := hv_bx143_2.ext hx4
  replace hv_bx143_3 := hv_bx143_3.ext hx4
  refine .t2 (t_load ty100 rfl (hv_bx143_2.g 0 rfl)) (.t2 (t_load ty3 rfl (hv_bx143_3.g 0 rfl)) (Rg.wdB trivial rfl (w_call Tryz.call266 rfl ops_1) rfl (fun _ _ h => h.2) ?_))
  rintro _ w5 ⟨⟨bt14,rfl,hvt14⟩,hx5⟩
  replace hbl := hbl.trans (Bw.of hx5 hp.und)
  replace hbw := bS hbw hp.und hsub hx5
  replace hp := hp.extw hx5
  replace hv_bx143_2 := hv_bx143_2.ext hx5
  replace hv_bx143_3 := hv_bx143_3.ext hx5
  refine Rg.wdB trivial rfl (w_call Tryz.call94 rfl (at_ok hC hp (texts := [⟨#[38,38]⟩]) hvt14 (by decide))) rfl (fun _ _ h => h.2) ?_
  rintro _ w6 ⟨rfl,hx6⟩
  replace hbl := hbl.trans (Bw.of hx6 hp.und)
  replace hbw := bS hbw hp.und hsub hx6
  replace hp := hp.extw hx6
  replace hv_bx143_2 := hv_bx143_2.ext hx6
  replace hv_bx143_3 := hv_bx143_3.ext hx6
  try replace hvt14 := hvt14.ext hx6
  rw [show (isAt [⟨#[38,38]⟩] (sig1 s'.rem)) = true from haq1]
  refine .done (.condT rfl (Wp.skip (Wp.block (.sr (.t2 (t_load ty100 rfl (hv_bx143_2.g 0 rfl)) (.t2 (t_makeFuncB (us := []) (vs := [.pointer (some ⟨bx143_2,0,none⟩),.pointer (some ⟨bx143_3,0,none⟩)]) rfl rfl) (Rg.wd trivial (w_call Tryz.call267 rfl (D_wrap hp (clo_164_1 hC hD hv_bx143_2 hF_bx143_2 hv_bx143_3 hF_bx143_3) hbody (adds_le hrest hb))) rfl ?_)))))))
  rintro _ w7 ⟨hp1,hb7⟩
  replace hbl := hbl.trans hb7
  replace hv_bx143_2 := var_bw hv_bx143_2 hb7 hF_bx143_2
  replace hv_bx143_3 := var_bw hv_bx143_3 hb7 hF_bx143_3
  replace hbw := hbw.trans (hb7.sub hsub)
  clear hp
  have hp := hp1
  clear hp1
  refine .done (.sr (.t2 (t_load ty3 rfl (hv_bx143_3.g 0 rfl)) ?_))
  refine .t2 (t_eqlF rfl rfl (by decide)) ?_
  refine .done (.condF rfl (Wp.skip ?_))
  exact ⟨(s2,m1),by repeat (first | exact .nil | refine .cons rfl ?_),⟨hp,hbl,hrest,by simp only; omega⟩,by simp only; omega⟩
 | false =>
  obtain rfl := run_loopF hrun haq1
  refine Wp.seq (Wp.draw [0,1,2,3] [] mixed (by kernel_rfl) (by kernel_rfl) ?_)
  intro w4 hx4 _
  replace hbw := bS hbw hp.und hsub hx4
  replace hp := hp.extw hx4
  replace hv_bx143_2 := hv_bx143_2.ext hx4
  replace hv_bx143_3 := hv_bx143_3.ext hx4
  refine .t2 (t_load ty100 rfl (hv_bx143_2.g 0 rfl)) (.t2 (t_load ty3 rfl (hv_bx143_3.g 0 rfl)) (Rg.wdB trivial rfl (w_call Tryz.call266 rfl ops_1) rfl (fun _ _ h => h.2) ?_))
  rintro _ w5 ⟨⟨bt14,rfl,hvt14⟩,hx5⟩
  replace hbw := bS hbw hp.und hsub hx5
  replace hp := hp.extw hx5
  replace hv_bx143_2 := hv_bx143_2.ext hx5
  replace hv_bx143_3 := hv_bx143_3.ext hx5
  refine Rg.wdB trivial rfl (w_call Tryz.call94 rfl (at_ok hC hp (texts := [⟨#[38,38]⟩]) hvt14 (by decide))) rfl (fun _ _ h => h.2) ?_
  rintro _ w6 ⟨rfl,hx6⟩
  replace hbw := bS hbw hp.und hsub hx6
  replace hp := hp.extw hx6
  replace hv_bx143_2 := hv_bx143_2.ext hx6
  replace hv_bx143_3 := hv_bx143_3.ext hx6
  try replace hvt14 := hvt14.ext hx6
  rw [show (isAt [⟨#[38,38]⟩] (sig1 r.rem)) = false from haq1]
  refine .done (.condF rfl (Wp.exit ?_))
  exact ⟨[],trivial,(fun h => by cases h),hp.sub hsub hbase,hbw⟩
theorem clo_164_2 (hC : Cx w0 tv toks) (hD : ∀ m,m < n → DN w0 tv toks m) {b0 : Nat} (hv_b0 : Var w b0 [.pointer (some ⟨bP,0,none⟩)] 100) (hF_b0 : F b0) {b1 : Nat} (hv_b1 : Var w b1 [.int .i64 2] 3) (hF_b1 : F b1) : Clo w0 tv toks n F bP 268 [] [.pointer (some ⟨b0,0,none⟩),.pointer (some ⟨b1,0,none⟩)] w (.seq .bump (.call (.binary 3))) := by
 refine ⟨Tryz.call268,fun w1 hw1 below k s r hp hr hb => ?_⟩
 replace hv_b0 := var_bw hv_b0 hw1 hF_b0
 replace hv_b1 := var_bw hv_b1 hw1 hF_b1
 show Cl Tryz.prog 268 #[.pointer (some ⟨b0,0,none⟩),.pointer (some ⟨b1,0,none⟩)] w1 _
 have hbw := Bw.refl F w1
 have hsub : ∀ z,F z → F z := fun z h => h
 have hbase := hp.base
 refine Cl.enter Tryz.func268 rfl Tryz.ntmps268 rfl rfl (.sr (.t2 (t_load ty100 rfl (hv_b0.g 0 rfl)) ?_))
 obtain ⟨s1,h1a,h1b⟩ := run_seq' hr
 refine Rg.wd trivial (w_call Tryz.call101 rfl (D_bump hC hp h1a (adds_le h1b hb))) rfl ?_
 rintro _ w1 ⟨hp1,hb1⟩
 replace hv_b0 := var_bw hv_b0 hb1 hF_b0
 replace hv_b1 := var_bw hv_b1 hb1 hF_b1
 replace hbw := hbw.trans (hb1.sub hsub)
 clear hp
 have hp := hp1
 clear hp1
 refine .done (Wp.region (.t2 (t_load ty100 rfl (hv_b0.g 0 rfl)) (.t2 (t_load ty3 rfl (hv_b1.g 0 rfl)) ?_)))
 refine .t2 (t_addI rfl rfl (by omega)) ?_
 refine Rg.wd trivial (w_call Tryz.call222 rfl (D_call hD hp h1b hb)) rfl ?_
 rintro _ w2 ⟨hst,hp1,hb2⟩
 replace hv_b0 := var_bw hv_b0 hb2 hF_b0
 replace hv_b1 := var_bw hv_b1 hb2 hF_b1
 replace hbw := hbw.trans (hb2.sub hsub)
 clear hp
 have hp := hp1
 clear hp1
 refine .done ?_
 exact ⟨[],trivial,hp.sub hsub hbase,hbw⟩
theorem N_binary_2 (hC : Cx w0 tv toks) (hD : ∀ m,m < n → DN w0 tv toks m) (hp : Ps w0 tv toks F w bP below k s) (hr : run body n (body (.binary 2)) s = some r) (hb : r.adds ≤ big) :
  Cl Tryz.prog 222 #[.pointer (some ⟨bP,0,none⟩),.int .i64 2] w (fun u w' => ((Nm.binary 2) = Nm.statement → u = .bool r.flag) ∧ Ps w0 tv toks F w' bP below k r ∧ Bw F w w') := by
 have hbw := Bw.refl F w
 have hsub : ∀ z,F z → F z := fun z h => h
 have hbase := hp.base
 have hr : run body n (.seq (.call (.binary 3)) (.cond (at1 [⟨#[61,61]⟩,⟨#[60]⟩]) (.wrap 39 (.seq .bump (.call (.binary 3)))) .skip)) s = some r := hr
 refine Cl.enter Tryz.func222 rfl Tryz.ntmps222 rfl rfl (.sr (Rg.wd trivial (w_boxed rfl rfl) rfl ?_))
 rintro _ w1 ⟨bx143_2,rfl,qbx143_2,hx1,hv_bx143_2⟩
 replace hbw := bS hbw hp.und hsub hx1
 obtain ⟨F_bx143_2,hp1,hF_bx143_2,hs1⟩ := hp.box hx1 qbx143_2 hv_bx143_2.lt
 clear hp
 have hp := hp1
 clear hp1
 replace hsub := fun z hz => hs1 z (hsub z hz)
 refine Rg.wd trivial (w_boxed rfl rfl) rfl ?_
 rintro _ w2 ⟨bx143_3,rfl,qbx143_3,hx2,hv_bx143_3⟩
 replace hbw := bS hbw hp.und hsub hx2
 obtain ⟨F_bx143_3,hp1,hF_bx143_3,hs2⟩ := hp.box hx2 qbx143_3 hv_bx143_3.lt
 clear hp
 have hp := hp1
 clear hp1
 replace hsub := fun z hz => hs2 z (hsub z hz)
 replace hv_bx143_2 := hv_bx143_2.ext hx2
 replace hF_bx143_2 := hs2 _ hF_bx143_2
 refine .done (.seq (.sr (.t2 (t_load ty3 rfl (hv_bx143_3.g 0 rfl)) ?_)))
 refine .t2 (t_eqlF rfl rfl (by decide)) ?_
 refine .done (.condF rfl (Wp.skip (.sr (.t2 (t_load ty100 rfl (hv_bx143_2.g 0 rfl)) (.t2 (t_load ty3 rfl (hv_bx143_3.g 0 rfl)) ?_)))))
 refine .t2 (t_addI rfl rfl (by omega)) ?_
 obtain ⟨s1,h1a,h1b⟩ := run_seq' hr
 refine Rg.wd trivial (w_call Tryz.call222 rfl (D_call hD hp h1a (adds_le h1b hb))) rfl ?_
 rintro _ w3 ⟨hst,hp1,hb3⟩
 replace hv_bx143_2 := var_bw hv_bx143_2 hb3 hF_bx143_2
 replace hv_bx143_3 := var_bw hv_bx143_3 hb3 hF_bx143_3
 replace hbw := hbw.trans (hb3.sub hsub)
 clear hp
 have hp := hp1
 clear hp1
 refine .done (Wp.block ?_)
 refine Wp.loop (ι := Unit) (fun _ => [(2,.pointer (some ⟨bx143_2,0,none⟩)),(3,.pointer (some ⟨bx143_3,0,none⟩))]) (fun _ w' => Ps w0 tv toks F_bx143_3 w' bP below k s1 ∧ Bw F_bx143_3 w3 w') (fun _ => 0) () (by repeat (first | exact .nil | refine .cons rfl ?_)) ⟨hp,Bw.refl _ _⟩ ?_
 clear hp
 rintro _ wl ⟨hp,hbl⟩
 replace hbw := hbw.trans (hbl.sub hsub)
 replace hv_bx143_2 := var_bw hv_bx143_2 hbl hF_bx143_2
 replace hv_bx143_3 := var_bw hv_bx143_3 hbl hF_bx143_3
 refine .seq ?_
 cases haq1 : (isAt [⟨#[61,61]⟩,⟨#[60]⟩] (sig1 s1.rem)) with
 | true =>
  have hq2 := run_condT h1b haq1
  refine Wp.seq (Wp.draw [0,1,2,3] [] mixed (by kernel_rfl) (by kernel_rfl) ?_)
  intro w4 hx4 _
  replace hbl := hbl.trans (Bw.of hx4 hp.und)
  replace hbw := bS hbw hp.und hsub hx4
  replace hp := hp.extw hx4
  replace hv_bx143_2 := hv_bx143_2.ext hx4
  replace hv_bx143_3 := hv_bx143_3.ext hx4
  refine .t2 (t_load ty100 rfl (hv_bx143_2.g 0 rfl)) (.t2 (t_load ty3 rfl (hv_bx143_3.g 0 rfl)) (Rg.wdB trivial rfl (w_call Tryz.call266 rfl ops_2) rfl (fun _ _ h => h.2) ?_))
  rintro _ w5 ⟨⟨bt14,rfl,hvt14⟩,hx5⟩
  replace hbl := hbl.trans (Bw.of hx5 hp.und)
  replace hbw := bS hbw hp.und hsub hx5
  replace hp := hp.extw hx5
  replace hv_bx143_2 := hv_bx143_2.ext hx5
  replace hv_bx143_3 := hv_bx143_3.ext hx5
  refine Rg.wdB trivial rfl (w_call Tryz.call94 rfl (at_ok hC hp (texts := [⟨#[61,61]⟩,⟨#[60]⟩]) hvt14 (by decide))) rfl (fun _ _ h => h.2) ?_
  rintro _ w6 ⟨rfl,hx6⟩
  replace hbl := hbl.trans (Bw.of hx6 hp.und)
  replace hbw := bS hbw hp.und hsub hx6
  replace hp := hp.extw hx6
  replace hv_bx143_2 := hv_bx143_2.ext hx6
  replace hv_bx143_3 := hv_bx143_3.ext hx6
  try replace hvt14 := hvt14.ext hx6
  rw [show (isAt [⟨#[61,61]⟩,⟨#[60]⟩] (sig1 s1.rem)) = true from haq1]
  refine .done (.condT rfl (Wp.skip (Wp.block (.sr (.t2 (t_load ty100 rfl (hv_bx143_2.g 0 rfl)) (.t2 (t_makeFuncB (us := []) (vs := [.pointer (some ⟨bx143_2,0,none⟩),.pointer (some ⟨bx143_3,0,none⟩)]) rfl rfl) (Rg.wd trivial (w_call Tryz.call267 rfl (D_wrap hp (clo_164_2 hC hD hv_bx143_2 hF_bx143_2 hv_bx143_3 hF_bx143_3) hq2 hb)) rfl ?_)))))))
  rintro _ w7 ⟨hp1,hb7⟩
  replace hbl := hbl.trans hb7
  replace hv_bx143_2 := var_bw hv_bx143_2 hb7 hF_bx143_2
  replace hv_bx143_3 := var_bw hv_bx143_3 hb7 hF_bx143_3
  replace hbw := hbw.trans (hb7.sub hsub)
  clear hp
  have hp := hp1
  clear hp1
  refine .done (.sr (.t2 (t_load ty3 rfl (hv_bx143_3.g 0 rfl)) ?_))
  refine .t2 (t_eqlT rfl rfl (by decide)) ?_
  refine .done (.condT rfl (Wp.ret ?_))
  exact ⟨[],trivial,(fun h => by cases h),hp.sub hsub hbase,hbw⟩
 | false =>
  have hq2 := run_condF h1b haq1
  obtain rfl := run_skip' hq2
  refine Wp.seq (Wp.draw [0,1,2,3] [] mixed (by kernel_rfl) (by kernel_rfl) ?_)
  intro w4 hx4 _
  replace hbl := hbl.trans (Bw.of hx4 hp.und)
  replace hbw := bS hbw hp.und hsub hx4
  replace hp := hp.extw hx4
  replace hv_bx143_2 := hv_bx143_2.ext hx4
  replace hv_bx143_3 := hv_bx143_3.ext hx4
  refine .t2 (t_load ty100 rfl (hv_bx143_2.g 0 rfl)) (.t2 (t_load ty3 rfl (hv_bx143_3.g 0 rfl)) (Rg.wdB trivial rfl (w_call Tryz.call266 rfl ops_2) rfl (fun _ _ h => h.2) ?_))
  rintro _ w5 ⟨⟨bt14,rfl,hvt14⟩,hx5⟩
  replace hbl := hbl.trans (Bw.of hx5 hp.und)
  replace hbw := bS hbw hp.und hsub hx5
  replace hp := hp.extw hx5
  replace hv_bx143_2 := hv_bx143_2.ext hx5
  replace hv_bx143_3 := hv_bx143_3.ext hx5
  refine Rg.wdB trivial rfl (w_call Tryz.call94 rfl (at_ok hC hp (texts := [⟨#[61,61]⟩,⟨#[60]⟩]) hvt14 (by decide))) rfl (fun _ _ h => h.2) ?_
  rintro _ w6 ⟨rfl,hx6⟩
  replace hbl := hbl.trans (Bw.of hx6 hp.und)
  replace hbw := bS hbw hp.und hsub hx6
  replace hp := hp.extw hx6
  replace hv_bx143_2 := hv_bx143_2.ext hx6
  replace hv_bx143_3 := hv_bx143_3.ext hx6
  try replace hvt14 := hvt14.ext hx6
  rw [show (isAt [⟨#[61,61]⟩,⟨#[60]⟩] (sig1 r.rem)) = false from haq1]
  refine .done (.condF rfl (Wp.exit ?_))
  exact ⟨[],trivial,(fun h => by cases h),hp.sub hsub hbase,hbw⟩
theorem clo_164_3 (hC : Cx w0 tv toks) (hD : ∀ m,m < n → DN w0 tv toks m) {b0 : Nat} (hv_b0 : Var w b0 [.pointer (some ⟨bP,0,none⟩)] 100) (hF_b0 : F b0) {b1 : Nat} (hv_b1 : Var w b1 [.int .i64 3] 3) (hF_b1 : F b1) : Clo w0 tv toks n F bP 268 [] [.pointer (some ⟨b0,0,none⟩),.pointer (some ⟨b1,0,none⟩)] w (.seq .bump (.call (.binary 4))) := by
 refine ⟨Tryz.call268,fun w1 hw1 below k s r hp hr hb => ?_⟩
 replace hv_b0 := var_bw hv_b0 hw1 hF_b0
 replace hv_b1 := var_bw hv_b1 hw1 hF_b1
 show Cl Tryz.prog 268 #[.pointer (some ⟨b0,0,none⟩),.pointer (some ⟨b1,0,none⟩)] w1 _
 have hbw := Bw.refl F w1
 have hsub : ∀ z,F z → F z := fun z h => h
 have hbase := hp.base
 refine Cl.enter Tryz.func268 rfl Tryz.ntmps268 rfl rfl (.sr (.t2 (t_load ty100 rfl (hv_b0.g 0 rfl)) ?_))
 obtain ⟨s1,h1a,h1b⟩ := run_seq' hr
 refine Rg.wd trivial (w_call Tryz.call101 rfl (D_bump hC hp h1a (adds_le h1b hb))) rfl ?_
 rintro _ w1 ⟨hp1,hb1⟩
 replace hv_b0 := var_bw hv_b0 hb1 hF_b0
 replace hv_b1 := var_bw hv_b1 hb1 hF_b1
 replace hbw := hbw.trans (hb1.sub hsub)
 clear hp
 have hp := hp1
 clear hp1
 refine .done (Wp.region (.t2 (t_load ty100 rfl (hv_b0.g 0 rfl)) (.t2 (t_load ty3 rfl (hv_b1.g 0 rfl)) ?_)))
 refine .t2 (t_addI rfl rfl (by omega)) ?_
 refine Rg.wd trivial (w_call Tryz.call222 rfl (D_call hD hp h1b hb)) rfl ?_
 rintro _ w2 ⟨hst,hp1,hb2⟩
 replace hv_b0 := var_bw hv_b0 hb2 hF_b0
 replace hv_b1 := var_bw hv_b1 hb2 hF_b1
 replace hbw := hbw.trans (hb2.sub hsub)
 clear hp
 have hp := hp1
 clear hp1
 refine .done ?_
 exact ⟨[],trivial,hp.sub hsub hbase,hbw⟩
theorem N_binary_3 (hC : Cx w0 tv toks) (hD : ∀ m,m < n → DN w0 tv toks m) (hp : Ps w0 tv toks F w bP below k s) (hr : run body n (body (.binary 3)) s = some r) (hb : r.adds ≤ big) :
  Cl Tryz.prog 222 #[.pointer (some ⟨bP,0,none⟩),.int .i64 3] w (fun u w' => ((Nm.binary 3) = Nm.statement → u = .bool r.flag) ∧ Ps w0 tv toks F w' bP below k r ∧ Bw F w w') := by
 have hbw := Bw.refl F w
 have hsub : ∀ z,F z → F z := fun z h => h
 have hbase := hp.base
 have hr : run body n (.seq (.call (.binary 4)) (.loop (at1 [⟨#[43]⟩,⟨#[45]⟩]) (.wrap 39 (.seq .bump (.call (.binary 4)))))) s = some r := hr
 refine Cl.enter Tryz.func222 rfl Tryz.ntmps222 rfl rfl (.sr (Rg.wd trivial (w_boxed rfl rfl) rfl ?_))
 rintro _ w1 ⟨bx143_2,rfl,qbx143_2,hx1,hv_bx143_2⟩
 replace hbw := bS hbw hp.und hsub hx1
 obtain ⟨F_bx143_2,hp1,hF_bx143_2,hs1⟩ := hp.box hx1 qbx143_2 hv_bx143_2.lt
 clear hp
 have hp := hp1
 clear hp1
 replace hsub := fun z hz => hs1 z (hsub z hz)
 refine Rg.wd trivial (w_boxed rfl rfl) rfl ?_
 rintro _ w2 ⟨bx143_3,rfl,qbx143_3,hx2,hv_bx143_3⟩
 replace hbw := bS hbw hp.und hsub hx2
 obtain ⟨F_bx143_3,hp1,hF_bx143_3,hs2⟩ := hp.box hx2 qbx143_3 hv_bx143_3.lt
 clear hp
 have hp := hp1
 clear hp1
 replace hsub := fun z hz => hs2 z (hsub z hz)
 replace hv_bx143_2 := hv_bx143_2.ext hx2
 replace hF_bx143_2 := hs2 _ hF_bx143_2
 refine .done (.seq (.sr (.t2 (t_load ty3 rfl (hv_bx143_3.g 0 rfl)) ?_)))
 refine .t2 (t_eqlF rfl rfl (by decide)) ?_
 refine .done (.condF rfl (Wp.skip (.sr (.t2 (t_load ty100 rfl (hv_bx143_2.g 0 rfl)) (.t2 (t_load ty3 rfl (hv_bx143_3.g 0 rfl)) ?_)))))
 refine .t2 (t_addI rfl rfl (by omega)) ?_
 obtain ⟨s1,h1a,h1b⟩ := run_seq' hr
 refine Rg.wd trivial (w_call Tryz.call222 rfl (D_call hD hp h1a (adds_le h1b hb))) rfl ?_
 rintro _ w3 ⟨hst,hp1,hb3⟩
 replace hv_bx143_2 := var_bw hv_bx143_2 hb3 hF_bx143_2
 replace hv_bx143_3 := var_bw hv_bx143_3 hb3 hF_bx143_3
 replace hbw := hbw.trans (hb3.sub hsub)
 clear hp
 have hp := hp1
 clear hp1
 refine .done (Wp.block ?_)
 refine Wp.loop (ι := S × Nat) (fun _ => [(2,.pointer (some ⟨bx143_2,0,none⟩)),(3,.pointer (some ⟨bx143_3,0,none⟩)),(0,.pointer (some ⟨bP,0,none⟩)),(1,.int .i64 3)])
  (fun i w' => Ps w0 tv toks F_bx143_3 w' bP below k i.1 ∧ Bw F_bx143_3 w3 w' ∧ run body i.2 (.loop (at1 [⟨#[43]⟩,⟨#[45]⟩]) (.wrap 39 (.seq .bump (.call (.binary 4))))) i.1 = some r ∧ i.2 ≤ n) (fun i => i.2) (s1,n) (by repeat (first | exact .nil | refine .cons rfl ?_)) ⟨hp,Bw.refl _ _,h1b,Nat.le_refl _⟩ ?_
 clear hp
 rintro ⟨s',m⟩ wl ⟨hp,hbl,hrun,hmn⟩
 simp only at hp hrun hmn
 replace hbw := hbw.trans (hbl.sub hsub)
 replace hv_bx143_2 := var_bw hv_bx143_2 hbl hF_bx143_2
 replace hv_bx143_3 := var_bw hv_bx143_3 hbl hF_bx143_3
 refine .seq ?_
 cases haq1 : (isAt [⟨#[43]⟩,⟨#[45]⟩] (sig1 s'.rem)) with
 | true =>
  obtain ⟨m1,s2,rfl,hbody,hrest⟩ := run_loopT hrun haq1
  replace hbody := run_le hmn hbody
  refine Wp.seq (Wp.draw [0,1,2,3] [] mixed (by kernel_rfl) (by kernel_rfl) ?_)
  intro w4 hx4 _
  replace hbl := hbl.trans (Bw.of hx4 hp.und)
  replace hbw := bS hbw hp.und hsub hx4
  replace hp := hp.extw hx4
  replace hv_bx143_2 := hv_bx143_2.ext hx4
  replace hv_bx143_3 := hv_bx143_3.ext hx4
  refine .t2 (t_load ty100 rfl (hv_bx143_2.g 0 rfl)) (.t2 (t_load ty3 rfl (hv_bx143_3.g 0 rfl)) (Rg.wdB trivial rfl (w_call Tryz.call266 rfl ops_3) rfl (fun _ _ h => h.2) ?_))
  rintro _ w5 ⟨⟨bt14,rfl,hvt14⟩,hx5⟩
  replace hbl := hbl.trans (Bw.of hx5 hp.und)
  replace hbw := bS hbw hp.und hsub hx5
  replace hp := hp.extw hx5
  replace hv_bx143_2 := hv_bx143_2.ext hx5
  replace hv_bx143_3 := hv_bx143_3.ext hx5
  refine Rg.wdB trivial rfl (w_call Tryz.call94 rfl (at_ok hC hp (texts := [⟨#[43]⟩,⟨#[45]⟩]) hvt14 (by decide))) rfl (fun _ _ h => h.2) ?_
  rintro _ w6 ⟨rfl,hx6⟩
  replace hbl := hbl.trans (Bw.of hx6 hp.und)
  replace hbw := bS hbw hp.und hsub hx6
  replace hp := hp.extw hx6
  replace hv_bx143_2 := hv_bx143_2.ext hx6
  replace hv_bx143_3 := hv_bx143_3.ext hx6
  try replace hvt14 := hvt14.ext hx6
  rw [show (isAt [⟨#[43]⟩,⟨#[45]⟩] (sig1 s'.rem)) = true from haq1]
  refine .done (.condT rfl (Wp.skip (Wp.block (.sr (.t2 (t_load ty100 rfl (hv_bx143_2.g 0 rfl)) (.t2 (t_makeFuncB (us := []) (vs := [.pointer (some ⟨bx143_2,0,none⟩),.pointer (some ⟨bx143_3,0,none⟩)]) rfl rfl) (Rg.wd trivial (w_call Tryz.call267 rfl (D_wrap hp (clo_164_3 hC hD hv_bx143_2 hF_bx143_2 hv_bx143_3 hF_bx143_3) hbody (adds_le hrest hb))) rfl ?_)))))))
  rintro _ w7 ⟨hp1,hb7⟩
  replace hbl := hbl.trans hb7
  replace hv_bx143_2 := var_bw hv_bx143_2 hb7 hF_bx143_2
  replace hv_bx143_3 := var_bw hv_bx143_3 hb7 hF_bx143_3
  replace hbw := hbw.trans (hb7.sub hsub)
  clear hp
  have hp := hp1
  clear hp1
  refine .done (.sr (.t2 (t_load ty3 rfl (hv_bx143_3.g 0 rfl)) ?_))
  refine .t2 (t_eqlF rfl rfl (by decide)) ?_
  refine .done (.condF rfl (Wp.skip ?_))
  exact ⟨(s2,m1),by repeat (first | exact .nil | refine .cons rfl ?_),⟨hp,hbl,hrest,by simp only; omega⟩,by simp only; omega⟩
 | false =>
  obtain rfl := run_loopF hrun haq1
  refine Wp.seq (Wp.draw [0,1,2,3] [] mixed (by kernel_rfl) (by kernel_rfl) ?_)
  intro w4 hx4 _
  replace hbw := bS hbw hp.und hsub hx4
  replace hp := hp.extw hx4
  replace hv_bx143_2 := hv_bx143_2.ext hx4
  replace hv_bx143_3 := hv_bx143_3.ext hx4
  refine .t2 (t_load ty100 rfl (hv_bx143_2.g 0 rfl)) (.t2 (t_load ty3 rfl (hv_bx143_3.g 0 rfl)) (Rg.wdB trivial rfl (w_call Tryz.call266 rfl ops_3) rfl (fun _ _ h => h.2) ?_))
  rintro _ w5 ⟨⟨bt14,rfl,hvt14⟩,hx5⟩
  replace hbw := bS hbw hp.und hsub hx5
  replace hp := hp.extw hx5
  replace hv_bx143_2 := hv_bx143_2.ext hx5
  replace hv_bx143_3 := hv_bx143_3.ext hx5
  refine Rg.wdB trivial rfl (w_call Tryz.call94 rfl (at_ok hC hp (texts := [⟨#[43]⟩,⟨#[45]⟩]) hvt14 (by decide))) rfl (fun _ _ h => h.2) ?_
  rintro _ w6 ⟨rfl,hx6⟩
  replace hbw := bS hbw hp.und hsub hx6
  replace hp := hp.extw hx6
  replace hv_bx143_2 := hv_bx143_2.ext hx6
  replace hv_bx143_3 := hv_bx143_3.ext hx6
  try replace hvt14 := hvt14.ext hx6
  rw [show (isAt [⟨#[43]⟩,⟨#[45]⟩] (sig1 r.rem)) = false from haq1]
  refine .done (.condF rfl (Wp.exit ?_))
  exact ⟨[],trivial,(fun h => by cases h),hp.sub hsub hbase,hbw⟩
theorem clo_164_4 (hC : Cx w0 tv toks) (hD : ∀ m,m < n → DN w0 tv toks m) {b0 : Nat} (hv_b0 : Var w b0 [.pointer (some ⟨bP,0,none⟩)] 100) (hF_b0 : F b0) {b1 : Nat} (hv_b1 : Var w b1 [.int .i64 4] 3) (hF_b1 : F b1) : Clo w0 tv toks n F bP 268 [] [.pointer (some ⟨b0,0,none⟩),.pointer (some ⟨b1,0,none⟩)] w (.seq .bump (.call (.binary 5))) := by
 refine ⟨Tryz.call268,fun w1 hw1 below k s r hp hr hb => ?_⟩
 replace hv_b0 := var_bw hv_b0 hw1 hF_b0
 replace hv_b1 := var_bw hv_b1 hw1 hF_b1
 show Cl Tryz.prog 268 #[.pointer (some ⟨b0,0,none⟩),.pointer (some ⟨b1,0,none⟩)] w1 _
 have hbw := Bw.refl F w1
 have hsub : ∀ z,F z → F z := fun z h => h
 have hbase := hp.base
 refine Cl.enter Tryz.func268 rfl Tryz.ntmps268 rfl rfl (.sr (.t2 (t_load ty100 rfl (hv_b0.g 0 rfl)) ?_))
 obtain ⟨s1,h1a,h1b⟩ := run_seq' hr
 refine Rg.wd trivial (w_call Tryz.call101 rfl (D_bump hC hp h1a (adds_le h1b hb))) rfl ?_
 rintro _ w1 ⟨hp1,hb1⟩
 replace hv_b0 := var_bw hv_b0 hb1 hF_b0
 replace hv_b1 := var_bw hv_b1 hb1 hF_b1
 replace hbw := hbw.trans (hb1.sub hsub)
 clear hp
 have hp := hp1
 clear hp1
 refine .done (Wp.region (.t2 (t_load ty100 rfl (hv_b0.g 0 rfl)) (.t2 (t_load ty3 rfl (hv_b1.g 0 rfl)) ?_)))
 refine .t2 (t_addI rfl rfl (by omega)) ?_
 refine Rg.wd trivial (w_call Tryz.call222 rfl (D_call hD hp h1b hb)) rfl ?_
 rintro _ w2 ⟨hst,hp1,hb2⟩
 replace hv_b0 := var_bw hv_b0 hb2 hF_b0
 replace hv_b1 := var_bw hv_b1 hb2 hF_b1
 replace hbw := hbw.trans (hb2.sub hsub)
 clear hp
 have hp := hp1
 clear hp1
 refine .done ?_
 exact ⟨[],trivial,hp.sub hsub hbase,hbw⟩
theorem N_binary_4 (hC : Cx w0 tv toks) (hD : ∀ m,m < n → DN w0 tv toks m) (hp : Ps w0 tv toks F w bP below k s) (hr : run body n (body (.binary 4)) s = some r) (hb : r.adds ≤ big) :
  Cl Tryz.prog 222 #[.pointer (some ⟨bP,0,none⟩),.int .i64 4] w (fun u w' => ((Nm.binary 4) = Nm.statement → u = .bool r.flag) ∧ Ps w0 tv toks F w' bP below k r ∧ Bw F w w') := by
 have hbw := Bw.refl F w
 have hsub : ∀ z,F z → F z := fun z h => h
 have hbase := hp.base
 have hr : run body n (.seq (.call (.binary 5)) (.loop (at1 [⟨#[42]⟩,⟨#[47]⟩]) (.wrap 39 (.seq .bump (.call (.binary 5)))))) s = some r := hr
 refine Cl.enter Tryz.func222 rfl Tryz.ntmps222 rfl rfl (.sr (Rg.wd trivial (w_boxed rfl rfl) rfl ?_))
 rintro _ w1 ⟨bx143_2,rfl,qbx143_2,hx1,hv_bx143_2⟩
 replace hbw := bS hbw hp.und hsub hx1
 obtain ⟨F_bx143_2,hp1,hF_bx143_2,hs1⟩ := hp.box hx1 qbx143_2 hv_bx143_2.lt
 clear hp
 have hp := hp1
 clear hp1
 replace hsub := fun z hz => hs1 z (hsub z hz)
 refine Rg.wd trivial (w_boxed rfl rfl) rfl ?_
 rintro _ w2 ⟨bx143_3,rfl,qbx143_3,hx2,hv_bx143_3⟩
 replace hbw := bS hbw hp.und hsub hx2
 obtain ⟨F_bx143_3,hp1,hF_bx143_3,hs2⟩ := hp.box hx2 qbx143_3 hv_bx143_3.lt
 clear hp
 have hp := hp1
 clear hp1
 replace hsub := fun z hz => hs2 z (hsub z hz)
 replace hv_bx143_2 := hv_bx143_2.ext hx2
 replace hF_bx143_2 := hs2 _ hF_bx143_2
 refine .done (.seq (.sr (.t2 (t_load ty3 rfl (hv_bx143_3.g 0 rfl)) ?_)))
 refine .t2 (t_eqlF rfl rfl (by decide)) ?_
 refine .done (.condF rfl (Wp.skip (.sr (.t2 (t_load ty100 rfl (hv_bx143_2.g 0 rfl)) (.t2 (t_load ty3 rfl (hv_bx143_3.g 0 rfl)) ?_)))))
 refine .t2 (t_addI rfl rfl (by omega)) ?_
 obtain ⟨s1,h1a,h1b⟩ := run_seq' hr
 refine Rg.wd trivial (w_call Tryz.call222 rfl (D_call hD hp h1a (adds_le h1b hb))) rfl ?_
 rintro _ w3 ⟨hst,hp1,hb3⟩
 replace hv_bx143_2 := var_bw hv_bx143_2 hb3 hF_bx143_2
 replace hv_bx143_3 := var_bw hv_bx143_3 hb3 hF_bx143_3
 replace hbw := hbw.trans (hb3.sub hsub)
 clear hp
 have hp := hp1
 clear hp1
 refine .done (Wp.block ?_)
 refine Wp.loop (ι := S × Nat) (fun _ => [(2,.pointer (some ⟨bx143_2,0,none⟩)),(3,.pointer (some ⟨bx143_3,0,none⟩)),(0,.pointer (some ⟨bP,0,none⟩)),(1,.int .i64 4)])
  (fun i w' => Ps w0 tv toks F_bx143_3 w' bP below k i.1 ∧ Bw F_bx143_3 w3 w' ∧ run body i.2 (.loop (at1 [⟨#[42]⟩,⟨#[47]⟩]) (.wrap 39 (.seq .bump (.call (.binary 5))))) i.1 = some r ∧ i.2 ≤ n) (fun i => i.2) (s1,n) (by repeat (first | exact .nil | refine .cons rfl ?_)) ⟨hp,Bw.refl _ _,h1b,Nat.le_refl _⟩ ?_
 clear hp
 rintro ⟨s',m⟩ wl ⟨hp,hbl,hrun,hmn⟩
 simp only at hp hrun hmn
 replace hbw := hbw.trans (hbl.sub hsub)
 replace hv_bx143_2 := var_bw hv_bx143_2 hbl hF_bx143_2
 replace hv_bx143_3 := var_bw hv_bx143_3 hbl hF_bx143_3
 refine .seq ?_
 cases haq1 : (isAt [⟨#[42]⟩,⟨#[47]⟩] (sig1 s'.rem)) with
 | true =>
  obtain ⟨m1,s2,rfl,hbody,hrest⟩ := run_loopT hrun haq1
  replace hbody := run_le hmn hbody
  refine Wp.seq (Wp.draw [0,1,2,3] [] mixed (by kernel_rfl) (by kernel_rfl) ?_)
  intro w4 hx4 _
  replace hbl := hbl.trans (Bw.of hx4 hp.und)
  replace hbw := bS hbw hp.und hsub hx4
  replace hp := hp.extw hx4
  replace hv_bx143_2 := hv_bx143_2.ext hx4
  replace hv_bx143_3 := hv_bx143_3.ext hx4
  refine .t2 (t_load ty100 rfl (hv_bx143_2.g 0 rfl)) (.t2 (t_load ty3 rfl (hv_bx143_3.g 0 rfl)) (Rg.wdB trivial rfl (w_call Tryz.call266 rfl ops_4) rfl (fun _ _ h => h.2) ?_))
  rintro _ w5 ⟨⟨bt14,rfl,hvt14⟩,hx5⟩
  replace hbl := hbl.trans (Bw.of hx5 hp.und)
  replace hbw := bS hbw hp.und hsub hx5
  replace hp := hp.extw hx5
  replace hv_bx143_2 := hv_bx143_2.ext hx5
  replace hv_bx143_3 := hv_bx143_3.ext hx5
  refine Rg.wdB trivial rfl (w_call Tryz.call94 rfl (at_ok hC hp (texts := [⟨#[42]⟩,⟨#[47]⟩]) hvt14 (by decide))) rfl (fun _ _ h => h.2) ?_
  rintro _ w6 ⟨rfl,hx6⟩
  replace hbl := hbl.trans (Bw.of hx6 hp.und)
  replace hbw := bS hbw hp.und hsub hx6
  replace hp := hp.extw hx6
  replace hv_bx143_2 := hv_bx143_2.ext hx6
  replace hv_bx143_3 := hv_bx143_3.ext hx6
  try replace hvt14 := hvt14.ext hx6
  rw [show (isAt [⟨#[42]⟩,⟨#[47]⟩] (sig1 s'.rem)) = true from haq1]
  refine .done (.condT rfl (Wp.skip (Wp.block (.sr (.t2 (t_load ty100 rfl (hv_bx143_2.g 0 rfl)) (.t2 (t_makeFuncB (us := []) (vs := [.pointer (some ⟨bx143_2,0,none⟩),.pointer (some ⟨bx143_3,0,none⟩)]) rfl rfl) (Rg.wd trivial (w_call Tryz.call267 rfl (D_wrap hp (clo_164_4 hC hD hv_bx143_2 hF_bx143_2 hv_bx143_3 hF_bx143_3) hbody (adds_le hrest hb))) rfl ?_)))))))
  rintro _ w7 ⟨hp1,hb7⟩
  replace hbl := hbl.trans hb7
  replace hv_bx143_2 := var_bw hv_bx143_2 hb7 hF_bx143_2
  replace hv_bx143_3 := var_bw hv_bx143_3 hb7 hF_bx143_3
  replace hbw := hbw.trans (hb7.sub hsub)
  clear hp
  have hp := hp1
  clear hp1
  refine .done (.sr (.t2 (t_load ty3 rfl (hv_bx143_3.g 0 rfl)) ?_))
  refine .t2 (t_eqlF rfl rfl (by decide)) ?_
  refine .done (.condF rfl (Wp.skip ?_))
  exact ⟨(s2,m1),by repeat (first | exact .nil | refine .cons rfl ?_),⟨hp,hbl,hrest,by simp only; omega⟩,by simp only; omega⟩
 | false =>
  obtain rfl := run_loopF hrun haq1
  refine Wp.seq (Wp.draw [0,1,2,3] [] mixed (by kernel_rfl) (by kernel_rfl) ?_)
  intro w4 hx4 _
  replace hbw := bS hbw hp.und hsub hx4
  replace hp := hp.extw hx4
  replace hv_bx143_2 := hv_bx143_2.ext hx4
  replace hv_bx143_3 := hv_bx143_3.ext hx4
  refine .t2 (t_load ty100 rfl (hv_bx143_2.g 0 rfl)) (.t2 (t_load ty3 rfl (hv_bx143_3.g 0 rfl)) (Rg.wdB trivial rfl (w_call Tryz.call266 rfl ops_4) rfl (fun _ _ h => h.2) ?_))
  rintro _ w5 ⟨⟨bt14,rfl,hvt14⟩,hx5⟩
  replace hbw := bS hbw hp.und hsub hx5
  replace hp := hp.extw hx5
  replace hv_bx143_2 := hv_bx143_2.ext hx5
  replace hv_bx143_3 := hv_bx143_3.ext hx5
  refine Rg.wdB trivial rfl (w_call Tryz.call94 rfl (at_ok hC hp (texts := [⟨#[42]⟩,⟨#[47]⟩]) hvt14 (by decide))) rfl (fun _ _ h => h.2) ?_
  rintro _ w6 ⟨rfl,hx6⟩
  replace hbw := bS hbw hp.und hsub hx6
  replace hp := hp.extw hx6
  replace hv_bx143_2 := hv_bx143_2.ext hx6
  replace hv_bx143_3 := hv_bx143_3.ext hx6
  try replace hvt14 := hvt14.ext hx6
  rw [show (isAt [⟨#[42]⟩,⟨#[47]⟩] (sig1 r.rem)) = false from haq1]
  refine .done (.condF rfl (Wp.exit ?_))
  exact ⟨[],trivial,(fun h => by cases h),hp.sub hsub hbase,hbw⟩
theorem N_binary_5 (hC : Cx w0 tv toks) (hD : ∀ m,m < n → DN w0 tv toks m) (hp : Ps w0 tv toks F w bP below k s) (hr : run body n (body (.binary 5)) s = some r) (hb : r.adds ≤ big) :
  Cl Tryz.prog 222 #[.pointer (some ⟨bP,0,none⟩),.int .i64 5] w (fun u w' => ((Nm.binary 5) = Nm.statement → u = .bool r.flag) ∧ Ps w0 tv toks F w' bP below k r ∧ Bw F w w') := by
 have hbw := Bw.refl F w
 have hsub : ∀ z,F z → F z := fun z h => h
 have hbase := hp.base
 have hr : run body n (.call .unary) s = some r := hr
 refine Cl.enter Tryz.func222 rfl Tryz.ntmps222 rfl rfl (.sr (Rg.wd trivial (w_boxed rfl rfl) rfl ?_))
 rintro _ w1 ⟨bx143_2,rfl,qbx143_2,hx1,hv_bx143_2⟩
 replace hbw := bS hbw hp.und hsub hx1
 obtain ⟨F_bx143_2,hp1,hF_bx143_2,hs1⟩ := hp.box hx1 qbx143_2 hv_bx143_2.lt
 clear hp
 have hp := hp1
 clear hp1
 replace hsub := fun z hz => hs1 z (hsub z hz)
 refine Rg.wd trivial (w_boxed rfl rfl) rfl ?_
 rintro _ w2 ⟨bx143_3,rfl,qbx143_3,hx2,hv_bx143_3⟩
 replace hbw := bS hbw hp.und hsub hx2
 obtain ⟨F_bx143_3,hp1,hF_bx143_3,hs2⟩ := hp.box hx2 qbx143_3 hv_bx143_3.lt
 clear hp
 have hp := hp1
 clear hp1
 replace hsub := fun z hz => hs2 z (hsub z hz)
 replace hv_bx143_2 := hv_bx143_2.ext hx2
 replace hF_bx143_2 := hs2 _ hF_bx143_2
 refine .done (.seq (.sr (.t2 (t_load ty3 rfl (hv_bx143_3.g 0 rfl)) ?_)))
 refine .t2 (t_eqlT rfl rfl (by decide)) ?_
 refine .done (.condT rfl (.sr (.t2 (t_load ty100 rfl (hv_bx143_2.g 0 rfl)) (Rg.wd trivial (w_call Tryz.call265 rfl (D_call hD hp hr hb)) rfl ?_))))
 rintro _ w3 ⟨hst,hp1,hb3⟩
 replace hv_bx143_2 := var_bw hv_bx143_2 hb3 hF_bx143_2
 replace hv_bx143_3 := var_bw hv_bx143_3 hb3 hF_bx143_3
 replace hbw := hbw.trans (hb3.sub hsub)
 clear hp
 have hp := hp1
 clear hp1
 refine .done (Wp.ret ?_)
 exact ⟨[],trivial,(fun h => by cases h),hp.sub hsub hbase,hbw⟩
theorem clo_153 (hC : Cx w0 tv toks) (hD : ∀ m,m < n → DN w0 tv toks m) {b0 : Nat} (hv_b0 : Var w b0 [.pointer (some ⟨bP,0,none⟩)] 100) (hF_b0 : F b0) : Clo w0 tv toks n F bP 257 [] [.pointer (some ⟨b0,0,none⟩)] w (.seq (Cmd.exp ⟨#[123]⟩) (.seq (.flag false) (.seq (.loop (fun t _ _ f => !f && !isAt [⟨#[125]⟩] t && t.1 != 100 && !isAt items t) (.call .statement)) (.seq (.cond (fun _ _ _ f => f) .skip (.leaf 0)) (Cmd.exp ⟨#[125]⟩))))) := by
 refine ⟨Tryz.call257,fun w1 hw1 below k s r hp hr hb => ?_⟩
 replace hv_b0 := var_bw hv_b0 hw1 hF_b0
 show Cl Tryz.prog 257 #[.pointer (some ⟨b0,0,none⟩)] w1 _
 have hbw := Bw.refl F w1
 have hsub : ∀ z,F z → F z := fun z h => h
 have hbase := hp.base
 refine Cl.enter Tryz.func257 rfl Tryz.ntmps257 rfl rfl (.sr (.t2 (t_load ty100 rfl (hv_b0.g 0 rfl)) ?_))
 obtain ⟨s1,h1a,h1b⟩ := run_seq' hr
 refine Rg.wd trivial (w_call Tryz.call156 rfl (D_exp hC hp h1a (adds_le h1b hb))) rfl ?_
 rintro _ w1 ⟨hp1,hb1⟩
 replace hv_b0 := var_bw hv_b0 hb1 hF_b0
 replace hbw := hbw.trans (hb1.sub hsub)
 clear hp
 have hp := hp1
 clear hp1
 refine .done ?_
 obtain ⟨s2,h2a,h2b⟩ := run_seq' h1b
 have hp1 : Ps w0 tv toks F w1 bP below k s2 := by rw [run_flag' h2a]; exact hp
 clear hp
 have hp := hp1
 clear hp1
 have hfl_s2 : s2.flag = false := by rw [run_flag' h2a]
 refine .sr (.a2 rfl (.done (.seq (Wp.block ?_))))
 obtain ⟨s3,h3a,h3b⟩ := run_seq' h2b
 refine Wp.loop (ι := S × Nat) (fun i => [(1,.bool i.1.flag),(0,.pointer (some ⟨b0,0,none⟩))])
  (fun i w' => Ps w0 tv toks F w' bP below k i.1 ∧ Bw F w1 w' ∧ run body i.2 (.loop (fun t _ _ f => !f && !isAt [⟨#[125]⟩] t && t.1 != 100 && !isAt items t) (.call .statement)) i.1 = some s3 ∧ i.2 ≤ n) (fun i => i.2) (s2,n) (by simp only [hfl_s2]; repeat (first | exact .nil | refine .cons rfl ?_)) ⟨hp,Bw.refl _ _,h3a,Nat.le_refl _⟩ ?_
 clear hp
 rintro ⟨s',m⟩ wl ⟨hp,hbl,hrun,hmn⟩
 simp only at hp hrun hmn
 replace hbw := hbw.trans (hbl.sub hsub)
 replace hv_b0 := var_bw hv_b0 hbl hF_b0
 refine .seq ?_
 cases haq1 : s'.flag with
 | true =>
  obtain rfl := run_loopF hrun (show S.test _ _ = false by simp only [S.test,at1,ident,bne,haq1]; (try rfl))
  obtain ⟨s4,h4a,h4b⟩ := run_seq' h3b
  have hq2 := run_condT h4a (show S.test _ _ = true by simp only [S.test,at1,ident,bne,haq1]; (try rfl))
  obtain rfl := run_skip' hq2
  refine Wp.seq (Wp.draw [0,1,2,3,4,5,6,7,8,9,10,11,12,13,14,15,16,17,18] [] mixed (by kernel_rfl) (by kernel_rfl) ?_)
  intro w2 hx2 _
  replace hbw := bS hbw hp.und hsub hx2
  replace hp := hp.extw hx2
  replace hv_b0 := hv_b0.ext hx2
  refine .m2 rfl (.t2 (t_notB rfl) (.m2 rfl (.so rfl rfl (.so rfl rfl (.so rfl rfl (.so rfl rfl (.t2 (t_pickF rfl rfl) (.m2 rfl (.so rfl rfl (.so rfl rfl (.so rfl rfl (.t2 (t_pickF rfl rfl) ?_))))))))))))
  refine .m2 rfl (.so rfl rfl (.so rfl rfl (.so rfl rfl (.so rfl rfl (.t2 (t_pickF rfl rfl) (.done (.condF rfl (Wp.exit (.seq (.sr (.m2 rfl (.t2 (t_notB rfl) ?_))))))))))))
  refine .done (.condF rfl (Wp.skip (Wp.region (.t2 (t_load ty100 rfl (hv_b0.g 0 rfl)) (Rg.wd trivial (w_call Tryz.call156 rfl (D_exp hC hp h4b hb)) rfl ?_)))))
  rintro _ w3 ⟨hp1,hb3⟩
  replace hv_b0 := var_bw hv_b0 hb3 hF_b0
  replace hbw := hbw.trans (hb3.sub hsub)
  clear hp
  have hp := hp1
  clear hp1
  refine .done ?_
  exact ⟨[],trivial,hp.sub hsub hbase,hbw⟩
 | false =>
  cases haq2 : (isAt [⟨#[125]⟩] (sig1 s'.rem)) with
  | true =>
   obtain rfl := run_loopF hrun (show S.test _ _ = false by simp only [S.test,at1,ident,bne,haq1,haq2]; (try rfl))
   obtain ⟨s4,h4a,h4b⟩ := run_seq' h3b
   have hq3 := run_condF h4a (show S.test _ _ = false by simp only [S.test,at1,ident,bne,haq1,haq2]; (try rfl))
   refine Wp.seq (Wp.draw [0,1,2,3,4,5,6,7,8,9,10,11,12,13,14,15,16,17,18] [] mixed (by kernel_rfl) (by kernel_rfl) ?_)
   intro w2 hx2 _
   replace hbw := bS hbw hp.und hsub hx2
   replace hp := hp.extw hx2
   replace hv_b0 := hv_b0.ext hx2
   refine .m2 rfl (.t2 (t_notB rfl) (.m2 rfl (.g2 (t_load ty100 rfl (hv_b0.g 0 rfl)) ?_)))
   refine Rg.wdB ⟨_,rfl,rfl⟩ rfl (w_buildSlice (bs38_1 _) rfl) rfl (fun _ _ h => by obtain ⟨_,_,_,h,_⟩ := h; exact h) ?_
   rintro _ w3 ⟨bt8,rfl,qt8,hx3,hvt8⟩
   replace hbw := bS hbw hp.und hsub hx3
   replace hp := hp.extw hx3
   replace hv_b0 := hv_b0.ext hx3
   refine Rg.wdB ⟨_,rfl,rfl⟩ rfl (w_call Tryz.call94 rfl (at_ok hC hp (texts := [⟨#[125]⟩]) hvt8 (by decide))) rfl (fun _ _ h => h.2) ?_
   rintro _ w4 ⟨rfl,hx4⟩
   replace hbw := bS hbw hp.und hsub hx4
   replace hp := hp.extw hx4
   replace hv_b0 := hv_b0.ext hx4
   try replace hvt8 := hvt8.ext hx4
   rw [show (isAt [⟨#[125]⟩] (sig1 s3.rem)) = true from haq2]
   refine .g2 (t_notB rfl) (.t2 (t_pickT rfl rfl) (.m2 rfl (.so rfl rfl (.so rfl rfl (.so rfl rfl (.t2 (t_pickF rfl rfl) (.m2 rfl (.so rfl rfl (.so rfl rfl (.so rfl rfl (.so rfl rfl (.t2 (t_pickF rfl rfl) ?_))))))))))))
   refine .done (.condF rfl (Wp.exit (.seq (.sr (.m2 rfl (.t2 (t_notB rfl) (.done (.condT rfl (Wp.region (.t2 (t_load ty100 rfl (hv_b0.g 0 rfl)) (Rg.wd trivial (w_call Tryz.call207 rfl (D_absent hp hq3 (adds_le h4b hb))) rfl ?_)))))))))))
   rintro _ w5 ⟨hp1,hb5⟩
   replace hv_b0 := var_bw hv_b0 hb5 hF_b0
   replace hbw := hbw.trans (hb5.sub hsub)
   clear hp
   have hp := hp1
   clear hp1
   refine .done (Wp.region (.t2 (t_load ty100 rfl (hv_b0.g 0 rfl)) (Rg.wd trivial (w_call Tryz.call156 rfl (D_exp hC hp h4b hb)) rfl ?_)))
   rintro _ w6 ⟨hp1,hb6⟩
   replace hv_b0 := var_bw hv_b0 hb6 hF_b0
   replace hbw := hbw.trans (hb6.sub hsub)
   clear hp
   have hp := hp1
   clear hp1
   refine .done ?_
   exact ⟨[],trivial,hp.sub hsub hbase,hbw⟩
  | false =>
   cases haq3 : ((sig1 s'.rem).1 == 100) with
   | true =>
    obtain rfl := run_loopF hrun (show S.test _ _ = false by simp only [S.test,at1,ident,bne,haq1,haq2,haq3]; (try rfl))
    obtain ⟨s4,h4a,h4b⟩ := run_seq' h3b
    have hq4 := run_condF h4a (show S.test _ _ = false by simp only [S.test,at1,ident,bne,haq1,haq2,haq3]; (try rfl))
    refine Wp.seq (Wp.draw [0,1,2,3,4,5,6,7,8,9,10,11,12,13,14,15,16,17,18] [] mixed (by kernel_rfl) (by kernel_rfl) ?_)
    intro w2 hx2 _
    replace hbw := bS hbw hp.und hsub hx2
    replace hp := hp.extw hx2
    replace hv_b0 := hv_b0.ext hx2
    refine .m2 rfl (.t2 (t_notB rfl) (.m2 rfl (.g2 (t_load ty100 rfl (hv_b0.g 0 rfl)) ?_)))
    refine Rg.wdB ⟨_,rfl,rfl⟩ rfl (w_buildSlice (bs38_1 _) rfl) rfl (fun _ _ h => by obtain ⟨_,_,_,h,_⟩ := h; exact h) ?_
    rintro _ w3 ⟨bt8,rfl,qt8,hx3,hvt8⟩
    replace hbw := bS hbw hp.und hsub hx3
    replace hp := hp.extw hx3
    replace hv_b0 := hv_b0.ext hx3
    refine Rg.wdB ⟨_,rfl,rfl⟩ rfl (w_call Tryz.call94 rfl (at_ok hC hp (texts := [⟨#[125]⟩]) hvt8 (by decide))) rfl (fun _ _ h => h.2) ?_
    rintro _ w4 ⟨rfl,hx4⟩
    replace hbw := bS hbw hp.und hsub hx4
    replace hp := hp.extw hx4
    replace hv_b0 := hv_b0.ext hx4
    try replace hvt8 := hvt8.ext hx4
    rw [show (isAt [⟨#[125]⟩] (sig1 s3.rem)) = false from haq2]
    refine .g2 (t_notB rfl) (.t2 (t_pickT rfl rfl) (.m2 rfl (.g2 (t_load ty100 rfl (hv_b0.g 0 rfl)) (Rg.wdB ⟨_,rfl,rfl⟩ rfl (w_call Tryz.call52 rfl (atEOF_ok hC hp)) rfl (fun _ _ h => h.2) ?_))))
    rintro _ w5 ⟨rfl,hx5⟩
    replace hbw := bS hbw hp.und hsub hx5
    replace hp := hp.extw hx5
    replace hv_b0 := hv_b0.ext hx5
    try replace hvt8 := hvt8.ext hx5
    rw [show ((sig1 s3.rem).1 == 100) = true from haq3]
    refine .g2 (t_notB rfl) (.t2 (t_pickT rfl rfl) (.m2 rfl (.so rfl rfl (.so rfl rfl (.so rfl rfl (.so rfl rfl (.t2 (t_pickF rfl rfl) (.done (.condF rfl (Wp.exit (.seq (.sr ?_))))))))))))
    refine .m2 rfl (.t2 (t_notB rfl) (.done (.condT rfl (Wp.region (.t2 (t_load ty100 rfl (hv_b0.g 0 rfl)) (Rg.wd trivial (w_call Tryz.call207 rfl (D_absent hp hq4 (adds_le h4b hb))) rfl ?_))))))
    rintro _ w6 ⟨hp1,hb6⟩
    replace hv_b0 := var_bw hv_b0 hb6 hF_b0
    replace hbw := hbw.trans (hb6.sub hsub)
    clear hp
    have hp := hp1
    clear hp1
    refine .done (Wp.region (.t2 (t_load ty100 rfl (hv_b0.g 0 rfl)) (Rg.wd trivial (w_call Tryz.call156 rfl (D_exp hC hp h4b hb)) rfl ?_)))
    rintro _ w7 ⟨hp1,hb7⟩
    replace hv_b0 := var_bw hv_b0 hb7 hF_b0
    replace hbw := hbw.trans (hb7.sub hsub)
    clear hp
    have hp := hp1
    clear hp1
    refine .done ?_
    exact ⟨[],trivial,hp.sub hsub hbase,hbw⟩
   | false =>
    cases haq4 : (isAt items (sig1 s'.rem)) with
    | true =>
     obtain rfl := run_loopF hrun (show S.test _ _ = false by simp only [S.test,at1,ident,bne,haq1,haq2,haq3,haq4]; (try rfl))
     obtain ⟨s4,h4a,h4b⟩ := run_seq' h3b
     have hq5 := run_condF h4a (show S.test _ _ = false by simp only [S.test,at1,ident,bne,haq1,haq2,haq3,haq4]; (try rfl))
     refine Wp.seq (Wp.draw [0,1,2,3,4,5,6,7,8,9,10,11,12,13,14,15,16,17,18] [] mixed (by kernel_rfl) (by kernel_rfl) ?_)
     intro w2 hx2 _
     replace hbw := bS hbw hp.und hsub hx2
     replace hp := hp.extw hx2
     replace hv_b0 := hv_b0.ext hx2
     refine .m2 rfl (.t2 (t_notB rfl) (.m2 rfl (.g2 (t_load ty100 rfl (hv_b0.g 0 rfl)) ?_)))
     refine Rg.wdB ⟨_,rfl,rfl⟩ rfl (w_buildSlice (bs38_1 _) rfl) rfl (fun _ _ h => by obtain ⟨_,_,_,h,_⟩ := h; exact h) ?_
     rintro _ w3 ⟨bt8,rfl,qt8,hx3,hvt8⟩
     replace hbw := bS hbw hp.und hsub hx3
     replace hp := hp.extw hx3
     replace hv_b0 := hv_b0.ext hx3
     refine Rg.wdB ⟨_,rfl,rfl⟩ rfl (w_call Tryz.call94 rfl (at_ok hC hp (texts := [⟨#[125]⟩]) hvt8 (by decide))) rfl (fun _ _ h => h.2) ?_
     rintro _ w4 ⟨rfl,hx4⟩
     replace hbw := bS hbw hp.und hsub hx4
     replace hp := hp.extw hx4
     replace hv_b0 := hv_b0.ext hx4
     try replace hvt8 := hvt8.ext hx4
     rw [show (isAt [⟨#[125]⟩] (sig1 s3.rem)) = false from haq2]
     refine .g2 (t_notB rfl) (.t2 (t_pickT rfl rfl) (.m2 rfl (.g2 (t_load ty100 rfl (hv_b0.g 0 rfl)) (Rg.wdB ⟨_,rfl,rfl⟩ rfl (w_call Tryz.call52 rfl (atEOF_ok hC hp)) rfl (fun _ _ h => h.2) ?_))))
     rintro _ w5 ⟨rfl,hx5⟩
     replace hbw := bS hbw hp.und hsub hx5
     replace hp := hp.extw hx5
     replace hv_b0 := hv_b0.ext hx5
     try replace hvt8 := hvt8.ext hx5
     rw [show ((sig1 s3.rem).1 == 100) = false from haq3]
     refine .g2 (t_notB rfl) (.t2 (t_pickT rfl rfl) (.m2 rfl (.g2 (t_load ty100 rfl (hv_b0.g 0 rfl)) (Rg.wdB ⟨_,rfl,rfl⟩ rfl (w_call Tryz.call148 rfl (itemKw_ok (hC.asc.ext hp.ext))) rfl (fun _ _ h => h.2) ?_))))
     rintro _ w6 ⟨⟨bt19,rfl,hvt19⟩,hx6⟩
     replace hbw := bS hbw hp.und hsub hx6
     replace hp := hp.extw hx6
     replace hv_b0 := hv_b0.ext hx6
     try replace hvt8 := hvt8.ext hx6
     refine Rg.wdB ⟨_,rfl,rfl⟩ rfl (w_call Tryz.call94 rfl (at_ok hC hp (texts := items) hvt19 (by rw [items_len]; decide))) rfl (fun _ _ h => h.2) ?_
     rintro _ w7 ⟨rfl,hx7⟩
     replace hbw := bS hbw hp.und hsub hx7
     replace hp := hp.extw hx7
     replace hv_b0 := hv_b0.ext hx7
     try replace hvt8 := hvt8.ext hx7
     try replace hvt19 := hvt19.ext hx7
     rw [show (isAt items (sig1 s3.rem)) = true from haq4]
     refine .g2 (t_notB rfl) (.t2 (t_pickT rfl rfl) (.done (.condF rfl (Wp.exit (.seq (.sr (.m2 rfl (.t2 (t_notB rfl) (.done (.condT rfl (Wp.region (.t2 (t_load ty100 rfl (hv_b0.g 0 rfl)) ?_))))))))))))
     refine Rg.wd trivial (w_call Tryz.call207 rfl (D_absent hp hq5 (adds_le h4b hb))) rfl ?_
     rintro _ w8 ⟨hp1,hb8⟩
     replace hv_b0 := var_bw hv_b0 hb8 hF_b0
     replace hbw := hbw.trans (hb8.sub hsub)
     clear hp
     have hp := hp1
     clear hp1
     refine .done (Wp.region (.t2 (t_load ty100 rfl (hv_b0.g 0 rfl)) (Rg.wd trivial (w_call Tryz.call156 rfl (D_exp hC hp h4b hb)) rfl ?_)))
     rintro _ w9 ⟨hp1,hb9⟩
     replace hv_b0 := var_bw hv_b0 hb9 hF_b0
     replace hbw := hbw.trans (hb9.sub hsub)
     clear hp
     have hp := hp1
     clear hp1
     refine .done ?_
     exact ⟨[],trivial,hp.sub hsub hbase,hbw⟩
    | false =>
     obtain ⟨m1,s2,rfl,hbody,hrest⟩ := run_loopT hrun (show S.test _ _ = true by simp only [S.test,at1,ident,bne,haq1,haq2,haq3,haq4]; (try rfl))
     replace hbody := run_le hmn hbody
     refine Wp.seq (Wp.draw [0,1,2,3,4,5,6,7,8,9,10,11,12,13,14,15,16,17,18] [] mixed (by kernel_rfl) (by kernel_rfl) ?_)
     intro w2 hx2 _
     replace hbl := hbl.trans (Bw.of hx2 hp.und)
     replace hbw := bS hbw hp.und hsub hx2
     replace hp := hp.extw hx2
     replace hv_b0 := hv_b0.ext hx2
     refine .m2 rfl (.t2 (t_notB rfl) (.m2 rfl (.g2 (t_load ty100 rfl (hv_b0.g 0 rfl)) ?_)))
     refine Rg.wdB ⟨_,rfl,rfl⟩ rfl (w_buildSlice (bs38_1 _) rfl) rfl (fun _ _ h => by obtain ⟨_,_,_,h,_⟩ := h; exact h) ?_
     rintro _ w3 ⟨bt8,rfl,qt8,hx3,hvt8⟩
     replace hbl := hbl.trans (Bw.of hx3 hp.und)
     replace hbw := bS hbw hp.und hsub hx3
     replace hp := hp.extw hx3
     replace hv_b0 := hv_b0.ext hx3
     refine Rg.wdB ⟨_,rfl,rfl⟩ rfl (w_call Tryz.call94 rfl (at_ok hC hp (texts := [⟨#[125]⟩]) hvt8 (by decide))) rfl (fun _ _ h => h.2) ?_
     rintro _ w4 ⟨rfl,hx4⟩
     replace hbl := hbl.trans (Bw.of hx4 hp.und)
     replace hbw := bS hbw hp.und hsub hx4
     replace hp := hp.extw hx4
     replace hv_b0 := hv_b0.ext hx4
     try replace hvt8 := hvt8.ext hx4
     rw [show (isAt [⟨#[125]⟩] (sig1 s'.rem)) = false from haq2]
     refine .g2 (t_notB rfl) (.t2 (t_pickT rfl rfl) (.m2 rfl (.g2 (t_load ty100 rfl (hv_b0.g 0 rfl)) (Rg.wdB ⟨_,rfl,rfl⟩ rfl (w_call Tryz.call52 rfl (atEOF_ok hC hp)) rfl (fun _ _ h => h.2) ?_))))
     rintro _ w5 ⟨rfl,hx5⟩
     replace hbl := hbl.trans (Bw.of hx5 hp.und)
     replace hbw := bS hbw hp.und hsub hx5
     replace hp := hp.extw hx5
     replace hv_b0 := hv_b0.ext hx5
     try replace hvt8 := hvt8.ext hx5
     rw [show ((sig1 s'.rem).1 == 100) = false from haq3]
     refine .g2 (t_notB rfl) (.t2 (t_pickT rfl rfl) (.m2 rfl (.g2 (t_load ty100 rfl (hv_b0.g 0 rfl)) (Rg.wdB ⟨_,rfl,rfl⟩ rfl (w_call Tryz.call148 rfl (itemKw_ok (hC.asc.ext hp.ext))) rfl (fun _ _ h => h.2) ?_))))
     rintro _ w6 ⟨⟨bt19,rfl,hvt19⟩,hx6⟩
     replace hbl := hbl.trans (Bw.of hx6 hp.und)
     replace hbw := bS hbw hp.und hsub hx6
     replace hp := hp.extw hx6
     replace hv_b0 := hv_b0.ext hx6
     try replace hvt8 := hvt8.ext hx6
     refine Rg.wdB ⟨_,rfl,rfl⟩ rfl (w_call Tryz.call94 rfl (at_ok hC hp (texts := items) hvt19 (by rw [items_len]; decide))) rfl (fun _ _ h => h.2) ?_
     rintro _ w7 ⟨rfl,hx7⟩
     replace hbl := hbl.trans (Bw.of hx7 hp.und)
     replace hbw := bS hbw hp.und hsub hx7
     replace hp := hp.extw hx7
     replace hv_b0 := hv_b0.ext hx7
     try replace hvt8 := hvt8.ext hx7
     try replace hvt19 := hvt19.ext hx7
     rw [show (isAt items (sig1 s'.rem)) = false from haq4]
     refine .g2 (t_notB rfl) (.t2 (t_pickT rfl rfl) (.done (.condT rfl (Wp.skip (Wp.block (Wp.region (.t2 (t_load ty100 rfl (hv_b0.g 0 rfl)) (Rg.wd trivial (w_call Tryz.call258 rfl (D_call hD hp hbody (adds_le hrest (adds_le h3b hb)))) rfl ?_))))))))
     rintro v154 w8 ⟨hst,hp1,hb8⟩
     replace hbl := hbl.trans hb8
     replace hv_b0 := var_bw hv_b0 hb8 hF_b0
     replace hbw := hbw.trans (hb8.sub hsub)
     clear hp
     have hp := hp1
     clear hp1
     obtain rfl := hst rfl
     refine .a2 rfl (.done ?_)
     exact ⟨(s2,m1),by repeat (first | exact .nil | refine .cons rfl ?_),⟨hp,hbl,hrest,by simp only; omega⟩,by simp only; omega⟩
theorem N_block (hC : Cx w0 tv toks) (hD : ∀ m,m < n → DN w0 tv toks m) (hp : Ps w0 tv toks F w bP below k s) (hr : run body n (body .block) s = some r) (hb : r.adds ≤ big) :
  Cl Tryz.prog 208 #[.pointer (some ⟨bP,0,none⟩)] w (fun u w' => (Nm.block = Nm.statement → u = .bool r.flag) ∧ Ps w0 tv toks F w' bP below k r ∧ Bw F w w') := by
 have hbw := Bw.refl F w
 have hsub : ∀ z,F z → F z := fun z h => h
 have hbase := hp.base
 have hr : run body n (.node 21 (.seq (Cmd.exp ⟨#[123]⟩) (.seq (.flag false) (.seq (.loop (fun t _ _ f => !f && !isAt [⟨#[125]⟩] t && t.1 != 100 && !isAt items t) (.call .statement)) (.seq (.cond (fun _ _ _ f => f) .skip (.leaf 0)) (Cmd.exp ⟨#[125]⟩)))))) s = some r := hr
 refine Cl.enter Tryz.func208 rfl Tryz.ntmps208 rfl rfl (.sr (Rg.wd trivial (w_boxed rfl rfl) rfl ?_))
 rintro _ w1 ⟨bx129_1,rfl,qbx129_1,hx1,hv_bx129_1⟩
 replace hbw := bS hbw hp.und hsub hx1
 obtain ⟨F_bx129_1,hp1,hF_bx129_1,hs1⟩ := hp.box hx1 qbx129_1 hv_bx129_1.lt
 clear hp
 have hp := hp1
 clear hp1
 replace hsub := fun z hz => hs1 z (hsub z hz)
 refine .done (Wp.region (.t2 (t_load ty100 rfl (hv_bx129_1.g 0 rfl)) (.t2 (t_makeFuncB (us := []) (vs := [.pointer (some ⟨bx129_1,0,none⟩)]) rfl rfl) (Rg.wd trivial (w_call Tryz.call98 rfl (D_node hp (clo_153 hC hD hv_bx129_1 hF_bx129_1) hr hb)) rfl ?_))))
 rintro _ w2 ⟨hp1,hb2⟩
 replace hv_bx129_1 := var_bw hv_bx129_1 hb2 hF_bx129_1
 replace hbw := hbw.trans (hb2.sub hsub)
 clear hp
 have hp := hp1
 clear hp1
 refine .done ?_
 exact ⟨[],trivial,(fun h => by cases h),hp.sub hsub hbase,hbw⟩
end
variable {w0 : World} {tv : Value} {toks : List Tok} {F : Fs} {w : World} {bP : Nat} {below : List (Int × List Tr)} {k : Int} {s : S}
structure TopRow (w0 : World) (tv : Value) (toks : List Tok) (F : Fs) (w : World) (bP : Nat) (below : List (Int × List Tr)) (k : Int) (s : S) (gs np caps pos : Nat) (cv : Value) (kl : List Gt) (Q : Fs) (old : List Value) : Prop where
 var : Var w bP [tv,.int .i64 pos,.slice (some ⟨gs,0,none⟩) (np + 1) caps] 102
 cap : np + 1 ≤ caps
 small : np ≤ s.adds
 cell : w.cell? ⟨gs,0 + (((np + 1 : Nat) : Int) - 1).toNat * 3 + 2,none⟩ = some cv
 own : w.ownsRow 0 43 3 cv kl.length (encs Gt.cells kl)
 er : erL kl = s.kids
 few : kl.length ≤ s.adds
 ok : ∀ t ∈ kl,GOk Q w t
 undQ : Und Q w.heap.size
 row : Var w gs old 43
 len : np * 3 + 3 ≤ old.length
 ne : gs ≠ bP
 nq : ¬ Q gs
 nk : some gs ≠ cv.ownBlock
 nF : ¬ F gs
 nFk : ∀ b,cv.ownBlock = some b → ¬ F b ∧ ¬ Q b
 next : ∀ (w' : World) (cv' : Value) (kids' : List Gt) (G : Fs) (a' : Nat),Bw G w w' → (∀ z,z < w.heap.size → z ≠ gs → some z ≠ cv'.ownBlock → G z) → Var w' gs (old.take (np * 3 + 2) ++ [cv'] ++ old.drop (np * 3 + 2 + 1)) 43 → w'.ownsRow 0 43 3 cv' kids'.length (encs Gt.cells kids') →
  (∀ b,cv'.ownBlock = some b → cv.ownBlock = some b ∨ w.heap.size ≤ b) → (∀ t ∈ kids',GOk Q w t) → s.adds ≤ a' → kids'.length ≤ a' → Ps w0 tv toks F w' bP below k { s with kids := erL kids',adds := a' } ∧ Bw F w w'
theorem Ps.topRow (h : Ps w0 tv toks F w bP below k s) : ∃ gs np caps pos cv kl Q old,TopRow w0 tv toks F w bP below k s gs np caps pos cv kl Q old := by
 obtain ⟨g,hW,e0,hd,hpos,hm,hks,hfl⟩ := h
 obtain ⟨gP,sv,pos,frs,Q⟩ := g
 simp only at e0 hd hpos hm hks hfl
 subst e0
 obtain ⟨pre,f,rfl,em,e2⟩ := map_snoc hm
 obtain ⟨fk,cv,kl⟩ := f
 injection e2 with e3 e4
 simp only at e3 e4
 have hvar := hW.var
 simp only at hvar
 rcases own_wholeG hW.stk with ⟨_,h0⟩ | ⟨gs,caps,sps,es,_,gs1,gs2,gs3,hS⟩
 ·simp at h0
 simp only at es gs1 gs3 hS
 subst es
 have hlen : (pre ++ [(⟨fk,cv,kl⟩ : Fr)]).length = pre.length + 1 := by simp
 rw [hlen] at gs1 gs3 hvar hW hfl
 have hown := hW.kid ⟨fk,cv,kl⟩ (by simp)
 have hSl : (encs Fr.cells (pre ++ [(⟨fk,cv,kl⟩ : Fr)]) ++ sps).length = (pre.length + 1) * 3 + sps.length := by rw [List.length_append,encs_len Fr.len,hlen]
 have hn := hW.nod
 have hoff := hW.off
 have hn2 := hn
 rw [muts_app] at hn2
 have hn3 := List.nodup_append.1 hn2
 refine ⟨gs,pre.length,caps,pos,cv,kl,Q,_,hvar,gs1,by omega,?_,hown,e4,hks ⟨fk,cv,kl⟩ (by simp),fun t ht => hW.ok ⟨fk,cv,kl⟩ (by simp) t ht,hW.undQ,hS,by rw [hSl]; omega,?_,?_,?_,?_,?_,?_⟩
 ·have := hS.cells _ _ (top_cell (pre := pre) (f := ⟨fk,cv,kl⟩) (sp := sps) 2 (by decide))
  rw [Nat.zero_add] at this
  rw [show 0 + (((pre.length + 1 : Nat) : Int) - 1).toNat * 3 + 2 = pre.length * 3 + 2 by omega]
  exact this
 ·intro e
  simp only [Pg.muts,List.nodup_cons] at hn
  exact hn.1 (by simp [Value.ownBlock,e])
 ·exact (hoff gs (by simp [Pg.muts,Value.ownBlock])).2
 ·intro e
  exact hn3.2.2 gs (by simp [Value.ownBlock]) gs (by simp [← e]) rfl
 ·exact (hoff gs (by simp [Pg.muts,Value.ownBlock])).1
 ·intro b hb
  exact hoff b (by rw [muts_app]; exact List.mem_append_right _ (by simp [hb]))
 ·intro w' cv' kids' G a' hB hG hV hO hfr hok ha hka
  have hV2 : Var w' gs (encs Fr.cells (pre ++ [⟨fk,cv',kids'⟩]) ++ sps) 43 := by
   have := top_set (pre := pre) (f := ⟨fk,cv,kl⟩) (sp := sps) cv'
   rw [show encs Fr.cells (pre ++ [⟨fk,cv',kids'⟩]) = encs Fr.cells (pre ++ [⟨fk,cv',kl⟩]) by simp [encs,Fr.cells],← this]
   exact hV
  obtain ⟨q1,q2⟩ := hW.top hB (fun z h1 h2 h3 => hG z h1 (fun e => h2 (by rw [e]; rfl)) h3) (whole_ownG (Nat.zero_le _) ((encs_len Fr.len _).trans (by simp)) gs1 gs2 gs3 hV2) hO hfr hok
  refine ⟨⟨_,q1,rfl,hd,hpos,?_,fun x hx => ?_,?_⟩,q2⟩
  ·simp only [List.map_append,em,List.map_cons,List.map_nil,e3]
  ·rcases List.mem_append.1 hx with hx | hx
   ·have := hks x (by simp [hx])
    simp only
    omega
   ·obtain rfl : x = ⟨fk,cv',kids'⟩ := by simpa using hx
    exact hka
  ·simp only [List.length_append,List.length_singleton]
   omega
theorem TopRow.drop {gs np caps pos : Nat} {cv : Value} {kl : List Gt} {Q : Fs} {old : List Value} (h : TopRow w0 tv toks F w bP below k s gs np caps pos cv kl Q old) (hne : s.kids ≠ []) : ∃ gk capk,cv = .slice (some ⟨gk,0,none⟩) (kl.length - 1 + 1) capk ∧ kl.length - 1 + 1 ≤ capk ∧ kl.length = kl.length - 1 + 1 ∧
  ∀ w',Upd gs w w' → Var w' gs (old.take (np * 3 + 2) ++ [.slice (some ⟨gk,0,none⟩) (kl.length - 1) capk] ++ old.drop (np * 3 + 2 + 1)) 43 → Ps w0 tv toks F w' bP below k { s with kids := s.kids.dropLast } ∧ Bw F w w' := by
 have hkn : kl ≠ [] := fun e => hne (by rw [← h.er,e]; rfl)
 have hpos : 0 < kl.length := List.length_pos_iff.2 hkn
 rcases own_wholeG h.own with ⟨_,h0⟩ | ⟨gk,capk,spk,ek,_,gk1,gk2,gk3,hK⟩
 ·omega
 refine ⟨gk,capk,by rw [ek]; congr 1; omega,by omega,by omega,fun w' hu hv => ?_⟩
 have hsn : kl = kl.dropLast ++ [kl.getLast hkn] := (List.dropLast_concat_getLast hkn).symm
 have hngk : gk ≠ gs := fun e => h.nk (by rw [ek,e]; rfl)
 have hl : kl.dropLast.length = kl.length - 1 := List.length_dropLast
 have hfw := h.few
 have hK' := hK.upd hu hngk
 obtain ⟨q1,q2⟩ := h.next w' (.slice (some ⟨gk,0,none⟩) (kl.length - 1) capk) kl.dropLast (fun z => z ≠ gs) s.adds (Bw.upd hu fun hh => hh rfl) (fun z _ h2 _ => h2) hv
  (by
   rw [hl]
   refine whole_ownG (sp := (kl.getLast hkn).cells ++ spk) (Nat.zero_le _) ((encs_len Gt.len _).trans (by rw [hl])) (by omega) gk2 (by rw [List.length_append,Gt.len,gk3]; omega) ?_
   rw [← List.append_assoc,← encs_one Gt.cells (kl.getLast hkn),← encs_app,← hsn]
   exact hK')
  (fun b hb => .inl (by rw [ek]; exact hb)) (fun t ht => h.ok t (List.dropLast_subset _ ht)) (Nat.le_refl _) (by rw [hl]; omega)
 refine ⟨?_,q2⟩
 have : erL kl.dropLast = s.kids.dropLast := by rw [← h.er,erL_map,erL_map,List.map_dropLast]
 rw [this] at q1
 exact q1
end Go.Proofs.YtiogccmfmjhipaaGreatDoor.Par
namespace Go.Proofs.YtiogccmfmjhipaaGreatDoor.Par
set_option maxRecDepth 20000
open Go.Gx Go.RowKit Go.Lib
open Lexi (Asc)
section
variable {w0 : World} {tv : Value} {toks : List Tok} {F : Fs} {w w' : World} {bP : Nat} {below : List (Int × List Tr)} {k : Int} {s r : S} {n : Nat}
theorem clo_174_true (hC : Cx w0 tv toks) (hD : ∀ m,m < n → DN w0 tv toks m) {b0 : Nat} (hv_b0 : Var w b0 [.pointer (some ⟨bP,0,none⟩)] 100) (hF_b0 : F b0) {b1 : Nat} (hv_b1 : Var w b1 [.bool true] 4) (hF_b1 : F b1) : Clo w0 tv toks n F bP 298 [] [.pointer (some ⟨b0,0,none⟩),.pointer (some ⟨b1,0,none⟩)] w (.cond (at1 [⟨#[59]⟩]) .bump .skip) := by
 refine ⟨Tryz.call298,fun w1 hw1 below k s r hp hr hb => ?_⟩
 replace hv_b0 := var_bw hv_b0 hw1 hF_b0
 replace hv_b1 := var_bw hv_b1 hw1 hF_b1
 show Cl Tryz.prog 298 #[.pointer (some ⟨b0,0,none⟩),.pointer (some ⟨b1,0,none⟩)] w1 _
 have hbw := Bw.refl F w1
 have hsub : ∀ z,F z → F z := fun z h => h
 have hbase := hp.base
 refine Cl.enter Tryz.func298 rfl Tryz.ntmps298 rfl rfl ?_
 cases haq1 : (isAt [⟨#[59]⟩] (sig1 s.rem)) with
 | true =>
  have hq2 := run_condT hr haq1
  refine .sr (.t2 (t_load ty100 rfl (hv_b0.g 0 rfl)) (Rg.wd trivial (w_buildSlice (bs38_1 _) rfl) rfl ?_))
  rintro _ w1 ⟨bt3,rfl,qt3,hx1,hvt3⟩
  replace hbw := bS hbw hp.und hsub hx1
  replace hp := hp.extw hx1
  replace hv_b0 := hv_b0.ext hx1
  replace hv_b1 := hv_b1.ext hx1
  obtain rfl := run_bump' hq2
  refine Rg.wd trivial (w_call Tryz.call100 rfl (acc_T hC hp (texts := [⟨#[59]⟩]) hvt3 (by decide) haq1 hb)) rfl ?_
  rintro _ w2 ⟨rfl,hp1,hb2⟩
  replace hv_b0 := var_bw hv_b0 hb2 hF_b0
  replace hv_b1 := var_bw hv_b1 hb2 hF_b1
  replace hbw := hbw.trans (hb2.sub hsub)
  clear hp
  have hp := hp1
  clear hp1
  refine .t2 (t_notB rfl) (.m2 rfl (.so rfl rfl (.so rfl rfl (.t2 (t_pickF rfl rfl) (.done (.condF rfl (Wp.skip ?_)))))))
  exact ⟨[],trivial,hp.sub hsub hbase,hbw⟩
 | false =>
  have hq2 := run_condF hr haq1
  obtain rfl := run_skip' hq2
  refine .sr (.t2 (t_load ty100 rfl (hv_b0.g 0 rfl)) (Rg.wd trivial (w_buildSlice (bs38_1 _) rfl) rfl ?_))
  rintro _ w1 ⟨bt3,rfl,qt3,hx1,hvt3⟩
  replace hbw := bS hbw hp.und hsub hx1
  replace hp := hp.extw hx1
  replace hv_b0 := hv_b0.ext hx1
  replace hv_b1 := hv_b1.ext hx1
  refine Rg.wd trivial (w_call Tryz.call100 rfl (acc_F hC hp (texts := [⟨#[59]⟩]) hvt3 (by decide) haq1)) rfl ?_
  rintro _ w2 ⟨rfl,hp1,hb2⟩
  replace hv_b0 := var_bw hv_b0 hb2 hF_b0
  replace hv_b1 := var_bw hv_b1 hb2 hF_b1
  replace hbw := hbw.trans (hb2.sub hsub)
  clear hp
  have hp := hp1
  clear hp1
  refine .t2 (t_notB rfl) (.m2 rfl (.g2 (t_load ty4 rfl (hv_b1.g 0 rfl)) (.g2 (t_notB rfl) (.t2 (t_pickT rfl rfl) (.done (.condF rfl (Wp.skip ?_)))))))
  exact ⟨[],trivial,hp.sub hsub hbase,hbw⟩
theorem clo_174_false (hC : Cx w0 tv toks) (hD : ∀ m,m < n → DN w0 tv toks m) {b0 : Nat} (hv_b0 : Var w b0 [.pointer (some ⟨bP,0,none⟩)] 100) (hF_b0 : F b0) {b1 : Nat} (hv_b1 : Var w b1 [.bool false] 4) (hF_b1 : F b1) : Clo w0 tv toks n F bP 298 [] [.pointer (some ⟨b0,0,none⟩),.pointer (some ⟨b1,0,none⟩)] w (.cond (at1 [⟨#[59]⟩]) .bump (.leaf 108)) := by
 refine ⟨Tryz.call298,fun w1 hw1 below k s r hp hr hb => ?_⟩
 replace hv_b0 := var_bw hv_b0 hw1 hF_b0
 replace hv_b1 := var_bw hv_b1 hw1 hF_b1
 show Cl Tryz.prog 298 #[.pointer (some ⟨b0,0,none⟩),.pointer (some ⟨b1,0,none⟩)] w1 _
 have hbw := Bw.refl F w1
 have hsub : ∀ z,F z → F z := fun z h => h
 have hbase := hp.base
 refine Cl.enter Tryz.func298 rfl Tryz.ntmps298 rfl rfl ?_
 cases haq1 : (isAt [⟨#[59]⟩] (sig1 s.rem)) with
 | true =>
  have hq2 := run_condT hr haq1
  refine .sr (.t2 (t_load ty100 rfl (hv_b0.g 0 rfl)) (Rg.wd trivial (w_buildSlice (bs38_1 _) rfl) rfl ?_))
  rintro _ w1 ⟨bt3,rfl,qt3,hx1,hvt3⟩
  replace hbw := bS hbw hp.und hsub hx1
  replace hp := hp.extw hx1
  replace hv_b0 := hv_b0.ext hx1
  replace hv_b1 := hv_b1.ext hx1
  obtain rfl := run_bump' hq2
  refine Rg.wd trivial (w_call Tryz.call100 rfl (acc_T hC hp (texts := [⟨#[59]⟩]) hvt3 (by decide) haq1 hb)) rfl ?_
  rintro _ w2 ⟨rfl,hp1,hb2⟩
  replace hv_b0 := var_bw hv_b0 hb2 hF_b0
  replace hv_b1 := var_bw hv_b1 hb2 hF_b1
  replace hbw := hbw.trans (hb2.sub hsub)
  clear hp
  have hp := hp1
  clear hp1
  refine .t2 (t_notB rfl) (.m2 rfl (.so rfl rfl (.so rfl rfl (.t2 (t_pickF rfl rfl) (.done (.condF rfl (Wp.skip ?_)))))))
  exact ⟨[],trivial,hp.sub hsub hbase,hbw⟩
 | false =>
  have hq2 := run_condF hr haq1
  refine .sr (.t2 (t_load ty100 rfl (hv_b0.g 0 rfl)) (Rg.wd trivial (w_buildSlice (bs38_1 _) rfl) rfl ?_))
  rintro _ w1 ⟨bt3,rfl,qt3,hx1,hvt3⟩
  replace hbw := bS hbw hp.und hsub hx1
  replace hp := hp.extw hx1
  replace hv_b0 := hv_b0.ext hx1
  replace hv_b1 := hv_b1.ext hx1
  refine Rg.wd trivial (w_call Tryz.call100 rfl (acc_F hC hp (texts := [⟨#[59]⟩]) hvt3 (by decide) haq1)) rfl ?_
  rintro _ w2 ⟨rfl,hp1,hb2⟩
  replace hv_b0 := var_bw hv_b0 hb2 hF_b0
  replace hv_b1 := var_bw hv_b1 hb2 hF_b1
  replace hbw := hbw.trans (hb2.sub hsub)
  clear hp
  have hp := hp1
  clear hp1
  refine .t2 (t_notB rfl) (.m2 rfl (.g2 (t_load ty4 rfl (hv_b1.g 0 rfl)) (.g2 (t_notB rfl) (.t2 (t_pickT rfl rfl) (.done (.condT rfl (Wp.region (.t2 (t_load ty100 rfl (hv_b0.g 0 rfl)) (Rg.wd trivial (w_call Tryz.call214 rfl (D_missing hp hq2 hb)) rfl ?_)))))))))
  rintro _ w3 ⟨hp1,hb3⟩
  replace hv_b0 := var_bw hv_b0 hb3 hF_b0
  replace hv_b1 := var_bw hv_b1 hb3 hF_b1
  replace hbw := hbw.trans (hb3.sub hsub)
  clear hp
  have hp := hp1
  clear hp1
  refine .done ?_
  exact ⟨[],trivial,hp.sub hsub hbase,hbw⟩
theorem Ps.val (hC : Cx w0 tv toks) (hp : Ps w0 tv toks F w bP below k s) : V s.rem := by
 obtain ⟨g,_,_,h2,_⟩ := hp
 rw [← h2]
 exact fun t ht => hC.val t (List.mem_of_mem_drop ht)
theorem qk_ne {x : Nm} {q : S} (hx : single x = true) (hpre : Pre x s) (hv : V s.rem) (h : run body n (.call x) s = some q) : q.kids ≠ [] := by
 obtain ⟨m,q',h1,t,g⟩ := (ends x s hv hpre).one hx
 rw [run_unique h h1,g.kids]
 simp
theorem N_statement (hC : Cx w0 tv toks) (hD : ∀ m,m < n → DN w0 tv toks m) (hp : Ps w0 tv toks F w bP below k s) (hr : run body n (body .statement) s = some r) (hb : r.adds ≤ big) :
  Cl Tryz.prog 258 #[.pointer (some ⟨bP,0,none⟩)] w (fun u w' => (Nm.statement = Nm.statement → u = .bool r.flag) ∧ Ps w0 tv toks F w' bP below k r ∧ Bw F w w') := by
 have hbw := Bw.refl F w
 have hsub : ∀ z,F z → F z := fun z h => h
 have hbase := hp.base
 have hr : run body n (.cond (at1 [⟨#[108,101,116]⟩]) (.seq (.node 22 (.call .letS)) (.flag false)) (.cond (at1 [⟨#[119,104,105,108,101]⟩]) (.seq (.node 24 (.seq .bump (.seq Cmd.expr (.call .block)))) (.flag false)) (.cond (at1 [⟨#[114,101,116,117,114,110]⟩]) (.seq (.node 25 (.call .returnS)) (.flag false)) (.cond (at1 [⟨#[105,102]⟩,⟨#[109,97,116,99,104]⟩,⟨#[123]⟩]) (.prog (.call .primary) (.seq .drop (.seq Cmd.unexpected (.flag false))) (.cond (at1 [⟨#[125]⟩]) (.flag true) (.seq (.cond (at1 [⟨#[61]⟩]) (.wrap 23 (.seq .bump (.seq Cmd.expr (Cmd.exp ⟨#[59]⟩)))) (.wrap 26 (.cond (at1 [⟨#[59]⟩]) .bump .skip))) (.flag false)))) (.prog Cmd.expr (.seq .drop (.seq Cmd.unexpected (.flag false))) (.cond (at1 [⟨#[125]⟩]) (.flag true) (.seq (.cond (at1 [⟨#[61]⟩]) (.wrap 23 (.seq .bump (.seq Cmd.expr (Cmd.exp ⟨#[59]⟩)))) (.wrap 26 (.cond (at1 [⟨#[59]⟩]) .bump (.leaf 108)))) (.flag false)))))))) s = some r := hr
 refine Cl.enter Tryz.func258 rfl Tryz.ntmps258 rfl rfl (.sr (Rg.wd trivial (w_boxed rfl rfl) rfl ?_))
 rintro _ w1 ⟨bx154_1,rfl,qbx154_1,hx1,hv_bx154_1⟩
 replace hbw := bS hbw hp.und hsub hx1
 obtain ⟨F_bx154_1,hp1,hF_bx154_1,hs1⟩ := hp.box hx1 qbx154_1 hv_bx154_1.lt
 clear hp
 have hp := hp1
 clear hp1
 replace hsub := fun z hz => hs1 z (hsub z hz)
 refine .a2 rfl (.done (.seq (Wp.block ?_)))
 cases haq1 : (isAt [⟨#[108,101,116]⟩] (sig1 s.rem)) with
 | true =>
  have hq2 := run_condT hr haq1
  refine .sr (.t2 (t_load ty100 rfl (hv_bx154_1.g 0 rfl)) (Rg.wd trivial (w_buildSlice (bs38_1 _) rfl) rfl ?_))
  rintro _ w2 ⟨bt8,rfl,qt8,hx2,hvt8⟩
  replace hbw := bS hbw hp.und hsub hx2
  replace hp := hp.extw hx2
  replace hv_bx154_1 := hv_bx154_1.ext hx2
  refine Rg.wd trivial (w_call Tryz.call94 rfl (at_ok hC hp (texts := [⟨#[108,101,116]⟩]) hvt8 (by decide))) rfl ?_
  rintro _ w3 ⟨rfl,hx3⟩
  replace hbw := bS hbw hp.und hsub hx3
  replace hp := hp.extw hx3
  replace hv_bx154_1 := hv_bx154_1.ext hx3
  try replace hvt8 := hvt8.ext hx3
  rw [show (isAt [⟨#[108,101,116]⟩] (sig1 s.rem)) = true from haq1]
  refine .a2 rfl (.done (.condT rfl (.sr (.t2 (t_load ty100 rfl (hv_bx154_1.g 0 rfl)) (.t2 (t_load ty100 rfl (hv_bx154_1.g 0 rfl)) (.t2 (t_makeFuncB (us := [.pointer (some ⟨bP,0,none⟩)]) (vs := []) rfl rfl) ?_))))))
  obtain ⟨s1,h1a,h1b⟩ := run_seq' hq2
  refine Rg.wd trivial (w_call Tryz.call98 rfl (D_node hp (clo_call Tryz.call293 hD (.letS)) h1a (adds_le h1b hb))) rfl ?_
  rintro _ w4 ⟨hp1,hb4⟩
  replace hv_bx154_1 := var_bw hv_bx154_1 hb4 hF_bx154_1
  replace hbw := hbw.trans (hb4.sub hsub)
  clear hp
  have hp := hp1
  clear hp1
  refine .done ?_
  have hp1 : Ps w0 tv toks F_bx154_1 w4 bP below k r := by rw [run_flag' h1b]; exact hp
  clear hp
  have hp := hp1
  clear hp1
  have hfl_r : r.flag = false := by rw [run_flag' h1b]
  refine .sr (.a2 rfl (.done (Wp.ret ?_)))
  exact ⟨[_],⟨rfl,trivial⟩,(fun _ => by rw [hfl_r]; rfl),hp.sub hsub hbase,hbw⟩
 | false =>
  have hq2 := run_condF hr haq1
  refine .sr (.t2 (t_load ty100 rfl (hv_bx154_1.g 0 rfl)) (Rg.wd trivial (w_buildSlice (bs38_1 _) rfl) rfl ?_))
  rintro _ w2 ⟨bt8,rfl,qt8,hx2,hvt8⟩
  replace hbw := bS hbw hp.und hsub hx2
  replace hp := hp.extw hx2
  replace hv_bx154_1 := hv_bx154_1.ext hx2
  refine Rg.wd trivial (w_call Tryz.call94 rfl (at_ok hC hp (texts := [⟨#[108,101,116]⟩]) hvt8 (by decide))) rfl ?_
  rintro _ w3 ⟨rfl,hx3⟩
  replace hbw := bS hbw hp.und hsub hx3
  replace hp := hp.extw hx3
  replace hv_bx154_1 := hv_bx154_1.ext hx3
  try replace hvt8 := hvt8.ext hx3
  rw [show (isAt [⟨#[108,101,116]⟩] (sig1 s.rem)) = false from haq1]
  refine .a2 rfl (.done (.condF rfl ?_))
  cases haq3 : (isAt [⟨#[119,104,105,108,101]⟩] (sig1 s.rem)) with
  | true =>
   have hq4 := run_condT hq2 haq3
   refine .sr (.t2 (t_load ty100 rfl (hv_bx154_1.g 0 rfl)) (Rg.wd trivial (w_buildSlice (bs38_1 _) rfl) rfl ?_))
   rintro _ w4 ⟨bt16,rfl,qt16,hx4,hvt16⟩
   replace hbw := bS hbw hp.und hsub hx4
   replace hp := hp.extw hx4
   replace hv_bx154_1 := hv_bx154_1.ext hx4
   try replace hvt8 := hvt8.ext hx4
   refine Rg.wd trivial (w_call Tryz.call94 rfl (at_ok hC hp (texts := [⟨#[119,104,105,108,101]⟩]) hvt16 (by decide))) rfl ?_
   rintro _ w5 ⟨rfl,hx5⟩
   replace hbw := bS hbw hp.und hsub hx5
   replace hp := hp.extw hx5
   replace hv_bx154_1 := hv_bx154_1.ext hx5
   try replace hvt8 := hvt8.ext hx5
   try replace hvt16 := hvt16.ext hx5
   rw [show (isAt [⟨#[119,104,105,108,101]⟩] (sig1 s.rem)) = true from haq3]
   refine .a2 rfl (.done (.condT rfl (.sr (.t2 (t_load ty100 rfl (hv_bx154_1.g 0 rfl)) (.t2 (t_makeFuncB (us := []) (vs := [.pointer (some ⟨bx154_1,0,none⟩)]) rfl rfl) ?_)))))
   obtain ⟨s1,h1a,h1b⟩ := run_seq' hq4
   refine Rg.wd trivial (w_call Tryz.call98 rfl (D_node hp (clo_170 hC hD hv_bx154_1 hF_bx154_1) h1a (adds_le h1b hb))) rfl ?_
   rintro _ w6 ⟨hp1,hb6⟩
   replace hv_bx154_1 := var_bw hv_bx154_1 hb6 hF_bx154_1
   replace hbw := hbw.trans (hb6.sub hsub)
   clear hp
   have hp := hp1
   clear hp1
   refine .done ?_
   have hp1 : Ps w0 tv toks F_bx154_1 w6 bP below k r := by rw [run_flag' h1b]; exact hp
   clear hp
   have hp := hp1
   clear hp1
   have hfl_r : r.flag = false := by rw [run_flag' h1b]
   refine .sr (.a2 rfl (.done (Wp.ret ?_)))
   exact ⟨[_],⟨rfl,trivial⟩,(fun _ => by rw [hfl_r]; rfl),hp.sub hsub hbase,hbw⟩
  | false =>
   have hq4 := run_condF hq2 haq3
   refine .sr (.t2 (t_load ty100 rfl (hv_bx154_1.g 0 rfl)) (Rg.wd trivial (w_buildSlice (bs38_1 _) rfl) rfl ?_))
   rintro _ w4 ⟨bt16,rfl,qt16,hx4,hvt16⟩
   replace hbw := bS hbw hp.und hsub hx4
   replace hp := hp.extw hx4
   replace hv_bx154_1 := hv_bx154_1.ext hx4
   try replace hvt8 := hvt8.ext hx4
   refine Rg.wd trivial (w_call Tryz.call94 rfl (at_ok hC hp (texts := [⟨#[119,104,105,108,101]⟩]) hvt16 (by decide))) rfl ?_
   rintro _ w5 ⟨rfl,hx5⟩
   replace hbw := bS hbw hp.und hsub hx5
   replace hp := hp.extw hx5
   replace hv_bx154_1 := hv_bx154_1.ext hx5
   try replace hvt8 := hvt8.ext hx5
   try replace hvt16 := hvt16.ext hx5
   rw [show (isAt [⟨#[119,104,105,108,101]⟩] (sig1 s.rem)) = false from haq3]
   refine .a2 rfl (.done (.condF rfl ?_))
   cases haq5 : (isAt [⟨#[114,101,116,117,114,110]⟩] (sig1 s.rem)) with
   | true =>
    have hq6 := run_condT hq4 haq5
    refine .sr (.t2 (t_load ty100 rfl (hv_bx154_1.g 0 rfl)) (Rg.wd trivial (w_buildSlice (bs38_1 _) rfl) rfl ?_))
    rintro _ w6 ⟨bt23,rfl,qt23,hx6,hvt23⟩
    replace hbw := bS hbw hp.und hsub hx6
    replace hp := hp.extw hx6
    replace hv_bx154_1 := hv_bx154_1.ext hx6
    try replace hvt8 := hvt8.ext hx6
    try replace hvt16 := hvt16.ext hx6
    refine Rg.wd trivial (w_call Tryz.call94 rfl (at_ok hC hp (texts := [⟨#[114,101,116,117,114,110]⟩]) hvt23 (by decide))) rfl ?_
    rintro _ w7 ⟨rfl,hx7⟩
    replace hbw := bS hbw hp.und hsub hx7
    replace hp := hp.extw hx7
    replace hv_bx154_1 := hv_bx154_1.ext hx7
    try replace hvt8 := hvt8.ext hx7
    try replace hvt16 := hvt16.ext hx7
    try replace hvt23 := hvt23.ext hx7
    rw [show (isAt [⟨#[114,101,116,117,114,110]⟩] (sig1 s.rem)) = true from haq5]
    refine .a2 rfl (.done (.condT rfl (.sr (.t2 (t_load ty100 rfl (hv_bx154_1.g 0 rfl)) (.t2 (t_load ty100 rfl (hv_bx154_1.g 0 rfl)) (.t2 (t_makeFuncB (us := [.pointer (some ⟨bP,0,none⟩)]) (vs := []) rfl rfl) ?_))))))
    obtain ⟨s1,h1a,h1b⟩ := run_seq' hq6
    refine Rg.wd trivial (w_call Tryz.call98 rfl (D_node hp (clo_call Tryz.call295 hD (.returnS)) h1a (adds_le h1b hb))) rfl ?_
    rintro _ w8 ⟨hp1,hb8⟩
    replace hv_bx154_1 := var_bw hv_bx154_1 hb8 hF_bx154_1
    replace hbw := hbw.trans (hb8.sub hsub)
    clear hp
    have hp := hp1
    clear hp1
    refine .done ?_
    have hp1 : Ps w0 tv toks F_bx154_1 w8 bP below k r := by rw [run_flag' h1b]; exact hp
    clear hp
    have hp := hp1
    clear hp1
    have hfl_r : r.flag = false := by rw [run_flag' h1b]
    refine .sr (.a2 rfl (.done (Wp.ret ?_)))
    exact ⟨[_],⟨rfl,trivial⟩,(fun _ => by rw [hfl_r]; rfl),hp.sub hsub hbase,hbw⟩
   | false =>
    have hq6 := run_condF hq4 haq5
    refine .sr (.t2 (t_load ty100 rfl (hv_bx154_1.g 0 rfl)) (Rg.wd trivial (w_buildSlice (bs38_1 _) rfl) rfl ?_))
    rintro _ w6 ⟨bt23,rfl,qt23,hx6,hvt23⟩
    replace hbw := bS hbw hp.und hsub hx6
    replace hp := hp.extw hx6
    replace hv_bx154_1 := hv_bx154_1.ext hx6
    try replace hvt8 := hvt8.ext hx6
    try replace hvt16 := hvt16.ext hx6
    refine Rg.wd trivial (w_call Tryz.call94 rfl (at_ok hC hp (texts := [⟨#[114,101,116,117,114,110]⟩]) hvt23 (by decide))) rfl ?_
    rintro _ w7 ⟨rfl,hx7⟩
    replace hbw := bS hbw hp.und hsub hx7
    replace hp := hp.extw hx7
    replace hv_bx154_1 := hv_bx154_1.ext hx7
    try replace hvt8 := hvt8.ext hx7
    try replace hvt16 := hvt16.ext hx7
    try replace hvt23 := hvt23.ext hx7
    rw [show (isAt [⟨#[114,101,116,117,114,110]⟩] (sig1 s.rem)) = false from haq5]
    refine .a2 rfl (.done (.condF rfl (Wp.skip (.sr (.t2 (t_load ty100 rfl (hv_bx154_1.g 0 rfl)) (.t2 (t_nilCheck rfl) (.t2 (t_fieldAddr fa102_1 rfl) ?_)))))))
    obtain ⟨gp1,_,_,hg1,hl1,hvp1⟩ := hp.var
    have hgl1 := congrArg List.length hg1
    rw [List.length_drop] at hgl1
    refine .t2 (t_load ty3 rfl (hvp1.g 1 rfl)) (.a2 rfl (.done ?_))
    cases haq7 : (isAt [⟨#[105,102]⟩,⟨#[109,97,116,99,104]⟩,⟨#[123]⟩] (sig1 s.rem)) with
    | true =>
     have hq8 := run_condT hq6 haq7
     refine .sr (.t2 (t_load ty100 rfl (hv_bx154_1.g 0 rfl)) (Rg.wd trivial (w_buildSlice (bs38_3 _ _ _) rfl) rfl ?_))
     rintro _ w8 ⟨bt34,rfl,qt34,hx8,hvt34⟩
     replace hbw := bS hbw hp.und hsub hx8
     replace hp := hp.extw hx8
     replace hv_bx154_1 := hv_bx154_1.ext hx8
     try replace hvt8 := hvt8.ext hx8
     try replace hvt16 := hvt16.ext hx8
     try replace hvt23 := hvt23.ext hx8
     refine Rg.wd trivial (w_call Tryz.call94 rfl (at_ok hC hp (texts := [⟨#[105,102]⟩,⟨#[109,97,116,99,104]⟩,⟨#[123]⟩]) hvt34 (by decide))) rfl ?_
     rintro _ w9 ⟨rfl,hx9⟩
     replace hbw := bS hbw hp.und hsub hx9
     replace hp := hp.extw hx9
     replace hv_bx154_1 := hv_bx154_1.ext hx9
     try replace hvt8 := hvt8.ext hx9
     try replace hvt16 := hvt16.ext hx9
     try replace hvt23 := hvt23.ext hx9
     try replace hvt34 := hvt34.ext hx9
     rw [show (isAt [⟨#[105,102]⟩,⟨#[109,97,116,99,104]⟩,⟨#[123]⟩] (sig1 s.rem)) = true from haq7]
     have hlo_bx154_4 := hp.ext.le
     have hlt_bx154_4_bx154_1 := hv_bx154_1.lt
     have hun_bx154_4 := fun z hz => hp.und z (hsub z hz)
     refine Rg.wd trivial (w_new Tryz.zeroValue4 rfl) rfl ?_
     rintro _ w10 ⟨bx154_4,rfl,qbx154_4,hx10,hv_bx154_4⟩
     replace hbw := bS hbw hp.und hsub hx10
     obtain ⟨F_bx154_4,hp1,hF_bx154_4,hs10⟩ := hp.box hx10 qbx154_4 hv_bx154_4.lt
     clear hp
     have hp := hp1
     clear hp1
     replace hsub := fun z hz => hs10 z (hsub z hz)
     replace hv_bx154_1 := hv_bx154_1.ext hx10
     replace hF_bx154_1 := hs10 _ hF_bx154_1
     try replace hvt8 := hvt8.ext hx10
     try replace hvt16 := hvt16.ext hx10
     try replace hvt23 := hvt23.ext hx10
     try replace hvt34 := hvt34.ext hx10
     have hn_bx154_4 : ¬ F bx154_4 := fun hh => by have := hun_bx154_4 _ hh; omega
     have hw_bx154_4 : w0.heap.size ≤ bx154_4 := by omega
     have hne_bx154_4_bx154_1 : bx154_1 ≠ bx154_4 := by omega
     refine Rg.wn trivial (w_put hv_bx154_4 rfl rfl rfl ty4 rfl rfl) ?_
     rintro _ w11 ⟨hu11,hvn⟩
     replace hbw := hbw.trans (Bw.upd hu11 hn_bx154_4)
     replace hp := hp.updF hu11 hF_bx154_4 hw_bx154_4
     clear hv_bx154_4
     have hv_bx154_4 := hvn
     clear hvn
     replace hv_bx154_1 := hv_bx154_1.upd hu11 hne_bx154_4_bx154_1
     clear hvt8
     clear hvt16
     clear hvt23
     clear hvt34
     refine .done (.seq (.sr (.t2 (t_load ty4 rfl (hv_bx154_4.g 0 rfl)) (.done (.condT rfl (Wp.region (.t2 (t_load ty100 rfl (hv_bx154_1.g 0 rfl)) ?_)))))))
     have hvs := hp.val hC
     obtain ⟨q,hq,hsame,hmore⟩ := run_prog' hq8
     have hqb : q.adds ≤ big := by
      by_cases e : q.rem.length = s.rem.length
      ·exact adds_le (hsame e) hb
      ·exact adds_le (hmore e) hb
     refine Rg.wd trivial (w_call Tryz.call296 rfl (D_call hD hp hq hqb)) rfl ?_
     rintro _ w12 ⟨hst,hp1,hb12⟩
     replace hv_bx154_1 := var_bw hv_bx154_1 hb12 hF_bx154_1
     replace hv_bx154_4 := var_bw hv_bx154_4 hb12 hF_bx154_4
     replace hbw := hbw.trans (hb12.sub hsub)
     clear hp
     have hp := hp1
     clear hp1
     refine .done (.seq (Wp.block ?_))
     cases haq9 : (decide (q.rem.length = s.rem.length)) with
     | true =>
      refine .sr (.t2 (t_load ty100 rfl (hv_bx154_1.g 0 rfl)) (.t2 (t_nilCheck rfl) (.t2 (t_fieldAddr fa102_1 rfl) ?_)))
      obtain ⟨gp2,_,_,hg2,hl2,hvp2⟩ := hp.var
      have hgl2 := congrArg List.length hg2
      rw [List.length_drop] at hgl2
      refine .t2 (t_load ty3 rfl (hvp2.g 1 rfl)) (.m2 rfl ?_)
      refine .t2 (t_eqlT rfl rfl (by have := of_decide_eq_true haq9; omega)) ?_
      refine .a2 rfl (.done (.condT rfl ?_))
      have hsa := hsame (of_decide_eq_true haq9)
      have hqk : q.kids ≠ [] := by
       exact qk_ne (x := .primary) rfl trivial hvs hq
      obtain ⟨gs,np,caps,ppos,cvk,kl,Q,old,tr0⟩ := hp.topRow
      refine Wp.seq (Wp.draw [0,1,2,3,4,5,6,7,8,9,10,11] [] mixed (by kernel_rfl) (by kernel_rfl) ?_)
      intro w13 hx13 _
      replace hbw := bS hbw hp.und hsub hx13
      replace hp := hp.extw hx13
      replace hv_bx154_1 := hv_bx154_1.ext hx13
      replace hv_bx154_4 := hv_bx154_4.ext hx13
      obtain ⟨gs,np,caps,ppos,cvk,kl,Q,old,tr⟩ := hp.topRow
      have trcap := tr.cap
      have trs := tr.small
      have hqb2 : q.adds ≤ 1000000000 := hqb
      refine .t2 (t_load ty100 rfl (hv_bx154_1.g 0 rfl)) (.t2 (t_nilCheck rfl) (.t2 (t_fieldAddr fa102_2 rfl) (.t2 (t_load ty41 rfl (tr.var.g 2 rfl)) (.t2 (t_load ty100 rfl (hv_bx154_1.g 0 rfl)) (.t2 (t_nilCheck rfl) (.t2 (t_fieldAddr fa102_2 rfl) (.t2 (t_load ty41 rfl (tr.var.g 2 rfl)) (.t2 (t_lenS Tryz.underlying41 rfl) ?_))))))))
      refine .t2 (t_subI rfl rfl (by omega)) ?_
      refine .t2 (t_indexAddrL Tryz.underlying41 ty43 rfl rfl (by omega)) ?_
      refine .a2 rfl (.done ?_)
      refine Wp.seq (Wp.draw [0,1,2,3,4,5,6,7,8,9,10,11,12,13,14] [0] mixed (by kernel_rfl) (by kernel_rfl) ?_)
      intro w14 hx14 _
      replace hbw := bS hbw hp.und hsub hx14
      replace hp := hp.extw hx14
      replace hv_bx154_1 := hv_bx154_1.ext hx14
      replace hv_bx154_4 := hv_bx154_4.ext hx14
      obtain ⟨gs2,np2,caps2,ppos2,cvk2,kl2,Q2,old2,tr2⟩ := hp.topRow
      have e := Option.some.inj ((tr.var.ext hx14).symm.trans tr2.var)
      simp at e
      obtain ⟨_,rfl,rfl,rfl⟩ := e
      clear tr
      have tr := tr2
      clear tr2
      obtain ⟨gk,capk,rfl,hck,hkk,trd⟩ := tr.drop hqk
      have trc := tr.cell
      have trf := tr.few
      refine .m2 rfl (.m2 rfl (.t2 (t_nilCheck rfl) (.t2 (t_fieldAddr fa43_2 rfl) (.t2 (t_load ty41 rfl trc) (.m2 rfl (.t2 (t_nilCheck rfl) (.t2 (t_fieldAddr fa43_2 rfl) (.t2 (t_load ty41 rfl trc) (.t2 (t_lenS Tryz.underlying41 rfl) ?_)))))))))
      refine .t2 (t_subI rfl rfl (by omega)) ?_
      refine .t2 (t_sliceL Tryz.underlying41 ty43 rfl rfl rfl (by omega)) ?_
      have e5 : Value.slice (some (if capk = (0 : Int).toNat then (⟨gk,0,none⟩ : Addr) else ⟨gk,0 + (0 : Int).toNat * 3,none⟩)) ((((kl2.length - 1 + 1 : Nat) : Int) - 1).toNat - (0 : Int).toNat) (capk - (0 : Int).toNat) = .slice (some ⟨gk,0,none⟩) (kl2.length - 1) capk := by
       rw [if_neg (by simp; omega),show ((((kl2.length - 1 + 1 : Nat) : Int) - 1).toNat - (0 : Int).toNat) = kl2.length - 1 by omega,show capk - (0 : Int).toNat = capk by omega,show 0 + (0 : Int).toNat * 3 = 0 by omega]
      rw [e5]
      refine .t2 (t_nilCheck rfl) (.t2 (t_fieldAddr fa43_2 rfl) ?_)
      have hoS : 0 + (((np + 1 : Nat) : Int) - 1).toNat * 3 + 2 = np * 3 + 2 := by omega
      have trl := tr.len
      refine Rg.wnB trivial rfl (w_putAt (cs := [.slice (some ⟨gk,0,none⟩) (kl2.length - 1) capk]) tr.row rfl rfl rfl ty41 (by rw [hoS]; simp only [List.length_singleton]; omega) (by intro u hu; simp at hu; subst hu; rfl)) (by rfl) ?_
      rintro _ w15 ⟨hu15,hvS⟩
      rw [hoS] at hvS
      obtain ⟨hpd,hbd⟩ := trd _ hu15 hvS
      replace hbw := hbw.trans (hbd.sub hsub)
      replace hv_bx154_1 := var_bw hv_bx154_1 hbd hF_bx154_1
      replace hv_bx154_4 := var_bw hv_bx154_4 hbd hF_bx154_4
      refine .done ?_
      obtain ⟨s1,h1a,h1b⟩ := run_seq' hsa
      have hp1 : Ps w0 tv toks F_bx154_4 w15 bP below k s1 := by rw [run_drop' h1a]; exact hpd
      clear hp
      have hp := hp1
      clear hp1
      refine .sr (.t2 (t_load ty100 rfl (hv_bx154_1.g 0 rfl)) ?_)
      obtain ⟨s2,h2a,h2b⟩ := run_seq' h1b
      refine Rg.wd trivial (w_call Tryz.call260 rfl (D_unexp hC hp h2a (adds_le h2b hb))) rfl ?_
      rintro _ w16 ⟨hp1,hb16⟩
      replace hv_bx154_1 := var_bw hv_bx154_1 hb16 hF_bx154_1
      replace hv_bx154_4 := var_bw hv_bx154_4 hb16 hF_bx154_4
      replace hbw := hbw.trans (hb16.sub hsub)
      clear hp
      have hp := hp1
      clear hp1
      refine .done ?_
      have hp1 : Ps w0 tv toks F_bx154_4 w16 bP below k r := by rw [run_flag' h2b]; exact hp
      clear hp
      have hp := hp1
      clear hp1
      have hfl_r : r.flag = false := by rw [run_flag' h2b]
      refine .sr (.a2 rfl (.done (Wp.ret ?_)))
      exact ⟨[_],⟨rfl,trivial⟩,(fun _ => by rw [hfl_r]; rfl),hp.sub hsub hbase,hbw⟩
     | false =>
      refine .sr (.t2 (t_load ty100 rfl (hv_bx154_1.g 0 rfl)) (.t2 (t_nilCheck rfl) (.t2 (t_fieldAddr fa102_1 rfl) ?_)))
      obtain ⟨gp2,_,_,hg2,hl2,hvp2⟩ := hp.var
      have hgl2 := congrArg List.length hg2
      rw [List.length_drop] at hgl2
      refine .t2 (t_load ty3 rfl (hvp2.g 1 rfl)) (.m2 rfl ?_)
      refine .t2 (t_eqlF rfl rfl (by have := of_decide_eq_false haq9; omega)) ?_
      refine .a2 rfl (.done (.condF rfl ?_))
      have hmo := hmore (of_decide_eq_false haq9)
      cases haq10 : (isAt [⟨#[125]⟩] (sig1 q.rem)) with
      | true =>
       have hq11 := run_condT hmo haq10
       refine .sr (.t2 (t_load ty100 rfl (hv_bx154_1.g 0 rfl)) (Rg.wd trivial (w_buildSlice (bs38_1 _) rfl) rfl ?_))
       rintro _ w13 ⟨bt80,rfl,qt80,hx13,hvt80⟩
       replace hbw := bS hbw hp.und hsub hx13
       replace hp := hp.extw hx13
       replace hv_bx154_1 := hv_bx154_1.ext hx13
       replace hv_bx154_4 := hv_bx154_4.ext hx13
       refine Rg.wd trivial (w_call Tryz.call94 rfl (at_ok hC hp (texts := [⟨#[125]⟩]) hvt80 (by decide))) rfl ?_
       rintro _ w14 ⟨rfl,hx14⟩
       replace hbw := bS hbw hp.und hsub hx14
       replace hp := hp.extw hx14
       replace hv_bx154_1 := hv_bx154_1.ext hx14
       replace hv_bx154_4 := hv_bx154_4.ext hx14
       try replace hvt80 := hvt80.ext hx14
       rw [show (isAt [⟨#[125]⟩] (sig1 q.rem)) = true from haq10]
       refine .a2 rfl (.done ?_)
       have hp1 : Ps w0 tv toks F_bx154_4 w14 bP below k r := by rw [run_flag' hq11]; exact hp
       clear hp
       have hp := hp1
       clear hp1
       have hfl_r : r.flag = true := by rw [run_flag' hq11]
       refine .condT rfl (.sr (.a2 rfl (.done (Wp.ret ?_))))
       exact ⟨[_],⟨rfl,trivial⟩,(fun _ => by rw [hfl_r]; rfl),hp.sub hsub hbase,hbw⟩
      | false =>
       have hq11 := run_condF hmo haq10
       obtain ⟨s1,h1a,h1b⟩ := run_seq' hq11
       refine .sr (.t2 (t_load ty100 rfl (hv_bx154_1.g 0 rfl)) (Rg.wd trivial (w_buildSlice (bs38_1 _) rfl) rfl ?_))
       rintro _ w13 ⟨bt80,rfl,qt80,hx13,hvt80⟩
       replace hbw := bS hbw hp.und hsub hx13
       replace hp := hp.extw hx13
       replace hv_bx154_1 := hv_bx154_1.ext hx13
       replace hv_bx154_4 := hv_bx154_4.ext hx13
       refine Rg.wd trivial (w_call Tryz.call94 rfl (at_ok hC hp (texts := [⟨#[125]⟩]) hvt80 (by decide))) rfl ?_
       rintro _ w14 ⟨rfl,hx14⟩
       replace hbw := bS hbw hp.und hsub hx14
       replace hp := hp.extw hx14
       replace hv_bx154_1 := hv_bx154_1.ext hx14
       replace hv_bx154_4 := hv_bx154_4.ext hx14
       try replace hvt80 := hvt80.ext hx14
       rw [show (isAt [⟨#[125]⟩] (sig1 q.rem)) = false from haq10]
       refine .a2 rfl (.done (.condF rfl ?_))
       cases haq12 : (isAt [⟨#[61]⟩] (sig1 q.rem)) with
       | true =>
        have hq13 := run_condT h1a haq12
        refine .sr (.t2 (t_load ty100 rfl (hv_bx154_1.g 0 rfl)) (Rg.wd trivial (w_buildSlice (bs38_1 _) rfl) rfl ?_))
        rintro _ w15 ⟨bt84,rfl,qt84,hx15,hvt84⟩
        replace hbw := bS hbw hp.und hsub hx15
        replace hp := hp.extw hx15
        replace hv_bx154_1 := hv_bx154_1.ext hx15
        replace hv_bx154_4 := hv_bx154_4.ext hx15
        try replace hvt80 := hvt80.ext hx15
        refine Rg.wd trivial (w_call Tryz.call94 rfl (at_ok hC hp (texts := [⟨#[61]⟩]) hvt84 (by decide))) rfl ?_
        rintro _ w16 ⟨rfl,hx16⟩
        replace hbw := bS hbw hp.und hsub hx16
        replace hp := hp.extw hx16
        replace hv_bx154_1 := hv_bx154_1.ext hx16
        replace hv_bx154_4 := hv_bx154_4.ext hx16
        try replace hvt80 := hvt80.ext hx16
        try replace hvt84 := hvt84.ext hx16
        rw [show (isAt [⟨#[61]⟩] (sig1 q.rem)) = true from haq12]
        refine .a2 rfl (.done (.condT rfl (Wp.region (.t2 (t_load ty100 rfl (hv_bx154_1.g 0 rfl)) (.t2 (t_makeFuncB (us := []) (vs := [.pointer (some ⟨bx154_1,0,none⟩)]) rfl rfl) (Rg.wd trivial (w_call Tryz.call267 rfl (D_wrap hp (clo_173 hC hD hv_bx154_1 hF_bx154_1) hq13 (adds_le h1b hb))) rfl ?_))))))
        rintro _ w17 ⟨hp1,hb17⟩
        replace hv_bx154_1 := var_bw hv_bx154_1 hb17 hF_bx154_1
        replace hv_bx154_4 := var_bw hv_bx154_4 hb17 hF_bx154_4
        replace hbw := hbw.trans (hb17.sub hsub)
        clear hp
        have hp := hp1
        clear hp1
        refine .done ?_
        have hp1 : Ps w0 tv toks F_bx154_4 w17 bP below k r := by rw [run_flag' h1b]; exact hp
        clear hp
        have hp := hp1
        clear hp1
        have hfl_r : r.flag = false := by rw [run_flag' h1b]
        refine .sr (.a2 rfl (.done (Wp.ret ?_)))
        exact ⟨[_],⟨rfl,trivial⟩,(fun _ => by rw [hfl_r]; rfl),hp.sub hsub hbase,hbw⟩
       | false =>
        have hq13 := run_condF h1a haq12
        refine .sr (.t2 (t_load ty100 rfl (hv_bx154_1.g 0 rfl)) (Rg.wd trivial (w_buildSlice (bs38_1 _) rfl) rfl ?_))
        rintro _ w15 ⟨bt84,rfl,qt84,hx15,hvt84⟩
        replace hbw := bS hbw hp.und hsub hx15
        replace hp := hp.extw hx15
        replace hv_bx154_1 := hv_bx154_1.ext hx15
        replace hv_bx154_4 := hv_bx154_4.ext hx15
        try replace hvt80 := hvt80.ext hx15
        refine Rg.wd trivial (w_call Tryz.call94 rfl (at_ok hC hp (texts := [⟨#[61]⟩]) hvt84 (by decide))) rfl ?_
        rintro _ w16 ⟨rfl,hx16⟩
        replace hbw := bS hbw hp.und hsub hx16
        replace hp := hp.extw hx16
        replace hv_bx154_1 := hv_bx154_1.ext hx16
        replace hv_bx154_4 := hv_bx154_4.ext hx16
        try replace hvt80 := hvt80.ext hx16
        try replace hvt84 := hvt84.ext hx16
        rw [show (isAt [⟨#[61]⟩] (sig1 q.rem)) = false from haq12]
        refine .a2 rfl (.done (.condF rfl (Wp.region (.t2 (t_load ty100 rfl (hv_bx154_1.g 0 rfl)) (.t2 (t_makeFuncB (us := []) (vs := [.pointer (some ⟨bx154_1,0,none⟩),.pointer (some ⟨bx154_4,0,none⟩)]) rfl rfl) (Rg.wd trivial (w_call Tryz.call267 rfl (D_wrap hp (clo_174_true hC hD hv_bx154_1 hF_bx154_1 hv_bx154_4 hF_bx154_4) hq13 (adds_le h1b hb))) rfl ?_))))))
        rintro _ w17 ⟨hp1,hb17⟩
        replace hv_bx154_1 := var_bw hv_bx154_1 hb17 hF_bx154_1
        replace hv_bx154_4 := var_bw hv_bx154_4 hb17 hF_bx154_4
        replace hbw := hbw.trans (hb17.sub hsub)
        clear hp
        have hp := hp1
        clear hp1
        refine .done ?_
        have hp1 : Ps w0 tv toks F_bx154_4 w17 bP below k r := by rw [run_flag' h1b]; exact hp
        clear hp
        have hp := hp1
        clear hp1
        have hfl_r : r.flag = false := by rw [run_flag' h1b]
        refine .sr (.a2 rfl (.done (Wp.ret ?_)))
        exact ⟨[_],⟨rfl,trivial⟩,(fun _ => by rw [hfl_r]; rfl),hp.sub hsub hbase,hbw⟩
    | false =>
     have hq8 := run_condF hq6 haq7
     refine .sr (.t2 (t_load ty100 rfl (hv_bx154_1.g 0 rfl)) (Rg.wd trivial (w_buildSlice (bs38_3 _ _ _) rfl) rfl ?_))
     rintro _ w8 ⟨bt34,rfl,qt34,hx8,hvt34⟩
     replace hbw := bS hbw hp.und hsub hx8
     replace hp := hp.extw hx8
     replace hv_bx154_1 := hv_bx154_1.ext hx8
     try replace hvt8 := hvt8.ext hx8
     try replace hvt16 := hvt16.ext hx8
     try replace hvt23 := hvt23.ext hx8
     refine Rg.wd trivial (w_call Tryz.call94 rfl (at_ok hC hp (texts := [⟨#[105,102]⟩,⟨#[109,97,116,99,104]⟩,⟨#[123]⟩]) hvt34 (by decide))) rfl ?_
     rintro _ w9 ⟨rfl,hx9⟩
     replace hbw := bS hbw hp.und hsub hx9
     replace hp := hp.extw hx9
     replace hv_bx154_1 := hv_bx154_1.ext hx9
     try replace hvt8 := hvt8.ext hx9
     try replace hvt16 := hvt16.ext hx9
     try replace hvt23 := hvt23.ext hx9
     try replace hvt34 := hvt34.ext hx9
     rw [show (isAt [⟨#[105,102]⟩,⟨#[109,97,116,99,104]⟩,⟨#[123]⟩] (sig1 s.rem)) = false from haq7]
     have hlo_bx154_4 := hp.ext.le
     have hlt_bx154_4_bx154_1 := hv_bx154_1.lt
     have hun_bx154_4 := fun z hz => hp.und z (hsub z hz)
     refine Rg.wd trivial (w_new Tryz.zeroValue4 rfl) rfl ?_
     rintro _ w10 ⟨bx154_4,rfl,qbx154_4,hx10,hv_bx154_4⟩
     replace hbw := bS hbw hp.und hsub hx10
     obtain ⟨F_bx154_4,hp1,hF_bx154_4,hs10⟩ := hp.box hx10 qbx154_4 hv_bx154_4.lt
     clear hp
     have hp := hp1
     clear hp1
     replace hsub := fun z hz => hs10 z (hsub z hz)
     replace hv_bx154_1 := hv_bx154_1.ext hx10
     replace hF_bx154_1 := hs10 _ hF_bx154_1
     try replace hvt8 := hvt8.ext hx10
     try replace hvt16 := hvt16.ext hx10
     try replace hvt23 := hvt23.ext hx10
     try replace hvt34 := hvt34.ext hx10
     have hn_bx154_4 : ¬ F bx154_4 := fun hh => by have := hun_bx154_4 _ hh; omega
     have hw_bx154_4 : w0.heap.size ≤ bx154_4 := by omega
     have hne_bx154_4_bx154_1 : bx154_1 ≠ bx154_4 := by omega
     refine Rg.wn trivial (w_put hv_bx154_4 rfl rfl rfl ty4 rfl rfl) ?_
     rintro _ w11 ⟨hu11,hvn⟩
     replace hbw := hbw.trans (Bw.upd hu11 hn_bx154_4)
     replace hp := hp.updF hu11 hF_bx154_4 hw_bx154_4
     clear hv_bx154_4
     have hv_bx154_4 := hvn
     clear hvn
     replace hv_bx154_1 := hv_bx154_1.upd hu11 hne_bx154_4_bx154_1
     clear hvt8
     clear hvt16
     clear hvt23
     clear hvt34
     refine .done (.seq (.sr (.t2 (t_load ty4 rfl (hv_bx154_4.g 0 rfl)) (.done (.condF rfl (Wp.region (.t2 (t_load ty100 rfl (hv_bx154_1.g 0 rfl)) ?_)))))))
     have hvs := hp.val hC
     obtain ⟨q,hq,hsame,hmore⟩ := run_prog' hq8
     have hqb : q.adds ≤ big := by
      by_cases e : q.rem.length = s.rem.length
      ·exact adds_le (hsame e) hb
      ·exact adds_le (hmore e) hb
     refine Rg.wd trivial (w_call Tryz.call158 rfl (D_expr hC hD hp hq hqb)) rfl ?_
     rintro _ w12 ⟨hp1,hb12⟩
     replace hv_bx154_1 := var_bw hv_bx154_1 hb12 hF_bx154_1
     replace hv_bx154_4 := var_bw hv_bx154_4 hb12 hF_bx154_4
     replace hbw := hbw.trans (hb12.sub hsub)
     clear hp
     have hp := hp1
     clear hp1
     refine .done (.seq (Wp.block ?_))
     cases haq9 : (decide (q.rem.length = s.rem.length)) with
     | true =>
      refine .sr (.t2 (t_load ty100 rfl (hv_bx154_1.g 0 rfl)) (.t2 (t_nilCheck rfl) (.t2 (t_fieldAddr fa102_1 rfl) ?_)))
      obtain ⟨gp2,_,_,hg2,hl2,hvp2⟩ := hp.var
      have hgl2 := congrArg List.length hg2
      rw [List.length_drop] at hgl2
      refine .t2 (t_load ty3 rfl (hvp2.g 1 rfl)) (.m2 rfl ?_)
      refine .t2 (t_eqlT rfl rfl (by have := of_decide_eq_true haq9; omega)) ?_
      refine .a2 rfl (.done (.condT rfl ?_))
      have hsa := hsame (of_decide_eq_true haq9)
      have hqk : q.kids ≠ [] := by
       exact qk_ne (x := .binary 0) rfl (Nat.zero_le 5) hvs hq
      obtain ⟨gs,np,caps,ppos,cvk,kl,Q,old,tr0⟩ := hp.topRow
      refine Wp.seq (Wp.draw [0,1,2,3,4,5,6,7,8,9,10,11] [] mixed (by kernel_rfl) (by kernel_rfl) ?_)
      intro w13 hx13 _
      replace hbw := bS hbw hp.und hsub hx13
      replace hp := hp.extw hx13
      replace hv_bx154_1 := hv_bx154_1.ext hx13
      replace hv_bx154_4 := hv_bx154_4.ext hx13
      obtain ⟨gs,np,caps,ppos,cvk,kl,Q,old,tr⟩ := hp.topRow
      have trcap := tr.cap
      have trs := tr.small
      have hqb2 : q.adds ≤ 1000000000 := hqb
      refine .t2 (t_load ty100 rfl (hv_bx154_1.g 0 rfl)) (.t2 (t_nilCheck rfl) (.t2 (t_fieldAddr fa102_2 rfl) (.t2 (t_load ty41 rfl (tr.var.g 2 rfl)) (.t2 (t_load ty100 rfl (hv_bx154_1.g 0 rfl)) (.t2 (t_nilCheck rfl) (.t2 (t_fieldAddr fa102_2 rfl) (.t2 (t_load ty41 rfl (tr.var.g 2 rfl)) (.t2 (t_lenS Tryz.underlying41 rfl) ?_))))))))
      refine .t2 (t_subI rfl rfl (by omega)) ?_
      refine .t2 (t_indexAddrL Tryz.underlying41 ty43 rfl rfl (by omega)) ?_
      refine .a2 rfl (.done ?_)
      refine Wp.seq (Wp.draw [0,1,2,3,4,5,6,7,8,9,10,11,12,13,14] [0] mixed (by kernel_rfl) (by kernel_rfl) ?_)
      intro w14 hx14 _
      replace hbw := bS hbw hp.und hsub hx14
      replace hp := hp.extw hx14
      replace hv_bx154_1 := hv_bx154_1.ext hx14
      replace hv_bx154_4 := hv_bx154_4.ext hx14
      obtain ⟨gs2,np2,caps2,ppos2,cvk2,kl2,Q2,old2,tr2⟩ := hp.topRow
      have e := Option.some.inj ((tr.var.ext hx14).symm.trans tr2.var)
      simp at e
      obtain ⟨_,rfl,rfl,rfl⟩ := e
      clear tr
      have tr := tr2
      clear tr2
      obtain ⟨gk,capk,rfl,hck,hkk,trd⟩ := tr.drop hqk
      have trc := tr.cell
      have trf := tr.few
      refine .m2 rfl (.m2 rfl (.t2 (t_nilCheck rfl) (.t2 (t_fieldAddr fa43_2 rfl) (.t2 (t_load ty41 rfl trc) (.m2 rfl (.t2 (t_nilCheck rfl) (.t2 (t_fieldAddr fa43_2 rfl) (.t2 (t_load ty41 rfl trc) (.t2 (t_lenS Tryz.underlying41 rfl) ?_)))))))))
      refine .t2 (t_subI rfl rfl (by omega)) ?_
      refine .t2 (t_sliceL Tryz.underlying41 ty43 rfl rfl rfl (by omega)) ?_
      have e5 : Value.slice (some (if capk = (0 : Int).toNat then (⟨gk,0,none⟩ : Addr) else ⟨gk,0 + (0 : Int).toNat * 3,none⟩)) ((((kl2.length - 1 + 1 : Nat) : Int) - 1).toNat - (0 : Int).toNat) (capk - (0 : Int).toNat) = .slice (some ⟨gk,0,none⟩) (kl2.length - 1) capk := by
       rw [if_neg (by simp; omega),show ((((kl2.length - 1 + 1 : Nat) : Int) - 1).toNat - (0 : Int).toNat) = kl2.length - 1 by omega,show capk - (0 : Int).toNat = capk by omega,show 0 + (0 : Int).toNat * 3 = 0 by omega]
      rw [e5]
      refine .t2 (t_nilCheck rfl) (.t2 (t_fieldAddr fa43_2 rfl) ?_)
      have hoS : 0 + (((np + 1 : Nat) : Int) - 1).toNat * 3 + 2 = np * 3 + 2 := by omega
      have trl := tr.len
      refine Rg.wnB trivial rfl (w_putAt (cs := [.slice (some ⟨gk,0,none⟩) (kl2.length - 1) capk]) tr.row rfl rfl rfl ty41 (by rw [hoS]; simp only [List.length_singleton]; omega) (by intro u hu; simp at hu; subst hu; rfl)) (by rfl) ?_
      rintro _ w15 ⟨hu15,hvS⟩
      rw [hoS] at hvS
      obtain ⟨hpd,hbd⟩ := trd _ hu15 hvS
      replace hbw := hbw.trans (hbd.sub hsub)
      replace hv_bx154_1 := var_bw hv_bx154_1 hbd hF_bx154_1
      replace hv_bx154_4 := var_bw hv_bx154_4 hbd hF_bx154_4
      refine .done ?_
      obtain ⟨s1,h1a,h1b⟩ := run_seq' hsa
      have hp1 : Ps w0 tv toks F_bx154_4 w15 bP below k s1 := by rw [run_drop' h1a]; exact hpd
      clear hp
      have hp := hp1
      clear hp1
      refine .sr (.t2 (t_load ty100 rfl (hv_bx154_1.g 0 rfl)) ?_)
      obtain ⟨s2,h2a,h2b⟩ := run_seq' h1b
      refine Rg.wd trivial (w_call Tryz.call260 rfl (D_unexp hC hp h2a (adds_le h2b hb))) rfl ?_
      rintro _ w16 ⟨hp1,hb16⟩
      replace hv_bx154_1 := var_bw hv_bx154_1 hb16 hF_bx154_1
      replace hv_bx154_4 := var_bw hv_bx154_4 hb16 hF_bx154_4
      replace hbw := hbw.trans (hb16.sub hsub)
      clear hp
      have hp := hp1
      clear hp1
      refine .done ?_
      have hp1 : Ps w0 tv toks F_bx154_4 w16 bP below k r := by rw [run_flag' h2b]; exact hp
      clear hp
      have hp := hp1
      clear hp1
      have hfl_r : r.flag = false := by rw [run_flag' h2b]
      refine .sr (.a2 rfl (.done (Wp.ret ?_)))
      exact ⟨[_],⟨rfl,trivial⟩,(fun _ => by rw [hfl_r]; rfl),hp.sub hsub hbase,hbw⟩
     | false =>
      refine .sr (.t2 (t_load ty100 rfl (hv_bx154_1.g 0 rfl)) (.t2 (t_nilCheck rfl) (.t2 (t_fieldAddr fa102_1 rfl) ?_)))
      obtain ⟨gp2,_,_,hg2,hl2,hvp2⟩ := hp.var
      have hgl2 := congrArg List.length hg2
      rw [List.length_drop] at hgl2
      refine .t2 (t_load ty3 rfl (hvp2.g 1 rfl)) (.m2 rfl ?_)
      refine .t2 (t_eqlF rfl rfl (by have := of_decide_eq_false haq9; omega)) ?_
      refine .a2 rfl (.done (.condF rfl ?_))
      have hmo := hmore (of_decide_eq_false haq9)
      cases haq10 : (isAt [⟨#[125]⟩] (sig1 q.rem)) with
      | true =>
       have hq11 := run_condT hmo haq10
       refine .sr (.t2 (t_load ty100 rfl (hv_bx154_1.g 0 rfl)) (Rg.wd trivial (w_buildSlice (bs38_1 _) rfl) rfl ?_))
       rintro _ w13 ⟨bt80,rfl,qt80,hx13,hvt80⟩
       replace hbw := bS hbw hp.und hsub hx13
       replace hp := hp.extw hx13
       replace hv_bx154_1 := hv_bx154_1.ext hx13
       replace hv_bx154_4 := hv_bx154_4.ext hx13
       refine Rg.wd trivial (w_call Tryz.call94 rfl (at_ok hC hp (texts := [⟨#[125]⟩]) hvt80 (by decide))) rfl ?_
       rintro _ w14 ⟨rfl,hx14⟩
       replace hbw := bS hbw hp.und hsub hx14
       replace hp := hp.extw hx14
       replace hv_bx154_1 := hv_bx154_1.ext hx14
       replace hv_bx154_4 := hv_bx154_4.ext hx14
       try replace hvt80 := hvt80.ext hx14
       rw [show (isAt [⟨#[125]⟩] (sig1 q.rem)) = true from haq10]
       refine .a2 rfl (.done ?_)
       have hp1 : Ps w0 tv toks F_bx154_4 w14 bP below k r := by rw [run_flag' hq11]; exact hp
       clear hp
       have hp := hp1
       clear hp1
       have hfl_r : r.flag = true := by rw [run_flag' hq11]
       refine .condT rfl (.sr (.a2 rfl (.done (Wp.ret ?_))))
       exact ⟨[_],⟨rfl,trivial⟩,(fun _ => by rw [hfl_r]; rfl),hp.sub hsub hbase,hbw⟩
      | false =>
       have hq11 := run_condF hmo haq10
       obtain ⟨s1,h1a,h1b⟩ := run_seq' hq11
       refine .sr (.t2 (t_load ty100 rfl (hv_bx154_1.g 0 rfl)) (Rg.wd trivial (w_buildSlice (bs38_1 _) rfl) rfl ?_))
       rintro _ w13 ⟨bt80,rfl,qt80,hx13,hvt80⟩
       replace hbw := bS hbw hp.und hsub hx13
       replace hp := hp.extw hx13
       replace hv_bx154_1 := hv_bx154_1.ext hx13
       replace hv_bx154_4 := hv_bx154_4.ext hx13
       refine Rg.wd trivial (w_call Tryz.call94 rfl (at_ok hC hp (texts := [⟨#[125]⟩]) hvt80 (by decide))) rfl ?_
       rintro _ w14 ⟨rfl,hx14⟩
       replace hbw := bS hbw hp.und hsub hx14
       replace hp := hp.extw hx14
       replace hv_bx154_1 := hv_bx154_1.ext hx14
       replace hv_bx154_4 := hv_bx154_4.ext hx14
       try replace hvt80 := hvt80.ext hx14
       rw [show (isAt [⟨#[125]⟩] (sig1 q.rem)) = false from haq10]
       refine .a2 rfl (.done (.condF rfl ?_))
       cases haq12 : (isAt [⟨#[61]⟩] (sig1 q.rem)) with
       | true =>
        have hq13 := run_condT h1a haq12
        refine .sr (.t2 (t_load ty100 rfl (hv_bx154_1.g 0 rfl)) (Rg.wd trivial (w_buildSlice (bs38_1 _) rfl) rfl ?_))
        rintro _ w15 ⟨bt84,rfl,qt84,hx15,hvt84⟩
        replace hbw := bS hbw hp.und hsub hx15
        replace hp := hp.extw hx15
        replace hv_bx154_1 := hv_bx154_1.ext hx15
        replace hv_bx154_4 := hv_bx154_4.ext hx15
        try replace hvt80 := hvt80.ext hx15
        refine Rg.wd trivial (w_call Tryz.call94 rfl (at_ok hC hp (texts := [⟨#[61]⟩]) hvt84 (by decide))) rfl ?_
        rintro _ w16 ⟨rfl,hx16⟩
        replace hbw := bS hbw hp.und hsub hx16
        replace hp := hp.extw hx16
        replace hv_bx154_1 := hv_bx154_1.ext hx16
        replace hv_bx154_4 := hv_bx154_4.ext hx16
        try replace hvt80 := hvt80.ext hx16
        try replace hvt84 := hvt84.ext hx16
        rw [show (isAt [⟨#[61]⟩] (sig1 q.rem)) = true from haq12]
        refine .a2 rfl (.done (.condT rfl (Wp.region (.t2 (t_load ty100 rfl (hv_bx154_1.g 0 rfl)) (.t2 (t_makeFuncB (us := []) (vs := [.pointer (some ⟨bx154_1,0,none⟩)]) rfl rfl) (Rg.wd trivial (w_call Tryz.call267 rfl (D_wrap hp (clo_173 hC hD hv_bx154_1 hF_bx154_1) hq13 (adds_le h1b hb))) rfl ?_))))))
        rintro _ w17 ⟨hp1,hb17⟩
        replace hv_bx154_1 := var_bw hv_bx154_1 hb17 hF_bx154_1
        replace hv_bx154_4 := var_bw hv_bx154_4 hb17 hF_bx154_4
        replace hbw := hbw.trans (hb17.sub hsub)
        clear hp
        have hp := hp1
        clear hp1
        refine .done ?_
        have hp1 : Ps w0 tv toks F_bx154_4 w17 bP below k r := by rw [run_flag' h1b]; exact hp
        clear hp
        have hp := hp1
        clear hp1
        have hfl_r : r.flag = false := by rw [run_flag' h1b]
        refine .sr (.a2 rfl (.done (Wp.ret ?_)))
        exact ⟨[_],⟨rfl,trivial⟩,(fun _ => by rw [hfl_r]; rfl),hp.sub hsub hbase,hbw⟩
       | false =>
        have hq13 := run_condF h1a haq12
        refine .sr (.t2 (t_load ty100 rfl (hv_bx154_1.g 0 rfl)) (Rg.wd trivial (w_buildSlice (bs38_1 _) rfl) rfl ?_))
        rintro _ w15 ⟨bt84,rfl,qt84,hx15,hvt84⟩
        replace hbw := bS hbw hp.und hsub hx15
        replace hp := hp.extw hx15
        replace hv_bx154_1 := hv_bx154_1.ext hx15
        replace hv_bx154_4 := hv_bx154_4.ext hx15
        try replace hvt80 := hvt80.ext hx15
        refine Rg.wd trivial (w_call Tryz.call94 rfl (at_ok hC hp (texts := [⟨#[61]⟩]) hvt84 (by decide))) rfl ?_
        rintro _ w16 ⟨rfl,hx16⟩
        replace hbw := bS hbw hp.und hsub hx16
        replace hp := hp.extw hx16
        replace hv_bx154_1 := hv_bx154_1.ext hx16
        replace hv_bx154_4 := hv_bx154_4.ext hx16
        try replace hvt80 := hvt80.ext hx16
        try replace hvt84 := hvt84.ext hx16
        rw [show (isAt [⟨#[61]⟩] (sig1 q.rem)) = false from haq12]
        refine .a2 rfl (.done (.condF rfl (Wp.region (.t2 (t_load ty100 rfl (hv_bx154_1.g 0 rfl)) (.t2 (t_makeFuncB (us := []) (vs := [.pointer (some ⟨bx154_1,0,none⟩),.pointer (some ⟨bx154_4,0,none⟩)]) rfl rfl) (Rg.wd trivial (w_call Tryz.call267 rfl (D_wrap hp (clo_174_false hC hD hv_bx154_1 hF_bx154_1 hv_bx154_4 hF_bx154_4) hq13 (adds_le h1b hb))) rfl ?_))))))
        rintro _ w17 ⟨hp1,hb17⟩
        replace hv_bx154_1 := var_bw hv_bx154_1 hb17 hF_bx154_1
        replace hv_bx154_4 := var_bw hv_bx154_4 hb17 hF_bx154_4
        replace hbw := hbw.trans (hb17.sub hsub)
        clear hp
        have hp := hp1
        clear hp1
        refine .done ?_
        have hp1 : Ps w0 tv toks F_bx154_4 w17 bP below k r := by rw [run_flag' h1b]; exact hp
        clear hp
        have hp := hp1
        clear hp1
        have hfl_r : r.flag = false := by rw [run_flag' h1b]
        refine .sr (.a2 rfl (.done (Wp.ret ?_)))
        exact ⟨[_],⟨rfl,trivial⟩,(fun _ => by rw [hfl_r]; rfl),hp.sub hsub hbase,hbw⟩
end
section
variable {w0 : World} {tv : Value} {toks : List Tok} {F : Fs} {w w' : World} {bP : Nat} {below : List (Int × List Tr)} {k : Int} {s r : S} {n : Nat}
theorem N_item (hC : Cx w0 tv toks) (hD : ∀ m,m < n → DN w0 tv toks m) (hp : Ps w0 tv toks F w bP below k s) (hr : run body n (body .item) s = some r) (hb : r.adds ≤ big) :
  Cl Tryz.prog 53 #[.pointer (some ⟨bP,0,none⟩)] w (fun u w' => (Nm.item = Nm.statement → u = .bool r.flag) ∧ Ps w0 tv toks F w' bP below k r ∧ Bw F w w') := by
 have hbw := Bw.refl F w
 have hsub : ∀ z,F z → F z := fun z h => h
 have hbase := hp.base
 obtain ⟨kd,hkd⟩ : ∃ kd,itemKind (sig1 s.rem) (sig1 (left s.rem)) = kd := ⟨_,rfl⟩
 replace hr : run body n (if kd = 0 then .call .skipTo else (.node kd (.seq (Cmd.acc ⟨#[112,117,98]⟩) (.seq .bump (.call (.itemBody kd)))))) s = some r := by
  have := run_sel' (f := itemKind) (c := fun kd => if kd = 0 then .call .skipTo else (.node kd (.seq (Cmd.acc ⟨#[112,117,98]⟩) (.seq .bump (.call (.itemBody kd)))))) hr
  rw [hkd] at this
  exact this
 refine Cl.enter Tryz.func53 rfl Tryz.ntmps53 rfl rfl (.sr (Rg.wd trivial (w_boxed rfl rfl) rfl ?_))
 rintro _ w1 ⟨bx26_1,rfl,qbx26_1,hx1,hv_bx26_1⟩
 replace hbw := bS hbw hp.und hsub hx1
 obtain ⟨F_bx26_1,hp1,hF_bx26_1,hs1⟩ := hp.box hx1 qbx26_1 hv_bx26_1.lt
 clear hp
 have hp := hp1
 clear hp1
 replace hsub := fun z hz => hs1 z (hsub z hz)
 refine .done (.sr (.t2 (t_load ty100 rfl (hv_bx26_1.g 0 rfl)) (Rg.wd trivial (w_call Tryz.call93 rfl (hp.peek hC)) rfl ?_)))
 rintro _ w2 ⟨rfl,hx2⟩
 replace hbw := bS hbw hp.und hsub hx2
 replace hp := hp.extw hx2
 replace hv_bx26_1 := hv_bx26_1.ext hx2
 have hlo_bx26_2 := hp.ext.le
 have hlt_bx26_2_bx26_1 := hv_bx26_1.lt
 have hun_bx26_2 := fun z hz => hp.und z (hsub z hz)
 refine Rg.wd trivial (w_new Tryz.zeroValue91 rfl) rfl ?_
 rintro _ w3 ⟨bx26_2,rfl,qbx26_2,hx3,hv_bx26_2⟩
 replace hbw := bS hbw hp.und hsub hx3
 obtain ⟨F_bx26_2,hp1,hF_bx26_2,hs3⟩ := hp.box hx3 qbx26_2 hv_bx26_2.lt
 clear hp
 have hp := hp1
 clear hp1
 replace hsub := fun z hz => hs3 z (hsub z hz)
 replace hv_bx26_1 := hv_bx26_1.ext hx3
 replace hF_bx26_1 := hs3 _ hF_bx26_1
 have hn_bx26_2 : ¬ F bx26_2 := fun hh => by have := hun_bx26_2 _ hh; omega
 have hw_bx26_2 : w0.heap.size ≤ bx26_2 := by omega
 have hne_bx26_2_bx26_1 : bx26_1 ≠ bx26_2 := by omega
 refine Rg.wn trivial (w_put hv_bx26_2 rfl rfl rfl ty91 rfl rfl) ?_
 rintro _ w4 ⟨hu4,hvn⟩
 replace hbw := hbw.trans (Bw.upd hu4 hn_bx26_2)
 replace hp := hp.updF hu4 hF_bx26_2 hw_bx26_2
 clear hv_bx26_2
 have hv_bx26_2 := hvn
 clear hvn
 replace hv_bx26_1 := hv_bx26_1.upd hu4 hne_bx26_2_bx26_1
 refine .done (.seq ?_)
 cases haq1 : (isAt [⟨#[112,117,98]⟩] (sig1 s.rem)) with
 | true =>
  refine .sr (.t2 (t_load ty100 rfl (hv_bx26_1.g 0 rfl)) (Rg.wd trivial (w_buildSlice (bs38_1 _) rfl) rfl ?_))
  rintro _ w5 ⟨bt7,rfl,qt7,hx5,hvt7⟩
  replace hbw := bS hbw hp.und hsub hx5
  replace hp := hp.extw hx5
  replace hv_bx26_1 := hv_bx26_1.ext hx5
  replace hv_bx26_2 := hv_bx26_2.ext hx5
  refine Rg.wd trivial (w_call Tryz.call94 rfl (at_ok hC hp (texts := [⟨#[112,117,98]⟩]) hvt7 (by decide))) rfl ?_
  rintro _ w6 ⟨rfl,hx6⟩
  replace hbw := bS hbw hp.und hsub hx6
  replace hp := hp.extw hx6
  replace hv_bx26_1 := hv_bx26_1.ext hx6
  replace hv_bx26_2 := hv_bx26_2.ext hx6
  try replace hvt7 := hvt7.ext hx6
  rw [show (isAt [⟨#[112,117,98]⟩] (sig1 s.rem)) = true from haq1]
  refine .done (.condT rfl (Wp.region (.t2 (t_load ty100 rfl (hv_bx26_1.g 0 rfl)) (Rg.wd trivial (w_call Tryz.call95 rfl (lookahead_ok hC hp)) rfl ?_))))
  rintro _ w7 ⟨bk10,rfl,hk10,hx7⟩
  replace hbw := bS hbw hp.und hsub hx7
  replace hp := hp.extw hx7
  replace hv_bx26_1 := hv_bx26_1.ext hx7
  replace hv_bx26_2 := hv_bx26_2.ext hx7
  try replace hvt7 := hvt7.ext hx7
  refine Rg.wd trivial (w_call Tryz.call93 rfl (hk10.peek hC)) rfl ?_
  rintro _ w8 ⟨rfl,hx8⟩
  replace hbw := bS hbw hp.und hsub hx8
  replace hp := hp.extw hx8
  replace hv_bx26_1 := hv_bx26_1.ext hx8
  replace hv_bx26_2 := hv_bx26_2.ext hx8
  try replace hvt7 := hvt7.ext hx8
  try replace hk10 := hk10.extw hx8
  rw [look_rem]
  refine Rg.wn trivial (w_put hv_bx26_2 rfl rfl rfl ty91 rfl rfl) ?_
  rintro _ w9 ⟨hu9,hvn⟩
  replace hbw := hbw.trans (Bw.upd hu9 hn_bx26_2)
  replace hp := hp.updF hu9 hF_bx26_2 hw_bx26_2
  clear hv_bx26_2
  have hv_bx26_2 := hvn
  clear hvn
  replace hv_bx26_1 := hv_bx26_1.upd hu9 hne_bx26_2_bx26_1
  clear hvt7
  refine .done (.sr (.t2 (t_fieldAddr fa91_1 rfl) (.t2 (t_load ty9 rfl (hv_bx26_2.g 1 rfl)) (Rg.wd trivial (w_call Tryz.call96 rfl (itemKind_ok (hC.asc.ext hp.ext))) rfl ?_))))
  rintro _ w10 ⟨rfl,hx10⟩
  replace hbw := bS hbw hp.und hsub hx10
  replace hp := hp.extw hx10
  replace hv_bx26_1 := hv_bx26_1.ext hx10
  replace hv_bx26_2 := hv_bx26_2.ext hx10
  try replace hk10 := hk10.extw hx10
  have hlo_bx26_3 := hp.ext.le
  have hlt_bx26_3_bx26_1 := hv_bx26_1.lt
  have hlt_bx26_3_bx26_2 := hv_bx26_2.lt
  have hun_bx26_3 := fun z hz => hp.und z (hsub z hz)
  refine Rg.wd trivial (w_new Tryz.zeroValue3 rfl) rfl ?_
  rintro _ w11 ⟨bx26_3,rfl,qbx26_3,hx11,hv_bx26_3⟩
  replace hbw := bS hbw hp.und hsub hx11
  obtain ⟨F_bx26_3,hp1,hF_bx26_3,hs11⟩ := hp.box hx11 qbx26_3 hv_bx26_3.lt
  clear hp
  have hp := hp1
  clear hp1
  replace hsub := fun z hz => hs11 z (hsub z hz)
  replace hv_bx26_1 := hv_bx26_1.ext hx11
  replace hF_bx26_1 := hs11 _ hF_bx26_1
  replace hv_bx26_2 := hv_bx26_2.ext hx11
  replace hF_bx26_2 := hs11 _ hF_bx26_2
  have hn_bx26_3 : ¬ F bx26_3 := fun hh => by have := hun_bx26_3 _ hh; omega
  have hw_bx26_3 : w0.heap.size ≤ bx26_3 := by omega
  have hne_bx26_3_bx26_1 : bx26_1 ≠ bx26_3 := by omega
  have hne_bx26_3_bx26_2 : bx26_2 ≠ bx26_3 := by omega
  refine Rg.wn trivial (w_put hv_bx26_3 rfl rfl rfl ty3 rfl rfl) ?_
  rintro _ w12 ⟨hu12,hvn⟩
  replace hbw := hbw.trans (Bw.upd hu12 hn_bx26_3)
  replace hp := hp.updF hu12 hF_bx26_3 hw_bx26_3
  clear hv_bx26_3
  have hv_bx26_3 := hvn
  clear hvn
  replace hv_bx26_1 := hv_bx26_1.upd hu12 hne_bx26_3_bx26_1
  replace hv_bx26_2 := hv_bx26_2.upd hu12 hne_bx26_3_bx26_2
  refine .done (.seq ?_)
  cases haq2 : (kindNo (sig1 (left s.rem)).2 == 0) with
  | true =>
   refine .sr (.t2 (t_load ty3 rfl (hv_bx26_3.g 0 rfl)) (.t2 (t_eqlT rfl rfl (beq_iff_eq.1 haq2)) (.m2 rfl (.so rfl rfl (.so rfl rfl (.so rfl rfl (.t2 (t_pickT rfl rfl) (.done (.condT rfl ?_)))))))))
   have hk0 : kd = 0 := by rw [← hkd]; unfold itemKind; simp [haq1,haq2,bne]
   rw [if_pos hk0] at hr
   refine .sr (.t2 (t_load ty100 rfl (hv_bx26_1.g 0 rfl)) (Rg.wd trivial (w_call Tryz.call97 rfl (D_call hD hp hr hb)) rfl ?_))
   rintro _ w13 ⟨hst,hp1,hb13⟩
   replace hv_bx26_1 := var_bw hv_bx26_1 hb13 hF_bx26_1
   replace hv_bx26_2 := var_bw hv_bx26_2 hb13 hF_bx26_2
   replace hv_bx26_3 := var_bw hv_bx26_3 hb13 hF_bx26_3
   replace hbw := hbw.trans (hb13.sub hsub)
   clear hp
   have hp := hp1
   clear hp1
   refine .done (Wp.ret ?_)
   exact ⟨[],trivial,(fun h => by cases h),hp.sub hsub hbase,hbw⟩
  | false =>
   cases haq3 : ((sig1 (left s.rem)).1 == 104) with
   | true =>
    refine .sr (.t2 (t_load ty3 rfl (hv_bx26_3.g 0 rfl)) ?_)
    refine .t2 (t_eqlF rfl rfl (fun e => by rw [beq_iff_eq.2 e] at haq2; cases haq2)) ?_
    refine .m2 rfl (.g2 (t_fieldAddr fa91_0 rfl) (.g2 (t_load ty3 rfl (hv_bx26_2.g 0 rfl)) (.g2 (t_neqF rfl rfl (beq_iff_eq.1 haq3)) (.t2 (t_pickF rfl rfl) (.done (.condF rfl (Wp.skip ?_)))))))
    have hke : kindNo (sig1 (left s.rem)).2 = kd := by rw [← hkd]; unfold itemKind; simp [haq1,haq2,haq3,bne]
    have hk0 : kd ≠ 0 := fun e => by rw [hke,e] at haq2; cases haq2
    rw [if_neg hk0] at hr
    rw [hke] at hv_bx26_3
    refine Wp.region (.t2 (t_load ty100 rfl (hv_bx26_1.g 0 rfl)) (.t2 (t_load ty3 rfl (hv_bx26_3.g 0 rfl)) (.t2 (t_makeFuncB (us := []) (vs := [.pointer (some ⟨bx26_1,0,none⟩),.pointer (some ⟨bx26_3,0,none⟩)]) rfl rfl) (Rg.wd trivial (w_call Tryz.call98 rfl (D_node hp (clo_53 hC hD hv_bx26_1 hF_bx26_1 hv_bx26_3 hF_bx26_3) hr hb)) rfl ?_))))
    rintro _ w13 ⟨hp1,hb13⟩
    replace hv_bx26_1 := var_bw hv_bx26_1 hb13 hF_bx26_1
    replace hv_bx26_2 := var_bw hv_bx26_2 hb13 hF_bx26_2
    replace hv_bx26_3 := var_bw hv_bx26_3 hb13 hF_bx26_3
    replace hbw := hbw.trans (hb13.sub hsub)
    clear hp
    have hp := hp1
    clear hp1
    refine .done ?_
    exact ⟨[],trivial,(fun h => by cases h),hp.sub hsub hbase,hbw⟩
   | false =>
    refine .sr (.t2 (t_load ty3 rfl (hv_bx26_3.g 0 rfl)) ?_)
    refine .t2 (t_eqlF rfl rfl (fun e => by rw [beq_iff_eq.2 e] at haq2; cases haq2)) ?_
    refine .m2 rfl (.g2 (t_fieldAddr fa91_0 rfl) (.g2 (t_load ty3 rfl (hv_bx26_2.g 0 rfl)) ?_))
    refine .g2 (t_neqT rfl rfl (fun e => by rw [beq_iff_eq.2 e] at haq3; cases haq3)) ?_
    refine .t2 (t_pickF rfl rfl) (.done (.condT rfl ?_))
    have hk0 : kd = 0 := by rw [← hkd]; unfold itemKind; simp [haq1,haq2,haq3,bne]
    rw [if_pos hk0] at hr
    refine .sr (.t2 (t_load ty100 rfl (hv_bx26_1.g 0 rfl)) (Rg.wd trivial (w_call Tryz.call97 rfl (D_call hD hp hr hb)) rfl ?_))
    rintro _ w13 ⟨hst,hp1,hb13⟩
    replace hv_bx26_1 := var_bw hv_bx26_1 hb13 hF_bx26_1
    replace hv_bx26_2 := var_bw hv_bx26_2 hb13 hF_bx26_2
    replace hv_bx26_3 := var_bw hv_bx26_3 hb13 hF_bx26_3
    replace hbw := hbw.trans (hb13.sub hsub)
    clear hp
    have hp := hp1
    clear hp1
    refine .done (Wp.ret ?_)
    exact ⟨[],trivial,(fun h => by cases h),hp.sub hsub hbase,hbw⟩
 | false =>
  refine .sr (.t2 (t_load ty100 rfl (hv_bx26_1.g 0 rfl)) (Rg.wd trivial (w_buildSlice (bs38_1 _) rfl) rfl ?_))
  rintro _ w5 ⟨bt7,rfl,qt7,hx5,hvt7⟩
  replace hbw := bS hbw hp.und hsub hx5
  replace hp := hp.extw hx5
  replace hv_bx26_1 := hv_bx26_1.ext hx5
  replace hv_bx26_2 := hv_bx26_2.ext hx5
  refine Rg.wd trivial (w_call Tryz.call94 rfl (at_ok hC hp (texts := [⟨#[112,117,98]⟩]) hvt7 (by decide))) rfl ?_
  rintro _ w6 ⟨rfl,hx6⟩
  replace hbw := bS hbw hp.und hsub hx6
  replace hp := hp.extw hx6
  replace hv_bx26_1 := hv_bx26_1.ext hx6
  replace hv_bx26_2 := hv_bx26_2.ext hx6
  try replace hvt7 := hvt7.ext hx6
  rw [show (isAt [⟨#[112,117,98]⟩] (sig1 s.rem)) = false from haq1]
  refine .done (.condF rfl (Wp.skip (.sr (.t2 (t_fieldAddr fa91_1 rfl) (.t2 (t_load ty9 rfl (hv_bx26_2.g 1 rfl)) (Rg.wd trivial (w_call Tryz.call96 rfl (itemKind_ok (hC.asc.ext hp.ext))) rfl ?_))))))
  rintro _ w7 ⟨rfl,hx7⟩
  replace hbw := bS hbw hp.und hsub hx7
  replace hp := hp.extw hx7
  replace hv_bx26_1 := hv_bx26_1.ext hx7
  replace hv_bx26_2 := hv_bx26_2.ext hx7
  try replace hvt7 := hvt7.ext hx7
  have hlo_bx26_3 := hp.ext.le
  have hlt_bx26_3_bx26_1 := hv_bx26_1.lt
  have hlt_bx26_3_bx26_2 := hv_bx26_2.lt
  have hun_bx26_3 := fun z hz => hp.und z (hsub z hz)
  refine Rg.wd trivial (w_new Tryz.zeroValue3 rfl) rfl ?_
  rintro _ w8 ⟨bx26_3,rfl,qbx26_3,hx8,hv_bx26_3⟩
  replace hbw := bS hbw hp.und hsub hx8
  obtain ⟨F_bx26_3,hp1,hF_bx26_3,hs8⟩ := hp.box hx8 qbx26_3 hv_bx26_3.lt
  clear hp
  have hp := hp1
  clear hp1
  replace hsub := fun z hz => hs8 z (hsub z hz)
  replace hv_bx26_1 := hv_bx26_1.ext hx8
  replace hF_bx26_1 := hs8 _ hF_bx26_1
  replace hv_bx26_2 := hv_bx26_2.ext hx8
  replace hF_bx26_2 := hs8 _ hF_bx26_2
  try replace hvt7 := hvt7.ext hx8
  have hn_bx26_3 : ¬ F bx26_3 := fun hh => by have := hun_bx26_3 _ hh; omega
  have hw_bx26_3 : w0.heap.size ≤ bx26_3 := by omega
  have hne_bx26_3_bx26_1 : bx26_1 ≠ bx26_3 := by omega
  have hne_bx26_3_bx26_2 : bx26_2 ≠ bx26_3 := by omega
  refine Rg.wn trivial (w_put hv_bx26_3 rfl rfl rfl ty3 rfl rfl) ?_
  rintro _ w9 ⟨hu9,hvn⟩
  replace hbw := hbw.trans (Bw.upd hu9 hn_bx26_3)
  replace hp := hp.updF hu9 hF_bx26_3 hw_bx26_3
  clear hv_bx26_3
  have hv_bx26_3 := hvn
  clear hvn
  replace hv_bx26_1 := hv_bx26_1.upd hu9 hne_bx26_3_bx26_1
  replace hv_bx26_2 := hv_bx26_2.upd hu9 hne_bx26_3_bx26_2
  clear hvt7
  refine .done (.seq ?_)
  cases haq2 : (kindNo (sig1 s.rem).2 == 0) with
  | true =>
   refine .sr (.t2 (t_load ty3 rfl (hv_bx26_3.g 0 rfl)) (.t2 (t_eqlT rfl rfl (beq_iff_eq.1 haq2)) (.m2 rfl (.so rfl rfl (.so rfl rfl (.so rfl rfl (.t2 (t_pickT rfl rfl) (.done (.condT rfl ?_)))))))))
   have hk0 : kd = 0 := by rw [← hkd]; unfold itemKind; simp [haq1,haq2,bne]
   rw [if_pos hk0] at hr
   refine .sr (.t2 (t_load ty100 rfl (hv_bx26_1.g 0 rfl)) (Rg.wd trivial (w_call Tryz.call97 rfl (D_call hD hp hr hb)) rfl ?_))
   rintro _ w10 ⟨hst,hp1,hb10⟩
   replace hv_bx26_1 := var_bw hv_bx26_1 hb10 hF_bx26_1
   replace hv_bx26_2 := var_bw hv_bx26_2 hb10 hF_bx26_2
   replace hv_bx26_3 := var_bw hv_bx26_3 hb10 hF_bx26_3
   replace hbw := hbw.trans (hb10.sub hsub)
   clear hp
   have hp := hp1
   clear hp1
   refine .done (Wp.ret ?_)
   exact ⟨[],trivial,(fun h => by cases h),hp.sub hsub hbase,hbw⟩
  | false =>
   cases haq3 : ((sig1 s.rem).1 == 104) with
   | true =>
    refine .sr (.t2 (t_load ty3 rfl (hv_bx26_3.g 0 rfl)) ?_)
    refine .t2 (t_eqlF rfl rfl (fun e => by rw [beq_iff_eq.2 e] at haq2; cases haq2)) ?_
    refine .m2 rfl (.g2 (t_fieldAddr fa91_0 rfl) (.g2 (t_load ty3 rfl (hv_bx26_2.g 0 rfl)) (.g2 (t_neqF rfl rfl (beq_iff_eq.1 haq3)) (.t2 (t_pickF rfl rfl) (.done (.condF rfl (Wp.skip ?_)))))))
    have hke : kindNo (sig1 s.rem).2 = kd := by rw [← hkd]; unfold itemKind; simp [haq1,haq2,haq3,bne]
    have hk0 : kd ≠ 0 := fun e => by rw [hke,e] at haq2; cases haq2
    rw [if_neg hk0] at hr
    rw [hke] at hv_bx26_3
    refine Wp.region (.t2 (t_load ty100 rfl (hv_bx26_1.g 0 rfl)) (.t2 (t_load ty3 rfl (hv_bx26_3.g 0 rfl)) (.t2 (t_makeFuncB (us := []) (vs := [.pointer (some ⟨bx26_1,0,none⟩),.pointer (some ⟨bx26_3,0,none⟩)]) rfl rfl) (Rg.wd trivial (w_call Tryz.call98 rfl (D_node hp (clo_53 hC hD hv_bx26_1 hF_bx26_1 hv_bx26_3 hF_bx26_3) hr hb)) rfl ?_))))
    rintro _ w10 ⟨hp1,hb10⟩
    replace hv_bx26_1 := var_bw hv_bx26_1 hb10 hF_bx26_1
    replace hv_bx26_2 := var_bw hv_bx26_2 hb10 hF_bx26_2
    replace hv_bx26_3 := var_bw hv_bx26_3 hb10 hF_bx26_3
    replace hbw := hbw.trans (hb10.sub hsub)
    clear hp
    have hp := hp1
    clear hp1
    refine .done ?_
    exact ⟨[],trivial,(fun h => by cases h),hp.sub hsub hbase,hbw⟩
   | false =>
    refine .sr (.t2 (t_load ty3 rfl (hv_bx26_3.g 0 rfl)) ?_)
    refine .t2 (t_eqlF rfl rfl (fun e => by rw [beq_iff_eq.2 e] at haq2; cases haq2)) ?_
    refine .m2 rfl (.g2 (t_fieldAddr fa91_0 rfl) (.g2 (t_load ty3 rfl (hv_bx26_2.g 0 rfl)) ?_))
    refine .g2 (t_neqT rfl rfl (fun e => by rw [beq_iff_eq.2 e] at haq3; cases haq3)) ?_
    refine .t2 (t_pickF rfl rfl) (.done (.condT rfl ?_))
    have hk0 : kd = 0 := by rw [← hkd]; unfold itemKind; simp [haq1,haq2,haq3,bne]
    rw [if_pos hk0] at hr
    refine .sr (.t2 (t_load ty100 rfl (hv_bx26_1.g 0 rfl)) (Rg.wd trivial (w_call Tryz.call97 rfl (D_call hD hp hr hb)) rfl ?_))
    rintro _ w10 ⟨hst,hp1,hb10⟩
    replace hv_bx26_1 := var_bw hv_bx26_1 hb10 hF_bx26_1
    replace hv_bx26_2 := var_bw hv_bx26_2 hb10 hF_bx26_2
    replace hv_bx26_3 := var_bw hv_bx26_3 hb10 hF_bx26_3
    replace hbw := hbw.trans (hb10.sub hsub)
    clear hp
    have hp := hp1
    clear hp1
    refine .done (Wp.ret ?_)
    exact ⟨[],trivial,(fun h => by cases h),hp.sub hsub hbase,hbw⟩
end
section
variable {w0 : World} {tv : Value} {toks : List Tok} {F : Fs} {w w' : World} {bP : Nat} {below : List (Int × List Tr)} {k : Int} {s r : S} {n : Nat}
theorem node_okX {X : World → Prop} {F' : Fs} (hFF : ∀ z,F z → F' z) (hX : ∀ a b,X a → Bw F' a b → X b) {k' : Int} {r : S} {cf : FuncId} {fst cap : List Value} (hcf : ∀ (args : Array Value) (w : World),(callFunc cf args).run Tryz.prog w = .ok (.enter cf args) w) (h : Ps w0 tv toks F' w bP below k s)
  (hP : ∀ w1,Bw F' w w1 → Ps w0 tv toks F' w1 bP (below ++ [(k,s.kids)]) k' { s with kids := [],adds := s.adds + 1 } → Cl Tryz.prog cf (fst ++ ([] : List Value) ++ cap).toArray w1 (fun u w2 => Ps w0 tv toks F' w2 bP (below ++ [(k,s.kids)]) k' r ∧ Bw F w1 w2 ∧ X w2)) (h1 : s.adds + 1 ≤ r.adds) (hb : r.adds ≤ big) :
  Cl Tryz.prog 98 #[.pointer (some ⟨bP,0,none⟩),.int .i64 k',.func (.func cf) fst.toArray cap.toArray] w (fun u w' => Ps w0 tv toks F' w' bP below k { r with kids := s.kids ++ [.mk k' nob r.kids] } ∧ Bw F w w' ∧ X w') := by
 have hk1 := h.kids_le
 have hU := h.und
 obtain ⟨g,hW,e0,hd,hpos,hm,hks,hfl⟩ := h
 obtain ⟨gP,sv,pos,frs,Q⟩ := g
 simp only at e0 hd hpos hm hks hfl
 subst e0
 have hb' : s.adds + 1 ≤ 1000000000 := by unfold big at hb; omega
 have hvar := hW.var
 have hown := hW.stk
 simp only at hvar hown
 obtain ⟨pc,cc,rfl⟩ : ∃ pc cc,sv = .slice pc frs.length cc := by
  rcases own_wholeG hown with ⟨rfl,e⟩ | ⟨_,_,_,rfl,_⟩
  ·exact ⟨none,0,by rw [e]⟩
  ·exact ⟨_,_,rfl⟩
 have hx := Ext.refl w
 obtain ⟨i25,hi25,hz25,hsi25,hby25⟩ := inf43
 refine Cl.enter Tryz.func98 rfl Tryz.ntmps98 rfl rfl ?_
 refine Wp.seq (Wp.cut (fun L w' => ∃ i_ : Unit,Sub ((fun _ => [(0,.pointer (some ⟨gP,0,none⟩)),(1,.int .i64 k'),(2,.func (.func cf) fst.toArray cap.toArray)]) i_) L ∧ (fun _ w' => ∃ sv',PsW w0 tv F' w' { bP := gP,sv := sv',pos := pos,frs := frs ++ [⟨k',.slice none 0 0,[]⟩],Q := Q } ∧ Bw F' w w') i_ w') ?_ ?_)
 ·skip
  refine Wp.drawB (fun w' => Var w' gP [tv,.int .i64 pos,.slice pc frs.length cc] 102) 8 mixed ?_
  intro w1 hx1 hh1
  replace hx := hx.ext hx1
  refine ⟨hvar.ext hx,?_⟩
  refine Qb.tameW (by kernel_rfl) 0 rfl (by kernel_rfl) trivial (tw_of fun wz => t_move rfl) rfl ?_
  refine Qb.tameW (by kernel_rfl) 1 rfl (by kernel_rfl) trivial (tw_of fun wz => t_nilCheck rfl) rfl ?_
  refine Qb.tameW (by kernel_rfl) 2 rfl (by kernel_rfl) trivial (tw_of fun wz => t_fieldAddr fa102_2 rfl) rfl ?_
  refine Qb.tame (by kernel_rfl) 3 rfl (by kernel_rfl) trivial (ts fun wz hkz => by exact t_load ty41 rfl (hkz.g 2 rfl)) rfl ?_
  refine Qb.tameW (by kernel_rfl) 4 rfl (by kernel_rfl) trivial (tw_of fun wz => t_move rfl) rfl ?_
  refine Qb.tameW (by kernel_rfl) 5 rfl (by kernel_rfl) trivial (tw_of fun wz => t_build (bd43_0 _) rfl) rfl ?_
  refine Qb.tame (by kernel_rfl) 6 rfl (by kernel_rfl) trivial (ts fun wz hkz => by exact t_lenS Tryz.underlying41 rfl) rfl ?_
  refine Qb.alt1 (i := 7) (by kernel_rfl) ?_
  refine ⟨_,_,rfl,rfl,trivial,w_buildSlice (bs41_1 _ _ _ _ _) rfl,rfl,fun _ _ hr => by obtain ⟨_,_,_,hr,_⟩ := hr; exact hvar.ext (hx.ext hr),?_⟩
  rintro _ w2 ⟨b13,rfl,q13,hx2,hv13⟩
  replace hx := hx.ext hx2
  refine Qb.bar (fun _ => True) 8 14 rfl (by kernel_rfl) rfl trivial (w_appendO Tryz.underlying41 hi25 hz25 hsi25 hby25 rfl rfl rfl (own_ext hown hx) (slc_var hv13 rfl) (by decide) (by decide) (by unfold maxLen; omega) (by omega)) rfl (fun _ _ _ => trivial) ?_
  rintro _ w3 ⟨gk,capk,spk,rfl,hck,hmk,hlk,hvk,hwhere⟩
  have hfr : (Value.slice pc frs.length cc).ownBlock = some gk ∨ w.heap.size ≤ gk := by
   rcases hwhere with ⟨⟨c,e⟩,_⟩ | ⟨e,_⟩
   ·exact .inl (by rw [e]; rfl)
   ·exact .inr (Nat.le_trans hx.le e)
  have hne : gP ≠ gk := fun e => by
   rcases hfr with e1 | e1
   ·have hn := hW.nod
    simp only [Pg.muts,List.nodup_cons] at hn
    exact hn.1 (by simp [e1,e])
   ·have := hvar.lt
    omega
  obtain ⟨G,hGd⟩ : ∃ G : Fs,G = fun z => z < w.heap.size ∧ z ≠ gk ∧ z ≠ gP := ⟨_,rfl⟩
  have nGk : ¬ G gk := by rw [hGd]; exact fun h => h.2.1 rfl
  have nGP : ¬ G gP := by rw [hGd]; exact fun h => h.2.2 rfl
  have hB : Bw G w w3 := by
   have h1 : Bw G w w2 := Bw.of hx (by rw [hGd]; exact fun z hz => hz.1)
   rcases hwhere with ⟨_,hu⟩ | ⟨_,hu⟩
   ·exact h1.trans (Bw.upd hu nGk)
   ·exact h1.trans (Bw.of hu (by rw [hGd]; exact fun z hz => Nat.lt_of_lt_of_le hz.1 hx.le))
  have hvP := hvar.ext hx
  replace hvP : Var w3 gP [tv,.int .i64 pos,.slice pc frs.length cc] 102 := by
   rcases hwhere with ⟨_,hu⟩ | ⟨_,hu⟩
   ·exact hvP.upd hu hne
   ·exact hvP.ext hu
  have hoE : 0 + (frs.length : Int).toNat * 3 = frs.length * 3 := by omega
  have hKl : (encs Fr.cells frs ++ [Value.int .i64 0,Value.string ⟨#[]⟩,Value.slice none 0 0] ++ spk).length = frs.length * 3 + 3 + spk.length := by rw [List.length_append,List.length_append,encs_len Fr.len]; rfl
  refine Qb.tameW (by kernel_rfl) 9 rfl (by kernel_rfl) trivial (tw_of fun wz => t_indexAddrL Tryz.underlying41 ty43 rfl rfl (by omega)) rfl ?_
  refine Qb.tameW (by kernel_rfl) 11 rfl (by kernel_rfl) trivial (tw_of fun wz => t_nilCheck rfl) rfl ?_
  refine Qb.tameW (by kernel_rfl) 12 rfl (by kernel_rfl) trivial (tw_of fun wz => t_fieldAddr fa102_2 rfl) rfl ?_
  refine Qb.alt2 (i := 10) (j := 13) (by kernel_rfl) ?_ ?_
  ·skip
   refine ⟨_,_,rfl,rfl,trivial,w_putAt (cs := [.int .i64 k',.string nob,.slice none 0 0]) hvk rfl rfl rfl ty43 (by rw [hoE,hKl]; simp) (Fr.one (f := ⟨k',.slice none 0 0,[]⟩) rfl),rfl,fun _ _ h => trivial,?_⟩
   rintro _ wE ⟨huE,hvE⟩
   rw [hoE] at hvE
   replace hvE : Var wE gk (encs Fr.cells (frs ++ [⟨k',.slice none 0 0,[]⟩]) ++ spk) 43 := (fr_set (frs := frs) (f := ⟨k',.slice none 0 0,[]⟩) (z := [Value.int .i64 0,Value.string ⟨#[]⟩,Value.slice none 0 0]) (sp := spk) rfl) ▸ hvE
   clear hvk
   have hvk := hvE
   clear hvE
   replace hvP := hvP.upd huE hne
   replace hB := hB.trans (Bw.upd huE nGk)
   refine Qb.alt1 (i := 13) (by kernel_rfl) ?_
   refine ⟨_,_,rfl,rfl,trivial,w_putF hvP ty41 rfl rfl rfl rfl rfl,rfl,fun _ _ h => trivial,?_⟩
   rintro _ wS ⟨huS,hvS⟩
   simp only [List.set] at hvS
   clear hvP
   have hvP := hvS
   clear hvS
   replace hvk := hvk.upd huS (Ne.symm hne)
   replace hB := hB.trans (Bw.upd huS nGP)
   refine Qb.done (by kernel_rfl) ?_
   exact ⟨(),by repeat (first | exact .nil | refine .cons rfl ?_),_,hW.push (f := ⟨k',.slice none 0 0,[]⟩) (sv' := .slice (some ⟨gk,0,none⟩) (frs.length + 1) capk) hB (fun z h1 h2 h3 => by rw [hGd]; exact ⟨h1,fun e => h3 (by rw [e]; rfl),h2⟩) hvP (whole_ownG (Nat.zero_le _) (encs_len Fr.len _ |>.trans (by simp)) hck hmk hlk hvk) (fun b hb => by injection hb with hb; subst hb; exact hfr) ⟨rfl,.inl ⟨rfl,rfl⟩⟩ (fun b hb => by cases hb) (fun t ht => by cases ht)⟩
  ·skip
   refine ⟨_,_,rfl,rfl,trivial,w_putF hvP ty41 rfl rfl rfl rfl rfl,rfl,fun _ _ h => trivial,?_⟩
   rintro _ wS ⟨huS,hvS⟩
   simp only [List.set] at hvS
   clear hvP
   have hvP := hvS
   clear hvS
   replace hvk := hvk.upd huS (Ne.symm hne)
   replace hB := hB.trans (Bw.upd huS nGP)
   refine Qb.alt1 (i := 10) (by kernel_rfl) ?_
   refine ⟨_,_,rfl,rfl,trivial,w_putAt (cs := [.int .i64 k',.string nob,.slice none 0 0]) hvk rfl rfl rfl ty43 (by rw [hoE,hKl]; simp) (Fr.one (f := ⟨k',.slice none 0 0,[]⟩) rfl),rfl,fun _ _ h => trivial,?_⟩
   rintro _ wE ⟨huE,hvE⟩
   rw [hoE] at hvE
   replace hvE : Var wE gk (encs Fr.cells (frs ++ [⟨k',.slice none 0 0,[]⟩]) ++ spk) 43 := (fr_set (frs := frs) (f := ⟨k',.slice none 0 0,[]⟩) (z := [Value.int .i64 0,Value.string ⟨#[]⟩,Value.slice none 0 0]) (sp := spk) rfl) ▸ hvE
   clear hvk
   have hvk := hvE
   clear hvE
   replace hvP := hvP.upd huE hne
   replace hB := hB.trans (Bw.upd huE nGk)
   refine Qb.done (by kernel_rfl) ?_
   exact ⟨(),by repeat (first | exact .nil | refine .cons rfl ?_),_,hW.push (f := ⟨k',.slice none 0 0,[]⟩) (sv' := .slice (some ⟨gk,0,none⟩) (frs.length + 1) capk) hB (fun z h1 h2 h3 => by rw [hGd]; exact ⟨h1,fun e => h3 (by rw [e]; rfl),h2⟩) hvP (whole_ownG (Nat.zero_le _) (encs_len Fr.len _ |>.trans (by simp)) hck hmk hlk hvk) (fun b hb => by injection hb with hb; subst hb; exact hfr) ⟨rfl,.inl ⟨rfl,rfl⟩⟩ (fun b hb => by cases hb) (fun t ht => by cases ht)⟩
 ·rintro L' wF ⟨_,hs,sv',q1,q2⟩
  refine Wp.sub hs (.sr (.m2 rfl ?_))
  refine Rg.wd trivial (w_callG rfl hcf rfl (hP _ q2 ⟨_,q1,rfl,hd,hpos,by simp [hm,erL],fun f hf => by (rcases List.mem_append.1 hf with hf | hf); (have := hks f hf; simp only; omega); (obtain rfl : f = ⟨k',.slice none 0 0,[]⟩ := by simpa using hf); simp,by simp; omega⟩)) rfl ?_
  rintro _ w20 ⟨q3,q4,qX⟩
  refine .done (Wp.region (.m2 rfl ?_))
  refine Rg.wd trivial (w_call Tryz.call149 rfl (finish_ok q3 (by omega) hb)) rfl ?_
  rintro _ w21 ⟨q5,q6⟩
  refine .done ?_
  exact ⟨[],trivial,q5,(q2.sub hFF).trans (q4.trans (q6.sub hFF)),hX _ _ qX q6⟩
theorem clo_125 {F' : Fs} (hC : Cx w0 tv toks) (hD : ∀ m,m < n → DN w0 tv toks m) {b0 b1 : Nat} (hv_b0 : Var w b0 [.pointer (some ⟨bP,0,none⟩)] 100) (hF_b0 : F' b0) (hv_b1 : Var w b1 [.bool false] 4) (hF_b1 : F' b1) (hn_b1 : ¬ F b1) (hw_b1 : w0.heap.size ≤ b1) (hne_b1_b0 : b0 ≠ b1) (hsub : ∀ z,F z → F' z) (hbase : ∀ z,z < w0.heap.size → F z)
  (hp : Ps w0 tv toks F' w bP below k s) (hr : run body n (.seq (.node 18 Cmd.expIdent) (.loop (fun t u _ _ => isAt [⟨#[58,58]⟩] t && !isAt [⟨#[42]⟩] u) (.seq .bump (.node 18 Cmd.expIdent)))) s = some r) (hb : r.adds ≤ big) :
  Cl Tryz.prog 204 (([] : List Value) ++ ([] : List Value) ++ ([.pointer (some ⟨b0,0,none⟩),.pointer (some ⟨b1,0,none⟩)] : List Value)).toArray w (fun u w2 => Ps w0 tv toks F' w2 bP below k r ∧ Bw F w w2 ∧ Var w2 b1 [.bool (isAt [⟨#[58,58]⟩] (sig1 r.rem))] 4) := by
 show Cl Tryz.prog 204 #[.pointer (some ⟨b0,0,none⟩),.pointer (some ⟨b1,0,none⟩)] w _
 have hbw := Bw.refl F w
 refine Cl.enter Tryz.func204 rfl Tryz.ntmps204 rfl rfl (.sr (.t2 (t_load ty100 rfl (hv_b0.g 0 rfl)) (.t2 (t_load ty100 rfl (hv_b0.g 0 rfl)) (.t2 (t_makeFuncB (us := [.pointer (some ⟨bP,0,none⟩)]) (vs := []) rfl rfl) ?_))))
 obtain ⟨s1,h1a,h1b⟩ := run_seq' hr
 refine Rg.wd trivial (w_call Tryz.call98 rfl (D_node hp (clo_expIdent hC) h1a (adds_le h1b hb))) rfl ?_
 rintro _ w1 ⟨hp1,hb1⟩
 replace hv_b0 := var_bw hv_b0 hb1 hF_b0
 replace hv_b1 := var_bw hv_b1 hb1 hF_b1
 replace hbw := hbw.trans (hb1.sub hsub)
 clear hp
 have hp := hp1
 clear hp1
 refine .done (Wp.block ?_)
 refine Wp.loop (ι := S × Nat × Bool) (fun i => [(0,.pointer (some ⟨b0,0,none⟩)),(1,.pointer (some ⟨b1,0,none⟩))])
  (fun i w' => Ps w0 tv toks F' w' bP below k i.1 ∧ Bw F w w' ∧ Var w' b0 [.pointer (some ⟨bP,0,none⟩)] 100 ∧ Var w' b1 [.bool i.2.2] 4 ∧ run body i.2.1 (.loop (fun t u _ _ => isAt [⟨#[58,58]⟩] t && !isAt [⟨#[42]⟩] u) (.seq .bump (.node 18 Cmd.expIdent))) i.1 = some r ∧ i.2.1 ≤ n ∧ (i.2.2 = true → isAt [⟨#[58,58]⟩] (sig1 i.1.rem) = true ∧ isAt [⟨#[42]⟩] (sig1 (left i.1.rem)) = true)) (fun i => 2 * i.2.1 + if i.2.2 = true then 0 else 1) (s1,n,false) (by repeat (first | exact .nil | refine .cons rfl ?_)) ⟨hp,hbw,hv_b0,hv_b1,h1b,Nat.le_refl _,fun h => by cases h⟩ ?_
 clear hp hv_b0 hv_b1 hbw
 rintro ⟨s',m,gl⟩ wl ⟨hp,hbw,hv_b0,hv_b1,hrun,hmn,hgl⟩
 simp only at hp hrun hmn hgl hv_b1
 cases gl with
 | true =>
  obtain ⟨hg1,hg2⟩ := hgl rfl
  refine .seq (.sr (.t2 (t_load ty100 rfl (hv_b0.g 0 rfl)) (Rg.wd trivial (w_buildSlice (bs38_1 _) rfl) rfl ?_)))
  rintro _ w2 ⟨bt7,rfl,qt7,hx2,hvt7⟩
  replace hbw := bS hbw hp.und hsub hx2
  replace hp := hp.extw hx2
  replace hv_b0 := hv_b0.ext hx2
  replace hv_b1 := hv_b1.ext hx2
  refine Rg.wd trivial (w_call Tryz.call94 rfl (at_ok hC hp (texts := [⟨#[58,58]⟩]) hvt7 (by decide))) rfl ?_
  rintro _ w3 ⟨rfl,hx3⟩
  replace hbw := bS hbw hp.und hsub hx3
  replace hp := hp.extw hx3
  replace hv_b0 := hv_b0.ext hx3
  replace hv_b1 := hv_b1.ext hx3
  try replace hvt7 := hvt7.ext hx3
  rw [show (isAt [⟨#[58,58]⟩] (sig1 s'.rem)) = true from hg1]
  refine .m2 rfl (.g2 (t_load ty4 rfl (hv_b1.g 0 rfl)) (.g2 (t_notB rfl) (.t2 (t_pickT rfl rfl) (.done (.condF rfl (Wp.exit ?_))))))
  have hte := run_loopF hrun (show S.test _ _ = false by simp only [S.test,hg1,hg2]; rfl)
  subst hte
  exact ⟨[],trivial,hp,hbw,by rw [hg1]; exact hv_b1⟩
 | false =>
  refine .seq ?_
  cases haq1 : (isAt [⟨#[58,58]⟩] (sig1 s'.rem)) with
  | true =>
   refine .sr (.t2 (t_load ty100 rfl (hv_b0.g 0 rfl)) (Rg.wd trivial (w_buildSlice (bs38_1 _) rfl) rfl ?_))
   rintro _ w2 ⟨bt7,rfl,qt7,hx2,hvt7⟩
   replace hbw := bS hbw hp.und hsub hx2
   replace hp := hp.extw hx2
   replace hv_b0 := hv_b0.ext hx2
   replace hv_b1 := hv_b1.ext hx2
   refine Rg.wd trivial (w_call Tryz.call94 rfl (at_ok hC hp (texts := [⟨#[58,58]⟩]) hvt7 (by decide))) rfl ?_
   rintro _ w3 ⟨rfl,hx3⟩
   replace hbw := bS hbw hp.und hsub hx3
   replace hp := hp.extw hx3
   replace hv_b0 := hv_b0.ext hx3
   replace hv_b1 := hv_b1.ext hx3
   try replace hvt7 := hvt7.ext hx3
   rw [show (isAt [⟨#[58,58]⟩] (sig1 s'.rem)) = true from haq1]
   refine .m2 rfl (.g2 (t_load ty4 rfl (hv_b1.g 0 rfl)) (.g2 (t_notB rfl) (.t2 (t_pickT rfl rfl) (.done (.condT rfl (Wp.skip (Wp.block ?_)))))))
   cases haq2 : (isAt [⟨#[42]⟩] (sig1 (left s'.rem))) with
   | true =>
    refine .sr (.t2 (t_load ty100 rfl (hv_b0.g 0 rfl)) (Rg.wd trivial (w_call Tryz.call95 rfl (lookahead_ok hC hp)) rfl ?_))
    rintro _ w4 ⟨bk14,rfl,hk14,hx4⟩
    replace hbw := bS hbw hp.und hsub hx4
    replace hp := hp.extw hx4
    replace hv_b0 := hv_b0.ext hx4
    replace hv_b1 := hv_b1.ext hx4
    try replace hvt7 := hvt7.ext hx4
    refine Rg.wd trivial (w_buildSlice (bs38_1 _) rfl) rfl ?_
    rintro _ w5 ⟨bt15,rfl,qt15,hx5,hvt15⟩
    replace hbw := bS hbw hp.und hsub hx5
    replace hp := hp.extw hx5
    replace hv_b0 := hv_b0.ext hx5
    replace hv_b1 := hv_b1.ext hx5
    try replace hvt7 := hvt7.ext hx5
    try replace hk14 := hk14.extw hx5
    refine Rg.wd trivial (w_call Tryz.call94 rfl (at_ok hC hk14 (texts := [⟨#[42]⟩]) hvt15 (by decide))) rfl ?_
    rintro _ w6 ⟨rfl,hx6⟩
    replace hbw := bS hbw hp.und hsub hx6
    replace hp := hp.extw hx6
    replace hv_b0 := hv_b0.ext hx6
    replace hv_b1 := hv_b1.ext hx6
    try replace hvt7 := hvt7.ext hx6
    try replace hvt15 := hvt15.ext hx6
    try replace hk14 := hk14.extw hx6
    rw [show (isAt [⟨#[42]⟩] (sig1 s'.look.rem)) = true from haq2]
    refine Rg.wn trivial (w_put hv_b1 rfl rfl rfl ty4 rfl rfl) ?_
    rintro _ w7 ⟨hu7,hvn⟩
    replace hbw := hbw.trans (Bw.upd hu7 hn_b1)
    replace hp := hp.updF hu7 hF_b1 hw_b1
    clear hv_b1
    have hv_b1 := hvn
    clear hvn
    replace hv_b0 := hv_b0.upd hu7 hne_b1_b0
    clear hvt7
    clear hvt15
    refine .done (.sr (.t2 (t_load ty4 rfl (hv_b1.g 0 rfl)) (.t2 (t_notB rfl) (.done (.condF rfl (Wp.skip ?_))))))
    exact ⟨(s',m,true),by repeat (first | exact .nil | refine .cons rfl ?_),⟨hp,hbw,hv_b0,hv_b1,hrun,hmn,fun _ => ⟨haq1,haq2⟩⟩,by simp⟩
   | false =>
    refine .sr (.t2 (t_load ty100 rfl (hv_b0.g 0 rfl)) (Rg.wd trivial (w_call Tryz.call95 rfl (lookahead_ok hC hp)) rfl ?_))
    rintro _ w4 ⟨bk14,rfl,hk14,hx4⟩
    replace hbw := bS hbw hp.und hsub hx4
    replace hp := hp.extw hx4
    replace hv_b0 := hv_b0.ext hx4
    replace hv_b1 := hv_b1.ext hx4
    try replace hvt7 := hvt7.ext hx4
    refine Rg.wd trivial (w_buildSlice (bs38_1 _) rfl) rfl ?_
    rintro _ w5 ⟨bt15,rfl,qt15,hx5,hvt15⟩
    replace hbw := bS hbw hp.und hsub hx5
    replace hp := hp.extw hx5
    replace hv_b0 := hv_b0.ext hx5
    replace hv_b1 := hv_b1.ext hx5
    try replace hvt7 := hvt7.ext hx5
    try replace hk14 := hk14.extw hx5
    refine Rg.wd trivial (w_call Tryz.call94 rfl (at_ok hC hk14 (texts := [⟨#[42]⟩]) hvt15 (by decide))) rfl ?_
    rintro _ w6 ⟨rfl,hx6⟩
    replace hbw := bS hbw hp.und hsub hx6
    replace hp := hp.extw hx6
    replace hv_b0 := hv_b0.ext hx6
    replace hv_b1 := hv_b1.ext hx6
    try replace hvt7 := hvt7.ext hx6
    try replace hvt15 := hvt15.ext hx6
    try replace hk14 := hk14.extw hx6
    rw [show (isAt [⟨#[42]⟩] (sig1 s'.look.rem)) = false from haq2]
    refine Rg.wn trivial (w_put hv_b1 rfl rfl rfl ty4 rfl rfl) ?_
    rintro _ w7 ⟨hu7,hvn⟩
    replace hbw := hbw.trans (Bw.upd hu7 hn_b1)
    replace hp := hp.updF hu7 hF_b1 hw_b1
    clear hv_b1
    have hv_b1 := hvn
    clear hvn
    replace hv_b0 := hv_b0.upd hu7 hne_b1_b0
    clear hvt7
    clear hvt15
    obtain ⟨m1,sZ,rfl,hbody,hrest⟩ := run_loopT hrun (show S.test _ _ = true by simp only [S.test,at1,ident,bne,haq1,haq2]; (try rfl))
    replace hbody := run_le hmn hbody
    refine .done (.sr (.t2 (t_load ty4 rfl (hv_b1.g 0 rfl)) (.t2 (t_notB rfl) (.done (.condT rfl (.sr (.t2 (t_load ty100 rfl (hv_b0.g 0 rfl)) ?_)))))))
    obtain ⟨s2,h2a,h2b⟩ := run_seq' hbody
    refine Rg.wd trivial (w_call Tryz.call101 rfl (D_bump hC hp h2a (adds_le h2b (adds_le hrest hb)))) rfl ?_
    rintro _ w8 ⟨hp1,hb8⟩
    replace hv_b0 := var_bw hv_b0 hb8 hF_b0
    replace hv_b1 := var_bw hv_b1 hb8 hF_b1
    replace hbw := hbw.trans (hb8.sub hsub)
    clear hp
    have hp := hp1
    clear hp1
    refine .done (Wp.region (.t2 (t_load ty100 rfl (hv_b0.g 0 rfl)) (.t2 (t_load ty100 rfl (hv_b0.g 0 rfl)) (.t2 (t_makeFuncB (us := [.pointer (some ⟨bP,0,none⟩)]) (vs := []) rfl rfl) (Rg.wd trivial (w_call Tryz.call98 rfl (D_node hp (clo_expIdent hC) h2b (adds_le hrest hb))) rfl ?_)))))
    rintro _ w9 ⟨hp1,hb9⟩
    replace hv_b0 := var_bw hv_b0 hb9 hF_b0
    replace hv_b1 := var_bw hv_b1 hb9 hF_b1
    replace hbw := hbw.trans (hb9.sub hsub)
    clear hp
    have hp := hp1
    clear hp1
    refine .done ?_
    exact ⟨(sZ,m1,false),by repeat (first | exact .nil | refine .cons rfl ?_),⟨hp,hbw,hv_b0,hv_b1,hrest,by simp only; omega,fun h => by cases h⟩,by simp⟩
  | false =>
   refine .sr (.t2 (t_load ty100 rfl (hv_b0.g 0 rfl)) (Rg.wd trivial (w_buildSlice (bs38_1 _) rfl) rfl ?_))
   rintro _ w2 ⟨bt7,rfl,qt7,hx2,hvt7⟩
   replace hbw := bS hbw hp.und hsub hx2
   replace hp := hp.extw hx2
   replace hv_b0 := hv_b0.ext hx2
   replace hv_b1 := hv_b1.ext hx2
   refine Rg.wd trivial (w_call Tryz.call94 rfl (at_ok hC hp (texts := [⟨#[58,58]⟩]) hvt7 (by decide))) rfl ?_
   rintro _ w3 ⟨rfl,hx3⟩
   replace hbw := bS hbw hp.und hsub hx3
   replace hp := hp.extw hx3
   replace hv_b0 := hv_b0.ext hx3
   replace hv_b1 := hv_b1.ext hx3
   try replace hvt7 := hvt7.ext hx3
   rw [show (isAt [⟨#[58,58]⟩] (sig1 s'.rem)) = false from haq1]
   refine .m2 rfl (.so rfl rfl (.so rfl rfl (.t2 (t_pickF rfl rfl) (.done (.condF rfl (Wp.exit ?_))))))
   have hte := run_loopF hrun (show S.test _ _ = false by simp only [S.test,haq1]; rfl)
   subst hte
   exact ⟨[],trivial,hp,hbw,by rw [haq1]; exact hv_b1⟩
theorem N_use (hC : Cx w0 tv toks) (hD : ∀ m,m < n → DN w0 tv toks m) (hp : Ps w0 tv toks F w bP below k s) (hr : run body n (body .use) s = some r) (hb : r.adds ≤ big) :
  Cl Tryz.prog 150 #[.pointer (some ⟨bP,0,none⟩)] w (fun u w' => (Nm.use = Nm.statement → u = .bool r.flag) ∧ Ps w0 tv toks F w' bP below k r ∧ Bw F w w') := by
 have hbw := Bw.refl F w
 have hsub : ∀ z,F z → F z := fun z h => h
 have hbase := hp.base
 have hr : run body n (.seq (.node 17 (.seq (.node 18 Cmd.expIdent) (.loop (fun t u _ _ => isAt [⟨#[58,58]⟩] t && !isAt [⟨#[42]⟩] u) (.seq .bump (.node 18 Cmd.expIdent))))) (.seq (.cond (at1 [⟨#[58,58]⟩]) (.seq .bump .bump) (.cond (at1 [⟨#[97,115]⟩]) (.seq .bump Cmd.expIdent) .skip)) (Cmd.exp ⟨#[59]⟩))) s = some r := hr
 refine Cl.enter Tryz.func150 rfl Tryz.ntmps150 rfl rfl (.sr (Rg.wd trivial (w_boxed rfl rfl) rfl ?_))
 rintro _ w1 ⟨bx104_1,rfl,qbx104_1,hx1,hv_bx104_1⟩
 replace hbw := bS hbw hp.und hsub hx1
 obtain ⟨F_bx104_1,hp1,hF_bx104_1,hs1⟩ := hp.box hx1 qbx104_1 hv_bx104_1.lt
 clear hp
 have hp := hp1
 clear hp1
 replace hsub := fun z hz => hs1 z (hsub z hz)
 refine .done (.sr ?_)
 have hunc := hp.und
 have hbase1 := hp.base
 have hsub1 := hsub
 have hFp1 := hF_bx104_1
 have hlo_bx104_2 := hp.ext.le
 have hlt_bx104_2_bx104_1 := hv_bx104_1.lt
 have hun_bx104_2 := fun z hz => hp.und z (hsub z hz)
 refine Rg.wd trivial (w_new Tryz.zeroValue4 rfl) rfl ?_
 rintro _ w2 ⟨bx104_2,rfl,qbx104_2,hx2,hv_bx104_2⟩
 replace hbw := bS hbw hp.und hsub hx2
 obtain ⟨F_bx104_2,hp1,hF_bx104_2,hs2⟩ := hp.box hx2 qbx104_2 hv_bx104_2.lt
 clear hp
 have hp := hp1
 clear hp1
 replace hsub := fun z hz => hs2 z (hsub z hz)
 replace hv_bx104_1 := hv_bx104_1.ext hx2
 replace hF_bx104_1 := hs2 _ hF_bx104_1
 have hn_bx104_2 : ¬ F bx104_2 := fun hh => by have := hun_bx104_2 _ hh; omega
 have hw_bx104_2 : w0.heap.size ≤ bx104_2 := by omega
 have hne_bx104_2_bx104_1 : bx104_1 ≠ bx104_2 := by omega
 have hnc : ¬ F_bx104_1 bx104_2 := fun hh => by have := hunc _ hh; omega
 refine Rg.wn trivial (w_put hv_bx104_2 rfl rfl rfl ty4 rfl rfl) ?_
 rintro _ w3 ⟨hu3,hvn⟩
 replace hbw := hbw.trans (Bw.upd hu3 hn_bx104_2)
 replace hp := hp.updF hu3 hF_bx104_2 hw_bx104_2
 clear hv_bx104_2
 have hv_bx104_2 := hvn
 clear hvn
 replace hv_bx104_1 := hv_bx104_1.upd hu3 hne_bx104_2_bx104_1
 refine .done (.sr (.t2 (t_load ty100 rfl (hv_bx104_1.g 0 rfl)) (.t2 (t_makeFuncB (us := []) (vs := [.pointer (some ⟨bx104_1,0,none⟩),.pointer (some ⟨bx104_2,0,none⟩)]) rfl rfl) ?_)))
 obtain ⟨s1,h1a,h1b⟩ := run_seq' hr
 obtain ⟨qn,hqn,hen⟩ := run_node' h1a
 have hqb : qn.adds ≤ big := by have := (adds_le h1b hb); rw [hen] at this; exact this
 refine Rg.wd trivial (w_call Tryz.call98 rfl (node_okX (F := F_bx104_1) (F' := F_bx104_2) (X := (fun w => Var w bx104_2 [.bool (isAt [⟨#[58,58]⟩] (sig1 qn.rem))] 4)) hs2 (fun a b hv hb => var_bw hv hb hF_bx104_2) Tryz.call204 hp (fun w1 hw1 hp1 => clo_125 hC hD (var_bw hv_bx104_1 hw1 hF_bx104_1) hF_bx104_1 (var_bw hv_bx104_2 hw1 hF_bx104_2) hF_bx104_2 hnc hw_bx104_2 hne_bx104_2_bx104_1 hs2 hbase1 hp1 hqn hqb) (run_adds hqn) hqb)) rfl ?_
 rintro _ w4 ⟨hp1,hb4,hvg⟩
 rw [← hen] at hp1
 have hqr : qn.rem = s1.rem := by rw [hen]
 simp only [hqr] at hvg
 replace hbw := hbw.trans (hb4.sub hsub1)
 replace hv_bx104_1 := var_bw hv_bx104_1 hb4 hFp1
 clear hv_bx104_2
 have hv_bx104_2 := hvg
 clear hp
 have hp := hp1
 clear hp1
 refine .done ?_
 obtain ⟨s2,h2a,h2b⟩ := run_seq' h1b
 refine .seq (Wp.block ?_)
 cases haq1 : (isAt [⟨#[58,58]⟩] (sig1 s1.rem)) with
 | true =>
  have hq2 := run_condT h2a haq1
  refine .sr (.t2 (t_load ty4 rfl (hv_bx104_2.g 0 rfl)) ?_)
  rw [haq1]
  refine .a2 rfl (.done (.condT rfl (.sr (.t2 (t_load ty100 rfl (hv_bx104_1.g 0 rfl)) ?_))))
  obtain ⟨s3,h3a,h3b⟩ := run_seq' hq2
  refine Rg.wd trivial (w_call Tryz.call101 rfl (D_bump hC hp h3a (adds_le h3b (adds_le h2b hb)))) rfl ?_
  rintro _ w5 ⟨hp1,hb5⟩
  replace hv_bx104_1 := var_bw hv_bx104_1 hb5 hF_bx104_1
  replace hv_bx104_2 := var_bw hv_bx104_2 hb5 hF_bx104_2
  replace hbw := hbw.trans (hb5.sub hsub)
  clear hp
  have hp := hp1
  clear hp1
  refine .done (Wp.region (.t2 (t_load ty100 rfl (hv_bx104_1.g 0 rfl)) (Rg.wd trivial (w_call Tryz.call101 rfl (D_bump hC hp h3b (adds_le h2b hb))) rfl ?_)))
  rintro _ w6 ⟨hp1,hb6⟩
  replace hv_bx104_1 := var_bw hv_bx104_1 hb6 hF_bx104_1
  replace hv_bx104_2 := var_bw hv_bx104_2 hb6 hF_bx104_2
  replace hbw := hbw.trans (hb6.sub hsub)
  clear hp
  have hp := hp1
  clear hp1
  refine .done (Wp.region (.t2 (t_load ty100 rfl (hv_bx104_1.g 0 rfl)) (Rg.wd trivial (w_call Tryz.call156 rfl (D_exp hC hp h2b hb)) rfl ?_)))
  rintro _ w7 ⟨hp1,hb7⟩
  replace hv_bx104_1 := var_bw hv_bx104_1 hb7 hF_bx104_1
  replace hv_bx104_2 := var_bw hv_bx104_2 hb7 hF_bx104_2
  replace hbw := hbw.trans (hb7.sub hsub)
  clear hp
  have hp := hp1
  clear hp1
  refine .done ?_
  exact ⟨[],trivial,(fun h => by cases h),hp.sub hsub hbase,hbw⟩
 | false =>
  have hq2 := run_condF h2a haq1
  refine .sr (.t2 (t_load ty4 rfl (hv_bx104_2.g 0 rfl)) ?_)
  rw [haq1]
  refine .a2 rfl (.done (.condF rfl ?_))
  cases haq3 : (isAt [⟨#[97,115]⟩] (sig1 s1.rem)) with
  | true =>
   have hq4 := run_condT hq2 haq3
   refine .sr (.t2 (t_load ty100 rfl (hv_bx104_1.g 0 rfl)) (Rg.wd trivial (w_buildSlice (bs38_1 _) rfl) rfl ?_))
   rintro _ w5 ⟨bt14,rfl,qt14,hx5,hvt14⟩
   replace hbw := bS hbw hp.und hsub hx5
   replace hp := hp.extw hx5
   replace hv_bx104_1 := hv_bx104_1.ext hx5
   replace hv_bx104_2 := hv_bx104_2.ext hx5
   obtain ⟨s3,h3a,h3b⟩ := run_seq' hq4
   obtain rfl := run_bump' h3a
   refine Rg.wd trivial (w_call Tryz.call100 rfl (acc_T hC hp (texts := [⟨#[97,115]⟩]) hvt14 (by decide) haq3 (adds_le h3b (adds_le h2b hb)))) rfl ?_
   rintro _ w6 ⟨rfl,hp1,hb6⟩
   replace hv_bx104_1 := var_bw hv_bx104_1 hb6 hF_bx104_1
   replace hv_bx104_2 := var_bw hv_bx104_2 hb6 hF_bx104_2
   replace hbw := hbw.trans (hb6.sub hsub)
   clear hp
   have hp := hp1
   clear hp1
   refine .a2 rfl (.done (.condT rfl (Wp.region (.t2 (t_load ty100 rfl (hv_bx104_1.g 0 rfl)) (Rg.wd trivial (w_call Tryz.call153 rfl (D_expIdent hC hp h3b (adds_le h2b hb))) rfl ?_)))))
   rintro _ w7 ⟨hp1,hb7⟩
   replace hv_bx104_1 := var_bw hv_bx104_1 hb7 hF_bx104_1
   replace hv_bx104_2 := var_bw hv_bx104_2 hb7 hF_bx104_2
   replace hbw := hbw.trans (hb7.sub hsub)
   clear hp
   have hp := hp1
   clear hp1
   refine .done (Wp.region (.t2 (t_load ty100 rfl (hv_bx104_1.g 0 rfl)) (Rg.wd trivial (w_call Tryz.call156 rfl (D_exp hC hp h2b hb)) rfl ?_)))
   rintro _ w8 ⟨hp1,hb8⟩
   replace hv_bx104_1 := var_bw hv_bx104_1 hb8 hF_bx104_1
   replace hv_bx104_2 := var_bw hv_bx104_2 hb8 hF_bx104_2
   replace hbw := hbw.trans (hb8.sub hsub)
   clear hp
   have hp := hp1
   clear hp1
   refine .done ?_
   exact ⟨[],trivial,(fun h => by cases h),hp.sub hsub hbase,hbw⟩
  | false =>
   have hq4 := run_condF hq2 haq3
   obtain rfl := run_skip' hq4
   refine .sr (.t2 (t_load ty100 rfl (hv_bx104_1.g 0 rfl)) (Rg.wd trivial (w_buildSlice (bs38_1 _) rfl) rfl ?_))
   rintro _ w5 ⟨bt14,rfl,qt14,hx5,hvt14⟩
   replace hbw := bS hbw hp.und hsub hx5
   replace hp := hp.extw hx5
   replace hv_bx104_1 := hv_bx104_1.ext hx5
   replace hv_bx104_2 := hv_bx104_2.ext hx5
   refine Rg.wd trivial (w_call Tryz.call100 rfl (acc_F hC hp (texts := [⟨#[97,115]⟩]) hvt14 (by decide) haq3)) rfl ?_
   rintro _ w6 ⟨rfl,hp1,hb6⟩
   replace hv_bx104_1 := var_bw hv_bx104_1 hb6 hF_bx104_1
   replace hv_bx104_2 := var_bw hv_bx104_2 hb6 hF_bx104_2
   replace hbw := hbw.trans (hb6.sub hsub)
   clear hp
   have hp := hp1
   clear hp1
   refine .a2 rfl (.done (.condF rfl (Wp.skip (Wp.region (.t2 (t_load ty100 rfl (hv_bx104_1.g 0 rfl)) (Rg.wd trivial (w_call Tryz.call156 rfl (D_exp hC hp h2b hb)) rfl ?_))))))
   rintro _ w7 ⟨hp1,hb7⟩
   replace hv_bx104_1 := var_bw hv_bx104_1 hb7 hF_bx104_1
   replace hv_bx104_2 := var_bw hv_bx104_2 hb7 hF_bx104_2
   replace hbw := hbw.trans (hb7.sub hsub)
   clear hp
   have hp := hp1
   clear hp1
   refine .done ?_
   exact ⟨[],trivial,(fun h => by cases h),hp.sub hsub hbase,hbw⟩
end
abbrev G3 := Int × ByteArray × Option Addr × Nat × Nat
def gc (x : G3) : List Value := [.int .i64 x.1,.string x.2.1,.slice x.2.2.1 x.2.2.2.1 x.2.2.2.2]
theorem gc_len (x : G3) : (gc x).length = 3 := rfl
theorem gc_one (x : G3) : ∀ u ∈ gc x,u.oneCell' = true := by
 intro u hu
 simp [gc] at hu
 rcases hu with rfl | rfl | rfl <;> rfl
def insert1 {α : Type} (l : List α) (i : Nat) (x : α) : List α := l.take i ++ x :: l.drop i
theorem insert1_length {α : Type} (l : List α) (i : Nat) (x : α) : (insert1 l i x).length = l.length + 1 := by
 simp [insert1]
 omega
theorem encs_drop {α : Type} {f : α → List Value} {k : Nat} (hf : ∀ a,(f a).length = k) : ∀ (l : List α) (i : Nat),(encs f l).drop (i * k) = encs f (l.drop i)
 | l,0 => by simp
 | [],i + 1 => by simp [encs]
 | a :: l,i + 1 => by
  rw [show encs f (a :: l) = f a ++ encs f l from List.flatMap_cons,Nat.add_mul,Nat.one_mul,Nat.add_comm (i * k) k,← List.drop_drop,List.drop_left' (hf a),encs_drop hf l i,List.drop_succ_cons]
theorem encs_take {α : Type} {f : α → List Value} {k : Nat} (hf : ∀ a,(f a).length = k) : ∀ (l : List α) (i : Nat),(encs f l).take (i * k) = encs f (l.take i)
 | l,0 => by simp [encs]
 | [],i + 1 => by simp [encs]
 | a :: l,i + 1 => by
  rw [show encs f (a :: l) = f a ++ encs f l from List.flatMap_cons,List.take_succ_cons,show encs f (a :: l.take i) = f a ++ encs f (l.take i) from List.flatMap_cons,Nat.add_mul,Nat.one_mul,Nat.add_comm (i * k) k,← encs_take hf l i]
  rw [← hf a,List.take_length_add_append]
theorem frozen_var {w : World} {b t : Nat} {cs : List Value} (h : Var w b cs t) (o : Nat) : w.frozen? ⟨b,o,none⟩ = false := by
 unfold Var at h
 unfold World.frozen?
 simp only [h]
 rw [decide_eq_false (Nat.not_lt_zero o),Bool.and_false]
theorem shape_var {w : World} {b t : Nat} {cs : List Value} (h : Var w b cs t) : w.shape? b = some (t,cs.length) := by
 unfold Var at h
 unfold World.shape?
 simp [h]
section
variable {α : Type} {f : α → List Value} {k : Nat}
theorem encs_drop_all (hf : ∀ a,(f a).length = k) (l : List α) (sp : List Value) (i : Nat) (hi : i ≤ l.length) : (encs f l ++ sp).drop (i * k) = encs f (l.drop i) ++ sp := by
 have hl := encs_len hf l
 rw [List.drop_append_of_le_length (by rw [hl]; exact Nat.mul_le_mul_right _ hi),encs_drop hf]
theorem encs_take_all (hf : ∀ a,(f a).length = k) (l : List α) (sp : List Value) (i : Nat) (hi : i ≤ l.length) : (encs f l ++ sp).take (i * k) = encs f (l.take i) := by
 have hl := encs_len hf l
 rw [List.take_append_of_le_length (by rw [hl]; exact Nat.mul_le_mul_right _ hi),encs_take hf]
theorem insert1_encs (l : List α) (i : Nat) (x : α) : encs f (insert1 l i x) = encs f (l.take i) ++ f x ++ encs f (l.drop i) := by
 unfold insert1
 rw [encs_app,show encs f (x :: l.drop i) = f x ++ encs f (l.drop i) from List.flatMap_cons,List.append_assoc]
end
set_option maxHeartbeats 2000000 in
theorem insertTG_ok {w : World} {B vb g cap : Nat} {sp : List Value} {l : List G3} {x : G3} {i : Nat} (hg : B ≤ g) (hcap : l.length ≤ cap) (hmx : cap ≤ maxLen) (hsp : sp.length = (cap - l.length) * 3) (hv : Var w g (encs gc l ++ sp) 43) (hB : B ≤ w.heap.size) (hl : l.length ≤ 1000000000) (hvb : Var w vb (gc x) 43) (hi : i < l.length) (hrm : cap < l.length + 1) (hne : vb ≠ g) :
  Cl Tryz.prog 217 #[.slice (some ⟨g,0,none⟩) l.length cap,.int .i64 i,.slice (some ⟨vb,0,none⟩) 1 1] w (fun u w' => w'.ownsRow B 43 3 u (l.length + 1) (encs gc (insert1 l i x)) ∧ Bw (fun z => z < w.heap.size ∧ some z ≠ u.ownBlock) w w' ∧ (∀ b,u.ownBlock = some b → b = g ∨ w.heap.size ≤ b)) := by
 have hsv : SlC w (.slice (some ⟨vb,0,none⟩) 1 1) 3 1 (gc x) := slc_var hvb rfl
 have hmx' : cap ≤ 9223372036854775807 := hmx
 have hll := encs_len gc_len l
 obtain ⟨i0,hi0,hz0,hsi0,hby0⟩ := inf43
 have hxs : ∀ (w' : World) (a : Nat) (ys : List Value),Var w' g (encs gc l ++ ys) 43 → a ≤ l.length → SlC w' (.slice (some ⟨g,0 + a * 3,none⟩) (l.length - a) (cap - a)) 3 (l.length - a) (encs gc (l.drop a)) := fun w' a ys h ha => by
  refine ⟨by rw [encs_len gc_len,List.length_drop],_,_,rfl,by omega,.inr ⟨g,0 + a * 3,rfl,?_⟩⟩
  have := h.cells.sub (a * 3) ((encs gc (l.drop a)).length)
  rw [encs_drop_all gc_len l ys a ha,List.take_left' rfl] at this
  exact this
 have hst : SlC w (.slice (some ⟨g,0,none⟩) i cap) 3 i (encs gc (l.take i)) := by
  refine ⟨by rw [encs_len gc_len,List.length_take]; congr 1; omega,_,_,rfl,by omega,.inr ⟨g,0,rfl,?_⟩⟩
  have := hv.cells.sub 0 (i * 3)
  rw [List.drop_zero,encs_take_all gc_len l sp i (by omega)] at this
  exact this
 refine Cl.enter Tryz.func217 rfl Tryz.ntmps217 rfl rfl (.sr (.a2 rfl (.done (.sr (.m2 rfl (.m2 rfl ?_))))))
 refine .t2 (t_sliceL Tryz.underlying41 ty43 rfl rfl rfl (by omega)) ?_
 refine .done (.sr (.m2 rfl (.t2 (t_lenS Tryz.underlying41 rfl) ?_)))
 rw [show ((1 : Nat) : Int) = 1 from rfl]
 refine .a2 rfl (.done (.seq (.sr (.m2 rfl ?_))))
 refine .t2 (t_eqlF rfl rfl (by omega)) ?_
 refine .done (.condF rfl (Wp.skip (.sr (.m2 rfl (.t2 (t_lenS Tryz.underlying41 rfl) (.a2 rfl (.done (.seq (.sr (.m2 rfl (.m2 rfl ?_)))))))))))
 refine .t2 (t_eqlF rfl rfl (by omega)) ?_
 refine .done (.condF rfl (Wp.skip (.seq (.sr (.m2 rfl (.m2 rfl ?_))))))
 refine .t2 (t_addI rfl rfl (by omega)) ?_
 refine .m2 rfl (.t2 (t_capS Tryz.underlying41 rfl) ?_)
 refine .t2 (t_gtrT rfl rfl (by omega)) ?_
 refine .done (.condT rfl (.sr (.m2 rfl (.m2 rfl ?_))))
 refine .t2 (t_sliceL Tryz.underlying41 ty43 rfl rfl rfl (by omega)) ?_
 rw [show (Value.slice (some (if cap = (0 : Int).toNat then (⟨g,0,none⟩ : Addr) else ⟨g,0 + (0 : Int).toNat * 3,none⟩)) ((i : Int).toNat - (0 : Int).toNat) (cap - (0 : Int).toNat)) = .slice (some ⟨g,0,none⟩) i cap from by simp]
 refine .m2 rfl (.m2 rfl ?_)
 refine .t2 (t_addI rfl rfl (by omega)) ?_
 refine .m2 rfl ?_
 refine .t2 (t_subI rfl rfl (by omega)) ?_
 rw [show ((l.length : Int) + 1 - i) = ((l.length + 1 - i : Nat) : Int) from by omega]
 refine Rg.wd trivial (w_appendZ Tryz.underlying41 Tryz.underlying3 hi0 hz0 hsi0 hby0 rfl rfl (by decide) rfl rfl hst (by omega) (by omega) (by unfold maxLen; omega) (by omega)) rfl ?_
 rintro v9 w1 ⟨hx,news,hnl,ho9⟩
 rw [show i + (l.length + 1 - i) = l.length + 1 from by omega] at ho9
 rcases own_wholeG ho9 with ⟨_,h0⟩ | ⟨g2,cap2,sp2,rfl,hg2,hcap2,hmx2,hsp2,hv2⟩
 ·omega
 have hmx2' : cap2 ≤ 9223372036854775807 := hmx2
 have htl : (encs gc (l.take i)).length = i * 3 := by rw [encs_len gc_len,List.length_take]; congr 1; omega
 have hlt2 := hv2.lt
 refine .a2 rfl (.done (.sr (.m2 rfl (.m2 rfl ?_))))
 refine .t2 (t_sliceL Tryz.underlying41 ty43 rfl rfl rfl (by omega)) ?_
 rw [show (Value.slice (some (if cap2 = (i : Int).toNat then (⟨g2,0,none⟩ : Addr) else ⟨g2,0 + (i : Int).toNat * 3,none⟩)) (((l.length + 1 : Nat) : Int).toNat - (i : Int).toNat) (cap2 - (i : Int).toNat)) = .slice (some ⟨g2,0 + (i) * 3,none⟩) (l.length + 1 - (i)) (cap2 - (i)) from by rw [if_neg (by omega),show (i : Int).toNat = i from by omega]; rfl]
 refine .m2 rfl ?_
 have hmin1 : min 1 (l.length + 1 - i) = 1 := by omega
 have hfit : 0 + i * 3 + min 1 (l.length + 1 - i) * 3 ≤ (encs gc (l.take i) ++ news ++ sp2).length := by
  rw [hmin1,List.length_append,List.length_append,htl,hnl]; omega
 refine Rg.wd trivial (w_copyT Tryz.underlying41 ty43 hv2 rfl rfl (hsv.ext hx) hfit (fun u hu => gc_one x u (List.mem_of_mem_take hu))) rfl ?_
 rintro _ w2 ⟨hu2,hv3⟩
 have hx2 := hx.upd hu2 hg2
 rw [hmin1] at hv3
 replace hv := (hv.ext hx).upd hu2 (by have := hv.lt; omega)
 clear hv2
 refine .done ?_
 refine Wp.seq (Wp.draw [0,1,2,3,4,5,6,7,8] [0] mixed (by kernel_rfl) (by kernel_rfl) ?_)
 intro w1 hx1 _
 have hx2 := Ext.tr hx2 hx1
 replace hv3 := hv3.ext hx1
 replace hv := hv.ext hx1
 refine .m2 rfl (.m2 rfl (.m2 rfl ?_))
 refine .t2 (t_addI rfl rfl (by omega)) ?_
 refine .t2 (t_sliceL Tryz.underlying41 ty43 rfl rfl rfl (by omega)) ?_
 rw [show (Value.slice (some (if cap2 = ((i : Int) + 1 : Int).toNat then (⟨g2,0,none⟩ : Addr) else ⟨g2,0 + ((i : Int) + 1 : Int).toNat * 3,none⟩)) (((l.length + 1 : Nat) : Int).toNat - ((i : Int) + 1 : Int).toNat) (cap2 - ((i : Int) + 1 : Int).toNat)) = .slice (some ⟨g2,0 + (i + 1) * 3,none⟩) (l.length + 1 - (i + 1)) (cap2 - (i + 1)) from by rw [if_neg (by omega),show ((i : Int) + 1 : Int).toNat = i + 1 from by omega]; rfl]
 refine .m2 rfl (.m2 rfl ?_)
 refine .t2 (t_sliceL Tryz.underlying41 ty43 rfl rfl rfl (by omega)) ?_
 rw [show (Value.slice (some (if cap = (i : Int).toNat then (⟨g,0,none⟩ : Addr) else ⟨g,0 + (i : Int).toNat * 3,none⟩)) (((l.length : Nat) : Int).toNat - (i : Int).toNat) (cap - (i : Int).toNat)) = .slice (some ⟨g,0 + (i) * 3,none⟩) (l.length - (i)) (cap - (i)) from by rw [if_neg (by omega),show (i : Int).toNat = i from by omega]; rfl]
 have hmul : ∀ m,m * 3 = 3 * m := fun m => Nat.mul_comm _ _
 have hnl2 : news.length = 3 * (l.length + 1 - i) := by rw [hnl,hmul]
 have hsp22 : sp2.length = 3 * (cap2 - (l.length + 1)) := by rw [hsp2,hmul]
 have hfit54 : 0 + (i + 1) * 3 + min (l.length - i) (l.length + 1 - (i + 1)) * 3 ≤ (List.take (0 + i * 3) (encs gc (l.take i) ++ news ++ sp2) ++ List.take (1 * 3) (gc x) ++ List.drop (0 + i * 3 + 1 * 3) (encs gc (l.take i) ++ news ++ sp2)).length := by
  rw [List.length_append,List.length_append,List.length_take,List.length_take,List.length_drop,List.length_append,List.length_append,htl,hnl2,hsp22,gc_len,hmul,hmul,hmul]
  omega
 refine rg_wdC trivial rfl (w_copyT Tryz.underlying41 ty43 hv3 rfl rfl (hxs _ i sp hv (by omega)) hfit54 (fun u hu => encs_cell gc_one _ u (List.mem_of_mem_take hu))) rfl (by rfl) ?_
 rintro _ w4 ⟨hu4,hv4⟩
 have hx4 := hx2.upd hu4 hg2
 refine .done (.sr (.m2 rfl (.a2 rfl (.done (Wp.ret ?_)))))
 refine ⟨[_],⟨rfl,trivial⟩,?_,Bw.of hx4 (fun z hz => hz.1),fun b hb => .inr (by injection hb with hb; subst hb; exact hg2)⟩
 have hmin : min (l.length - i) (l.length + 1 - (i + 1)) = l.length - i := by omega
 rw [hmin] at hv4
 have hdl : (encs gc (l.drop i)).length = (l.length - i) * 3 := by rw [encs_len gc_len,List.length_drop]
 have e1 : (encs gc (l.take i) ++ news ++ sp2).take (0 + i * 3) = encs gc (l.take i) := by rw [Nat.zero_add,List.append_assoc,List.take_left' htl]
 have e2 : (gc x).take (1 * 3) = gc x := List.take_of_length_le (Nat.le_refl _)
 have e3 : (encs gc (l.take i) ++ gc x).length = (i + 1) * 3 := by rw [List.length_append,htl,gc_len,Nat.add_mul,Nat.one_mul]
 have e4 : (encs gc (l.drop i)).take ((l.length - i) * 3) = encs gc (l.drop i) := List.take_of_length_le (by rw [hdl]; exact Nat.le_refl _)
 rw [e1,e2,Nat.zero_add,List.take_left' e3,e4] at hv4
 obtain ⟨tl,htl2⟩ : ∃ tl,tl = (encs gc (l.take i) ++ gc x ++ (encs gc (l.take i) ++ news ++ sp2).drop (0 + i * 3 + 1 * 3)).drop ((i + 1) * 3 + (l.length - i) * 3) := ⟨_,rfl⟩
 rw [← htl2] at hv4
 refine whole_ownG (sp := tl) (Nat.le_trans hB hg2) (by rw [encs_len gc_len,insert1_length]) hcap2 hmx2 ?_ (by rw [insert1_encs]; exact hv4)
 rw [htl2]
 simp only [List.length_drop,List.length_append,htl,hnl,gc_len,hsp2]
 have h1 : (i + 1) * 3 + (l.length - i) * 3 = (l.length + 1) * 3 := by rw [← Nat.add_mul]; congr 1; omega
 omega
set_option maxHeartbeats 2000000 in
theorem insertTR_ok {w : World} {B vb g cap : Nat} {sp : List Value} {l : List G3} {x : G3} {i : Nat} (hg : B ≤ g) (hcap : l.length ≤ cap) (hmx : cap ≤ maxLen) (hsp : sp.length = (cap - l.length) * 3) (hv : Var w g (encs gc l ++ sp) 43) (hB : B ≤ w.heap.size) (hl : l.length ≤ 1000000000) (hvb : Var w vb (gc x) 43) (hi : i < l.length) (hrm : l.length + 1 ≤ cap) (hne : vb ≠ g) :
  Cl Tryz.prog 217 #[.slice (some ⟨g,0,none⟩) l.length cap,.int .i64 i,.slice (some ⟨vb,0,none⟩) 1 1] w (fun u w' => w'.ownsRow B 43 3 u (l.length + 1) (encs gc (insert1 l i x)) ∧ Bw (fun z => z < w.heap.size ∧ some z ≠ u.ownBlock) w w' ∧ (∀ b,u.ownBlock = some b → b = g ∨ w.heap.size ≤ b)) := by
 have hsv : SlC w (.slice (some ⟨vb,0,none⟩) 1 1) 3 1 (gc x) := slc_var hvb rfl
 have hmx' : cap ≤ 9223372036854775807 := hmx
 have hll := encs_len gc_len l
 obtain ⟨i0,hi0,hz0,hsi0,hby0⟩ := inf43
 have hxs : ∀ (w' : World) (a : Nat) (ys : List Value),Var w' g (encs gc l ++ ys) 43 → a ≤ l.length → SlC w' (.slice (some ⟨g,0 + a * 3,none⟩) (l.length - a) (cap - a)) 3 (l.length - a) (encs gc (l.drop a)) := fun w' a ys h ha => by
  refine ⟨by rw [encs_len gc_len,List.length_drop],_,_,rfl,by omega,.inr ⟨g,0 + a * 3,rfl,?_⟩⟩
  have := h.cells.sub (a * 3) ((encs gc (l.drop a)).length)
  rw [encs_drop_all gc_len l ys a ha,List.take_left' rfl] at this
  exact this
 refine Cl.enter Tryz.func217 rfl Tryz.ntmps217 rfl rfl (.sr (.a2 rfl (.done (.sr (.m2 rfl (.m2 rfl ?_))))))
 refine .t2 (t_sliceL Tryz.underlying41 ty43 rfl rfl rfl (by omega)) ?_
 refine .done (.sr (.m2 rfl (.t2 (t_lenS Tryz.underlying41 rfl) ?_)))
 rw [show ((1 : Nat) : Int) = 1 from rfl]
 refine .a2 rfl (.done (.seq (.sr (.m2 rfl ?_))))
 refine .t2 (t_eqlF rfl rfl (by omega)) ?_
 refine .done (.condF rfl (Wp.skip (.sr (.m2 rfl (.t2 (t_lenS Tryz.underlying41 rfl) (.a2 rfl (.done (.seq (.sr (.m2 rfl (.m2 rfl ?_)))))))))))
 refine .t2 (t_eqlF rfl rfl (by omega)) ?_
 refine .done (.condF rfl (Wp.skip (.seq (.sr (.m2 rfl (.m2 rfl ?_))))))
 refine .t2 (t_addI rfl rfl (by omega)) ?_
 refine .m2 rfl (.t2 (t_capS Tryz.underlying41 rfl) ?_)
 refine .t2 (t_gtrF rfl rfl (by omega)) ?_
 refine .done (.condF rfl (Wp.skip (.sr (.m2 rfl (.m2 rfl (.m2 rfl ?_))))))
 refine .t2 (t_addI rfl rfl (by omega)) ?_
 refine .t2 (t_sliceL Tryz.underlying41 ty43 rfl rfl rfl (by omega)) ?_
 rw [show (Value.slice (some (if cap = (0 : Int).toNat then (⟨g,0,none⟩ : Addr) else ⟨g,0 + (0 : Int).toNat * 3,none⟩)) (((l.length : Int) + 1).toNat - (0 : Int).toNat) (cap - (0 : Int).toNat)) = .slice (some ⟨g,0,none⟩) (l.length + 1) cap from by simp]
 refine .a2 rfl (.done (.seq (.sr (.m2 rfl (.m2 rfl (.m2 rfl (.m2 rfl ?_)))))))
 refine .t2 (t_addI rfl rfl (by omega)) ?_
 refine .t2 (t_sliceL Tryz.underlying41 ty43 rfl rfl rfl (by omega)) ?_
 rw [show (Value.slice (some (if cap = ((i : Int) + 1 : Int).toNat then (⟨g,0,none⟩ : Addr) else ⟨g,0 + ((i : Int) + 1 : Int).toNat * 3,none⟩)) (((l.length + 1 : Nat) : Int).toNat - ((i : Int) + 1 : Int).toNat) (cap - ((i : Int) + 1 : Int).toNat)) = .slice (some ⟨g,0 + (i + 1) * 3,none⟩) (l.length + 1 - (i + 1)) (cap - (i + 1)) from by rw [if_neg (by omega),show ((i : Int) + 1 : Int).toNat = i + 1 from by omega]; rfl]
 have hspl : 3 ≤ sp.length := by
  rw [hsp]
  have : 1 ≤ cap - l.length := by omega
  calc 3 = 1 * 3 := by simp
   _ ≤ (cap - l.length) * 3 := Nat.mul_le_mul_right _ this
 have hcapk : l.length * 3 + sp.length = cap * 3 := by rw [hsp,← Nat.add_mul]; congr 1; omega
 have hn1 : (l.length + 1) * 3 ≤ cap * 3 := Nat.mul_le_mul_right _ hrm
 refine Rg.wd trivial (w_extern (R := fun v w' => v = .bool false ∧ w = w') Tryz.func261 (by kernel_rfl) (by kernel_rfl) (by kernel_rfl) (by kernel_rfl) rfl ⟨_,_,Lib.run_overlaps_apart _ 41 4 43 Tryz.underlying41 3 Tryz.sizeOf43 ⟨vb,0,none⟩ ⟨g,_,none⟩ 1 1 _ _ hne _ _ _ _ (shape_var hvb) (shape_var hv) (by rw [List.length_append,hll]; omega) (frozen_var hvb _) (frozen_var hvb _),rfl,rfl⟩) rfl ?_
 rintro _ _ ⟨rfl,rfl⟩
 refine .t2 (t_notB rfl) (.done (.condT rfl ?_))
 refine Wp.seq (Wp.draw [0,1,2,3,4,5,6,7,8] [0] mixed (by kernel_rfl) (by kernel_rfl) ?_)
 intro w1 hx1 _
 replace hvb := hvb.ext hx1
 replace hv := hv.ext hx1
 have hko : Bw (fun z => z < w.heap.size ∧ z ≠ g) w _ := Bw.of hx1 (fun z hz => hz.1)
 refine .m2 rfl (.m2 rfl (.m2 rfl ?_))
 refine .t2 (t_addI rfl rfl (by omega)) ?_
 refine .t2 (t_sliceL Tryz.underlying41 ty43 rfl rfl rfl (by omega)) ?_
 rw [show (Value.slice (some (if cap = ((i : Int) + 1 : Int).toNat then (⟨g,0,none⟩ : Addr) else ⟨g,0 + ((i : Int) + 1 : Int).toNat * 3,none⟩)) (((l.length + 1 : Nat) : Int).toNat - ((i : Int) + 1 : Int).toNat) (cap - ((i : Int) + 1 : Int).toNat)) = .slice (some ⟨g,0 + (i + 1) * 3,none⟩) (l.length + 1 - (i + 1)) (cap - (i + 1)) from by rw [if_neg (by omega),show ((i : Int) + 1 : Int).toNat = i + 1 from by omega]; rfl]
 refine .m2 rfl (.m2 rfl ?_)
 refine .t2 (t_sliceL Tryz.underlying41 ty43 rfl rfl rfl (by omega)) ?_
 rw [show (Value.slice (some (if cap = (i : Int).toNat then (⟨g,0,none⟩ : Addr) else ⟨g,0 + (i : Int).toNat * 3,none⟩)) (((l.length + 1 : Nat) : Int).toNat - (i : Int).toNat) (cap - (i : Int).toNat)) = .slice (some ⟨g,0 + (i) * 3,none⟩) (l.length + 1 - (i)) (cap - (i)) from by rw [if_neg (by omega),show (i : Int).toNat = i from by omega]; rfl]
 have hmin2 : min (l.length + 1 - i) (l.length + 1 - (i + 1)) = l.length - i := by omega
 have hik : i * 3 + (l.length - i) * 3 = l.length * 3 := by rw [← Nat.add_mul]; congr 1; omega
 have hik1 : (i + 1) * 3 + (l.length - i) * 3 = (l.length + 1) * 3 := by rw [← Nat.add_mul]; congr 1; omega
 have hk1 : (l.length + 1) * 3 = l.length * 3 + 3 := by rw [Nat.add_mul,Nat.one_mul]
 have hi1 : (i + 1) * 3 = i * 3 + 3 := by rw [Nat.add_mul,Nat.one_mul]
 have hfit2 : 0 + (i + 1) * 3 + min (l.length + 1 - i) (l.length + 1 - (i + 1)) * 3 ≤ (encs gc l ++ sp).length := by rw [hmin2,List.length_append,hll]; omega
 have hdl : (encs gc (l.drop i)).length = (l.length - i) * 3 := by rw [encs_len gc_len,List.length_drop]
 have hcs2 : ∀ m,(((encs gc l ++ sp).drop (i * 3)).take m).take ((l.length - i) * 3) = (encs gc (l.drop i)).take m := fun m => by
  rw [List.take_take,Nat.min_comm,← List.take_take,encs_drop_all gc_len l sp i (by omega),List.take_left' hdl]
 have hone2 : ∀ u ∈ (((encs gc l ++ sp).drop (i * 3)).take ((l.length + 1 - i) * 3)).take (min (l.length + 1 - i) (l.length + 1 - (i + 1)) * 3),u.oneCell' = true := by
  rw [hmin2,hcs2]
  exact fun u hu => encs_cell gc_one _ u (List.mem_of_mem_take hu)
 have hs2 : ∀ w',Var w' g (encs gc l ++ sp) 43 → SlC w' (.slice (some ⟨g,0 + i * 3,none⟩) (l.length + 1 - i) (cap - i)) 3 (l.length + 1 - i) (((encs gc l ++ sp).drop (i * 3)).take ((l.length + 1 - i) * 3)) := fun w' h => by
  refine ⟨?_,_,_,rfl,by omega,.inr ⟨g,0 + i * 3,rfl,h.cells.sub _ _⟩⟩
  rw [List.length_take,List.length_drop,List.length_append,hll]
  have : (l.length + 1 - i) * 3 = (l.length + 1) * 3 - i * 3 := Nat.mul_sub_right_distrib _ _ _
  omega
 refine rg_wdC trivial rfl (w_copyT Tryz.underlying41 ty43 hv rfl rfl (hs2 _ hv) hfit2 hone2) rfl (by rfl) ?_
 rintro _ w4 ⟨hu4,hv4⟩
 refine .done (.sr (.m2 rfl (.m2 rfl ?_)))
 refine .t2 (t_sliceL Tryz.underlying41 ty43 rfl rfl rfl (by omega)) ?_
 rw [show (Value.slice (some (if cap = (i : Int).toNat then (⟨g,0,none⟩ : Addr) else ⟨g,0 + (i : Int).toNat * 3,none⟩)) (((l.length + 1 : Nat) : Int).toNat - (i : Int).toNat) (cap - (i : Int).toNat)) = .slice (some ⟨g,0 + (i) * 3,none⟩) (l.length + 1 - (i)) (cap - (i)) from by rw [if_neg (by omega),show (i : Int).toNat = i from by omega]; rfl]
 refine .m2 rfl ?_
 replace hvb := hvb.upd hu4 hne
 have hcl4 : (List.take (0 + (i + 1) * 3) (encs gc l ++ sp)).length = (i + 1) * 3 := by rw [List.length_take,List.length_append,hll]; omega
 have e4 : (encs gc (l.drop i)).take ((l.length + 1 - i) * 3) = encs gc (l.drop i) := List.take_of_length_le (by rw [hdl]; exact Nat.mul_le_mul_right _ (by omega))
 rw [hmin2,hcs2,e4] at hv4
 have hmin1 : min 1 (l.length + 1 - i) = 1 := by omega
 have hfit3 : 0 + i * 3 + min 1 (l.length + 1 - i) * 3 ≤ (List.take (0 + (i + 1) * 3) (encs gc l ++ sp) ++ encs gc (l.drop i) ++ List.drop (0 + (i + 1) * 3 + (l.length - i) * 3) (encs gc l ++ sp)).length := by
  rw [hmin1,List.length_append,List.length_append,hcl4,hdl]; omega
 refine Rg.wd trivial (w_copyT Tryz.underlying41 ty43 hv4 rfl rfl (slc_var hvb rfl) hfit3 (fun u hu => gc_one x u (List.mem_of_mem_take hu))) rfl ?_
 rintro _ w5 ⟨hu5,hv5⟩
 refine .done (.sr (.m2 rfl (.a2 rfl (.done (Wp.ret ?_)))))
 rw [hmin1] at hv5
 have ea : (List.take (0 + (i + 1) * 3) (encs gc l ++ sp) ++ encs gc (l.drop i) ++ List.drop (0 + (i + 1) * 3 + (l.length - i) * 3) (encs gc l ++ sp)).take (0 + i * 3) = encs gc (l.take i) := by
  rw [List.append_assoc,List.take_append_of_le_length (by rw [hcl4]; omega),List.take_take,Nat.min_eq_left (by omega),Nat.zero_add,encs_take_all gc_len l sp i (by omega)]
 have eb : (List.take (0 + (i + 1) * 3) (encs gc l ++ sp) ++ encs gc (l.drop i) ++ List.drop (0 + (i + 1) * 3 + (l.length - i) * 3) (encs gc l ++ sp)).drop (0 + i * 3 + 1 * 3) = encs gc (l.drop i) ++ List.drop (0 + (i + 1) * 3 + (l.length - i) * 3) (encs gc l ++ sp) := by
  rw [List.append_assoc,show 0 + i * 3 + 1 * 3 = (i + 1) * 3 from by rw [hi1]; omega,List.drop_left' hcl4]
 rw [ea,eb,List.take_of_length_le (show (gc x).length ≤ 1 * 3 from by rw [gc_len]; omega),← List.append_assoc,← insert1_encs] at hv5
 refine ⟨[_],⟨rfl,trivial⟩,?_,((hko.trans (Bw.upd hu4 fun hh => hh.2 rfl)).trans (Bw.upd hu5 fun hh => hh.2 rfl)).sub (fun z hz => ⟨hz.1,fun e => hz.2 (by rw [e]; rfl)⟩),fun b hb => .inl (by injection hb with hb; exact hb.symm)⟩
 refine whole_ownG hg (by rw [encs_len gc_len,insert1_length]) hrm hmx ?_ hv5
 rw [List.length_drop,List.length_append,hll]
 have : (cap - (l.length + 1)) * 3 = cap * 3 - (l.length + 1) * 3 := Nat.mul_sub_right_distrib _ _ _
 omega
def conv : Gt → G3
 | .mk k t (.slice p n c) _ => (k,t,p,n,c)
 | .mk k t _ _ => (k,t,none,0,0)
theorem conv_cells {F : Fs} {w : World} {g : Gt} (h : GOk F w g) : gc (conv g) = g.cells := by
 cases h with
 | mk hs h1 h2 h3 =>
  obtain ⟨_,p,cap,e,_⟩ := hs
  subst e
  rfl
theorem conv_encs {F : Fs} {w : World} {l : List Gt} (h : ∀ g ∈ l,GOk F w g) : encs gc (l.map conv) = encs Gt.cells l := by
 induction l with
 | nil => rfl
 | cons g l ih =>
  show gc (conv g) ++ encs gc (l.map conv) = g.cells ++ encs Gt.cells l
  rw [conv_cells (h g List.mem_cons_self),ih fun x hx => h x (List.mem_cons_of_mem _ hx)]
theorem insert1_map {α β : Type} (f : α → β) (l : List α) (i : Nat) (x : α) : (insert1 l i x).map f = insert1 (l.map f) i (f x) := by simp [insert1,List.map_take,List.map_drop]
theorem insertT_ok {w : World} {Q : Fs} {vb : Nat} {cv : Value} {kl : List Gt} {i : Nat} (ho : w.ownsRow 0 43 3 cv kl.length (encs Gt.cells kl)) (hok : ∀ g ∈ kl,GOk Q w g) (hl : kl.length ≤ 1000000000) (hi : i < kl.length) (hvb : Var w vb [.int .i64 0,.string nob,.slice none 0 0] 43) (hne : some vb ≠ cv.ownBlock) :
  Cl Tryz.prog 217 #[cv,.int .i64 i,.slice (some ⟨vb,0,none⟩) 1 1] w (fun u w' => w'.ownsRow 0 43 3 u (kl.length + 1) (encs Gt.cells (insert1 kl i (.mk 0 nob (.slice none 0 0) []))) ∧ Bw (fun z => z < w.heap.size ∧ some z ≠ u.ownBlock) w w' ∧ (∀ b,u.ownBlock = some b → cv.ownBlock = some b ∨ w.heap.size ≤ b)) := by
 rcases own_wholeG ho with ⟨_,h0⟩ | ⟨g,cap,sp,rfl,hg,hcap,hmx,hsp,hv⟩
 ·omega
 have e1 : encs gc (kl.map conv) = encs Gt.cells kl := conv_encs hok
 have hleaf : GOk Q w (.mk 0 nob (.slice none 0 0) []) := .mk ⟨by simp [encs],none,0,rfl,Nat.le_refl _,.inl rfl⟩ rfl (fun b hb => by cases hb) fun g hg => by cases hg
 have e2 : encs gc (insert1 (kl.map conv) i (0,nob,none,0,0)) = encs Gt.cells (insert1 kl i (.mk 0 nob (.slice none 0 0) [])) := by
  rw [← conv_encs (F := Q) (w := w) (l := insert1 kl i (.mk 0 nob (.slice none 0 0) [])),insert1_map]
  ·rfl
  ·intro g hg
   simp only [insert1,List.mem_append,List.mem_cons] at hg
   rcases hg with hg | rfl | hg
   ·exact hok g (List.mem_of_mem_take hg)
   ·exact hleaf
   ·exact hok g (List.mem_of_mem_drop hg)
 have hlm : (kl.map conv).length = kl.length := List.length_map _
 have hng : vb ≠ g := fun e => hne (by rw [e]; rfl)
 by_cases hr : kl.length + 1 ≤ cap
 ·have := insertTR_ok (B := 0) (x := (0,nob,none,0,0)) hg (by rw [hlm]; exact hcap) hmx (by rw [hlm]; exact hsp) (by rw [e1]; exact hv) (Nat.zero_le _) (by rw [hlm]; exact hl) hvb (by rw [hlm]; exact hi) (by rw [hlm]; exact hr) hng
  rw [hlm] at this
  exact this.mono fun u w' ⟨a,b,c⟩ => ⟨e2 ▸ a,b,fun z hz => (c z hz).imp (fun e => by rw [e]; rfl) id⟩
 ·have := insertTG_ok (B := 0) (x := (0,nob,none,0,0)) hg (by rw [hlm]; exact hcap) hmx (by rw [hlm]; exact hsp) (by rw [e1]; exact hv) (Nat.zero_le _) (by rw [hlm]; exact hl) hvb (by rw [hlm]; exact hi) (by rw [hlm]; omega) hng
  rw [hlm] at this
  exact this.mono fun u w' ⟨a,b,c⟩ => ⟨e2 ▸ a,b,fun z hz => (c z hz).imp (fun e => by rw [e]; rfl) id⟩
end Go.Proofs.YtiogccmfmjhipaaGreatDoor.Par
