/- The parser: primary, pattern, data types, members, postfix. Printed by r6/Nr.py (auto.py). -/
import Derived.Test.YtiogccmfmjhipaaGreatDoorXd
set_option linter.unusedVariables false
set_option linter.unusedSimpArgs false
namespace Go.Proofs.YtiogccmfmjhipaaGreatDoor.Par
set_option maxRecDepth 20000
open Go.Gx Go.RowKit Go.Lib
open Lexi (Asc)
section
variable {w0 : World} {tv : Value} {toks : List Tok} {F : Fs} {w w' : World} {bP : Nat} {below : List (Int × List Tr)} {k : Int} {s r : S} {n : Nat}
theorem N_primary (hC : Cx w0 tv toks) (hD : ∀ m,m < n → DN w0 tv toks m) (hp : Ps w0 tv toks F w bP below k s) (hr : run body n (body .primary) s = some r) (hb : r.adds ≤ big) :
  Cl Tryz.prog 296 #[.pointer (some ⟨bP,0,none⟩)] w (fun u w' => (Nm.primary = Nm.statement → u = .bool r.flag) ∧ Ps w0 tv toks F w' bP below k r ∧ Bw F w w') := by
 have hbw := Bw.refl F w
 have hsub : ∀ z,F z → F z := fun z h => h
 have hbase := hp.base
 have hr : run body n (.cond (fun t _ _ _ => t.1 == 105) (.node 27 .bump) (.cond (fun t _ _ _ => t.1 == 106) (.node 29 .bump) (.cond (at1 [⟨#[116,114,117,101]⟩,⟨#[102,97,108,115,101]⟩]) (.node 28 .bump) (.cond ident (.seq (.call (.path false)) (.cond (fun t u _ _ => isAt [⟨#[33]⟩] t && isAt [⟨#[40]⟩] u) (.wrap 42 (.seq .bump (.call .arguments))) .skip)) (.cond (at1 [⟨#[40]⟩]) (.node 60 (.seq .bump (.seq Cmd.expr (Cmd.exp ⟨#[41]⟩)))) (.cond (at1 [⟨#[123]⟩]) (.call .block) (.cond (at1 [⟨#[105,102]⟩]) (.call .ifExpr) (.cond (at1 [⟨#[109,97,116,99,104]⟩]) (.node 35 (.call .matchE)) (.cond (at1 [⟨#[110,101,119]⟩]) (.node 33 (.call .structLit)) (.cond (at1 [⟨#[124]⟩,⟨#[124,124]⟩]) (.node 38 (.call .lambda)) (.leaf 46))))))))))) s = some r := hr
 refine Cl.enter Tryz.func296 rfl Tryz.ntmps296 rfl rfl (.sr (Rg.wd trivial (w_boxed rfl rfl) rfl ?_))
 rintro _ w1 ⟨bx172_1,rfl,qbx172_1,hx1,hv_bx172_1⟩
 replace hbw := bS hbw hp.und hsub hx1
 obtain ⟨F_bx172_1,hp1,hF_bx172_1,hs1⟩ := hp.box hx1 qbx172_1 hv_bx172_1.lt
 clear hp
 have hp := hp1
 clear hp1
 replace hsub := fun z hz => hs1 z (hsub z hz)
 refine .done (.sr (.t2 (t_load ty100 rfl (hv_bx172_1.g 0 rfl)) (Rg.wd trivial (w_call Tryz.call93 rfl (hp.peek hC)) rfl ?_)))
 rintro _ w2 ⟨rfl,hx2⟩
 replace hbw := bS hbw hp.und hsub hx2
 replace hp := hp.extw hx2
 replace hv_bx172_1 := hv_bx172_1.ext hx2
 have hlo_bx172_2 := hp.ext.le
 have hlt_bx172_2_bx172_1 := hv_bx172_1.lt
 have hun_bx172_2 := fun z hz => hp.und z (hsub z hz)
 refine Rg.wd trivial (w_new Tryz.zeroValue91 rfl) rfl ?_
 rintro _ w3 ⟨bx172_2,rfl,qbx172_2,hx3,hv_bx172_2⟩
 replace hbw := bS hbw hp.und hsub hx3
 obtain ⟨F_bx172_2,hp1,hF_bx172_2,hs3⟩ := hp.box hx3 qbx172_2 hv_bx172_2.lt
 clear hp
 have hp := hp1
 clear hp1
 replace hsub := fun z hz => hs3 z (hsub z hz)
 replace hv_bx172_1 := hv_bx172_1.ext hx3
 replace hF_bx172_1 := hs3 _ hF_bx172_1
 have hn_bx172_2 : ¬ F bx172_2 := fun hh => by have := hun_bx172_2 _ hh; omega
 have hw_bx172_2 : w0.heap.size ≤ bx172_2 := by omega
 have hne_bx172_2_bx172_1 : bx172_1 ≠ bx172_2 := by omega
 refine Rg.wn trivial (w_put hv_bx172_2 rfl rfl rfl ty91 rfl rfl) ?_
 rintro _ w4 ⟨hu4,hvn⟩
 replace hbw := hbw.trans (Bw.upd hu4 hn_bx172_2)
 replace hp := hp.updF hu4 hF_bx172_2 hw_bx172_2
 clear hv_bx172_2
 have hv_bx172_2 := hvn
 clear hvn
 replace hv_bx172_1 := hv_bx172_1.upd hu4 hne_bx172_2_bx172_1
 refine .done (Wp.block ?_)
 cases haq1 : ((sig1 s.rem).1 == 105) with
 | true =>
  have hq2 := run_condT hr haq1
  refine .sr (.t2 (t_fieldAddr fa91_0 rfl) (.t2 (t_load ty3 rfl (hv_bx172_2.g 0 rfl)) (.t2 (t_eqlT rfl rfl (beq_iff_eq.1 haq1)) (.a2 rfl (.done (.condT rfl (Wp.region (.t2 (t_load ty100 rfl (hv_bx172_1.g 0 rfl)) (.t2 (t_load ty100 rfl (hv_bx172_1.g 0 rfl)) (.t2 (t_makeFuncB (us := [.pointer (some ⟨bP,0,none⟩)]) (vs := []) rfl rfl) (Rg.wd trivial (w_call Tryz.call98 rfl (D_node hp (clo_bump hC) hq2 hb)) rfl ?_)))))))))))
  rintro _ w5 ⟨hp1,hb5⟩
  replace hv_bx172_1 := var_bw hv_bx172_1 hb5 hF_bx172_1
  replace hv_bx172_2 := var_bw hv_bx172_2 hb5 hF_bx172_2
  replace hbw := hbw.trans (hb5.sub hsub)
  clear hp
  have hp := hp1
  clear hp1
  refine .done ?_
  exact ⟨[],trivial,(fun h => by cases h),hp.sub hsub hbase,hbw⟩
 | false =>
  have hq2 := run_condF hr haq1
  refine .sr (.t2 (t_fieldAddr fa91_0 rfl) (.t2 (t_load ty3 rfl (hv_bx172_2.g 0 rfl)) ?_))
  refine .t2 (t_eqlF rfl rfl (fun e => by rw [beq_iff_eq.2 e] at haq1; cases haq1)) ?_
  refine .a2 rfl (.done (.condF rfl ?_))
  cases haq3 : ((sig1 s.rem).1 == 106) with
  | true =>
   have hq4 := run_condT hq2 haq3
   refine .sr (.t2 (t_fieldAddr fa91_0 rfl) (.t2 (t_load ty3 rfl (hv_bx172_2.g 0 rfl)) (.t2 (t_eqlT rfl rfl (beq_iff_eq.1 haq3)) (.a2 rfl (.done (.condT rfl (Wp.region (.t2 (t_load ty100 rfl (hv_bx172_1.g 0 rfl)) (.t2 (t_load ty100 rfl (hv_bx172_1.g 0 rfl)) (.t2 (t_makeFuncB (us := [.pointer (some ⟨bP,0,none⟩)]) (vs := []) rfl rfl) (Rg.wd trivial (w_call Tryz.call98 rfl (D_node hp (clo_bump hC) hq4 hb)) rfl ?_)))))))))))
   rintro _ w5 ⟨hp1,hb5⟩
   replace hv_bx172_1 := var_bw hv_bx172_1 hb5 hF_bx172_1
   replace hv_bx172_2 := var_bw hv_bx172_2 hb5 hF_bx172_2
   replace hbw := hbw.trans (hb5.sub hsub)
   clear hp
   have hp := hp1
   clear hp1
   refine .done ?_
   exact ⟨[],trivial,(fun h => by cases h),hp.sub hsub hbase,hbw⟩
  | false =>
   have hq4 := run_condF hq2 haq3
   refine .sr (.t2 (t_fieldAddr fa91_0 rfl) (.t2 (t_load ty3 rfl (hv_bx172_2.g 0 rfl)) ?_))
   refine .t2 (t_eqlF rfl rfl (fun e => by rw [beq_iff_eq.2 e] at haq3; cases haq3)) ?_
   refine .a2 rfl (.done (.condF rfl ?_))
   cases haq5 : (isAt [⟨#[116,114,117,101]⟩,⟨#[102,97,108,115,101]⟩] (sig1 s.rem)) with
   | true =>
    have hq6 := run_condT hq4 haq5
    refine .sr (.t2 (t_load ty100 rfl (hv_bx172_1.g 0 rfl)) (Rg.wd trivial (w_buildSlice (bs38_2 _ _) rfl) rfl ?_))
    rintro _ w5 ⟨bt25,rfl,qt25,hx5,hvt25⟩
    replace hbw := bS hbw hp.und hsub hx5
    replace hp := hp.extw hx5
    replace hv_bx172_1 := hv_bx172_1.ext hx5
    replace hv_bx172_2 := hv_bx172_2.ext hx5
    refine Rg.wd trivial (w_call Tryz.call94 rfl (at_ok hC hp (texts := [⟨#[116,114,117,101]⟩,⟨#[102,97,108,115,101]⟩]) hvt25 (by decide))) rfl ?_
    rintro _ w6 ⟨rfl,hx6⟩
    replace hbw := bS hbw hp.und hsub hx6
    replace hp := hp.extw hx6
    replace hv_bx172_1 := hv_bx172_1.ext hx6
    replace hv_bx172_2 := hv_bx172_2.ext hx6
    try replace hvt25 := hvt25.ext hx6
    rw [show (isAt [⟨#[116,114,117,101]⟩,⟨#[102,97,108,115,101]⟩] (sig1 s.rem)) = true from haq5]
    refine .a2 rfl (.done (.condT rfl (Wp.region (.t2 (t_load ty100 rfl (hv_bx172_1.g 0 rfl)) (.t2 (t_load ty100 rfl (hv_bx172_1.g 0 rfl)) (.t2 (t_makeFuncB (us := [.pointer (some ⟨bP,0,none⟩)]) (vs := []) rfl rfl) (Rg.wd trivial (w_call Tryz.call98 rfl (D_node hp (clo_bump hC) hq6 hb)) rfl ?_)))))))
    rintro _ w7 ⟨hp1,hb7⟩
    replace hv_bx172_1 := var_bw hv_bx172_1 hb7 hF_bx172_1
    replace hv_bx172_2 := var_bw hv_bx172_2 hb7 hF_bx172_2
    replace hbw := hbw.trans (hb7.sub hsub)
    clear hp
    have hp := hp1
    clear hp1
    refine .done ?_
    exact ⟨[],trivial,(fun h => by cases h),hp.sub hsub hbase,hbw⟩
   | false =>
    have hq6 := run_condF hq4 haq5
    refine .sr (.t2 (t_load ty100 rfl (hv_bx172_1.g 0 rfl)) (Rg.wd trivial (w_buildSlice (bs38_2 _ _) rfl) rfl ?_))
    rintro _ w5 ⟨bt25,rfl,qt25,hx5,hvt25⟩
    replace hbw := bS hbw hp.und hsub hx5
    replace hp := hp.extw hx5
    replace hv_bx172_1 := hv_bx172_1.ext hx5
    replace hv_bx172_2 := hv_bx172_2.ext hx5
    refine Rg.wd trivial (w_call Tryz.call94 rfl (at_ok hC hp (texts := [⟨#[116,114,117,101]⟩,⟨#[102,97,108,115,101]⟩]) hvt25 (by decide))) rfl ?_
    rintro _ w6 ⟨rfl,hx6⟩
    replace hbw := bS hbw hp.und hsub hx6
    replace hp := hp.extw hx6
    replace hv_bx172_1 := hv_bx172_1.ext hx6
    replace hv_bx172_2 := hv_bx172_2.ext hx6
    try replace hvt25 := hvt25.ext hx6
    rw [show (isAt [⟨#[116,114,117,101]⟩,⟨#[102,97,108,115,101]⟩] (sig1 s.rem)) = false from haq5]
    refine .a2 rfl (.done (.condF rfl ?_))
    cases haq7 : ((sig1 s.rem).1 == 103) with
    | true =>
     have hq8 := run_condT hq6 haq7
     refine .sr (.t2 (t_fieldAddr fa91_0 rfl) (.t2 (t_load ty3 rfl (hv_bx172_2.g 0 rfl)) (.t2 (t_eqlT rfl rfl (beq_iff_eq.1 haq7)) (.a2 rfl (.done (.condT rfl (.sr (.t2 (t_load ty100 rfl (hv_bx172_1.g 0 rfl)) ?_))))))))
     obtain ⟨s1,h1a,h1b⟩ := run_seq' hq8
     refine Rg.wd trivial (w_call Tryz.call220 rfl (D_call hD hp h1a (adds_le h1b hb))) rfl ?_
     rintro _ w7 ⟨hst,hp1,hb7⟩
     replace hv_bx172_1 := var_bw hv_bx172_1 hb7 hF_bx172_1
     replace hv_bx172_2 := var_bw hv_bx172_2 hb7 hF_bx172_2
     replace hbw := hbw.trans (hb7.sub hsub)
     clear hp
     have hp := hp1
     clear hp1
     refine .done ?_
     cases haq9 : (isAt [⟨#[33]⟩] (sig1 s1.rem)) with
     | true =>
      cases haq10 : (isAt [⟨#[40]⟩] (sig1 (left s1.rem))) with
      | true =>
       have hq11 := run_condT h1b (show S.test _ _ = true by simp only [S.test,at1,ident,bne,haq9,haq10]; (try rfl))
       refine .sr (.t2 (t_load ty100 rfl (hv_bx172_1.g 0 rfl)) (Rg.wd trivial (w_buildSlice (bs38_1 _) rfl) rfl ?_))
       rintro _ w8 ⟨bt38,rfl,qt38,hx8,hvt38⟩
       replace hbw := bS hbw hp.und hsub hx8
       replace hp := hp.extw hx8
       replace hv_bx172_1 := hv_bx172_1.ext hx8
       replace hv_bx172_2 := hv_bx172_2.ext hx8
       refine Rg.wd trivial (w_call Tryz.call94 rfl (at_ok hC hp (texts := [⟨#[33]⟩]) hvt38 (by decide))) rfl ?_
       rintro _ w9 ⟨rfl,hx9⟩
       replace hbw := bS hbw hp.und hsub hx9
       replace hp := hp.extw hx9
       replace hv_bx172_1 := hv_bx172_1.ext hx9
       replace hv_bx172_2 := hv_bx172_2.ext hx9
       try replace hvt38 := hvt38.ext hx9
       rw [show (isAt [⟨#[33]⟩] (sig1 s1.rem)) = true from haq9]
       refine .m2 rfl (.g2 (t_load ty100 rfl (hv_bx172_1.g 0 rfl)) (Rg.wd ⟨_,rfl,rfl⟩ (w_call Tryz.call95 rfl (lookahead_ok hC hp)) rfl ?_))
       rintro _ w10 ⟨bk42,rfl,hk42,hx10⟩
       replace hbw := bS hbw hp.und hsub hx10
       replace hp := hp.extw hx10
       replace hv_bx172_1 := hv_bx172_1.ext hx10
       replace hv_bx172_2 := hv_bx172_2.ext hx10
       try replace hvt38 := hvt38.ext hx10
       refine Rg.wd ⟨_,rfl,rfl⟩ (w_buildSlice (bs38_1 _) rfl) rfl ?_
       rintro _ w11 ⟨bt43,rfl,qt43,hx11,hvt43⟩
       replace hbw := bS hbw hp.und hsub hx11
       replace hp := hp.extw hx11
       replace hv_bx172_1 := hv_bx172_1.ext hx11
       replace hv_bx172_2 := hv_bx172_2.ext hx11
       try replace hvt38 := hvt38.ext hx11
       try replace hk42 := hk42.extw hx11
       refine Rg.wd ⟨_,rfl,rfl⟩ (w_call Tryz.call94 rfl (at_ok hC hk42 (texts := [⟨#[40]⟩]) hvt43 (by decide))) rfl ?_
       rintro _ w12 ⟨rfl,hx12⟩
       replace hbw := bS hbw hp.und hsub hx12
       replace hp := hp.extw hx12
       replace hv_bx172_1 := hv_bx172_1.ext hx12
       replace hv_bx172_2 := hv_bx172_2.ext hx12
       try replace hvt38 := hvt38.ext hx12
       try replace hvt43 := hvt43.ext hx12
       try replace hk42 := hk42.extw hx12
       rw [show (isAt [⟨#[40]⟩] (sig1 s1.look.rem)) = true from haq10]
       refine .t2 (t_pickT rfl rfl) (.done (.condT rfl (Wp.region (.t2 (t_load ty100 rfl (hv_bx172_1.g 0 rfl)) (.t2 (t_makeFuncB (us := []) (vs := [.pointer (some ⟨bx172_1,0,none⟩)]) rfl rfl) (Rg.wd trivial (w_call Tryz.call267 rfl (D_wrap hp (clo_180 hC hD hv_bx172_1 hF_bx172_1) hq11 hb)) rfl ?_))))))
       rintro _ w13 ⟨hp1,hb13⟩
       replace hv_bx172_1 := var_bw hv_bx172_1 hb13 hF_bx172_1
       replace hv_bx172_2 := var_bw hv_bx172_2 hb13 hF_bx172_2
       replace hbw := hbw.trans (hb13.sub hsub)
       clear hp
       have hp := hp1
       clear hp1
       refine .done ?_
       exact ⟨[],trivial,(fun h => by cases h),hp.sub hsub hbase,hbw⟩
      | false =>
       have hq11 := run_condF h1b (show S.test _ _ = false by simp only [S.test,at1,ident,bne,haq9,haq10]; (try rfl))
       obtain rfl := run_skip' hq11
       refine .sr (.t2 (t_load ty100 rfl (hv_bx172_1.g 0 rfl)) (Rg.wd trivial (w_buildSlice (bs38_1 _) rfl) rfl ?_))
       rintro _ w8 ⟨bt38,rfl,qt38,hx8,hvt38⟩
       replace hbw := bS hbw hp.und hsub hx8
       replace hp := hp.extw hx8
       replace hv_bx172_1 := hv_bx172_1.ext hx8
       replace hv_bx172_2 := hv_bx172_2.ext hx8
       refine Rg.wd trivial (w_call Tryz.call94 rfl (at_ok hC hp (texts := [⟨#[33]⟩]) hvt38 (by decide))) rfl ?_
       rintro _ w9 ⟨rfl,hx9⟩
       replace hbw := bS hbw hp.und hsub hx9
       replace hp := hp.extw hx9
       replace hv_bx172_1 := hv_bx172_1.ext hx9
       replace hv_bx172_2 := hv_bx172_2.ext hx9
       try replace hvt38 := hvt38.ext hx9
       rw [show (isAt [⟨#[33]⟩] (sig1 r.rem)) = true from haq9]
       refine .m2 rfl (.g2 (t_load ty100 rfl (hv_bx172_1.g 0 rfl)) (Rg.wd ⟨_,rfl,rfl⟩ (w_call Tryz.call95 rfl (lookahead_ok hC hp)) rfl ?_))
       rintro _ w10 ⟨bk42,rfl,hk42,hx10⟩
       replace hbw := bS hbw hp.und hsub hx10
       replace hp := hp.extw hx10
       replace hv_bx172_1 := hv_bx172_1.ext hx10
       replace hv_bx172_2 := hv_bx172_2.ext hx10
       try replace hvt38 := hvt38.ext hx10
       refine Rg.wd ⟨_,rfl,rfl⟩ (w_buildSlice (bs38_1 _) rfl) rfl ?_
       rintro _ w11 ⟨bt43,rfl,qt43,hx11,hvt43⟩
       replace hbw := bS hbw hp.und hsub hx11
       replace hp := hp.extw hx11
       replace hv_bx172_1 := hv_bx172_1.ext hx11
       replace hv_bx172_2 := hv_bx172_2.ext hx11
       try replace hvt38 := hvt38.ext hx11
       try replace hk42 := hk42.extw hx11
       refine Rg.wd ⟨_,rfl,rfl⟩ (w_call Tryz.call94 rfl (at_ok hC hk42 (texts := [⟨#[40]⟩]) hvt43 (by decide))) rfl ?_
       rintro _ w12 ⟨rfl,hx12⟩
       replace hbw := bS hbw hp.und hsub hx12
       replace hp := hp.extw hx12
       replace hv_bx172_1 := hv_bx172_1.ext hx12
       replace hv_bx172_2 := hv_bx172_2.ext hx12
       try replace hvt38 := hvt38.ext hx12
       try replace hvt43 := hvt43.ext hx12
       try replace hk42 := hk42.extw hx12
       rw [show (isAt [⟨#[40]⟩] (sig1 r.look.rem)) = false from haq10]
       refine .t2 (t_pickT rfl rfl) (.done (.condF rfl (Wp.skip ?_)))
       exact ⟨[],trivial,(fun h => by cases h),hp.sub hsub hbase,hbw⟩
     | false =>
      have hq10 := run_condF h1b (show S.test _ _ = false by simp only [S.test,at1,ident,bne,haq9]; (try rfl))
      obtain rfl := run_skip' hq10
      refine .sr (.t2 (t_load ty100 rfl (hv_bx172_1.g 0 rfl)) (Rg.wd trivial (w_buildSlice (bs38_1 _) rfl) rfl ?_))
      rintro _ w8 ⟨bt38,rfl,qt38,hx8,hvt38⟩
      replace hbw := bS hbw hp.und hsub hx8
      replace hp := hp.extw hx8
      replace hv_bx172_1 := hv_bx172_1.ext hx8
      replace hv_bx172_2 := hv_bx172_2.ext hx8
      refine Rg.wd trivial (w_call Tryz.call94 rfl (at_ok hC hp (texts := [⟨#[33]⟩]) hvt38 (by decide))) rfl ?_
      rintro _ w9 ⟨rfl,hx9⟩
      replace hbw := bS hbw hp.und hsub hx9
      replace hp := hp.extw hx9
      replace hv_bx172_1 := hv_bx172_1.ext hx9
      replace hv_bx172_2 := hv_bx172_2.ext hx9
      try replace hvt38 := hvt38.ext hx9
      rw [show (isAt [⟨#[33]⟩] (sig1 r.rem)) = false from haq9]
      refine .m2 rfl (.so rfl rfl (.so rfl rfl (.so rfl rfl (.so rfl rfl (.t2 (t_pickF rfl rfl) (.done (.condF rfl (Wp.skip ?_))))))))
      exact ⟨[],trivial,(fun h => by cases h),hp.sub hsub hbase,hbw⟩
    | false =>
     have hq8 := run_condF hq6 haq7
     refine .sr (.t2 (t_fieldAddr fa91_0 rfl) (.t2 (t_load ty3 rfl (hv_bx172_2.g 0 rfl)) ?_))
     refine .t2 (t_eqlF rfl rfl (fun e => by rw [beq_iff_eq.2 e] at haq7; cases haq7)) ?_
     refine .a2 rfl (.done (.condF rfl ?_))
     cases haq9 : (isAt [⟨#[40]⟩] (sig1 s.rem)) with
     | true =>
      have hq10 := run_condT hq8 haq9
      refine .sr (.t2 (t_load ty100 rfl (hv_bx172_1.g 0 rfl)) (Rg.wd trivial (w_buildSlice (bs38_1 _) rfl) rfl ?_))
      rintro _ w7 ⟨bt51,rfl,qt51,hx7,hvt51⟩
      replace hbw := bS hbw hp.und hsub hx7
      replace hp := hp.extw hx7
      replace hv_bx172_1 := hv_bx172_1.ext hx7
      replace hv_bx172_2 := hv_bx172_2.ext hx7
      try replace hvt25 := hvt25.ext hx7
      refine Rg.wd trivial (w_call Tryz.call94 rfl (at_ok hC hp (texts := [⟨#[40]⟩]) hvt51 (by decide))) rfl ?_
      rintro _ w8 ⟨rfl,hx8⟩
      replace hbw := bS hbw hp.und hsub hx8
      replace hp := hp.extw hx8
      replace hv_bx172_1 := hv_bx172_1.ext hx8
      replace hv_bx172_2 := hv_bx172_2.ext hx8
      try replace hvt25 := hvt25.ext hx8
      try replace hvt51 := hvt51.ext hx8
      rw [show (isAt [⟨#[40]⟩] (sig1 s.rem)) = true from haq9]
      refine .a2 rfl (.done (.condT rfl (Wp.region (.t2 (t_load ty100 rfl (hv_bx172_1.g 0 rfl)) (.t2 (t_makeFuncB (us := []) (vs := [.pointer (some ⟨bx172_1,0,none⟩)]) rfl rfl) (Rg.wd trivial (w_call Tryz.call98 rfl (D_node hp (clo_182 hC hD hv_bx172_1 hF_bx172_1) hq10 hb)) rfl ?_))))))
      rintro _ w9 ⟨hp1,hb9⟩
      replace hv_bx172_1 := var_bw hv_bx172_1 hb9 hF_bx172_1
      replace hv_bx172_2 := var_bw hv_bx172_2 hb9 hF_bx172_2
      replace hbw := hbw.trans (hb9.sub hsub)
      clear hp
      have hp := hp1
      clear hp1
      refine .done ?_
      exact ⟨[],trivial,(fun h => by cases h),hp.sub hsub hbase,hbw⟩
     | false =>
      have hq10 := run_condF hq8 haq9
      refine .sr (.t2 (t_load ty100 rfl (hv_bx172_1.g 0 rfl)) (Rg.wd trivial (w_buildSlice (bs38_1 _) rfl) rfl ?_))
      rintro _ w7 ⟨bt51,rfl,qt51,hx7,hvt51⟩
      replace hbw := bS hbw hp.und hsub hx7
      replace hp := hp.extw hx7
      replace hv_bx172_1 := hv_bx172_1.ext hx7
      replace hv_bx172_2 := hv_bx172_2.ext hx7
      try replace hvt25 := hvt25.ext hx7
      refine Rg.wd trivial (w_call Tryz.call94 rfl (at_ok hC hp (texts := [⟨#[40]⟩]) hvt51 (by decide))) rfl ?_
      rintro _ w8 ⟨rfl,hx8⟩
      replace hbw := bS hbw hp.und hsub hx8
      replace hp := hp.extw hx8
      replace hv_bx172_1 := hv_bx172_1.ext hx8
      replace hv_bx172_2 := hv_bx172_2.ext hx8
      try replace hvt25 := hvt25.ext hx8
      try replace hvt51 := hvt51.ext hx8
      rw [show (isAt [⟨#[40]⟩] (sig1 s.rem)) = false from haq9]
      refine .a2 rfl (.done (.condF rfl ?_))
      cases haq11 : (isAt [⟨#[123]⟩] (sig1 s.rem)) with
      | true =>
       have hq12 := run_condT hq10 haq11
       refine .sr (.t2 (t_load ty100 rfl (hv_bx172_1.g 0 rfl)) (Rg.wd trivial (w_buildSlice (bs38_1 _) rfl) rfl ?_))
       rintro _ w9 ⟨bt58,rfl,qt58,hx9,hvt58⟩
       replace hbw := bS hbw hp.und hsub hx9
       replace hp := hp.extw hx9
       replace hv_bx172_1 := hv_bx172_1.ext hx9
       replace hv_bx172_2 := hv_bx172_2.ext hx9
       try replace hvt25 := hvt25.ext hx9
       try replace hvt51 := hvt51.ext hx9
       refine Rg.wd trivial (w_call Tryz.call94 rfl (at_ok hC hp (texts := [⟨#[123]⟩]) hvt58 (by decide))) rfl ?_
       rintro _ w10 ⟨rfl,hx10⟩
       replace hbw := bS hbw hp.und hsub hx10
       replace hp := hp.extw hx10
       replace hv_bx172_1 := hv_bx172_1.ext hx10
       replace hv_bx172_2 := hv_bx172_2.ext hx10
       try replace hvt25 := hvt25.ext hx10
       try replace hvt51 := hvt51.ext hx10
       try replace hvt58 := hvt58.ext hx10
       rw [show (isAt [⟨#[123]⟩] (sig1 s.rem)) = true from haq11]
       refine .a2 rfl (.done (.condT rfl (Wp.region (.t2 (t_load ty100 rfl (hv_bx172_1.g 0 rfl)) (Rg.wd trivial (w_call Tryz.call208 rfl (D_call hD hp hq12 hb)) rfl ?_)))))
       rintro _ w11 ⟨hst,hp1,hb11⟩
       replace hv_bx172_1 := var_bw hv_bx172_1 hb11 hF_bx172_1
       replace hv_bx172_2 := var_bw hv_bx172_2 hb11 hF_bx172_2
       replace hbw := hbw.trans (hb11.sub hsub)
       clear hp
       have hp := hp1
       clear hp1
       refine .done ?_
       exact ⟨[],trivial,(fun h => by cases h),hp.sub hsub hbase,hbw⟩
      | false =>
       have hq12 := run_condF hq10 haq11
       refine .sr (.t2 (t_load ty100 rfl (hv_bx172_1.g 0 rfl)) (Rg.wd trivial (w_buildSlice (bs38_1 _) rfl) rfl ?_))
       rintro _ w9 ⟨bt58,rfl,qt58,hx9,hvt58⟩
       replace hbw := bS hbw hp.und hsub hx9
       replace hp := hp.extw hx9
       replace hv_bx172_1 := hv_bx172_1.ext hx9
       replace hv_bx172_2 := hv_bx172_2.ext hx9
       try replace hvt25 := hvt25.ext hx9
       try replace hvt51 := hvt51.ext hx9
       refine Rg.wd trivial (w_call Tryz.call94 rfl (at_ok hC hp (texts := [⟨#[123]⟩]) hvt58 (by decide))) rfl ?_
       rintro _ w10 ⟨rfl,hx10⟩
       replace hbw := bS hbw hp.und hsub hx10
       replace hp := hp.extw hx10
       replace hv_bx172_1 := hv_bx172_1.ext hx10
       replace hv_bx172_2 := hv_bx172_2.ext hx10
       try replace hvt25 := hvt25.ext hx10
       try replace hvt51 := hvt51.ext hx10
       try replace hvt58 := hvt58.ext hx10
       rw [show (isAt [⟨#[123]⟩] (sig1 s.rem)) = false from haq11]
       refine .a2 rfl (.done (.condF rfl ?_))
       cases haq13 : (isAt [⟨#[105,102]⟩] (sig1 s.rem)) with
       | true =>
        have hq14 := run_condT hq12 haq13
        refine .sr (.t2 (t_load ty100 rfl (hv_bx172_1.g 0 rfl)) (Rg.wd trivial (w_buildSlice (bs38_1 _) rfl) rfl ?_))
        rintro _ w11 ⟨bt64,rfl,qt64,hx11,hvt64⟩
        replace hbw := bS hbw hp.und hsub hx11
        replace hp := hp.extw hx11
        replace hv_bx172_1 := hv_bx172_1.ext hx11
        replace hv_bx172_2 := hv_bx172_2.ext hx11
        try replace hvt25 := hvt25.ext hx11
        try replace hvt51 := hvt51.ext hx11
        try replace hvt58 := hvt58.ext hx11
        refine Rg.wd trivial (w_call Tryz.call94 rfl (at_ok hC hp (texts := [⟨#[105,102]⟩]) hvt64 (by decide))) rfl ?_
        rintro _ w12 ⟨rfl,hx12⟩
        replace hbw := bS hbw hp.und hsub hx12
        replace hp := hp.extw hx12
        replace hv_bx172_1 := hv_bx172_1.ext hx12
        replace hv_bx172_2 := hv_bx172_2.ext hx12
        try replace hvt25 := hvt25.ext hx12
        try replace hvt51 := hvt51.ext hx12
        try replace hvt58 := hvt58.ext hx12
        try replace hvt64 := hvt64.ext hx12
        rw [show (isAt [⟨#[105,102]⟩] (sig1 s.rem)) = true from haq13]
        refine .a2 rfl (.done (.condT rfl (Wp.region (.t2 (t_load ty100 rfl (hv_bx172_1.g 0 rfl)) (Rg.wd trivial (w_call Tryz.call316 rfl (D_call hD hp hq14 hb)) rfl ?_)))))
        rintro _ w13 ⟨hst,hp1,hb13⟩
        replace hv_bx172_1 := var_bw hv_bx172_1 hb13 hF_bx172_1
        replace hv_bx172_2 := var_bw hv_bx172_2 hb13 hF_bx172_2
        replace hbw := hbw.trans (hb13.sub hsub)
        clear hp
        have hp := hp1
        clear hp1
        refine .done ?_
        exact ⟨[],trivial,(fun h => by cases h),hp.sub hsub hbase,hbw⟩
       | false =>
        have hq14 := run_condF hq12 haq13
        refine .sr (.t2 (t_load ty100 rfl (hv_bx172_1.g 0 rfl)) (Rg.wd trivial (w_buildSlice (bs38_1 _) rfl) rfl ?_))
        rintro _ w11 ⟨bt64,rfl,qt64,hx11,hvt64⟩
        replace hbw := bS hbw hp.und hsub hx11
        replace hp := hp.extw hx11
        replace hv_bx172_1 := hv_bx172_1.ext hx11
        replace hv_bx172_2 := hv_bx172_2.ext hx11
        try replace hvt25 := hvt25.ext hx11
        try replace hvt51 := hvt51.ext hx11
        try replace hvt58 := hvt58.ext hx11
        refine Rg.wd trivial (w_call Tryz.call94 rfl (at_ok hC hp (texts := [⟨#[105,102]⟩]) hvt64 (by decide))) rfl ?_
        rintro _ w12 ⟨rfl,hx12⟩
        replace hbw := bS hbw hp.und hsub hx12
        replace hp := hp.extw hx12
        replace hv_bx172_1 := hv_bx172_1.ext hx12
        replace hv_bx172_2 := hv_bx172_2.ext hx12
        try replace hvt25 := hvt25.ext hx12
        try replace hvt51 := hvt51.ext hx12
        try replace hvt58 := hvt58.ext hx12
        try replace hvt64 := hvt64.ext hx12
        rw [show (isAt [⟨#[105,102]⟩] (sig1 s.rem)) = false from haq13]
        refine .a2 rfl (.done (.condF rfl ?_))
        cases haq15 : (isAt [⟨#[109,97,116,99,104]⟩] (sig1 s.rem)) with
        | true =>
         have hq16 := run_condT hq14 haq15
         refine .sr (.t2 (t_load ty100 rfl (hv_bx172_1.g 0 rfl)) (Rg.wd trivial (w_buildSlice (bs38_1 _) rfl) rfl ?_))
         rintro _ w13 ⟨bt70,rfl,qt70,hx13,hvt70⟩
         replace hbw := bS hbw hp.und hsub hx13
         replace hp := hp.extw hx13
         replace hv_bx172_1 := hv_bx172_1.ext hx13
         replace hv_bx172_2 := hv_bx172_2.ext hx13
         try replace hvt25 := hvt25.ext hx13
         try replace hvt51 := hvt51.ext hx13
         try replace hvt58 := hvt58.ext hx13
         try replace hvt64 := hvt64.ext hx13
         refine Rg.wd trivial (w_call Tryz.call94 rfl (at_ok hC hp (texts := [⟨#[109,97,116,99,104]⟩]) hvt70 (by decide))) rfl ?_
         rintro _ w14 ⟨rfl,hx14⟩
         replace hbw := bS hbw hp.und hsub hx14
         replace hp := hp.extw hx14
         replace hv_bx172_1 := hv_bx172_1.ext hx14
         replace hv_bx172_2 := hv_bx172_2.ext hx14
         try replace hvt25 := hvt25.ext hx14
         try replace hvt51 := hvt51.ext hx14
         try replace hvt58 := hvt58.ext hx14
         try replace hvt64 := hvt64.ext hx14
         try replace hvt70 := hvt70.ext hx14
         rw [show (isAt [⟨#[109,97,116,99,104]⟩] (sig1 s.rem)) = true from haq15]
         refine .a2 rfl (.done (.condT rfl (Wp.region (.t2 (t_load ty100 rfl (hv_bx172_1.g 0 rfl)) (.t2 (t_load ty100 rfl (hv_bx172_1.g 0 rfl)) (.t2 (t_makeFuncB (us := [.pointer (some ⟨bP,0,none⟩)]) (vs := []) rfl rfl) (Rg.wd trivial (w_call Tryz.call98 rfl (D_node hp (clo_call Tryz.call317 hD (.matchE)) hq16 hb)) rfl ?_)))))))
         rintro _ w15 ⟨hp1,hb15⟩
         replace hv_bx172_1 := var_bw hv_bx172_1 hb15 hF_bx172_1
         replace hv_bx172_2 := var_bw hv_bx172_2 hb15 hF_bx172_2
         replace hbw := hbw.trans (hb15.sub hsub)
         clear hp
         have hp := hp1
         clear hp1
         refine .done ?_
         exact ⟨[],trivial,(fun h => by cases h),hp.sub hsub hbase,hbw⟩
        | false =>
         have hq16 := run_condF hq14 haq15
         refine .sr (.t2 (t_load ty100 rfl (hv_bx172_1.g 0 rfl)) (Rg.wd trivial (w_buildSlice (bs38_1 _) rfl) rfl ?_))
         rintro _ w13 ⟨bt70,rfl,qt70,hx13,hvt70⟩
         replace hbw := bS hbw hp.und hsub hx13
         replace hp := hp.extw hx13
         replace hv_bx172_1 := hv_bx172_1.ext hx13
         replace hv_bx172_2 := hv_bx172_2.ext hx13
         try replace hvt25 := hvt25.ext hx13
         try replace hvt51 := hvt51.ext hx13
         try replace hvt58 := hvt58.ext hx13
         try replace hvt64 := hvt64.ext hx13
         refine Rg.wd trivial (w_call Tryz.call94 rfl (at_ok hC hp (texts := [⟨#[109,97,116,99,104]⟩]) hvt70 (by decide))) rfl ?_
         rintro _ w14 ⟨rfl,hx14⟩
         replace hbw := bS hbw hp.und hsub hx14
         replace hp := hp.extw hx14
         replace hv_bx172_1 := hv_bx172_1.ext hx14
         replace hv_bx172_2 := hv_bx172_2.ext hx14
         try replace hvt25 := hvt25.ext hx14
         try replace hvt51 := hvt51.ext hx14
         try replace hvt58 := hvt58.ext hx14
         try replace hvt64 := hvt64.ext hx14
         try replace hvt70 := hvt70.ext hx14
         rw [show (isAt [⟨#[109,97,116,99,104]⟩] (sig1 s.rem)) = false from haq15]
         refine .a2 rfl (.done (.condF rfl ?_))
         cases haq17 : (isAt [⟨#[110,101,119]⟩] (sig1 s.rem)) with
         | true =>
          have hq18 := run_condT hq16 haq17
          refine .sr (.t2 (t_load ty100 rfl (hv_bx172_1.g 0 rfl)) (Rg.wd trivial (w_buildSlice (bs38_1 _) rfl) rfl ?_))
          rintro _ w15 ⟨bt78,rfl,qt78,hx15,hvt78⟩
          replace hbw := bS hbw hp.und hsub hx15
          replace hp := hp.extw hx15
          replace hv_bx172_1 := hv_bx172_1.ext hx15
          replace hv_bx172_2 := hv_bx172_2.ext hx15
          try replace hvt25 := hvt25.ext hx15
          try replace hvt51 := hvt51.ext hx15
          try replace hvt58 := hvt58.ext hx15
          try replace hvt64 := hvt64.ext hx15
          try replace hvt70 := hvt70.ext hx15
          refine Rg.wd trivial (w_call Tryz.call94 rfl (at_ok hC hp (texts := [⟨#[110,101,119]⟩]) hvt78 (by decide))) rfl ?_
          rintro _ w16 ⟨rfl,hx16⟩
          replace hbw := bS hbw hp.und hsub hx16
          replace hp := hp.extw hx16
          replace hv_bx172_1 := hv_bx172_1.ext hx16
          replace hv_bx172_2 := hv_bx172_2.ext hx16
          try replace hvt25 := hvt25.ext hx16
          try replace hvt51 := hvt51.ext hx16
          try replace hvt58 := hvt58.ext hx16
          try replace hvt64 := hvt64.ext hx16
          try replace hvt70 := hvt70.ext hx16
          try replace hvt78 := hvt78.ext hx16
          rw [show (isAt [⟨#[110,101,119]⟩] (sig1 s.rem)) = true from haq17]
          refine .a2 rfl (.done (.condT rfl (Wp.region (.t2 (t_load ty100 rfl (hv_bx172_1.g 0 rfl)) (.t2 (t_load ty100 rfl (hv_bx172_1.g 0 rfl)) (.t2 (t_makeFuncB (us := [.pointer (some ⟨bP,0,none⟩)]) (vs := []) rfl rfl) (Rg.wd trivial (w_call Tryz.call98 rfl (D_node hp (clo_call Tryz.call318 hD (.structLit)) hq18 hb)) rfl ?_)))))))
          rintro _ w17 ⟨hp1,hb17⟩
          replace hv_bx172_1 := var_bw hv_bx172_1 hb17 hF_bx172_1
          replace hv_bx172_2 := var_bw hv_bx172_2 hb17 hF_bx172_2
          replace hbw := hbw.trans (hb17.sub hsub)
          clear hp
          have hp := hp1
          clear hp1
          refine .done ?_
          exact ⟨[],trivial,(fun h => by cases h),hp.sub hsub hbase,hbw⟩
         | false =>
          have hq18 := run_condF hq16 haq17
          refine .sr (.t2 (t_load ty100 rfl (hv_bx172_1.g 0 rfl)) (Rg.wd trivial (w_buildSlice (bs38_1 _) rfl) rfl ?_))
          rintro _ w15 ⟨bt78,rfl,qt78,hx15,hvt78⟩
          replace hbw := bS hbw hp.und hsub hx15
          replace hp := hp.extw hx15
          replace hv_bx172_1 := hv_bx172_1.ext hx15
          replace hv_bx172_2 := hv_bx172_2.ext hx15
          try replace hvt25 := hvt25.ext hx15
          try replace hvt51 := hvt51.ext hx15
          try replace hvt58 := hvt58.ext hx15
          try replace hvt64 := hvt64.ext hx15
          try replace hvt70 := hvt70.ext hx15
          refine Rg.wd trivial (w_call Tryz.call94 rfl (at_ok hC hp (texts := [⟨#[110,101,119]⟩]) hvt78 (by decide))) rfl ?_
          rintro _ w16 ⟨rfl,hx16⟩
          replace hbw := bS hbw hp.und hsub hx16
          replace hp := hp.extw hx16
          replace hv_bx172_1 := hv_bx172_1.ext hx16
          replace hv_bx172_2 := hv_bx172_2.ext hx16
          try replace hvt25 := hvt25.ext hx16
          try replace hvt51 := hvt51.ext hx16
          try replace hvt58 := hvt58.ext hx16
          try replace hvt64 := hvt64.ext hx16
          try replace hvt70 := hvt70.ext hx16
          try replace hvt78 := hvt78.ext hx16
          rw [show (isAt [⟨#[110,101,119]⟩] (sig1 s.rem)) = false from haq17]
          refine .a2 rfl (.done (.condF rfl ?_))
          cases haq19 : (isAt [⟨#[124]⟩,⟨#[124,124]⟩] (sig1 s.rem)) with
          | true =>
           have hq20 := run_condT hq18 haq19
           refine .sr (.t2 (t_load ty100 rfl (hv_bx172_1.g 0 rfl)) (Rg.wd trivial (w_buildSlice (bs38_2 _ _) rfl) rfl ?_))
           rintro _ w17 ⟨bt86,rfl,qt86,hx17,hvt86⟩
           replace hbw := bS hbw hp.und hsub hx17
           replace hp := hp.extw hx17
           replace hv_bx172_1 := hv_bx172_1.ext hx17
           replace hv_bx172_2 := hv_bx172_2.ext hx17
           try replace hvt25 := hvt25.ext hx17
           try replace hvt51 := hvt51.ext hx17
           try replace hvt58 := hvt58.ext hx17
           try replace hvt64 := hvt64.ext hx17
           try replace hvt70 := hvt70.ext hx17
           try replace hvt78 := hvt78.ext hx17
           refine Rg.wd trivial (w_call Tryz.call94 rfl (at_ok hC hp (texts := [⟨#[124]⟩,⟨#[124,124]⟩]) hvt86 (by decide))) rfl ?_
           rintro _ w18 ⟨rfl,hx18⟩
           replace hbw := bS hbw hp.und hsub hx18
           replace hp := hp.extw hx18
           replace hv_bx172_1 := hv_bx172_1.ext hx18
           replace hv_bx172_2 := hv_bx172_2.ext hx18
           try replace hvt25 := hvt25.ext hx18
           try replace hvt51 := hvt51.ext hx18
           try replace hvt58 := hvt58.ext hx18
           try replace hvt64 := hvt64.ext hx18
           try replace hvt70 := hvt70.ext hx18
           try replace hvt78 := hvt78.ext hx18
           try replace hvt86 := hvt86.ext hx18
           rw [show (isAt [⟨#[124]⟩,⟨#[124,124]⟩] (sig1 s.rem)) = true from haq19]
           refine .a2 rfl (.done (.condT rfl (Wp.region (.t2 (t_load ty100 rfl (hv_bx172_1.g 0 rfl)) (.t2 (t_load ty100 rfl (hv_bx172_1.g 0 rfl)) (.t2 (t_makeFuncB (us := [.pointer (some ⟨bP,0,none⟩)]) (vs := []) rfl rfl) (Rg.wd trivial (w_call Tryz.call98 rfl (D_node hp (clo_call Tryz.call319 hD (.lambda)) hq20 hb)) rfl ?_)))))))
           rintro _ w19 ⟨hp1,hb19⟩
           replace hv_bx172_1 := var_bw hv_bx172_1 hb19 hF_bx172_1
           replace hv_bx172_2 := var_bw hv_bx172_2 hb19 hF_bx172_2
           replace hbw := hbw.trans (hb19.sub hsub)
           clear hp
           have hp := hp1
           clear hp1
           refine .done ?_
           exact ⟨[],trivial,(fun h => by cases h),hp.sub hsub hbase,hbw⟩
          | false =>
           have hq20 := run_condF hq18 haq19
           refine .sr (.t2 (t_load ty100 rfl (hv_bx172_1.g 0 rfl)) (Rg.wd trivial (w_buildSlice (bs38_2 _ _) rfl) rfl ?_))
           rintro _ w17 ⟨bt86,rfl,qt86,hx17,hvt86⟩
           replace hbw := bS hbw hp.und hsub hx17
           replace hp := hp.extw hx17
           replace hv_bx172_1 := hv_bx172_1.ext hx17
           replace hv_bx172_2 := hv_bx172_2.ext hx17
           try replace hvt25 := hvt25.ext hx17
           try replace hvt51 := hvt51.ext hx17
           try replace hvt58 := hvt58.ext hx17
           try replace hvt64 := hvt64.ext hx17
           try replace hvt70 := hvt70.ext hx17
           try replace hvt78 := hvt78.ext hx17
           refine Rg.wd trivial (w_call Tryz.call94 rfl (at_ok hC hp (texts := [⟨#[124]⟩,⟨#[124,124]⟩]) hvt86 (by decide))) rfl ?_
           rintro _ w18 ⟨rfl,hx18⟩
           replace hbw := bS hbw hp.und hsub hx18
           replace hp := hp.extw hx18
           replace hv_bx172_1 := hv_bx172_1.ext hx18
           replace hv_bx172_2 := hv_bx172_2.ext hx18
           try replace hvt25 := hvt25.ext hx18
           try replace hvt51 := hvt51.ext hx18
           try replace hvt58 := hvt58.ext hx18
           try replace hvt64 := hvt64.ext hx18
           try replace hvt70 := hvt70.ext hx18
           try replace hvt78 := hvt78.ext hx18
           try replace hvt86 := hvt86.ext hx18
           rw [show (isAt [⟨#[124]⟩,⟨#[124,124]⟩] (sig1 s.rem)) = false from haq19]
           refine .a2 rfl (.done (.condF rfl (Wp.region (.t2 (t_load ty100 rfl (hv_bx172_1.g 0 rfl)) (Rg.wd trivial (w_call Tryz.call221 rfl (D_missingN hp hq20 hb)) rfl ?_)))))
           rintro _ w19 ⟨hp1,hb19⟩
           replace hv_bx172_1 := var_bw hv_bx172_1 hb19 hF_bx172_1
           replace hv_bx172_2 := var_bw hv_bx172_2 hb19 hF_bx172_2
           replace hbw := hbw.trans (hb19.sub hsub)
           clear hp
           have hp := hp1
           clear hp1
           refine .done ?_
           exact ⟨[],trivial,(fun h => by cases h),hp.sub hsub hbase,hbw⟩
theorem N_pattern (hC : Cx w0 tv toks) (hD : ∀ m,m < n → DN w0 tv toks m) (hp : Ps w0 tv toks F w bP below k s) (hr : run body n (body .pattern) s = some r) (hb : r.adds ≤ big) :
  Cl Tryz.prog 312 #[.pointer (some ⟨bP,0,none⟩)] w (fun u w' => (Nm.pattern = Nm.statement → u = .bool r.flag) ∧ Ps w0 tv toks F w' bP below k r ∧ Bw F w w') := by
 have hbw := Bw.refl F w
 have hsub : ∀ z,F z → F z := fun z h => h
 have hbase := hp.base
 have hr : run body n (.cond (at1 [⟨#[109,117,116]⟩]) (.node 44 (.seq .bump Cmd.expIdent)) (.cond (fun t _ _ _ => t.1 == 103 && decide (t.2 = ⟨#[95]⟩)) (.node 43 .bump) (.cond (fun t u _ _ => t.1 == 103 && !isAt [⟨#[40]⟩,⟨#[58,58]⟩] u) (.node 44 .bump) (.cond ident (.node 45 (.seq (.call (.path false)) (.cond (at1 [⟨#[40]⟩]) (.seq .bump (Cmd.list ⟨#[41]⟩ (.call .pattern))) .skip))) (.cond (fun t _ _ _ => t.1 == 105) (.node 27 .bump) (.cond (at1 [⟨#[116,114,117,101]⟩,⟨#[102,97,108,115,101]⟩]) (.node 28 .bump) (.leaf 46))))))) s = some r := hr
 refine Cl.enter Tryz.func312 rfl Tryz.ntmps312 rfl rfl (.sr (Rg.wd trivial (w_boxed rfl rfl) rfl ?_))
 rintro _ w1 ⟨bx179_1,rfl,qbx179_1,hx1,hv_bx179_1⟩
 replace hbw := bS hbw hp.und hsub hx1
 obtain ⟨F_bx179_1,hp1,hF_bx179_1,hs1⟩ := hp.box hx1 qbx179_1 hv_bx179_1.lt
 clear hp
 have hp := hp1
 clear hp1
 replace hsub := fun z hz => hs1 z (hsub z hz)
 refine .done (.sr (.t2 (t_load ty100 rfl (hv_bx179_1.g 0 rfl)) (Rg.wd trivial (w_call Tryz.call93 rfl (hp.peek hC)) rfl ?_)))
 rintro _ w2 ⟨rfl,hx2⟩
 replace hbw := bS hbw hp.und hsub hx2
 replace hp := hp.extw hx2
 replace hv_bx179_1 := hv_bx179_1.ext hx2
 have hlo_bx179_2 := hp.ext.le
 have hlt_bx179_2_bx179_1 := hv_bx179_1.lt
 have hun_bx179_2 := fun z hz => hp.und z (hsub z hz)
 refine Rg.wd trivial (w_new Tryz.zeroValue91 rfl) rfl ?_
 rintro _ w3 ⟨bx179_2,rfl,qbx179_2,hx3,hv_bx179_2⟩
 replace hbw := bS hbw hp.und hsub hx3
 obtain ⟨F_bx179_2,hp1,hF_bx179_2,hs3⟩ := hp.box hx3 qbx179_2 hv_bx179_2.lt
 clear hp
 have hp := hp1
 clear hp1
 replace hsub := fun z hz => hs3 z (hsub z hz)
 replace hv_bx179_1 := hv_bx179_1.ext hx3
 replace hF_bx179_1 := hs3 _ hF_bx179_1
 have hn_bx179_2 : ¬ F bx179_2 := fun hh => by have := hun_bx179_2 _ hh; omega
 have hw_bx179_2 : w0.heap.size ≤ bx179_2 := by omega
 have hne_bx179_2_bx179_1 : bx179_1 ≠ bx179_2 := by omega
 refine Rg.wn trivial (w_put hv_bx179_2 rfl rfl rfl ty91 rfl rfl) ?_
 rintro _ w4 ⟨hu4,hvn⟩
 replace hbw := hbw.trans (Bw.upd hu4 hn_bx179_2)
 replace hp := hp.updF hu4 hF_bx179_2 hw_bx179_2
 clear hv_bx179_2
 have hv_bx179_2 := hvn
 clear hvn
 replace hv_bx179_1 := hv_bx179_1.upd hu4 hne_bx179_2_bx179_1
 refine .done (Wp.block ?_)
 cases haq1 : (isAt [⟨#[109,117,116]⟩] (sig1 s.rem)) with
 | true =>
  have hq2 := run_condT hr haq1
  refine .sr (.t2 (t_load ty100 rfl (hv_bx179_1.g 0 rfl)) (Rg.wd trivial (w_buildSlice (bs38_1 _) rfl) rfl ?_))
  rintro _ w5 ⟨bt9,rfl,qt9,hx5,hvt9⟩
  replace hbw := bS hbw hp.und hsub hx5
  replace hp := hp.extw hx5
  replace hv_bx179_1 := hv_bx179_1.ext hx5
  replace hv_bx179_2 := hv_bx179_2.ext hx5
  refine Rg.wd trivial (w_call Tryz.call94 rfl (at_ok hC hp (texts := [⟨#[109,117,116]⟩]) hvt9 (by decide))) rfl ?_
  rintro _ w6 ⟨rfl,hx6⟩
  replace hbw := bS hbw hp.und hsub hx6
  replace hp := hp.extw hx6
  replace hv_bx179_1 := hv_bx179_1.ext hx6
  replace hv_bx179_2 := hv_bx179_2.ext hx6
  try replace hvt9 := hvt9.ext hx6
  rw [show (isAt [⟨#[109,117,116]⟩] (sig1 s.rem)) = true from haq1]
  refine .a2 rfl (.done (.condT rfl (Wp.region (.t2 (t_load ty100 rfl (hv_bx179_1.g 0 rfl)) (.t2 (t_makeFuncB (us := []) (vs := [.pointer (some ⟨bx179_1,0,none⟩)]) rfl rfl) (Rg.wd trivial (w_call Tryz.call98 rfl (D_node hp (clo_190 hC hD hv_bx179_1 hF_bx179_1) hq2 hb)) rfl ?_))))))
  rintro _ w7 ⟨hp1,hb7⟩
  replace hv_bx179_1 := var_bw hv_bx179_1 hb7 hF_bx179_1
  replace hv_bx179_2 := var_bw hv_bx179_2 hb7 hF_bx179_2
  replace hbw := hbw.trans (hb7.sub hsub)
  clear hp
  have hp := hp1
  clear hp1
  refine .done ?_
  exact ⟨[],trivial,(fun h => by cases h),hp.sub hsub hbase,hbw⟩
 | false =>
  have hq2 := run_condF hr haq1
  refine .sr (.t2 (t_load ty100 rfl (hv_bx179_1.g 0 rfl)) (Rg.wd trivial (w_buildSlice (bs38_1 _) rfl) rfl ?_))
  rintro _ w5 ⟨bt9,rfl,qt9,hx5,hvt9⟩
  replace hbw := bS hbw hp.und hsub hx5
  replace hp := hp.extw hx5
  replace hv_bx179_1 := hv_bx179_1.ext hx5
  replace hv_bx179_2 := hv_bx179_2.ext hx5
  refine Rg.wd trivial (w_call Tryz.call94 rfl (at_ok hC hp (texts := [⟨#[109,117,116]⟩]) hvt9 (by decide))) rfl ?_
  rintro _ w6 ⟨rfl,hx6⟩
  replace hbw := bS hbw hp.und hsub hx6
  replace hp := hp.extw hx6
  replace hv_bx179_1 := hv_bx179_1.ext hx6
  replace hv_bx179_2 := hv_bx179_2.ext hx6
  try replace hvt9 := hvt9.ext hx6
  rw [show (isAt [⟨#[109,117,116]⟩] (sig1 s.rem)) = false from haq1]
  refine .a2 rfl (.done (.condF rfl ?_))
  cases haq3 : ((sig1 s.rem).1 == 103) with
  | true =>
   cases haq4 : (decide ((sig1 s.rem).2 = ⟨#[95]⟩)) with
   | true =>
    have hq5 := run_condT hq2 (show S.test _ _ = true by simp only [S.test,at1,ident,bne,haq1,haq3,haq4]; (try rfl))
    refine .sr (.t2 (t_load ty100 rfl (hv_bx179_1.g 0 rfl)) (Rg.wd trivial (w_call Tryz.call211 rfl (atIdent_ok hC hp)) rfl ?_))
    rintro _ w7 ⟨rfl,hx7⟩
    replace hbw := bS hbw hp.und hsub hx7
    replace hp := hp.extw hx7
    replace hv_bx179_1 := hv_bx179_1.ext hx7
    replace hv_bx179_2 := hv_bx179_2.ext hx7
    try replace hvt9 := hvt9.ext hx7
    rw [show ((sig1 s.rem).1 == 103) = true from haq3]
    refine .m2 rfl (.g2 (t_fieldAddr fa91_1 rfl) (.g2 (t_load ty9 rfl (hv_bx179_2.g 1 rfl)) (.g2 (t_seqlT rfl rfl (of_decide_eq_true haq4)) (.t2 (t_pickT rfl rfl) (.a2 rfl (.done (.condT rfl (Wp.region (.t2 (t_load ty100 rfl (hv_bx179_1.g 0 rfl)) (.t2 (t_load ty100 rfl (hv_bx179_1.g 0 rfl)) (.t2 (t_makeFuncB (us := [.pointer (some ⟨bP,0,none⟩)]) (vs := []) rfl rfl) (Rg.wd trivial (w_call Tryz.call98 rfl (D_node hp (clo_bump hC) hq5 hb)) rfl ?_))))))))))))
    rintro _ w8 ⟨hp1,hb8⟩
    replace hv_bx179_1 := var_bw hv_bx179_1 hb8 hF_bx179_1
    replace hv_bx179_2 := var_bw hv_bx179_2 hb8 hF_bx179_2
    replace hbw := hbw.trans (hb8.sub hsub)
    clear hp
    have hp := hp1
    clear hp1
    refine .done ?_
    exact ⟨[],trivial,(fun h => by cases h),hp.sub hsub hbase,hbw⟩
   | false =>
    have hq5 := run_condF hq2 (show S.test _ _ = false by simp only [S.test,at1,ident,bne,haq1,haq3,haq4]; (try rfl))
    refine .sr (.t2 (t_load ty100 rfl (hv_bx179_1.g 0 rfl)) (Rg.wd trivial (w_call Tryz.call211 rfl (atIdent_ok hC hp)) rfl ?_))
    rintro _ w7 ⟨rfl,hx7⟩
    replace hbw := bS hbw hp.und hsub hx7
    replace hp := hp.extw hx7
    replace hv_bx179_1 := hv_bx179_1.ext hx7
    replace hv_bx179_2 := hv_bx179_2.ext hx7
    try replace hvt9 := hvt9.ext hx7
    rw [show ((sig1 s.rem).1 == 103) = true from haq3]
    refine .m2 rfl (.g2 (t_fieldAddr fa91_1 rfl) (.g2 (t_load ty9 rfl (hv_bx179_2.g 1 rfl)) (.g2 (t_seqlF rfl rfl (of_decide_eq_false haq4)) (.t2 (t_pickT rfl rfl) (.a2 rfl (.done (.condF rfl ?_)))))))
    cases haq6 : (isAt [⟨#[40]⟩,⟨#[58,58]⟩] (sig1 (left s.rem))) with
    | true =>
     have hq7 := run_condF hq5 (show S.test _ _ = false by simp only [S.test,at1,ident,bne,haq1,haq3,haq4,haq6]; (try rfl))
     have hq8 := run_condT hq7 haq3
     refine .sr (.t2 (t_load ty100 rfl (hv_bx179_1.g 0 rfl)) (Rg.wd trivial (w_call Tryz.call211 rfl (atIdent_ok hC hp)) rfl ?_))
     rintro _ w8 ⟨rfl,hx8⟩
     replace hbw := bS hbw hp.und hsub hx8
     replace hp := hp.extw hx8
     replace hv_bx179_1 := hv_bx179_1.ext hx8
     replace hv_bx179_2 := hv_bx179_2.ext hx8
     try replace hvt9 := hvt9.ext hx8
     rw [show ((sig1 s.rem).1 == 103) = true from haq3]
     refine .m2 rfl (.g2 (t_load ty100 rfl (hv_bx179_1.g 0 rfl)) (Rg.wd ⟨_,rfl,rfl⟩ (w_call Tryz.call95 rfl (lookahead_ok hC hp)) rfl ?_))
     rintro _ w9 ⟨bk31,rfl,hk31,hx9⟩
     replace hbw := bS hbw hp.und hsub hx9
     replace hp := hp.extw hx9
     replace hv_bx179_1 := hv_bx179_1.ext hx9
     replace hv_bx179_2 := hv_bx179_2.ext hx9
     try replace hvt9 := hvt9.ext hx9
     refine Rg.wd ⟨_,rfl,rfl⟩ (w_buildSlice (bs38_2 _ _) rfl) rfl ?_
     rintro _ w10 ⟨bt32,rfl,qt32,hx10,hvt32⟩
     replace hbw := bS hbw hp.und hsub hx10
     replace hp := hp.extw hx10
     replace hv_bx179_1 := hv_bx179_1.ext hx10
     replace hv_bx179_2 := hv_bx179_2.ext hx10
     try replace hvt9 := hvt9.ext hx10
     try replace hk31 := hk31.extw hx10
     refine Rg.wd ⟨_,rfl,rfl⟩ (w_call Tryz.call94 rfl (at_ok hC hk31 (texts := [⟨#[40]⟩,⟨#[58,58]⟩]) hvt32 (by decide))) rfl ?_
     rintro _ w11 ⟨rfl,hx11⟩
     replace hbw := bS hbw hp.und hsub hx11
     replace hp := hp.extw hx11
     replace hv_bx179_1 := hv_bx179_1.ext hx11
     replace hv_bx179_2 := hv_bx179_2.ext hx11
     try replace hvt9 := hvt9.ext hx11
     try replace hvt32 := hvt32.ext hx11
     try replace hk31 := hk31.extw hx11
     rw [show (isAt [⟨#[40]⟩,⟨#[58,58]⟩] (sig1 s.look.rem)) = true from haq6]
     refine .g2 (t_notB rfl) (.t2 (t_pickT rfl rfl) (.a2 rfl (.done (.condF rfl (.sr (.t2 (t_load ty100 rfl (hv_bx179_1.g 0 rfl)) (Rg.wd trivial (w_call Tryz.call211 rfl (atIdent_ok hC hp)) rfl ?_)))))))
     rintro _ w12 ⟨rfl,hx12⟩
     replace hbw := bS hbw hp.und hsub hx12
     replace hp := hp.extw hx12
     replace hv_bx179_1 := hv_bx179_1.ext hx12
     replace hv_bx179_2 := hv_bx179_2.ext hx12
     try replace hvt9 := hvt9.ext hx12
     try replace hvt32 := hvt32.ext hx12
     try replace hk31 := hk31.extw hx12
     rw [show ((sig1 s.rem).1 == 103) = true from haq3]
     refine .a2 rfl (.done (.condT rfl (Wp.region (.t2 (t_load ty100 rfl (hv_bx179_1.g 0 rfl)) (.t2 (t_makeFuncB (us := []) (vs := [.pointer (some ⟨bx179_1,0,none⟩)]) rfl rfl) (Rg.wd trivial (w_call Tryz.call98 rfl (D_node hp (clo_191 hC hD hv_bx179_1 hF_bx179_1) hq8 hb)) rfl ?_))))))
     rintro _ w13 ⟨hp1,hb13⟩
     replace hv_bx179_1 := var_bw hv_bx179_1 hb13 hF_bx179_1
     replace hv_bx179_2 := var_bw hv_bx179_2 hb13 hF_bx179_2
     replace hbw := hbw.trans (hb13.sub hsub)
     clear hp
     have hp := hp1
     clear hp1
     refine .done ?_
     exact ⟨[],trivial,(fun h => by cases h),hp.sub hsub hbase,hbw⟩
    | false =>
     have hq7 := run_condT hq5 (show S.test _ _ = true by simp only [S.test,at1,ident,bne,haq1,haq3,haq4,haq6]; (try rfl))
     refine .sr (.t2 (t_load ty100 rfl (hv_bx179_1.g 0 rfl)) (Rg.wd trivial (w_call Tryz.call211 rfl (atIdent_ok hC hp)) rfl ?_))
     rintro _ w8 ⟨rfl,hx8⟩
     replace hbw := bS hbw hp.und hsub hx8
     replace hp := hp.extw hx8
     replace hv_bx179_1 := hv_bx179_1.ext hx8
     replace hv_bx179_2 := hv_bx179_2.ext hx8
     try replace hvt9 := hvt9.ext hx8
     rw [show ((sig1 s.rem).1 == 103) = true from haq3]
     refine .m2 rfl (.g2 (t_load ty100 rfl (hv_bx179_1.g 0 rfl)) (Rg.wd ⟨_,rfl,rfl⟩ (w_call Tryz.call95 rfl (lookahead_ok hC hp)) rfl ?_))
     rintro _ w9 ⟨bk31,rfl,hk31,hx9⟩
     replace hbw := bS hbw hp.und hsub hx9
     replace hp := hp.extw hx9
     replace hv_bx179_1 := hv_bx179_1.ext hx9
     replace hv_bx179_2 := hv_bx179_2.ext hx9
     try replace hvt9 := hvt9.ext hx9
     refine Rg.wd ⟨_,rfl,rfl⟩ (w_buildSlice (bs38_2 _ _) rfl) rfl ?_
     rintro _ w10 ⟨bt32,rfl,qt32,hx10,hvt32⟩
     replace hbw := bS hbw hp.und hsub hx10
     replace hp := hp.extw hx10
     replace hv_bx179_1 := hv_bx179_1.ext hx10
     replace hv_bx179_2 := hv_bx179_2.ext hx10
     try replace hvt9 := hvt9.ext hx10
     try replace hk31 := hk31.extw hx10
     refine Rg.wd ⟨_,rfl,rfl⟩ (w_call Tryz.call94 rfl (at_ok hC hk31 (texts := [⟨#[40]⟩,⟨#[58,58]⟩]) hvt32 (by decide))) rfl ?_
     rintro _ w11 ⟨rfl,hx11⟩
     replace hbw := bS hbw hp.und hsub hx11
     replace hp := hp.extw hx11
     replace hv_bx179_1 := hv_bx179_1.ext hx11
     replace hv_bx179_2 := hv_bx179_2.ext hx11
     try replace hvt9 := hvt9.ext hx11
     try replace hvt32 := hvt32.ext hx11
     try replace hk31 := hk31.extw hx11
     rw [show (isAt [⟨#[40]⟩,⟨#[58,58]⟩] (sig1 s.look.rem)) = false from haq6]
     refine .g2 (t_notB rfl) (.t2 (t_pickT rfl rfl) (.a2 rfl (.done (.condT rfl (Wp.region (.t2 (t_load ty100 rfl (hv_bx179_1.g 0 rfl)) (.t2 (t_load ty100 rfl (hv_bx179_1.g 0 rfl)) (.t2 (t_makeFuncB (us := [.pointer (some ⟨bP,0,none⟩)]) (vs := []) rfl rfl) (Rg.wd trivial (w_call Tryz.call98 rfl (D_node hp (clo_bump hC) hq7 hb)) rfl ?_)))))))))
     rintro _ w12 ⟨hp1,hb12⟩
     replace hv_bx179_1 := var_bw hv_bx179_1 hb12 hF_bx179_1
     replace hv_bx179_2 := var_bw hv_bx179_2 hb12 hF_bx179_2
     replace hbw := hbw.trans (hb12.sub hsub)
     clear hp
     have hp := hp1
     clear hp1
     refine .done ?_
     exact ⟨[],trivial,(fun h => by cases h),hp.sub hsub hbase,hbw⟩
  | false =>
   have hq4 := run_condF hq2 (show S.test _ _ = false by simp only [S.test,at1,ident,bne,haq1,haq3]; (try rfl))
   have hq5 := run_condF hq4 (show S.test _ _ = false by simp only [S.test,at1,ident,bne,haq1,haq3]; (try rfl))
   have hq6 := run_condF hq5 haq3
   refine .sr (.t2 (t_load ty100 rfl (hv_bx179_1.g 0 rfl)) (Rg.wd trivial (w_call Tryz.call211 rfl (atIdent_ok hC hp)) rfl ?_))
   rintro _ w7 ⟨rfl,hx7⟩
   replace hbw := bS hbw hp.und hsub hx7
   replace hp := hp.extw hx7
   replace hv_bx179_1 := hv_bx179_1.ext hx7
   replace hv_bx179_2 := hv_bx179_2.ext hx7
   try replace hvt9 := hvt9.ext hx7
   rw [show ((sig1 s.rem).1 == 103) = false from haq3]
   refine .m2 rfl (.so rfl rfl (.so rfl rfl (.so rfl rfl (.t2 (t_pickF rfl rfl) (.a2 rfl (.done (.condF rfl (.sr (.t2 (t_load ty100 rfl (hv_bx179_1.g 0 rfl)) (Rg.wd trivial (w_call Tryz.call211 rfl (atIdent_ok hC hp)) rfl ?_))))))))))
   rintro _ w8 ⟨rfl,hx8⟩
   replace hbw := bS hbw hp.und hsub hx8
   replace hp := hp.extw hx8
   replace hv_bx179_1 := hv_bx179_1.ext hx8
   replace hv_bx179_2 := hv_bx179_2.ext hx8
   try replace hvt9 := hvt9.ext hx8
   rw [show ((sig1 s.rem).1 == 103) = false from haq3]
   refine .m2 rfl (.so rfl rfl (.so rfl rfl (.so rfl rfl (.so rfl rfl (.so rfl rfl (.t2 (t_pickF rfl rfl) (.a2 rfl (.done (.condF rfl (.sr (.t2 (t_load ty100 rfl (hv_bx179_1.g 0 rfl)) (Rg.wd trivial (w_call Tryz.call211 rfl (atIdent_ok hC hp)) rfl ?_))))))))))))
   rintro _ w9 ⟨rfl,hx9⟩
   replace hbw := bS hbw hp.und hsub hx9
   replace hp := hp.extw hx9
   replace hv_bx179_1 := hv_bx179_1.ext hx9
   replace hv_bx179_2 := hv_bx179_2.ext hx9
   try replace hvt9 := hvt9.ext hx9
   rw [show ((sig1 s.rem).1 == 103) = false from haq3]
   refine .a2 rfl (.done (.condF rfl ?_))
   cases haq7 : ((sig1 s.rem).1 == 105) with
   | true =>
    have hq8 := run_condT hq6 haq7
    refine .sr (.t2 (t_fieldAddr fa91_0 rfl) (.t2 (t_load ty3 rfl (hv_bx179_2.g 0 rfl)) (.t2 (t_eqlT rfl rfl (beq_iff_eq.1 haq7)) (.a2 rfl (.done (.condT rfl (Wp.region (.t2 (t_load ty100 rfl (hv_bx179_1.g 0 rfl)) (.t2 (t_load ty100 rfl (hv_bx179_1.g 0 rfl)) (.t2 (t_makeFuncB (us := [.pointer (some ⟨bP,0,none⟩)]) (vs := []) rfl rfl) (Rg.wd trivial (w_call Tryz.call98 rfl (D_node hp (clo_bump hC) hq8 hb)) rfl ?_)))))))))))
    rintro _ w10 ⟨hp1,hb10⟩
    replace hv_bx179_1 := var_bw hv_bx179_1 hb10 hF_bx179_1
    replace hv_bx179_2 := var_bw hv_bx179_2 hb10 hF_bx179_2
    replace hbw := hbw.trans (hb10.sub hsub)
    clear hp
    have hp := hp1
    clear hp1
    refine .done ?_
    exact ⟨[],trivial,(fun h => by cases h),hp.sub hsub hbase,hbw⟩
   | false =>
    have hq8 := run_condF hq6 haq7
    refine .sr (.t2 (t_fieldAddr fa91_0 rfl) (.t2 (t_load ty3 rfl (hv_bx179_2.g 0 rfl)) ?_))
    refine .t2 (t_eqlF rfl rfl (fun e => by rw [beq_iff_eq.2 e] at haq7; cases haq7)) ?_
    refine .a2 rfl (.done (.condF rfl ?_))
    cases haq9 : (isAt [⟨#[116,114,117,101]⟩,⟨#[102,97,108,115,101]⟩] (sig1 s.rem)) with
    | true =>
     have hq10 := run_condT hq8 haq9
     refine .sr (.t2 (t_load ty100 rfl (hv_bx179_1.g 0 rfl)) (Rg.wd trivial (w_buildSlice (bs38_2 _ _) rfl) rfl ?_))
     rintro _ w10 ⟨bt56,rfl,qt56,hx10,hvt56⟩
     replace hbw := bS hbw hp.und hsub hx10
     replace hp := hp.extw hx10
     replace hv_bx179_1 := hv_bx179_1.ext hx10
     replace hv_bx179_2 := hv_bx179_2.ext hx10
     try replace hvt9 := hvt9.ext hx10
     refine Rg.wd trivial (w_call Tryz.call94 rfl (at_ok hC hp (texts := [⟨#[116,114,117,101]⟩,⟨#[102,97,108,115,101]⟩]) hvt56 (by decide))) rfl ?_
     rintro _ w11 ⟨rfl,hx11⟩
     replace hbw := bS hbw hp.und hsub hx11
     replace hp := hp.extw hx11
     replace hv_bx179_1 := hv_bx179_1.ext hx11
     replace hv_bx179_2 := hv_bx179_2.ext hx11
     try replace hvt9 := hvt9.ext hx11
     try replace hvt56 := hvt56.ext hx11
     rw [show (isAt [⟨#[116,114,117,101]⟩,⟨#[102,97,108,115,101]⟩] (sig1 s.rem)) = true from haq9]
     refine .a2 rfl (.done (.condT rfl (Wp.region (.t2 (t_load ty100 rfl (hv_bx179_1.g 0 rfl)) (.t2 (t_load ty100 rfl (hv_bx179_1.g 0 rfl)) (.t2 (t_makeFuncB (us := [.pointer (some ⟨bP,0,none⟩)]) (vs := []) rfl rfl) (Rg.wd trivial (w_call Tryz.call98 rfl (D_node hp (clo_bump hC) hq10 hb)) rfl ?_)))))))
     rintro _ w12 ⟨hp1,hb12⟩
     replace hv_bx179_1 := var_bw hv_bx179_1 hb12 hF_bx179_1
     replace hv_bx179_2 := var_bw hv_bx179_2 hb12 hF_bx179_2
     replace hbw := hbw.trans (hb12.sub hsub)
     clear hp
     have hp := hp1
     clear hp1
     refine .done ?_
     exact ⟨[],trivial,(fun h => by cases h),hp.sub hsub hbase,hbw⟩
    | false =>
     have hq10 := run_condF hq8 haq9
     refine .sr (.t2 (t_load ty100 rfl (hv_bx179_1.g 0 rfl)) (Rg.wd trivial (w_buildSlice (bs38_2 _ _) rfl) rfl ?_))
     rintro _ w10 ⟨bt56,rfl,qt56,hx10,hvt56⟩
     replace hbw := bS hbw hp.und hsub hx10
     replace hp := hp.extw hx10
     replace hv_bx179_1 := hv_bx179_1.ext hx10
     replace hv_bx179_2 := hv_bx179_2.ext hx10
     try replace hvt9 := hvt9.ext hx10
     refine Rg.wd trivial (w_call Tryz.call94 rfl (at_ok hC hp (texts := [⟨#[116,114,117,101]⟩,⟨#[102,97,108,115,101]⟩]) hvt56 (by decide))) rfl ?_
     rintro _ w11 ⟨rfl,hx11⟩
     replace hbw := bS hbw hp.und hsub hx11
     replace hp := hp.extw hx11
     replace hv_bx179_1 := hv_bx179_1.ext hx11
     replace hv_bx179_2 := hv_bx179_2.ext hx11
     try replace hvt9 := hvt9.ext hx11
     try replace hvt56 := hvt56.ext hx11
     rw [show (isAt [⟨#[116,114,117,101]⟩,⟨#[102,97,108,115,101]⟩] (sig1 s.rem)) = false from haq9]
     refine .a2 rfl (.done (.condF rfl (Wp.region (.t2 (t_load ty100 rfl (hv_bx179_1.g 0 rfl)) (Rg.wd trivial (w_call Tryz.call221 rfl (D_missingN hp hq10 hb)) rfl ?_)))))
     rintro _ w12 ⟨hp1,hb12⟩
     replace hv_bx179_1 := var_bw hv_bx179_1 hb12 hF_bx179_1
     replace hv_bx179_2 := var_bw hv_bx179_2 hb12 hF_bx179_2
     replace hbw := hbw.trans (hb12.sub hsub)
     clear hp
     have hp := hp1
     clear hp1
     refine .done ?_
     exact ⟨[],trivial,(fun h => by cases h),hp.sub hsub hbase,hbw⟩
theorem N_postE (hC : Cx w0 tv toks) (hD : ∀ m,m < n → DN w0 tv toks m) (hp : Ps w0 tv toks F w bP below k s) (hr : run body n (body .postE) s = some r) (hb : r.adds ≤ big) :
  Cl Tryz.prog 302 #[.pointer (some ⟨bP,0,none⟩)] w (fun u w' => (Nm.postE = Nm.statement → u = .bool r.flag) ∧ Ps w0 tv toks F w' bP below k r ∧ Bw F w w') := by
 have hbw := Bw.refl F w
 have hsub : ∀ z,F z → F z := fun z h => h
 have hbase := hp.base
 have hr : run body n (.loop (at1 [⟨#[40]⟩,⟨#[46]⟩]) (.cond (at1 [⟨#[40]⟩]) (.wrap 30 (.call .arguments)) (.cond (fun _ u v _ => u.1 == 103 && isAt [⟨#[40]⟩] v) (.wrap 31 (.seq .bump (.seq .bump (.call .arguments)))) (.wrap 32 (.seq .bump Cmd.expIdent))))) s = some r := hr
 refine Cl.enter Tryz.func302 rfl Tryz.ntmps302 rfl rfl (.sr (Rg.wd trivial (w_boxed rfl rfl) rfl ?_))
 rintro _ w1 ⟨bx178_1,rfl,qbx178_1,hx1,hv_bx178_1⟩
 replace hbw := bS hbw hp.und hsub hx1
 obtain ⟨F_bx178_1,hp1,hF_bx178_1,hs1⟩ := hp.box hx1 qbx178_1 hv_bx178_1.lt
 clear hp
 have hp := hp1
 clear hp1
 replace hsub := fun z hz => hs1 z (hsub z hz)
 refine .done (Wp.block ?_)
 refine Wp.loop (ι := S × Nat) (fun _ => [(1,.pointer (some ⟨bx178_1,0,none⟩)),(0,.pointer (some ⟨bP,0,none⟩))])
  (fun i w' => Ps w0 tv toks F_bx178_1 w' bP below k i.1 ∧ Bw F_bx178_1 w1 w' ∧ run body i.2 (.loop (at1 [⟨#[40]⟩,⟨#[46]⟩]) (.cond (at1 [⟨#[40]⟩]) (.wrap 30 (.call .arguments)) (.cond (fun _ u v _ => u.1 == 103 && isAt [⟨#[40]⟩] v) (.wrap 31 (.seq .bump (.seq .bump (.call .arguments)))) (.wrap 32 (.seq .bump Cmd.expIdent))))) i.1 = some r ∧ i.2 ≤ n) (fun i => i.2) (s,n) (by repeat (first | exact .nil | refine .cons rfl ?_)) ⟨hp,Bw.refl _ _,hr,Nat.le_refl _⟩ ?_
 clear hp
 rintro ⟨s',m⟩ wl ⟨hp,hbl,hrun,hmn⟩
 simp only at hp hrun hmn
 replace hbw := hbw.trans (hbl.sub hsub)
 replace hv_bx178_1 := var_bw hv_bx178_1 hbl hF_bx178_1
 refine .seq ?_
 cases haq1 : (isAt [⟨#[40]⟩,⟨#[46]⟩] (sig1 s'.rem)) with
 | true =>
  obtain ⟨m1,s2,rfl,hbody,hrest⟩ := run_loopT hrun haq1
  replace hbody := run_le hmn hbody
  refine .sr (.t2 (t_load ty100 rfl (hv_bx178_1.g 0 rfl)) (Rg.wd trivial (w_buildSlice (bs38_2 _ _) rfl) rfl ?_))
  rintro _ w2 ⟨bt4,rfl,qt4,hx2,hvt4⟩
  replace hbl := hbl.trans (Bw.of hx2 hp.und)
  replace hbw := bS hbw hp.und hsub hx2
  replace hp := hp.extw hx2
  replace hv_bx178_1 := hv_bx178_1.ext hx2
  refine Rg.wd trivial (w_call Tryz.call94 rfl (at_ok hC hp (texts := [⟨#[40]⟩,⟨#[46]⟩]) hvt4 (by decide))) rfl ?_
  rintro _ w3 ⟨rfl,hx3⟩
  replace hbl := hbl.trans (Bw.of hx3 hp.und)
  replace hbw := bS hbw hp.und hsub hx3
  replace hp := hp.extw hx3
  replace hv_bx178_1 := hv_bx178_1.ext hx3
  try replace hvt4 := hvt4.ext hx3
  rw [show (isAt [⟨#[40]⟩,⟨#[46]⟩] (sig1 s'.rem)) = true from haq1]
  refine .done (.condT rfl (Wp.skip (Wp.block (.seq ?_))))
  cases haq2 : (isAt [⟨#[40]⟩] (sig1 s'.rem)) with
  | true =>
   have hq3 := run_condT hbody haq2
   refine .sr (.t2 (t_load ty100 rfl (hv_bx178_1.g 0 rfl)) (Rg.wd trivial (w_buildSlice (bs38_1 _) rfl) rfl ?_))
   rintro _ w4 ⟨bt7,rfl,qt7,hx4,hvt7⟩
   replace hbl := hbl.trans (Bw.of hx4 hp.und)
   replace hbw := bS hbw hp.und hsub hx4
   replace hp := hp.extw hx4
   replace hv_bx178_1 := hv_bx178_1.ext hx4
   try replace hvt4 := hvt4.ext hx4
   refine Rg.wd trivial (w_call Tryz.call94 rfl (at_ok hC hp (texts := [⟨#[40]⟩]) hvt7 (by decide))) rfl ?_
   rintro _ w5 ⟨rfl,hx5⟩
   replace hbl := hbl.trans (Bw.of hx5 hp.und)
   replace hbw := bS hbw hp.und hsub hx5
   replace hp := hp.extw hx5
   replace hv_bx178_1 := hv_bx178_1.ext hx5
   try replace hvt4 := hvt4.ext hx5
   try replace hvt7 := hvt7.ext hx5
   rw [show (isAt [⟨#[40]⟩] (sig1 s'.rem)) = true from haq2]
   refine .done (.condT rfl (.sr (.t2 (t_load ty100 rfl (hv_bx178_1.g 0 rfl)) (.t2 (t_load ty100 rfl (hv_bx178_1.g 0 rfl)) (.t2 (t_makeFuncB (us := [.pointer (some ⟨bP,0,none⟩)]) (vs := []) rfl rfl) (Rg.wd trivial (w_call Tryz.call267 rfl (D_wrap hp (clo_call Tryz.call314 hD (.arguments)) hq3 (adds_le hrest hb))) rfl ?_))))))
   rintro _ w6 ⟨hp1,hb6⟩
   replace hbl := hbl.trans hb6
   replace hv_bx178_1 := var_bw hv_bx178_1 hb6 hF_bx178_1
   replace hbw := hbw.trans (hb6.sub hsub)
   clear hp
   have hp := hp1
   clear hp1
   refine .done (Wp.exit ?_)
   exact ⟨(s2,m1),by repeat (first | exact .nil | refine .cons rfl ?_),⟨hp,hbl,hrest,by simp only; omega⟩,by simp only; omega⟩
  | false =>
   have hq3 := run_condF hbody haq2
   refine .sr (.t2 (t_load ty100 rfl (hv_bx178_1.g 0 rfl)) (Rg.wd trivial (w_buildSlice (bs38_1 _) rfl) rfl ?_))
   rintro _ w4 ⟨bt7,rfl,qt7,hx4,hvt7⟩
   replace hbl := hbl.trans (Bw.of hx4 hp.und)
   replace hbw := bS hbw hp.und hsub hx4
   replace hp := hp.extw hx4
   replace hv_bx178_1 := hv_bx178_1.ext hx4
   try replace hvt4 := hvt4.ext hx4
   refine Rg.wd trivial (w_call Tryz.call94 rfl (at_ok hC hp (texts := [⟨#[40]⟩]) hvt7 (by decide))) rfl ?_
   rintro _ w5 ⟨rfl,hx5⟩
   replace hbl := hbl.trans (Bw.of hx5 hp.und)
   replace hbw := bS hbw hp.und hsub hx5
   replace hp := hp.extw hx5
   replace hv_bx178_1 := hv_bx178_1.ext hx5
   try replace hvt4 := hvt4.ext hx5
   try replace hvt7 := hvt7.ext hx5
   rw [show (isAt [⟨#[40]⟩] (sig1 s'.rem)) = false from haq2]
   refine .done (.condF rfl (Wp.skip (.sr (.t2 (t_load ty100 rfl (hv_bx178_1.g 0 rfl)) (Rg.wd trivial (w_call Tryz.call95 rfl (lookahead_ok hC hp)) rfl ?_)))))
   rintro _ w6 ⟨bk14,rfl,hk14,hx6⟩
   replace hbl := hbl.trans (Bw.of hx6 hp.und)
   replace hbw := bS hbw hp.und hsub hx6
   replace hp := hp.extw hx6
   replace hv_bx178_1 := hv_bx178_1.ext hx6
   try replace hvt4 := hvt4.ext hx6
   try replace hvt7 := hvt7.ext hx6
   refine .a2 rfl (.done (.seq ?_))
   cases haq4 : ((sig1 (left s'.rem)).1 == 103) with
   | true =>
    cases haq5 : (isAt [⟨#[40]⟩] (sig1 (left (left s'.rem)))) with
    | true =>
     have hq6 := run_condT hq3 (show S.test _ _ = true by simp only [S.test,at1,ident,bne,haq1,haq2,haq4,haq5]; (try rfl))
     refine .sr (.m2 rfl (Rg.wd trivial (w_call Tryz.call211 rfl (atIdent_ok hC hk14)) rfl ?_))
     rintro _ w7 ⟨rfl,hx7⟩
     replace hbl := hbl.trans (Bw.of hx7 hp.und)
     replace hbw := bS hbw hp.und hsub hx7
     replace hp := hp.extw hx7
     replace hv_bx178_1 := hv_bx178_1.ext hx7
     try replace hvt4 := hvt4.ext hx7
     try replace hvt7 := hvt7.ext hx7
     try replace hk14 := hk14.extw hx7
     try replace hk14 := hk14.extw hx7
     try replace hk14 := hk14.extw hx7
     rw [show ((sig1 s'.look.rem).1 == 103) = true from haq4]
     refine .m2 rfl (.g2 (t_move rfl) (Rg.wd ⟨_,rfl,rfl⟩ (w_call Tryz.call95 rfl (lookahead_ok hC hk14)) rfl ?_))
     rintro _ w8 ⟨bk19,rfl,hk19,hx8⟩
     replace hbl := hbl.trans (Bw.of hx8 hp.und)
     replace hbw := bS hbw hp.und hsub hx8
     replace hp := hp.extw hx8
     replace hv_bx178_1 := hv_bx178_1.ext hx8
     try replace hvt4 := hvt4.ext hx8
     try replace hvt7 := hvt7.ext hx8
     try replace hk14 := hk14.extw hx8
     try replace hk14 := hk14.extw hx8
     try replace hk14 := hk14.extw hx8
     try replace hk14 := hk14.extw hx8
     refine Rg.wd ⟨_,rfl,rfl⟩ (w_buildSlice (bs38_1 _) rfl) rfl ?_
     rintro _ w9 ⟨bt20,rfl,qt20,hx9,hvt20⟩
     replace hbl := hbl.trans (Bw.of hx9 hp.und)
     replace hbw := bS hbw hp.und hsub hx9
     replace hp := hp.extw hx9
     replace hv_bx178_1 := hv_bx178_1.ext hx9
     try replace hvt4 := hvt4.ext hx9
     try replace hvt7 := hvt7.ext hx9
     try replace hk14 := hk14.extw hx9
     try replace hk14 := hk14.extw hx9
     try replace hk14 := hk14.extw hx9
     try replace hk14 := hk14.extw hx9
     try replace hk19 := hk19.extw hx9
     refine Rg.wd ⟨_,rfl,rfl⟩ (w_call Tryz.call94 rfl (at_ok hC hk19 (texts := [⟨#[40]⟩]) hvt20 (by decide))) rfl ?_
     rintro _ w10 ⟨rfl,hx10⟩
     replace hbl := hbl.trans (Bw.of hx10 hp.und)
     replace hbw := bS hbw hp.und hsub hx10
     replace hp := hp.extw hx10
     replace hv_bx178_1 := hv_bx178_1.ext hx10
     try replace hvt4 := hvt4.ext hx10
     try replace hvt7 := hvt7.ext hx10
     try replace hvt20 := hvt20.ext hx10
     try replace hk14 := hk14.extw hx10
     try replace hk14 := hk14.extw hx10
     try replace hk14 := hk14.extw hx10
     try replace hk14 := hk14.extw hx10
     try replace hk19 := hk19.extw hx10
     rw [show (isAt [⟨#[40]⟩] (sig1 s'.look.look.rem)) = true from haq5]
     refine .t2 (t_pickT rfl rfl) (.done (.condT rfl (.sr (.t2 (t_load ty100 rfl (hv_bx178_1.g 0 rfl)) (.t2 (t_makeFuncB (us := []) (vs := [.pointer (some ⟨bx178_1,0,none⟩)]) rfl rfl) (Rg.wd trivial (w_call Tryz.call267 rfl (D_wrap hp (clo_188 hC hD hv_bx178_1 hF_bx178_1) hq6 (adds_le hrest hb))) rfl ?_))))))
     rintro _ w11 ⟨hp1,hb11⟩
     replace hbl := hbl.trans hb11
     replace hv_bx178_1 := var_bw hv_bx178_1 hb11 hF_bx178_1
     replace hbw := hbw.trans (hb11.sub hsub)
     clear hp
     have hp := hp1
     clear hp1
     refine .done (Wp.exit ?_)
     exact ⟨(s2,m1),by repeat (first | exact .nil | refine .cons rfl ?_),⟨hp,hbl,hrest,by simp only; omega⟩,by simp only; omega⟩
    | false =>
     have hq6 := run_condF hq3 (show S.test _ _ = false by simp only [S.test,at1,ident,bne,haq1,haq2,haq4,haq5]; (try rfl))
     refine .sr (.m2 rfl (Rg.wd trivial (w_call Tryz.call211 rfl (atIdent_ok hC hk14)) rfl ?_))
     rintro _ w7 ⟨rfl,hx7⟩
     replace hbl := hbl.trans (Bw.of hx7 hp.und)
     replace hbw := bS hbw hp.und hsub hx7
     replace hp := hp.extw hx7
     replace hv_bx178_1 := hv_bx178_1.ext hx7
     try replace hvt4 := hvt4.ext hx7
     try replace hvt7 := hvt7.ext hx7
     try replace hk14 := hk14.extw hx7
     try replace hk14 := hk14.extw hx7
     try replace hk14 := hk14.extw hx7
     rw [show ((sig1 s'.look.rem).1 == 103) = true from haq4]
     refine .m2 rfl (.g2 (t_move rfl) (Rg.wd ⟨_,rfl,rfl⟩ (w_call Tryz.call95 rfl (lookahead_ok hC hk14)) rfl ?_))
     rintro _ w8 ⟨bk19,rfl,hk19,hx8⟩
     replace hbl := hbl.trans (Bw.of hx8 hp.und)
     replace hbw := bS hbw hp.und hsub hx8
     replace hp := hp.extw hx8
     replace hv_bx178_1 := hv_bx178_1.ext hx8
     try replace hvt4 := hvt4.ext hx8
     try replace hvt7 := hvt7.ext hx8
     try replace hk14 := hk14.extw hx8
     try replace hk14 := hk14.extw hx8
     try replace hk14 := hk14.extw hx8
     try replace hk14 := hk14.extw hx8
     refine Rg.wd ⟨_,rfl,rfl⟩ (w_buildSlice (bs38_1 _) rfl) rfl ?_
     rintro _ w9 ⟨bt20,rfl,qt20,hx9,hvt20⟩
     replace hbl := hbl.trans (Bw.of hx9 hp.und)
     replace hbw := bS hbw hp.und hsub hx9
     replace hp := hp.extw hx9
     replace hv_bx178_1 := hv_bx178_1.ext hx9
     try replace hvt4 := hvt4.ext hx9
     try replace hvt7 := hvt7.ext hx9
     try replace hk14 := hk14.extw hx9
     try replace hk14 := hk14.extw hx9
     try replace hk14 := hk14.extw hx9
     try replace hk14 := hk14.extw hx9
     try replace hk19 := hk19.extw hx9
     refine Rg.wd ⟨_,rfl,rfl⟩ (w_call Tryz.call94 rfl (at_ok hC hk19 (texts := [⟨#[40]⟩]) hvt20 (by decide))) rfl ?_
     rintro _ w10 ⟨rfl,hx10⟩
     replace hbl := hbl.trans (Bw.of hx10 hp.und)
     replace hbw := bS hbw hp.und hsub hx10
     replace hp := hp.extw hx10
     replace hv_bx178_1 := hv_bx178_1.ext hx10
     try replace hvt4 := hvt4.ext hx10
     try replace hvt7 := hvt7.ext hx10
     try replace hvt20 := hvt20.ext hx10
     try replace hk14 := hk14.extw hx10
     try replace hk14 := hk14.extw hx10
     try replace hk14 := hk14.extw hx10
     try replace hk14 := hk14.extw hx10
     try replace hk19 := hk19.extw hx10
     rw [show (isAt [⟨#[40]⟩] (sig1 s'.look.look.rem)) = false from haq5]
     refine .t2 (t_pickT rfl rfl) (.done (.condF rfl (Wp.skip (Wp.region (.t2 (t_load ty100 rfl (hv_bx178_1.g 0 rfl)) (.t2 (t_makeFuncB (us := []) (vs := [.pointer (some ⟨bx178_1,0,none⟩)]) rfl rfl) (Rg.wd trivial (w_call Tryz.call267 rfl (D_wrap hp (clo_189 hC hD hv_bx178_1 hF_bx178_1) hq6 (adds_le hrest hb))) rfl ?_)))))))
     rintro _ w11 ⟨hp1,hb11⟩
     replace hbl := hbl.trans hb11
     replace hv_bx178_1 := var_bw hv_bx178_1 hb11 hF_bx178_1
     replace hbw := hbw.trans (hb11.sub hsub)
     clear hp
     have hp := hp1
     clear hp1
     refine .done ?_
     exact ⟨(s2,m1),by repeat (first | exact .nil | refine .cons rfl ?_),⟨hp,hbl,hrest,by simp only; omega⟩,by simp only; omega⟩
   | false =>
    have hq5 := run_condF hq3 (show S.test _ _ = false by simp only [S.test,at1,ident,bne,haq1,haq2,haq4]; (try rfl))
    refine .sr (.m2 rfl (Rg.wd trivial (w_call Tryz.call211 rfl (atIdent_ok hC hk14)) rfl ?_))
    rintro _ w7 ⟨rfl,hx7⟩
    replace hbl := hbl.trans (Bw.of hx7 hp.und)
    replace hbw := bS hbw hp.und hsub hx7
    replace hp := hp.extw hx7
    replace hv_bx178_1 := hv_bx178_1.ext hx7
    try replace hvt4 := hvt4.ext hx7
    try replace hvt7 := hvt7.ext hx7
    try replace hk14 := hk14.extw hx7
    try replace hk14 := hk14.extw hx7
    try replace hk14 := hk14.extw hx7
    rw [show ((sig1 s'.look.rem).1 == 103) = false from haq4]
    refine .m2 rfl (.so rfl rfl (.so rfl rfl (.so rfl rfl (.so rfl rfl (.t2 (t_pickF rfl rfl) (.done (.condF rfl (Wp.skip (Wp.region (.t2 (t_load ty100 rfl (hv_bx178_1.g 0 rfl)) (.t2 (t_makeFuncB (us := []) (vs := [.pointer (some ⟨bx178_1,0,none⟩)]) rfl rfl) (Rg.wd trivial (w_call Tryz.call267 rfl (D_wrap hp (clo_189 hC hD hv_bx178_1 hF_bx178_1) hq5 (adds_le hrest hb))) rfl ?_))))))))))))
    rintro _ w8 ⟨hp1,hb8⟩
    replace hbl := hbl.trans hb8
    replace hv_bx178_1 := var_bw hv_bx178_1 hb8 hF_bx178_1
    replace hbw := hbw.trans (hb8.sub hsub)
    clear hp
    have hp := hp1
    clear hp1
    refine .done ?_
    exact ⟨(s2,m1),by repeat (first | exact .nil | refine .cons rfl ?_),⟨hp,hbl,hrest,by simp only; omega⟩,by simp only; omega⟩
 | false =>
  obtain rfl := run_loopF hrun haq1
  refine .sr (.t2 (t_load ty100 rfl (hv_bx178_1.g 0 rfl)) (Rg.wd trivial (w_buildSlice (bs38_2 _ _) rfl) rfl ?_))
  rintro _ w2 ⟨bt4,rfl,qt4,hx2,hvt4⟩
  replace hbw := bS hbw hp.und hsub hx2
  replace hp := hp.extw hx2
  replace hv_bx178_1 := hv_bx178_1.ext hx2
  refine Rg.wd trivial (w_call Tryz.call94 rfl (at_ok hC hp (texts := [⟨#[40]⟩,⟨#[46]⟩]) hvt4 (by decide))) rfl ?_
  rintro _ w3 ⟨rfl,hx3⟩
  replace hbw := bS hbw hp.und hsub hx3
  replace hp := hp.extw hx3
  replace hv_bx178_1 := hv_bx178_1.ext hx3
  try replace hvt4 := hvt4.ext hx3
  rw [show (isAt [⟨#[40]⟩,⟨#[46]⟩] (sig1 r.rem)) = false from haq1]
  refine .done (.condF rfl (Wp.exit ?_))
  exact ⟨[],trivial,(fun h => by cases h),hp.sub hsub hbase,hbw⟩
end
section
variable {w0 : World} {tv : Value} {toks : List Tok} {F : Fs} {w w' : World} {bP : Nat} {below : List (Int × List Tr)} {k : Int} {s r : S} {n : Nat}
theorem clo_160_true (hC : Cx w0 tv toks) (hD : ∀ m,m < n → DN w0 tv toks m) {b0 : Nat} (hv_b0 : Var w b0 [.pointer (some ⟨bP,0,none⟩)] 100) (hF_b0 : F b0) {b1 : Nat} (hv_b1 : Var w b1 [.bool true] 4) (hF_b1 : F b1) : Clo w0 tv toks n F bP 264 [] [.pointer (some ⟨b0,0,none⟩),.pointer (some ⟨b1,0,none⟩)] w (.seq Cmd.expIdent (.cond (at1 [⟨#[60]⟩]) (.seq .bump (Cmd.list ⟨#[62]⟩ (.call .typeExpr))) .skip)) := by
 refine ⟨Tryz.call264,fun w1 hw1 below k s r hp hr hb => ?_⟩
 replace hv_b0 := var_bw hv_b0 hw1 hF_b0
 replace hv_b1 := var_bw hv_b1 hw1 hF_b1
 show Cl Tryz.prog 264 #[.pointer (some ⟨b0,0,none⟩),.pointer (some ⟨b1,0,none⟩)] w1 _
 have hbw := Bw.refl F w1
 have hsub : ∀ z,F z → F z := fun z h => h
 have hbase := hp.base
 refine Cl.enter Tryz.func264 rfl Tryz.ntmps264 rfl rfl (.sr (.t2 (t_load ty100 rfl (hv_b0.g 0 rfl)) ?_))
 obtain ⟨s1,h1a,h1b⟩ := run_seq' hr
 refine Rg.wd trivial (w_call Tryz.call153 rfl (D_expIdent hC hp h1a (adds_le h1b hb))) rfl ?_
 rintro _ w1 ⟨hp1,hb1⟩
 replace hv_b0 := var_bw hv_b0 hb1 hF_b0
 replace hv_b1 := var_bw hv_b1 hb1 hF_b1
 replace hbw := hbw.trans (hb1.sub hsub)
 clear hp
 have hp := hp1
 clear hp1
 refine .done ?_
 cases haq1 : (isAt [⟨#[60]⟩] (sig1 s1.rem)) with
 | true =>
  have hq2 := run_condT h1b haq1
  refine .sr (.t2 (t_load ty4 rfl (hv_b1.g 0 rfl)) (.m2 rfl (.g2 (t_load ty100 rfl (hv_b0.g 0 rfl)) (Rg.wd ⟨_,rfl,rfl⟩ (w_buildSlice (bs38_1 _) rfl) rfl ?_))))
  rintro _ w2 ⟨bt7,rfl,qt7,hx2,hvt7⟩
  replace hbw := bS hbw hp.und hsub hx2
  replace hp := hp.extw hx2
  replace hv_b0 := hv_b0.ext hx2
  replace hv_b1 := hv_b1.ext hx2
  obtain ⟨s2,h2a,h2b⟩ := run_seq' hq2
  obtain rfl := run_bump' h2a
  refine Rg.wd ⟨_,rfl,rfl⟩ (w_call Tryz.call100 rfl (acc_T hC hp (texts := [⟨#[60]⟩]) hvt7 (by decide) haq1 (adds_le h2b hb))) rfl ?_
  rintro _ w3 ⟨rfl,hp1,hb3⟩
  replace hv_b0 := var_bw hv_b0 hb3 hF_b0
  replace hv_b1 := var_bw hv_b1 hb3 hF_b1
  replace hbw := hbw.trans (hb3.sub hsub)
  clear hp
  have hp := hp1
  clear hp1
  refine .t2 (t_pickT rfl rfl) (.done (.condT rfl (Wp.region (.t2 (t_load ty100 rfl (hv_b0.g 0 rfl)) (.t2 (t_load ty100 rfl (hv_b0.g 0 rfl)) (.t2 (t_makeFuncB (us := [.pointer (some ⟨bP,0,none⟩)]) (vs := []) rfl rfl) (Rg.wd trivial (w_call Tryz.call209 rfl (D_list hC hp (clo_call Tryz.call157 hD (.typeExpr)) h2b hb)) rfl ?_)))))))
  rintro _ w4 ⟨hp1,hb4⟩
  replace hv_b0 := var_bw hv_b0 hb4 hF_b0
  replace hv_b1 := var_bw hv_b1 hb4 hF_b1
  replace hbw := hbw.trans (hb4.sub hsub)
  clear hp
  have hp := hp1
  clear hp1
  refine .done ?_
  exact ⟨[],trivial,hp.sub hsub hbase,hbw⟩
 | false =>
  have hq2 := run_condF h1b haq1
  obtain rfl := run_skip' hq2
  refine .sr (.t2 (t_load ty4 rfl (hv_b1.g 0 rfl)) (.m2 rfl (.g2 (t_load ty100 rfl (hv_b0.g 0 rfl)) (Rg.wd ⟨_,rfl,rfl⟩ (w_buildSlice (bs38_1 _) rfl) rfl ?_))))
  rintro _ w2 ⟨bt7,rfl,qt7,hx2,hvt7⟩
  replace hbw := bS hbw hp.und hsub hx2
  replace hp := hp.extw hx2
  replace hv_b0 := hv_b0.ext hx2
  replace hv_b1 := hv_b1.ext hx2
  refine Rg.wd ⟨_,rfl,rfl⟩ (w_call Tryz.call100 rfl (acc_F hC hp (texts := [⟨#[60]⟩]) hvt7 (by decide) haq1)) rfl ?_
  rintro _ w3 ⟨rfl,hp1,hb3⟩
  replace hv_b0 := var_bw hv_b0 hb3 hF_b0
  replace hv_b1 := var_bw hv_b1 hb3 hF_b1
  replace hbw := hbw.trans (hb3.sub hsub)
  clear hp
  have hp := hp1
  clear hp1
  refine .t2 (t_pickT rfl rfl) (.done (.condF rfl (Wp.skip ?_)))
  exact ⟨[],trivial,hp.sub hsub hbase,hbw⟩
theorem clo_159_true (hC : Cx w0 tv toks) (hD : ∀ m,m < n → DN w0 tv toks m) {b0 : Nat} (hv_b0 : Var w b0 [.pointer (some ⟨bP,0,none⟩)] 100) (hF_b0 : F b0) {b1 : Nat} (hv_b1 : Var w b1 [.bool true] 4) (hF_b1 : F b1) : Clo w0 tv toks n F bP 263 [] [.pointer (some ⟨b0,0,none⟩),.pointer (some ⟨b1,0,none⟩)] w (.seq (.node 18 (.seq Cmd.expIdent (.cond (at1 [⟨#[60]⟩]) (.seq .bump (Cmd.list ⟨#[62]⟩ (.call .typeExpr))) .skip))) (.loop (at1 [⟨#[58,58]⟩]) (.seq .bump (.node 18 (.seq Cmd.expIdent (.cond (at1 [⟨#[60]⟩]) (.seq .bump (Cmd.list ⟨#[62]⟩ (.call .typeExpr))) .skip)))))) := by
 refine ⟨Tryz.call263,fun w1 hw1 below k s r hp hr hb => ?_⟩
 replace hv_b0 := var_bw hv_b0 hw1 hF_b0
 replace hv_b1 := var_bw hv_b1 hw1 hF_b1
 show Cl Tryz.prog 263 #[.pointer (some ⟨b0,0,none⟩),.pointer (some ⟨b1,0,none⟩)] w1 _
 have hbw := Bw.refl F w1
 have hsub : ∀ z,F z → F z := fun z h => h
 have hbase := hp.base
 refine Cl.enter Tryz.func263 rfl Tryz.ntmps263 rfl rfl (.sr (.a2 rfl (.done (Wp.block ?_))))
 refine Wp.loop (ι := S × Nat × Bool) (fun i => [(0,.pointer (some ⟨b0,0,none⟩)),(1,.pointer (some ⟨b1,0,none⟩)),(2,.bool i.2.2)])
  (fun i w' => Ps w0 tv toks F w' bP below k i.1 ∧ Bw F w1 w' ∧ (i.2.2 = true → run body n (.seq (.node 18 (.seq Cmd.expIdent (.cond (at1 [⟨#[60]⟩]) (.seq .bump (Cmd.list ⟨#[62]⟩ (.call .typeExpr))) .skip))) (.loop (at1 [⟨#[58,58]⟩]) (.seq .bump (.node 18 (.seq Cmd.expIdent (.cond (at1 [⟨#[60]⟩]) (.seq .bump (Cmd.list ⟨#[62]⟩ (.call .typeExpr))) .skip)))))) i.1 = some r) ∧ (i.2.2 = false → run body i.2.1 (.loop (at1 [⟨#[58,58]⟩]) (.seq .bump (.node 18 (.seq Cmd.expIdent (.cond (at1 [⟨#[60]⟩]) (.seq .bump (Cmd.list ⟨#[62]⟩ (.call .typeExpr))) .skip))))) i.1 = some r ∧ i.2.1 ≤ n)) (fun i => if i.2.2 = true then n + 1 else i.2.1) (s,n,true) (by repeat (first | exact .nil | refine .cons rfl ?_)) ⟨hp,Bw.refl _ _,fun _ => hr,fun h => by cases h⟩ ?_
 clear hp
 rintro ⟨s',m,fst⟩ wl ⟨hp,hbl,hq1,hq2⟩
 simp only at hp hq1 hq2
 replace hbw := hbw.trans (hbl.sub hsub)
 replace hv_b0 := var_bw hv_b0 hbl hF_b0
 replace hv_b1 := var_bw hv_b1 hbl hF_b1
 cases fst with
 | true =>
  have hrun := hq1 rfl
  refine .seq (.sr (.m2 rfl (.m2 rfl (.so rfl rfl (.so rfl rfl (.so rfl rfl (.t2 (t_pickT rfl rfl) (.done (.condT rfl (Wp.skip (.seq (Wp.block ?_))))))))))))
  refine Wp.region (.t2 (t_load ty100 rfl (hv_b0.g 0 rfl)) (.t2 (t_makeFuncB (us := []) (vs := [.pointer (some ⟨b0,0,none⟩),.pointer (some ⟨b1,0,none⟩)]) rfl rfl) ?_))
  obtain ⟨s1,h1a,h1b⟩ := run_seq' hrun
  refine Rg.wd trivial (w_call Tryz.call98 rfl (D_node hp (clo_160_true hC hD hv_b0 hF_b0 hv_b1 hF_b1) h1a (adds_le h1b hb))) rfl ?_
  rintro _ w1 ⟨hp1,hb1⟩
  replace hbl := hbl.trans hb1
  replace hv_b0 := var_bw hv_b0 hb1 hF_b0
  replace hv_b1 := var_bw hv_b1 hb1 hF_b1
  replace hbw := hbw.trans (hb1.sub hsub)
  clear hp
  have hp := hp1
  clear hp1
  refine .done (Wp.region (.a2 rfl (.done ?_)))
  exact ⟨(s1,n,false),by repeat (first | exact .nil | refine .cons rfl ?_),⟨hp,hbl,fun h => (by cases h),fun _ => ⟨h1b,Nat.le_refl _⟩⟩,by simp⟩
 | false =>
  obtain ⟨hrun,hmn⟩ := hq2 rfl
  refine .seq ?_
  cases haq1 : (isAt [⟨#[58,58]⟩] (sig1 s'.rem)) with
  | true =>
   obtain ⟨m1,s2,rfl,hbody,hrest⟩ := run_loopT hrun haq1
   replace hbody := run_le hmn hbody
   refine .sr (.m2 rfl (.m2 rfl (.g2 (t_load ty100 rfl (hv_b0.g 0 rfl)) (Rg.wd ⟨_,rfl,rfl⟩ (w_buildSlice (bs38_1 _) rfl) rfl ?_))))
   rintro _ w1 ⟨bt6,rfl,qt6,hx1,hvt6⟩
   replace hbl := hbl.trans (Bw.of hx1 hp.und)
   replace hbw := bS hbw hp.und hsub hx1
   replace hp := hp.extw hx1
   replace hv_b0 := hv_b0.ext hx1
   replace hv_b1 := hv_b1.ext hx1
   obtain ⟨s1,h1a,h1b⟩ := run_seq' hbody
   obtain rfl := run_bump' h1a
   refine Rg.wd ⟨_,rfl,rfl⟩ (w_call Tryz.call100 rfl (acc_T hC hp (texts := [⟨#[58,58]⟩]) hvt6 (by decide) haq1 (adds_le h1b (adds_le hrest hb)))) rfl ?_
   rintro _ w2 ⟨rfl,hp1,hb2⟩
   replace hbl := hbl.trans hb2
   replace hv_b0 := var_bw hv_b0 hb2 hF_b0
   replace hv_b1 := var_bw hv_b1 hb2 hF_b1
   replace hbw := hbw.trans (hb2.sub hsub)
   clear hp
   have hp := hp1
   clear hp1
   refine .t2 (t_pickF rfl rfl) (.done (.condT rfl (Wp.skip (.seq (Wp.block (Wp.region (.t2 (t_load ty100 rfl (hv_b0.g 0 rfl)) (.t2 (t_makeFuncB (us := []) (vs := [.pointer (some ⟨b0,0,none⟩),.pointer (some ⟨b1,0,none⟩)]) rfl rfl) (Rg.wd trivial (w_call Tryz.call98 rfl (D_node hp (clo_160_true hC hD hv_b0 hF_b0 hv_b1 hF_b1) h1b (adds_le hrest hb))) rfl ?_)))))))))
   rintro _ w3 ⟨hp1,hb3⟩
   replace hbl := hbl.trans hb3
   replace hv_b0 := var_bw hv_b0 hb3 hF_b0
   replace hv_b1 := var_bw hv_b1 hb3 hF_b1
   replace hbw := hbw.trans (hb3.sub hsub)
   clear hp
   have hp := hp1
   clear hp1
   refine .done (Wp.region (.a2 rfl (.done ?_)))
   exact ⟨(s2,m1,false),by repeat (first | exact .nil | refine .cons rfl ?_),⟨hp,hbl,fun h => (by cases h),fun _ => ⟨hrest,by simp only; omega⟩⟩,by simp⟩
  | false =>
   obtain rfl := run_loopF hrun haq1
   refine .sr (.m2 rfl (.m2 rfl (.g2 (t_load ty100 rfl (hv_b0.g 0 rfl)) (Rg.wd ⟨_,rfl,rfl⟩ (w_buildSlice (bs38_1 _) rfl) rfl ?_))))
   rintro _ w1 ⟨bt6,rfl,qt6,hx1,hvt6⟩
   replace hbw := bS hbw hp.und hsub hx1
   replace hp := hp.extw hx1
   replace hv_b0 := hv_b0.ext hx1
   replace hv_b1 := hv_b1.ext hx1
   refine Rg.wd ⟨_,rfl,rfl⟩ (w_call Tryz.call100 rfl (acc_F hC hp (texts := [⟨#[58,58]⟩]) hvt6 (by decide) haq1)) rfl ?_
   rintro _ w2 ⟨rfl,hp1,hb2⟩
   replace hv_b0 := var_bw hv_b0 hb2 hF_b0
   replace hv_b1 := var_bw hv_b1 hb2 hF_b1
   replace hbw := hbw.trans (hb2.sub hsub)
   clear hp
   have hp := hp1
   clear hp1
   refine .t2 (t_pickF rfl rfl) (.done (.condF rfl (Wp.exit ?_)))
   exact ⟨[],trivial,hp.sub hsub hbase,hbw⟩
theorem N_path_true (hC : Cx w0 tv toks) (hD : ∀ m,m < n → DN w0 tv toks m) (hp : Ps w0 tv toks F w bP below k s) (hr : run body n (body (.path true)) s = some r) (hb : r.adds ≤ big) :
  Cl Tryz.prog 220 #[.pointer (some ⟨bP,0,none⟩),.bool true] w (fun u w' => ((Nm.path true) = Nm.statement → u = .bool r.flag) ∧ Ps w0 tv toks F w' bP below k r ∧ Bw F w w') := by
 have hbw := Bw.refl F w
 have hsub : ∀ z,F z → F z := fun z h => h
 have hbase := hp.base
 have hr : run body n (.node 17 (.seq (.node 18 (.seq Cmd.expIdent (.cond (at1 [⟨#[60]⟩]) (.seq .bump (Cmd.list ⟨#[62]⟩ (.call .typeExpr))) .skip))) (.loop (at1 [⟨#[58,58]⟩]) (.seq .bump (.node 18 (.seq Cmd.expIdent (.cond (at1 [⟨#[60]⟩]) (.seq .bump (Cmd.list ⟨#[62]⟩ (.call .typeExpr))) .skip))))))) s = some r := hr
 refine Cl.enter Tryz.func220 rfl Tryz.ntmps220 rfl rfl (.sr (Rg.wd trivial (w_boxed rfl rfl) rfl ?_))
 rintro _ w1 ⟨bx141_2,rfl,qbx141_2,hx1,hv_bx141_2⟩
 replace hbw := bS hbw hp.und hsub hx1
 obtain ⟨F_bx141_2,hp1,hF_bx141_2,hs1⟩ := hp.box hx1 qbx141_2 hv_bx141_2.lt
 clear hp
 have hp := hp1
 clear hp1
 replace hsub := fun z hz => hs1 z (hsub z hz)
 refine Rg.wd trivial (w_boxed rfl rfl) rfl ?_
 rintro _ w2 ⟨bx141_3,rfl,qbx141_3,hx2,hv_bx141_3⟩
 replace hbw := bS hbw hp.und hsub hx2
 obtain ⟨F_bx141_3,hp1,hF_bx141_3,hs2⟩ := hp.box hx2 qbx141_3 hv_bx141_3.lt
 clear hp
 have hp := hp1
 clear hp1
 replace hsub := fun z hz => hs2 z (hsub z hz)
 replace hv_bx141_2 := hv_bx141_2.ext hx2
 replace hF_bx141_2 := hs2 _ hF_bx141_2
 refine .done (Wp.region (.t2 (t_load ty100 rfl (hv_bx141_2.g 0 rfl)) (.t2 (t_makeFuncB (us := []) (vs := [.pointer (some ⟨bx141_2,0,none⟩),.pointer (some ⟨bx141_3,0,none⟩)]) rfl rfl) (Rg.wd trivial (w_call Tryz.call98 rfl (D_node hp (clo_159_true hC hD hv_bx141_2 hF_bx141_2 hv_bx141_3 hF_bx141_3) hr hb)) rfl ?_))))
 rintro _ w3 ⟨hp1,hb3⟩
 replace hv_bx141_2 := var_bw hv_bx141_2 hb3 hF_bx141_2
 replace hv_bx141_3 := var_bw hv_bx141_3 hb3 hF_bx141_3
 replace hbw := hbw.trans (hb3.sub hsub)
 clear hp
 have hp := hp1
 clear hp1
 refine .done ?_
 exact ⟨[],trivial,(fun h => by cases h),hp.sub hsub hbase,hbw⟩
theorem clo_160_false (hC : Cx w0 tv toks) (hD : ∀ m,m < n → DN w0 tv toks m) {b0 : Nat} (hv_b0 : Var w b0 [.pointer (some ⟨bP,0,none⟩)] 100) (hF_b0 : F b0) {b1 : Nat} (hv_b1 : Var w b1 [.bool false] 4) (hF_b1 : F b1) : Clo w0 tv toks n F bP 264 [] [.pointer (some ⟨b0,0,none⟩),.pointer (some ⟨b1,0,none⟩)] w (.seq Cmd.expIdent .skip) := by
 refine ⟨Tryz.call264,fun w1 hw1 below k s r hp hr hb => ?_⟩
 replace hv_b0 := var_bw hv_b0 hw1 hF_b0
 replace hv_b1 := var_bw hv_b1 hw1 hF_b1
 show Cl Tryz.prog 264 #[.pointer (some ⟨b0,0,none⟩),.pointer (some ⟨b1,0,none⟩)] w1 _
 have hbw := Bw.refl F w1
 have hsub : ∀ z,F z → F z := fun z h => h
 have hbase := hp.base
 refine Cl.enter Tryz.func264 rfl Tryz.ntmps264 rfl rfl (.sr (.t2 (t_load ty100 rfl (hv_b0.g 0 rfl)) ?_))
 obtain ⟨s1,h1a,h1b⟩ := run_seq' hr
 refine Rg.wd trivial (w_call Tryz.call153 rfl (D_expIdent hC hp h1a (adds_le h1b hb))) rfl ?_
 rintro _ w1 ⟨hp1,hb1⟩
 replace hv_b0 := var_bw hv_b0 hb1 hF_b0
 replace hv_b1 := var_bw hv_b1 hb1 hF_b1
 replace hbw := hbw.trans (hb1.sub hsub)
 clear hp
 have hp := hp1
 clear hp1
 refine .done ?_
 obtain rfl := run_skip' h1b
 refine .sr (.t2 (t_load ty4 rfl (hv_b1.g 0 rfl)) (.m2 rfl (.so rfl rfl (.so rfl rfl (.so rfl rfl (.t2 (t_pickF rfl rfl) (.done (.condF rfl (Wp.skip ?_)))))))))
 exact ⟨[],trivial,hp.sub hsub hbase,hbw⟩
theorem clo_159_false (hC : Cx w0 tv toks) (hD : ∀ m,m < n → DN w0 tv toks m) {b0 : Nat} (hv_b0 : Var w b0 [.pointer (some ⟨bP,0,none⟩)] 100) (hF_b0 : F b0) {b1 : Nat} (hv_b1 : Var w b1 [.bool false] 4) (hF_b1 : F b1) : Clo w0 tv toks n F bP 263 [] [.pointer (some ⟨b0,0,none⟩),.pointer (some ⟨b1,0,none⟩)] w (.seq (.node 18 (.seq Cmd.expIdent .skip)) (.loop (at1 [⟨#[58,58]⟩]) (.seq .bump (.node 18 (.seq Cmd.expIdent .skip))))) := by
 refine ⟨Tryz.call263,fun w1 hw1 below k s r hp hr hb => ?_⟩
 replace hv_b0 := var_bw hv_b0 hw1 hF_b0
 replace hv_b1 := var_bw hv_b1 hw1 hF_b1
 show Cl Tryz.prog 263 #[.pointer (some ⟨b0,0,none⟩),.pointer (some ⟨b1,0,none⟩)] w1 _
 have hbw := Bw.refl F w1
 have hsub : ∀ z,F z → F z := fun z h => h
 have hbase := hp.base
 refine Cl.enter Tryz.func263 rfl Tryz.ntmps263 rfl rfl (.sr (.a2 rfl (.done (Wp.block ?_))))
 refine Wp.loop (ι := S × Nat × Bool) (fun i => [(0,.pointer (some ⟨b0,0,none⟩)),(1,.pointer (some ⟨b1,0,none⟩)),(2,.bool i.2.2)])
  (fun i w' => Ps w0 tv toks F w' bP below k i.1 ∧ Bw F w1 w' ∧ (i.2.2 = true → run body n (.seq (.node 18 (.seq Cmd.expIdent .skip)) (.loop (at1 [⟨#[58,58]⟩]) (.seq .bump (.node 18 (.seq Cmd.expIdent .skip))))) i.1 = some r) ∧ (i.2.2 = false → run body i.2.1 (.loop (at1 [⟨#[58,58]⟩]) (.seq .bump (.node 18 (.seq Cmd.expIdent .skip)))) i.1 = some r ∧ i.2.1 ≤ n)) (fun i => if i.2.2 = true then n + 1 else i.2.1) (s,n,true) (by repeat (first | exact .nil | refine .cons rfl ?_)) ⟨hp,Bw.refl _ _,fun _ => hr,fun h => by cases h⟩ ?_
 clear hp
 rintro ⟨s',m,fst⟩ wl ⟨hp,hbl,hq1,hq2⟩
 simp only at hp hq1 hq2
 replace hbw := hbw.trans (hbl.sub hsub)
 replace hv_b0 := var_bw hv_b0 hbl hF_b0
 replace hv_b1 := var_bw hv_b1 hbl hF_b1
 cases fst with
 | true =>
  have hrun := hq1 rfl
  refine .seq (.sr (.m2 rfl (.m2 rfl (.so rfl rfl (.so rfl rfl (.so rfl rfl (.t2 (t_pickT rfl rfl) (.done (.condT rfl (Wp.skip (.seq (Wp.block ?_))))))))))))
  refine Wp.region (.t2 (t_load ty100 rfl (hv_b0.g 0 rfl)) (.t2 (t_makeFuncB (us := []) (vs := [.pointer (some ⟨b0,0,none⟩),.pointer (some ⟨b1,0,none⟩)]) rfl rfl) ?_))
  obtain ⟨s1,h1a,h1b⟩ := run_seq' hrun
  refine Rg.wd trivial (w_call Tryz.call98 rfl (D_node hp (clo_160_false hC hD hv_b0 hF_b0 hv_b1 hF_b1) h1a (adds_le h1b hb))) rfl ?_
  rintro _ w1 ⟨hp1,hb1⟩
  replace hbl := hbl.trans hb1
  replace hv_b0 := var_bw hv_b0 hb1 hF_b0
  replace hv_b1 := var_bw hv_b1 hb1 hF_b1
  replace hbw := hbw.trans (hb1.sub hsub)
  clear hp
  have hp := hp1
  clear hp1
  refine .done (Wp.region (.a2 rfl (.done ?_)))
  exact ⟨(s1,n,false),by repeat (first | exact .nil | refine .cons rfl ?_),⟨hp,hbl,fun h => (by cases h),fun _ => ⟨h1b,Nat.le_refl _⟩⟩,by simp⟩
 | false =>
  obtain ⟨hrun,hmn⟩ := hq2 rfl
  refine .seq ?_
  cases haq1 : (isAt [⟨#[58,58]⟩] (sig1 s'.rem)) with
  | true =>
   obtain ⟨m1,s2,rfl,hbody,hrest⟩ := run_loopT hrun haq1
   replace hbody := run_le hmn hbody
   refine .sr (.m2 rfl (.m2 rfl (.g2 (t_load ty100 rfl (hv_b0.g 0 rfl)) (Rg.wd ⟨_,rfl,rfl⟩ (w_buildSlice (bs38_1 _) rfl) rfl ?_))))
   rintro _ w1 ⟨bt6,rfl,qt6,hx1,hvt6⟩
   replace hbl := hbl.trans (Bw.of hx1 hp.und)
   replace hbw := bS hbw hp.und hsub hx1
   replace hp := hp.extw hx1
   replace hv_b0 := hv_b0.ext hx1
   replace hv_b1 := hv_b1.ext hx1
   obtain ⟨s1,h1a,h1b⟩ := run_seq' hbody
   obtain rfl := run_bump' h1a
   refine Rg.wd ⟨_,rfl,rfl⟩ (w_call Tryz.call100 rfl (acc_T hC hp (texts := [⟨#[58,58]⟩]) hvt6 (by decide) haq1 (adds_le h1b (adds_le hrest hb)))) rfl ?_
   rintro _ w2 ⟨rfl,hp1,hb2⟩
   replace hbl := hbl.trans hb2
   replace hv_b0 := var_bw hv_b0 hb2 hF_b0
   replace hv_b1 := var_bw hv_b1 hb2 hF_b1
   replace hbw := hbw.trans (hb2.sub hsub)
   clear hp
   have hp := hp1
   clear hp1
   refine .t2 (t_pickF rfl rfl) (.done (.condT rfl (Wp.skip (.seq (Wp.block (Wp.region (.t2 (t_load ty100 rfl (hv_b0.g 0 rfl)) (.t2 (t_makeFuncB (us := []) (vs := [.pointer (some ⟨b0,0,none⟩),.pointer (some ⟨b1,0,none⟩)]) rfl rfl) (Rg.wd trivial (w_call Tryz.call98 rfl (D_node hp (clo_160_false hC hD hv_b0 hF_b0 hv_b1 hF_b1) h1b (adds_le hrest hb))) rfl ?_)))))))))
   rintro _ w3 ⟨hp1,hb3⟩
   replace hbl := hbl.trans hb3
   replace hv_b0 := var_bw hv_b0 hb3 hF_b0
   replace hv_b1 := var_bw hv_b1 hb3 hF_b1
   replace hbw := hbw.trans (hb3.sub hsub)
   clear hp
   have hp := hp1
   clear hp1
   refine .done (Wp.region (.a2 rfl (.done ?_)))
   exact ⟨(s2,m1,false),by repeat (first | exact .nil | refine .cons rfl ?_),⟨hp,hbl,fun h => (by cases h),fun _ => ⟨hrest,by simp only; omega⟩⟩,by simp⟩
  | false =>
   obtain rfl := run_loopF hrun haq1
   refine .sr (.m2 rfl (.m2 rfl (.g2 (t_load ty100 rfl (hv_b0.g 0 rfl)) (Rg.wd ⟨_,rfl,rfl⟩ (w_buildSlice (bs38_1 _) rfl) rfl ?_))))
   rintro _ w1 ⟨bt6,rfl,qt6,hx1,hvt6⟩
   replace hbw := bS hbw hp.und hsub hx1
   replace hp := hp.extw hx1
   replace hv_b0 := hv_b0.ext hx1
   replace hv_b1 := hv_b1.ext hx1
   refine Rg.wd ⟨_,rfl,rfl⟩ (w_call Tryz.call100 rfl (acc_F hC hp (texts := [⟨#[58,58]⟩]) hvt6 (by decide) haq1)) rfl ?_
   rintro _ w2 ⟨rfl,hp1,hb2⟩
   replace hv_b0 := var_bw hv_b0 hb2 hF_b0
   replace hv_b1 := var_bw hv_b1 hb2 hF_b1
   replace hbw := hbw.trans (hb2.sub hsub)
   clear hp
   have hp := hp1
   clear hp1
   refine .t2 (t_pickF rfl rfl) (.done (.condF rfl (Wp.exit ?_)))
   exact ⟨[],trivial,hp.sub hsub hbase,hbw⟩
theorem N_path_false (hC : Cx w0 tv toks) (hD : ∀ m,m < n → DN w0 tv toks m) (hp : Ps w0 tv toks F w bP below k s) (hr : run body n (body (.path false)) s = some r) (hb : r.adds ≤ big) :
  Cl Tryz.prog 220 #[.pointer (some ⟨bP,0,none⟩),.bool false] w (fun u w' => ((Nm.path false) = Nm.statement → u = .bool r.flag) ∧ Ps w0 tv toks F w' bP below k r ∧ Bw F w w') := by
 have hbw := Bw.refl F w
 have hsub : ∀ z,F z → F z := fun z h => h
 have hbase := hp.base
 have hr : run body n (.node 17 (.seq (.node 18 (.seq Cmd.expIdent .skip)) (.loop (at1 [⟨#[58,58]⟩]) (.seq .bump (.node 18 (.seq Cmd.expIdent .skip)))))) s = some r := hr
 refine Cl.enter Tryz.func220 rfl Tryz.ntmps220 rfl rfl (.sr (Rg.wd trivial (w_boxed rfl rfl) rfl ?_))
 rintro _ w1 ⟨bx141_2,rfl,qbx141_2,hx1,hv_bx141_2⟩
 replace hbw := bS hbw hp.und hsub hx1
 obtain ⟨F_bx141_2,hp1,hF_bx141_2,hs1⟩ := hp.box hx1 qbx141_2 hv_bx141_2.lt
 clear hp
 have hp := hp1
 clear hp1
 replace hsub := fun z hz => hs1 z (hsub z hz)
 refine Rg.wd trivial (w_boxed rfl rfl) rfl ?_
 rintro _ w2 ⟨bx141_3,rfl,qbx141_3,hx2,hv_bx141_3⟩
 replace hbw := bS hbw hp.und hsub hx2
 obtain ⟨F_bx141_3,hp1,hF_bx141_3,hs2⟩ := hp.box hx2 qbx141_3 hv_bx141_3.lt
 clear hp
 have hp := hp1
 clear hp1
 replace hsub := fun z hz => hs2 z (hsub z hz)
 replace hv_bx141_2 := hv_bx141_2.ext hx2
 replace hF_bx141_2 := hs2 _ hF_bx141_2
 refine .done (Wp.region (.t2 (t_load ty100 rfl (hv_bx141_2.g 0 rfl)) (.t2 (t_makeFuncB (us := []) (vs := [.pointer (some ⟨bx141_2,0,none⟩),.pointer (some ⟨bx141_3,0,none⟩)]) rfl rfl) (Rg.wd trivial (w_call Tryz.call98 rfl (D_node hp (clo_159_false hC hD hv_bx141_2 hF_bx141_2 hv_bx141_3 hF_bx141_3) hr hb)) rfl ?_))))
 rintro _ w3 ⟨hp1,hb3⟩
 replace hv_bx141_2 := var_bw hv_bx141_2 hb3 hF_bx141_2
 replace hv_bx141_3 := var_bw hv_bx141_3 hb3 hF_bx141_3
 replace hbw := hbw.trans (hb3.sub hsub)
 clear hp
 have hp := hp1
 clear hp1
 refine .done ?_
 exact ⟨[],trivial,(fun h => by cases h),hp.sub hsub hbase,hbw⟩
theorem N_function_true (hC : Cx w0 tv toks) (hD : ∀ m,m < n → DN w0 tv toks m) (hp : Ps w0 tv toks F w bP below k s) (hr : run body n (body (.function true)) s = some r) (hb : r.adds ≤ big) :
  Cl Tryz.prog 151 #[.pointer (some ⟨bP,0,none⟩),.bool true] w (fun u w' => ((Nm.function true) = Nm.statement → u = .bool r.flag) ∧ Ps w0 tv toks F w' bP below k r ∧ Bw F w w') := by
 have hbw := Bw.refl F w
 have hsub : ∀ z,F z → F z := fun z h => h
 have hbase := hp.base
 have hr : run body n (.seq Cmd.expIdent (.seq (.call .typeParams) (.seq (Cmd.exp ⟨#[40]⟩) (.seq (.call (.params ⟨#[41]⟩)) (.seq (Cmd.opt ⟨#[45,62]⟩ (.call .typeExpr)) (.call .block)))))) s = some r := hr
 refine Cl.enter Tryz.func151 rfl Tryz.ntmps151 rfl rfl (.sr (.m2 rfl ?_))
 obtain ⟨s1,h1a,h1b⟩ := run_seq' hr
 refine Rg.wd trivial (w_call Tryz.call153 rfl (D_expIdent hC hp h1a (adds_le h1b hb))) rfl ?_
 rintro _ w1 ⟨hp1,hb1⟩
 replace hbw := hbw.trans (hb1.sub hsub)
 clear hp
 have hp := hp1
 clear hp1
 refine .done (.sr (.m2 rfl ?_))
 obtain ⟨s2,h2a,h2b⟩ := run_seq' h1b
 refine Rg.wd trivial (w_call Tryz.call205 rfl (D_call hD hp h2a (adds_le h2b hb))) rfl ?_
 rintro _ w2 ⟨hst,hp1,hb2⟩
 replace hbw := hbw.trans (hb2.sub hsub)
 clear hp
 have hp := hp1
 clear hp1
 refine .done (.sr (.m2 rfl ?_))
 obtain ⟨s3,h3a,h3b⟩ := run_seq' h2b
 refine Rg.wd trivial (w_call Tryz.call156 rfl (D_exp hC hp h3a (adds_le h3b hb))) rfl ?_
 rintro _ w3 ⟨hp1,hb3⟩
 replace hbw := hbw.trans (hb3.sub hsub)
 clear hp
 have hp := hp1
 clear hp1
 refine .done (.sr (.m2 rfl ?_))
 obtain ⟨s4,h4a,h4b⟩ := run_seq' h3b
 refine Rg.wd trivial (w_call Tryz.call159 rfl (D_call hD hp h4a (adds_le h4b hb))) rfl ?_
 rintro _ w4 ⟨hst,hp1,hb4⟩
 replace hbw := hbw.trans (hb4.sub hsub)
 clear hp
 have hp := hp1
 clear hp1
 refine .done (.sr (.m2 rfl (.m2 rfl (.t2 (t_makeFuncB (us := [.pointer (some ⟨bP,0,none⟩)]) (vs := []) rfl rfl) ?_))))
 obtain ⟨s5,h5a,h5b⟩ := run_seq' h4b
 refine Rg.wd trivial (w_call Tryz.call206 rfl (D_opt hC hp (clo_call Tryz.call157 hD (.typeExpr)) h5a (adds_le h5b hb))) rfl ?_
 rintro _ w5 ⟨hp1,hb5⟩
 replace hbw := hbw.trans (hb5.sub hsub)
 clear hp
 have hp := hp1
 clear hp1
 refine .done (.seq (.sr (.m2 rfl (.t2 (t_notB rfl) (.m2 rfl (.so rfl rfl (.so rfl rfl (.so rfl rfl (.t2 (t_pickF rfl rfl) (.done (.condF rfl (Wp.skip ?_))))))))))))
 refine Wp.region (.m2 rfl (Rg.wd trivial (w_call Tryz.call208 rfl (D_call hD hp h5b hb)) rfl ?_))
 rintro _ w6 ⟨hst,hp1,hb6⟩
 replace hbw := hbw.trans (hb6.sub hsub)
 clear hp
 have hp := hp1
 clear hp1
 refine .done ?_
 exact ⟨[],trivial,(fun h => by cases h),hp.sub hsub hbase,hbw⟩
theorem N_function_false (hC : Cx w0 tv toks) (hD : ∀ m,m < n → DN w0 tv toks m) (hp : Ps w0 tv toks F w bP below k s) (hr : run body n (body (.function false)) s = some r) (hb : r.adds ≤ big) :
  Cl Tryz.prog 151 #[.pointer (some ⟨bP,0,none⟩),.bool false] w (fun u w' => ((Nm.function false) = Nm.statement → u = .bool r.flag) ∧ Ps w0 tv toks F w' bP below k r ∧ Bw F w w') := by
 have hbw := Bw.refl F w
 have hsub : ∀ z,F z → F z := fun z h => h
 have hbase := hp.base
 have hr : run body n (.seq Cmd.expIdent (.seq (.call .typeParams) (.seq (Cmd.exp ⟨#[40]⟩) (.seq (.call (.params ⟨#[41]⟩)) (.seq (Cmd.opt ⟨#[45,62]⟩ (.call .typeExpr)) (.cond (at1 [⟨#[59]⟩]) (.seq .bump (.leaf 0)) (.call .block))))))) s = some r := hr
 refine Cl.enter Tryz.func151 rfl Tryz.ntmps151 rfl rfl (.sr (.m2 rfl ?_))
 obtain ⟨s1,h1a,h1b⟩ := run_seq' hr
 refine Rg.wd trivial (w_call Tryz.call153 rfl (D_expIdent hC hp h1a (adds_le h1b hb))) rfl ?_
 rintro _ w1 ⟨hp1,hb1⟩
 replace hbw := hbw.trans (hb1.sub hsub)
 clear hp
 have hp := hp1
 clear hp1
 refine .done (.sr (.m2 rfl ?_))
 obtain ⟨s2,h2a,h2b⟩ := run_seq' h1b
 refine Rg.wd trivial (w_call Tryz.call205 rfl (D_call hD hp h2a (adds_le h2b hb))) rfl ?_
 rintro _ w2 ⟨hst,hp1,hb2⟩
 replace hbw := hbw.trans (hb2.sub hsub)
 clear hp
 have hp := hp1
 clear hp1
 refine .done (.sr (.m2 rfl ?_))
 obtain ⟨s3,h3a,h3b⟩ := run_seq' h2b
 refine Rg.wd trivial (w_call Tryz.call156 rfl (D_exp hC hp h3a (adds_le h3b hb))) rfl ?_
 rintro _ w3 ⟨hp1,hb3⟩
 replace hbw := hbw.trans (hb3.sub hsub)
 clear hp
 have hp := hp1
 clear hp1
 refine .done (.sr (.m2 rfl ?_))
 obtain ⟨s4,h4a,h4b⟩ := run_seq' h3b
 refine Rg.wd trivial (w_call Tryz.call159 rfl (D_call hD hp h4a (adds_le h4b hb))) rfl ?_
 rintro _ w4 ⟨hst,hp1,hb4⟩
 replace hbw := hbw.trans (hb4.sub hsub)
 clear hp
 have hp := hp1
 clear hp1
 refine .done (.sr (.m2 rfl (.m2 rfl (.t2 (t_makeFuncB (us := [.pointer (some ⟨bP,0,none⟩)]) (vs := []) rfl rfl) ?_))))
 obtain ⟨s5,h5a,h5b⟩ := run_seq' h4b
 refine Rg.wd trivial (w_call Tryz.call206 rfl (D_opt hC hp (clo_call Tryz.call157 hD (.typeExpr)) h5a (adds_le h5b hb))) rfl ?_
 rintro _ w5 ⟨hp1,hb5⟩
 replace hbw := hbw.trans (hb5.sub hsub)
 clear hp
 have hp := hp1
 clear hp1
 refine .done (.seq ?_)
 cases haq1 : (isAt [⟨#[59]⟩] (sig1 s5.rem)) with
 | true =>
  have hq2 := run_condT h5b haq1
  refine .sr (.m2 rfl (.t2 (t_notB rfl) (.m2 rfl (.g2 (t_move rfl) (Rg.wd ⟨_,rfl,rfl⟩ (w_buildSlice (bs38_1 _) rfl) rfl ?_)))))
  rintro _ w6 ⟨bt20,rfl,qt20,hx6,hvt20⟩
  replace hbw := bS hbw hp.und hsub hx6
  replace hp := hp.extw hx6
  obtain ⟨s6,h6a,h6b⟩ := run_seq' hq2
  obtain rfl := run_bump' h6a
  refine Rg.wd ⟨_,rfl,rfl⟩ (w_call Tryz.call100 rfl (acc_T hC hp (texts := [⟨#[59]⟩]) hvt20 (by decide) haq1 (adds_le h6b hb))) rfl ?_
  rintro _ w7 ⟨rfl,hp1,hb7⟩
  replace hbw := hbw.trans (hb7.sub hsub)
  clear hp
  have hp := hp1
  clear hp1
  refine .t2 (t_pickT rfl rfl) (.done (.condT rfl (.sr (.m2 rfl (Rg.wd trivial (w_call Tryz.call207 rfl (D_absent hp h6b hb)) rfl ?_)))))
  rintro _ w8 ⟨hp1,hb8⟩
  replace hbw := hbw.trans (hb8.sub hsub)
  clear hp
  have hp := hp1
  clear hp1
  refine .done (Wp.ret ?_)
  exact ⟨[],trivial,(fun h => by cases h),hp.sub hsub hbase,hbw⟩
 | false =>
  have hq2 := run_condF h5b haq1
  refine .sr (.m2 rfl (.t2 (t_notB rfl) (.m2 rfl (.g2 (t_move rfl) (Rg.wd ⟨_,rfl,rfl⟩ (w_buildSlice (bs38_1 _) rfl) rfl ?_)))))
  rintro _ w6 ⟨bt20,rfl,qt20,hx6,hvt20⟩
  replace hbw := bS hbw hp.und hsub hx6
  replace hp := hp.extw hx6
  refine Rg.wd ⟨_,rfl,rfl⟩ (w_call Tryz.call100 rfl (acc_F hC hp (texts := [⟨#[59]⟩]) hvt20 (by decide) haq1)) rfl ?_
  rintro _ w7 ⟨rfl,hp1,hb7⟩
  replace hbw := hbw.trans (hb7.sub hsub)
  clear hp
  have hp := hp1
  clear hp1
  refine .t2 (t_pickT rfl rfl) (.done (.condF rfl (Wp.skip (Wp.region (.m2 rfl (Rg.wd trivial (w_call Tryz.call208 rfl (D_call hD hp hq2 hb)) rfl ?_))))))
  rintro _ w8 ⟨hst,hp1,hb8⟩
  replace hbw := hbw.trans (hb8.sub hsub)
  clear hp
  have hp := hp1
  clear hp1
  refine .done ?_
  exact ⟨[],trivial,(fun h => by cases h),hp.sub hsub hbase,hbw⟩
theorem clo_133 (hC : Cx w0 tv toks) (hD : ∀ m,m < n → DN w0 tv toks m) {b0 : Nat} (hv_b0 : Var w b0 [.pointer (some ⟨bP,0,none⟩)] 100) (hF_b0 : F b0) : Clo w0 tv toks n F bP 212 [] [.pointer (some ⟨b0,0,none⟩)] w (.seq .bump (.seq (Cmd.exp ⟨#[58]⟩) (.call .typeExpr))) := by
 refine ⟨Tryz.call212,fun w1 hw1 below k s r hp hr hb => ?_⟩
 replace hv_b0 := var_bw hv_b0 hw1 hF_b0
 show Cl Tryz.prog 212 #[.pointer (some ⟨b0,0,none⟩)] w1 _
 have hbw := Bw.refl F w1
 have hsub : ∀ z,F z → F z := fun z h => h
 have hbase := hp.base
 refine Cl.enter Tryz.func212 rfl Tryz.ntmps212 rfl rfl (.sr (.t2 (t_load ty100 rfl (hv_b0.g 0 rfl)) ?_))
 obtain ⟨s1,h1a,h1b⟩ := run_seq' hr
 refine Rg.wd trivial (w_call Tryz.call101 rfl (D_bump hC hp h1a (adds_le h1b hb))) rfl ?_
 rintro _ w1 ⟨hp1,hb1⟩
 replace hv_b0 := var_bw hv_b0 hb1 hF_b0
 replace hbw := hbw.trans (hb1.sub hsub)
 clear hp
 have hp := hp1
 clear hp1
 refine .done (.sr (.t2 (t_load ty100 rfl (hv_b0.g 0 rfl)) ?_))
 obtain ⟨s2,h2a,h2b⟩ := run_seq' h1b
 refine Rg.wd trivial (w_call Tryz.call156 rfl (D_exp hC hp h2a (adds_le h2b hb))) rfl ?_
 rintro _ w2 ⟨hp1,hb2⟩
 replace hv_b0 := var_bw hv_b0 hb2 hF_b0
 replace hbw := hbw.trans (hb2.sub hsub)
 clear hp
 have hp := hp1
 clear hp1
 refine .done (Wp.region (.t2 (t_load ty100 rfl (hv_b0.g 0 rfl)) (Rg.wd trivial (w_call Tryz.call157 rfl (D_call hD hp h2b hb)) rfl ?_)))
 rintro _ w3 ⟨hst,hp1,hb3⟩
 replace hv_b0 := var_bw hv_b0 hb3 hF_b0
 replace hbw := hbw.trans (hb3.sub hsub)
 clear hp
 have hp := hp1
 clear hp1
 refine .done ?_
 exact ⟨[],trivial,hp.sub hsub hbase,hbw⟩
theorem clo_134 (hC : Cx w0 tv toks) (hD : ∀ m,m < n → DN w0 tv toks m) {b0 : Nat} (hv_b0 : Var w b0 [.pointer (some ⟨bP,0,none⟩)] 100) (hF_b0 : F b0) : Clo w0 tv toks n F bP 213 [] [.pointer (some ⟨b0,0,none⟩)] w (.seq .bump (.cond (at1 [⟨#[40]⟩]) (.seq .bump (Cmd.list ⟨#[41]⟩ (.call .typeExpr))) .skip)) := by
 refine ⟨Tryz.call213,fun w1 hw1 below k s r hp hr hb => ?_⟩
 replace hv_b0 := var_bw hv_b0 hw1 hF_b0
 show Cl Tryz.prog 213 #[.pointer (some ⟨b0,0,none⟩)] w1 _
 have hbw := Bw.refl F w1
 have hsub : ∀ z,F z → F z := fun z h => h
 have hbase := hp.base
 refine Cl.enter Tryz.func213 rfl Tryz.ntmps213 rfl rfl (.sr (.t2 (t_load ty100 rfl (hv_b0.g 0 rfl)) ?_))
 obtain ⟨s1,h1a,h1b⟩ := run_seq' hr
 refine Rg.wd trivial (w_call Tryz.call101 rfl (D_bump hC hp h1a (adds_le h1b hb))) rfl ?_
 rintro _ w1 ⟨hp1,hb1⟩
 replace hv_b0 := var_bw hv_b0 hb1 hF_b0
 replace hbw := hbw.trans (hb1.sub hsub)
 clear hp
 have hp := hp1
 clear hp1
 refine .done ?_
 cases haq1 : (isAt [⟨#[40]⟩] (sig1 s1.rem)) with
 | true =>
  have hq2 := run_condT h1b haq1
  refine .sr (.t2 (t_load ty100 rfl (hv_b0.g 0 rfl)) (Rg.wd trivial (w_buildSlice (bs38_1 _) rfl) rfl ?_))
  rintro _ w2 ⟨bt4,rfl,qt4,hx2,hvt4⟩
  replace hbw := bS hbw hp.und hsub hx2
  replace hp := hp.extw hx2
  replace hv_b0 := hv_b0.ext hx2
  obtain ⟨s2,h2a,h2b⟩ := run_seq' hq2
  obtain rfl := run_bump' h2a
  refine Rg.wd trivial (w_call Tryz.call100 rfl (acc_T hC hp (texts := [⟨#[40]⟩]) hvt4 (by decide) haq1 (adds_le h2b hb))) rfl ?_
  rintro _ w3 ⟨rfl,hp1,hb3⟩
  replace hv_b0 := var_bw hv_b0 hb3 hF_b0
  replace hbw := hbw.trans (hb3.sub hsub)
  clear hp
  have hp := hp1
  clear hp1
  refine .done (.condT rfl (Wp.region (.t2 (t_load ty100 rfl (hv_b0.g 0 rfl)) (.t2 (t_load ty100 rfl (hv_b0.g 0 rfl)) (.t2 (t_makeFuncB (us := [.pointer (some ⟨bP,0,none⟩)]) (vs := []) rfl rfl) (Rg.wd trivial (w_call Tryz.call209 rfl (D_list hC hp (clo_call Tryz.call157 hD (.typeExpr)) h2b hb)) rfl ?_))))))
  rintro _ w4 ⟨hp1,hb4⟩
  replace hv_b0 := var_bw hv_b0 hb4 hF_b0
  replace hbw := hbw.trans (hb4.sub hsub)
  clear hp
  have hp := hp1
  clear hp1
  refine .done ?_
  exact ⟨[],trivial,hp.sub hsub hbase,hbw⟩
 | false =>
  have hq2 := run_condF h1b haq1
  obtain rfl := run_skip' hq2
  refine .sr (.t2 (t_load ty100 rfl (hv_b0.g 0 rfl)) (Rg.wd trivial (w_buildSlice (bs38_1 _) rfl) rfl ?_))
  rintro _ w2 ⟨bt4,rfl,qt4,hx2,hvt4⟩
  replace hbw := bS hbw hp.und hsub hx2
  replace hp := hp.extw hx2
  replace hv_b0 := hv_b0.ext hx2
  refine Rg.wd trivial (w_call Tryz.call100 rfl (acc_F hC hp (texts := [⟨#[40]⟩]) hvt4 (by decide) haq1)) rfl ?_
  rintro _ w3 ⟨rfl,hp1,hb3⟩
  replace hv_b0 := var_bw hv_b0 hb3 hF_b0
  replace hbw := hbw.trans (hb3.sub hsub)
  clear hp
  have hp := hp1
  clear hp1
  refine .done (.condF rfl (Wp.skip ?_))
  exact ⟨[],trivial,hp.sub hsub hbase,hbw⟩
theorem clo_131 {kd : Int} (hC : Cx w0 tv toks) (hD : ∀ m,m < n → DN w0 tv toks m) {b0 : Nat} (hv_b0 : Var w b0 [.pointer (some ⟨bP,0,none⟩)] 100) (hF_b0 : F b0) {b1 : Nat} (hv_b1 : Var w b1 [.int .i64 kd] 3) (hF_b1 : F b1) : Clo w0 tv toks n F bP 210 [] [.pointer (some ⟨b0,0,none⟩),.pointer (some ⟨b1,0,none⟩)] w (.cond ident (if kd = 4 then (.node 14 (.seq .bump (.seq (Cmd.exp ⟨#[58]⟩) (.call .typeExpr)))) else (.node 15 (.seq .bump (.cond (at1 [⟨#[40]⟩]) (.seq .bump (Cmd.list ⟨#[41]⟩ (.call .typeExpr))) .skip)))) .skip) := by
 refine ⟨Tryz.call210,fun w1 hw1 below k s r hp hr hb => ?_⟩
 replace hv_b0 := var_bw hv_b0 hw1 hF_b0
 replace hv_b1 := var_bw hv_b1 hw1 hF_b1
 show Cl Tryz.prog 210 #[.pointer (some ⟨b0,0,none⟩),.pointer (some ⟨b1,0,none⟩)] w1 _
 have hbw := Bw.refl F w1
 have hsub : ∀ z,F z → F z := fun z h => h
 have hbase := hp.base
 refine Cl.enter Tryz.func210 rfl Tryz.ntmps210 rfl rfl (Wp.block ?_)
 cases haq1 : ((sig1 s.rem).1 == 103) with
 | true =>
  have hq2 := run_condT hr haq1
  refine .sr (.t2 (t_load ty100 rfl (hv_b0.g 0 rfl)) (Rg.wd trivial (w_call Tryz.call211 rfl (atIdent_ok hC hp)) rfl ?_))
  rintro _ w1 ⟨rfl,hx1⟩
  replace hbw := bS hbw hp.und hsub hx1
  replace hp := hp.extw hx1
  replace hv_b0 := hv_b0.ext hx1
  replace hv_b1 := hv_b1.ext hx1
  rw [show ((sig1 s.rem).1 == 103) = true from haq1]
  refine .t2 (t_notB rfl) (.a2 rfl (.done (.condF rfl ?_)))
  cases haq3 : (kd == 4) with
  | true =>
   rw [if_pos (beq_iff_eq.1 haq3)] at hq2
   refine .sr (.t2 (t_load ty3 rfl (hv_b1.g 0 rfl)) (.t2 (t_eqlT rfl rfl (beq_iff_eq.1 haq3)) (.a2 rfl (.done (.condT rfl (Wp.region (.t2 (t_load ty100 rfl (hv_b0.g 0 rfl)) (.t2 (t_makeFuncB (us := []) (vs := [.pointer (some ⟨b0,0,none⟩)]) rfl rfl) (Rg.wd trivial (w_call Tryz.call98 rfl (D_node hp (clo_133 hC hD hv_b0 hF_b0) hq2 hb)) rfl ?_)))))))))
   rintro _ w2 ⟨hp1,hb2⟩
   replace hv_b0 := var_bw hv_b0 hb2 hF_b0
   replace hv_b1 := var_bw hv_b1 hb2 hF_b1
   replace hbw := hbw.trans (hb2.sub hsub)
   clear hp
   have hp := hp1
   clear hp1
   refine .done ?_
   exact ⟨[],trivial,hp.sub hsub hbase,hbw⟩
  | false =>
   rw [if_neg (fun e => by rw [beq_iff_eq.2 e] at haq3; cases haq3)] at hq2
   refine .sr (.t2 (t_load ty3 rfl (hv_b1.g 0 rfl)) ?_)
   refine .t2 (t_eqlF rfl rfl (fun e => by rw [beq_iff_eq.2 e] at haq3; cases haq3)) ?_
   refine .a2 rfl (.done (.condF rfl (Wp.region (.t2 (t_load ty100 rfl (hv_b0.g 0 rfl)) (.t2 (t_makeFuncB (us := []) (vs := [.pointer (some ⟨b0,0,none⟩)]) rfl rfl) (Rg.wd trivial (w_call Tryz.call98 rfl (D_node hp (clo_134 hC hD hv_b0 hF_b0) hq2 hb)) rfl ?_))))))
   rintro _ w2 ⟨hp1,hb2⟩
   replace hv_b0 := var_bw hv_b0 hb2 hF_b0
   replace hv_b1 := var_bw hv_b1 hb2 hF_b1
   replace hbw := hbw.trans (hb2.sub hsub)
   clear hp
   have hp := hp1
   clear hp1
   refine .done ?_
   exact ⟨[],trivial,hp.sub hsub hbase,hbw⟩
 | false =>
  have hq2 := run_condF hr haq1
  obtain rfl := run_skip' hq2
  refine .sr (.t2 (t_load ty100 rfl (hv_b0.g 0 rfl)) (Rg.wd trivial (w_call Tryz.call211 rfl (atIdent_ok hC hp)) rfl ?_))
  rintro _ w1 ⟨rfl,hx1⟩
  replace hbw := bS hbw hp.und hsub hx1
  replace hp := hp.extw hx1
  replace hv_b0 := hv_b0.ext hx1
  replace hv_b1 := hv_b1.ext hx1
  rw [show ((sig1 r.rem).1 == 103) = false from haq1]
  refine .t2 (t_notB rfl) (.a2 rfl (.done (.condT rfl (Wp.skip ?_))))
  exact ⟨[],trivial,hp.sub hsub hbase,hbw⟩
theorem N_dataType {kd : Int} (hC : Cx w0 tv toks) (hD : ∀ m,m < n → DN w0 tv toks m) (hp : Ps w0 tv toks F w bP below k s) (hr : run body n (body (.dataType kd)) s = some r) (hb : r.adds ≤ big) :
  Cl Tryz.prog 152 #[.pointer (some ⟨bP,0,none⟩),.int .i64 kd] w (fun u w' => ((Nm.dataType kd) = Nm.statement → u = .bool r.flag) ∧ Ps w0 tv toks F w' bP below k r ∧ Bw F w w') := by
 have hbw := Bw.refl F w
 have hsub : ∀ z,F z → F z := fun z h => h
 have hbase := hp.base
 have hr : run body n (.seq Cmd.expIdent (.seq (.call .typeParams) (.seq (Cmd.exp ⟨#[123]⟩) (Cmd.list ⟨#[125]⟩ (.cond ident (if kd = 4 then (.node 14 (.seq .bump (.seq (Cmd.exp ⟨#[58]⟩) (.call .typeExpr)))) else (.node 15 (.seq .bump (.cond (at1 [⟨#[40]⟩]) (.seq .bump (Cmd.list ⟨#[41]⟩ (.call .typeExpr))) .skip)))) .skip))))) s = some r := hr
 refine Cl.enter Tryz.func152 rfl Tryz.ntmps152 rfl rfl (.sr (Rg.wd trivial (w_boxed rfl rfl) rfl ?_))
 rintro _ w1 ⟨bx106_2,rfl,qbx106_2,hx1,hv_bx106_2⟩
 replace hbw := bS hbw hp.und hsub hx1
 obtain ⟨F_bx106_2,hp1,hF_bx106_2,hs1⟩ := hp.box hx1 qbx106_2 hv_bx106_2.lt
 clear hp
 have hp := hp1
 clear hp1
 replace hsub := fun z hz => hs1 z (hsub z hz)
 refine Rg.wd trivial (w_boxed rfl rfl) rfl ?_
 rintro _ w2 ⟨bx106_3,rfl,qbx106_3,hx2,hv_bx106_3⟩
 replace hbw := bS hbw hp.und hsub hx2
 obtain ⟨F_bx106_3,hp1,hF_bx106_3,hs2⟩ := hp.box hx2 qbx106_3 hv_bx106_3.lt
 clear hp
 have hp := hp1
 clear hp1
 replace hsub := fun z hz => hs2 z (hsub z hz)
 replace hv_bx106_2 := hv_bx106_2.ext hx2
 replace hF_bx106_2 := hs2 _ hF_bx106_2
 refine .done (.sr (.t2 (t_load ty100 rfl (hv_bx106_2.g 0 rfl)) ?_))
 obtain ⟨s1,h1a,h1b⟩ := run_seq' hr
 refine Rg.wd trivial (w_call Tryz.call153 rfl (D_expIdent hC hp h1a (adds_le h1b hb))) rfl ?_
 rintro _ w3 ⟨hp1,hb3⟩
 replace hv_bx106_2 := var_bw hv_bx106_2 hb3 hF_bx106_2
 replace hv_bx106_3 := var_bw hv_bx106_3 hb3 hF_bx106_3
 replace hbw := hbw.trans (hb3.sub hsub)
 clear hp
 have hp := hp1
 clear hp1
 refine .done (.sr (.t2 (t_load ty100 rfl (hv_bx106_2.g 0 rfl)) ?_))
 obtain ⟨s2,h2a,h2b⟩ := run_seq' h1b
 refine Rg.wd trivial (w_call Tryz.call205 rfl (D_call hD hp h2a (adds_le h2b hb))) rfl ?_
 rintro _ w4 ⟨hst,hp1,hb4⟩
 replace hv_bx106_2 := var_bw hv_bx106_2 hb4 hF_bx106_2
 replace hv_bx106_3 := var_bw hv_bx106_3 hb4 hF_bx106_3
 replace hbw := hbw.trans (hb4.sub hsub)
 clear hp
 have hp := hp1
 clear hp1
 refine .done (.sr (.t2 (t_load ty100 rfl (hv_bx106_2.g 0 rfl)) ?_))
 obtain ⟨s3,h3a,h3b⟩ := run_seq' h2b
 refine Rg.wd trivial (w_call Tryz.call156 rfl (D_exp hC hp h3a (adds_le h3b hb))) rfl ?_
 rintro _ w5 ⟨hp1,hb5⟩
 replace hv_bx106_2 := var_bw hv_bx106_2 hb5 hF_bx106_2
 replace hv_bx106_3 := var_bw hv_bx106_3 hb5 hF_bx106_3
 replace hbw := hbw.trans (hb5.sub hsub)
 clear hp
 have hp := hp1
 clear hp1
 refine .done (Wp.region (.t2 (t_load ty100 rfl (hv_bx106_2.g 0 rfl)) (.t2 (t_makeFuncB (us := []) (vs := [.pointer (some ⟨bx106_2,0,none⟩),.pointer (some ⟨bx106_3,0,none⟩)]) rfl rfl) (Rg.wd trivial (w_call Tryz.call209 rfl (D_list hC hp (clo_131 hC hD hv_bx106_2 hF_bx106_2 hv_bx106_3 hF_bx106_3) h3b hb)) rfl ?_))))
 rintro _ w6 ⟨hp1,hb6⟩
 replace hv_bx106_2 := var_bw hv_bx106_2 hb6 hF_bx106_2
 replace hv_bx106_3 := var_bw hv_bx106_3 hb6 hF_bx106_3
 replace hbw := hbw.trans (hb6.sub hsub)
 clear hp
 have hp := hp1
 clear hp1
 refine .done ?_
 exact ⟨[],trivial,(fun h => by cases h),hp.sub hsub hbase,hbw⟩
theorem clo_136 (hC : Cx w0 tv toks) (hD : ∀ m,m < n → DN w0 tv toks m) {b0 : Nat} (hv_b0 : Var w b0 [.pointer (some ⟨bP,0,none⟩)] 100) (hF_b0 : F b0) : Clo w0 tv toks n F bP 215 [] [.pointer (some ⟨b0,0,none⟩)] w (.seq .bump (.call (.function false))) := by
 refine ⟨Tryz.call215,fun w1 hw1 below k s r hp hr hb => ?_⟩
 replace hv_b0 := var_bw hv_b0 hw1 hF_b0
 show Cl Tryz.prog 215 #[.pointer (some ⟨b0,0,none⟩)] w1 _
 have hbw := Bw.refl F w1
 have hsub : ∀ z,F z → F z := fun z h => h
 have hbase := hp.base
 refine Cl.enter Tryz.func215 rfl Tryz.ntmps215 rfl rfl (.sr (.t2 (t_load ty100 rfl (hv_b0.g 0 rfl)) ?_))
 obtain ⟨s1,h1a,h1b⟩ := run_seq' hr
 refine Rg.wd trivial (w_call Tryz.call101 rfl (D_bump hC hp h1a (adds_le h1b hb))) rfl ?_
 rintro _ w1 ⟨hp1,hb1⟩
 replace hv_b0 := var_bw hv_b0 hb1 hF_b0
 replace hbw := hbw.trans (hb1.sub hsub)
 clear hp
 have hp := hp1
 clear hp1
 refine .done (Wp.region (.t2 (t_load ty100 rfl (hv_b0.g 0 rfl)) (Rg.wd trivial (w_call Tryz.call151 rfl (D_call hD hp h1b hb)) rfl ?_)))
 rintro _ w2 ⟨hst,hp1,hb2⟩
 replace hv_b0 := var_bw hv_b0 hb2 hF_b0
 replace hbw := hbw.trans (hb2.sub hsub)
 clear hp
 have hp := hp1
 clear hp1
 refine .done ?_
 exact ⟨[],trivial,hp.sub hsub hbase,hbw⟩
theorem clo_137 (hC : Cx w0 tv toks) (hD : ∀ m,m < n → DN w0 tv toks m) {b0 : Nat} (hv_b0 : Var w b0 [.pointer (some ⟨bP,0,none⟩)] 100) (hF_b0 : F b0) : Clo w0 tv toks n F bP 216 [] [.pointer (some ⟨b0,0,none⟩)] w (.seq .bump (.seq Cmd.expIdent (.seq (Cmd.opt ⟨#[61]⟩ (.call .typeExpr)) (Cmd.exp ⟨#[59]⟩)))) := by
 refine ⟨Tryz.call216,fun w1 hw1 below k s r hp hr hb => ?_⟩
 replace hv_b0 := var_bw hv_b0 hw1 hF_b0
 show Cl Tryz.prog 216 #[.pointer (some ⟨b0,0,none⟩)] w1 _
 have hbw := Bw.refl F w1
 have hsub : ∀ z,F z → F z := fun z h => h
 have hbase := hp.base
 refine Cl.enter Tryz.func216 rfl Tryz.ntmps216 rfl rfl (.sr (.t2 (t_load ty100 rfl (hv_b0.g 0 rfl)) ?_))
 obtain ⟨s1,h1a,h1b⟩ := run_seq' hr
 refine Rg.wd trivial (w_call Tryz.call101 rfl (D_bump hC hp h1a (adds_le h1b hb))) rfl ?_
 rintro _ w1 ⟨hp1,hb1⟩
 replace hv_b0 := var_bw hv_b0 hb1 hF_b0
 replace hbw := hbw.trans (hb1.sub hsub)
 clear hp
 have hp := hp1
 clear hp1
 refine .done (.sr (.t2 (t_load ty100 rfl (hv_b0.g 0 rfl)) ?_))
 obtain ⟨s2,h2a,h2b⟩ := run_seq' h1b
 refine Rg.wd trivial (w_call Tryz.call153 rfl (D_expIdent hC hp h2a (adds_le h2b hb))) rfl ?_
 rintro _ w2 ⟨hp1,hb2⟩
 replace hv_b0 := var_bw hv_b0 hb2 hF_b0
 replace hbw := hbw.trans (hb2.sub hsub)
 clear hp
 have hp := hp1
 clear hp1
 refine .done (.sr (.t2 (t_load ty100 rfl (hv_b0.g 0 rfl)) (.t2 (t_load ty100 rfl (hv_b0.g 0 rfl)) (.t2 (t_makeFuncB (us := [.pointer (some ⟨bP,0,none⟩)]) (vs := []) rfl rfl) ?_))))
 obtain ⟨s3,h3a,h3b⟩ := run_seq' h2b
 refine Rg.wd trivial (w_call Tryz.call206 rfl (D_opt hC hp (clo_call Tryz.call157 hD (.typeExpr)) h3a (adds_le h3b hb))) rfl ?_
 rintro _ w3 ⟨hp1,hb3⟩
 replace hv_b0 := var_bw hv_b0 hb3 hF_b0
 replace hbw := hbw.trans (hb3.sub hsub)
 clear hp
 have hp := hp1
 clear hp1
 refine .done (Wp.region (.t2 (t_load ty100 rfl (hv_b0.g 0 rfl)) (Rg.wd trivial (w_call Tryz.call156 rfl (D_exp hC hp h3b hb)) rfl ?_)))
 rintro _ w4 ⟨hp1,hb4⟩
 replace hv_b0 := var_bw hv_b0 hb4 hF_b0
 replace hbw := hbw.trans (hb4.sub hsub)
 clear hp
 have hp := hp1
 clear hp1
 refine .done ?_
 exact ⟨[],trivial,hp.sub hsub hbase,hbw⟩
theorem N_members (hC : Cx w0 tv toks) (hD : ∀ m,m < n → DN w0 tv toks m) (hp : Ps w0 tv toks F w bP below k s) (hr : run body n (body .members) s = some r) (hb : r.adds ≤ big) :
  Cl Tryz.prog 154 #[.pointer (some ⟨bP,0,none⟩)] w (fun u w' => (Nm.members = Nm.statement → u = .bool r.flag) ∧ Ps w0 tv toks F w' bP below k r ∧ Bw F w w') := by
 have hbw := Bw.refl F w
 have hsub : ∀ z,F z → F z := fun z h => h
 have hbase := hp.base
 have hr : run body n (.seq (Cmd.exp ⟨#[123]⟩) (.seq (.loop (at1 [⟨#[116,121,112,101]⟩,⟨#[102,110]⟩]) (.cond (at1 [⟨#[102,110]⟩]) (.node 3 (.seq .bump (.call (.function false)))) (.node 16 (.seq .bump (.seq Cmd.expIdent (.seq (Cmd.opt ⟨#[61]⟩ (.call .typeExpr)) (Cmd.exp ⟨#[59]⟩))))))) (Cmd.exp ⟨#[125]⟩))) s = some r := hr
 refine Cl.enter Tryz.func154 rfl Tryz.ntmps154 rfl rfl (.sr (Rg.wd trivial (w_boxed rfl rfl) rfl ?_))
 rintro _ w1 ⟨bx108_1,rfl,qbx108_1,hx1,hv_bx108_1⟩
 replace hbw := bS hbw hp.und hsub hx1
 obtain ⟨F_bx108_1,hp1,hF_bx108_1,hs1⟩ := hp.box hx1 qbx108_1 hv_bx108_1.lt
 clear hp
 have hp := hp1
 clear hp1
 replace hsub := fun z hz => hs1 z (hsub z hz)
 refine .done (.sr (.t2 (t_load ty100 rfl (hv_bx108_1.g 0 rfl)) ?_))
 obtain ⟨s1,h1a,h1b⟩ := run_seq' hr
 refine Rg.wd trivial (w_call Tryz.call156 rfl (D_exp hC hp h1a (adds_le h1b hb))) rfl ?_
 rintro _ w2 ⟨hp1,hb2⟩
 replace hv_bx108_1 := var_bw hv_bx108_1 hb2 hF_bx108_1
 replace hbw := hbw.trans (hb2.sub hsub)
 clear hp
 have hp := hp1
 clear hp1
 refine .done (.seq (Wp.block ?_))
 obtain ⟨s2,h2a,h2b⟩ := run_seq' h1b
 refine Wp.loop (ι := S × Nat) (fun _ => [(1,.pointer (some ⟨bx108_1,0,none⟩)),(0,.pointer (some ⟨bP,0,none⟩))])
  (fun i w' => Ps w0 tv toks F_bx108_1 w' bP below k i.1 ∧ Bw F_bx108_1 w2 w' ∧ run body i.2 (.loop (at1 [⟨#[116,121,112,101]⟩,⟨#[102,110]⟩]) (.cond (at1 [⟨#[102,110]⟩]) (.node 3 (.seq .bump (.call (.function false)))) (.node 16 (.seq .bump (.seq Cmd.expIdent (.seq (Cmd.opt ⟨#[61]⟩ (.call .typeExpr)) (Cmd.exp ⟨#[59]⟩))))))) i.1 = some s2 ∧ i.2 ≤ n) (fun i => i.2) (s1,n) (by repeat (first | exact .nil | refine .cons rfl ?_)) ⟨hp,Bw.refl _ _,h2a,Nat.le_refl _⟩ ?_
 clear hp
 rintro ⟨s',m⟩ wl ⟨hp,hbl,hrun,hmn⟩
 simp only at hp hrun hmn
 replace hbw := hbw.trans (hbl.sub hsub)
 replace hv_bx108_1 := var_bw hv_bx108_1 hbl hF_bx108_1
 refine .seq ?_
 cases haq1 : (isAt [⟨#[116,121,112,101]⟩,⟨#[102,110]⟩] (sig1 s'.rem)) with
 | true =>
  obtain ⟨m1,s2,rfl,hbody,hrest⟩ := run_loopT hrun haq1
  replace hbody := run_le hmn hbody
  refine .sr (.t2 (t_load ty100 rfl (hv_bx108_1.g 0 rfl)) (Rg.wd trivial (w_buildSlice (bs38_2 _ _) rfl) rfl ?_))
  rintro _ w3 ⟨bt5,rfl,qt5,hx3,hvt5⟩
  replace hbl := hbl.trans (Bw.of hx3 hp.und)
  replace hbw := bS hbw hp.und hsub hx3
  replace hp := hp.extw hx3
  replace hv_bx108_1 := hv_bx108_1.ext hx3
  refine Rg.wd trivial (w_call Tryz.call94 rfl (at_ok hC hp (texts := [⟨#[116,121,112,101]⟩,⟨#[102,110]⟩]) hvt5 (by decide))) rfl ?_
  rintro _ w4 ⟨rfl,hx4⟩
  replace hbl := hbl.trans (Bw.of hx4 hp.und)
  replace hbw := bS hbw hp.und hsub hx4
  replace hp := hp.extw hx4
  replace hv_bx108_1 := hv_bx108_1.ext hx4
  try replace hvt5 := hvt5.ext hx4
  rw [show (isAt [⟨#[116,121,112,101]⟩,⟨#[102,110]⟩] (sig1 s'.rem)) = true from haq1]
  refine .done (.condT rfl (Wp.skip (Wp.block (.seq ?_))))
  cases haq2 : (isAt [⟨#[102,110]⟩] (sig1 s'.rem)) with
  | true =>
   have hq3 := run_condT hbody haq2
   refine .sr (.t2 (t_load ty100 rfl (hv_bx108_1.g 0 rfl)) (Rg.wd trivial (w_buildSlice (bs38_1 _) rfl) rfl ?_))
   rintro _ w5 ⟨bt8,rfl,qt8,hx5,hvt8⟩
   replace hbl := hbl.trans (Bw.of hx5 hp.und)
   replace hbw := bS hbw hp.und hsub hx5
   replace hp := hp.extw hx5
   replace hv_bx108_1 := hv_bx108_1.ext hx5
   try replace hvt5 := hvt5.ext hx5
   refine Rg.wd trivial (w_call Tryz.call94 rfl (at_ok hC hp (texts := [⟨#[102,110]⟩]) hvt8 (by decide))) rfl ?_
   rintro _ w6 ⟨rfl,hx6⟩
   replace hbl := hbl.trans (Bw.of hx6 hp.und)
   replace hbw := bS hbw hp.und hsub hx6
   replace hp := hp.extw hx6
   replace hv_bx108_1 := hv_bx108_1.ext hx6
   try replace hvt5 := hvt5.ext hx6
   try replace hvt8 := hvt8.ext hx6
   rw [show (isAt [⟨#[102,110]⟩] (sig1 s'.rem)) = true from haq2]
   refine .done (.condT rfl (.sr (.t2 (t_load ty100 rfl (hv_bx108_1.g 0 rfl)) (.t2 (t_makeFuncB (us := []) (vs := [.pointer (some ⟨bx108_1,0,none⟩)]) rfl rfl) (Rg.wd trivial (w_call Tryz.call98 rfl (D_node hp (clo_136 hC hD hv_bx108_1 hF_bx108_1) hq3 (adds_le hrest (adds_le h2b hb)))) rfl ?_)))))
   rintro _ w7 ⟨hp1,hb7⟩
   replace hbl := hbl.trans hb7
   replace hv_bx108_1 := var_bw hv_bx108_1 hb7 hF_bx108_1
   replace hbw := hbw.trans (hb7.sub hsub)
   clear hp
   have hp := hp1
   clear hp1
   refine .done (Wp.exit ?_)
   exact ⟨(s2,m1),by repeat (first | exact .nil | refine .cons rfl ?_),⟨hp,hbl,hrest,by simp only; omega⟩,by simp only; omega⟩
  | false =>
   have hq3 := run_condF hbody haq2
   refine .sr (.t2 (t_load ty100 rfl (hv_bx108_1.g 0 rfl)) (Rg.wd trivial (w_buildSlice (bs38_1 _) rfl) rfl ?_))
   rintro _ w5 ⟨bt8,rfl,qt8,hx5,hvt8⟩
   replace hbl := hbl.trans (Bw.of hx5 hp.und)
   replace hbw := bS hbw hp.und hsub hx5
   replace hp := hp.extw hx5
   replace hv_bx108_1 := hv_bx108_1.ext hx5
   try replace hvt5 := hvt5.ext hx5
   refine Rg.wd trivial (w_call Tryz.call94 rfl (at_ok hC hp (texts := [⟨#[102,110]⟩]) hvt8 (by decide))) rfl ?_
   rintro _ w6 ⟨rfl,hx6⟩
   replace hbl := hbl.trans (Bw.of hx6 hp.und)
   replace hbw := bS hbw hp.und hsub hx6
   replace hp := hp.extw hx6
   replace hv_bx108_1 := hv_bx108_1.ext hx6
   try replace hvt5 := hvt5.ext hx6
   try replace hvt8 := hvt8.ext hx6
   rw [show (isAt [⟨#[102,110]⟩] (sig1 s'.rem)) = false from haq2]
   refine .done (.condF rfl (Wp.skip (Wp.region (.t2 (t_load ty100 rfl (hv_bx108_1.g 0 rfl)) (.t2 (t_makeFuncB (us := []) (vs := [.pointer (some ⟨bx108_1,0,none⟩)]) rfl rfl) (Rg.wd trivial (w_call Tryz.call98 rfl (D_node hp (clo_137 hC hD hv_bx108_1 hF_bx108_1) hq3 (adds_le hrest (adds_le h2b hb)))) rfl ?_))))))
   rintro _ w7 ⟨hp1,hb7⟩
   replace hbl := hbl.trans hb7
   replace hv_bx108_1 := var_bw hv_bx108_1 hb7 hF_bx108_1
   replace hbw := hbw.trans (hb7.sub hsub)
   clear hp
   have hp := hp1
   clear hp1
   refine .done ?_
   exact ⟨(s2,m1),by repeat (first | exact .nil | refine .cons rfl ?_),⟨hp,hbl,hrest,by simp only; omega⟩,by simp only; omega⟩
 | false =>
  obtain rfl := run_loopF hrun haq1
  refine .sr (.t2 (t_load ty100 rfl (hv_bx108_1.g 0 rfl)) (Rg.wd trivial (w_buildSlice (bs38_2 _ _) rfl) rfl ?_))
  rintro _ w3 ⟨bt5,rfl,qt5,hx3,hvt5⟩
  replace hbw := bS hbw hp.und hsub hx3
  replace hp := hp.extw hx3
  replace hv_bx108_1 := hv_bx108_1.ext hx3
  refine Rg.wd trivial (w_call Tryz.call94 rfl (at_ok hC hp (texts := [⟨#[116,121,112,101]⟩,⟨#[102,110]⟩]) hvt5 (by decide))) rfl ?_
  rintro _ w4 ⟨rfl,hx4⟩
  replace hbw := bS hbw hp.und hsub hx4
  replace hp := hp.extw hx4
  replace hv_bx108_1 := hv_bx108_1.ext hx4
  try replace hvt5 := hvt5.ext hx4
  rw [show (isAt [⟨#[116,121,112,101]⟩,⟨#[102,110]⟩] (sig1 s2.rem)) = false from haq1]
  refine .done (.condF rfl (Wp.exit (Wp.region (.t2 (t_load ty100 rfl (hv_bx108_1.g 0 rfl)) (Rg.wd trivial (w_call Tryz.call156 rfl (D_exp hC hp h2b hb)) rfl ?_)))))
  rintro _ w5 ⟨hp1,hb5⟩
  replace hv_bx108_1 := var_bw hv_bx108_1 hb5 hF_bx108_1
  replace hbw := hbw.trans (hb5.sub hsub)
  clear hp
  have hp := hp1
  clear hp1
  refine .done ?_
  exact ⟨[],trivial,(fun h => by cases h),hp.sub hsub hbase,hbw⟩
theorem clo_101 (hC : Cx w0 tv toks) (hD : ∀ m,m < n → DN w0 tv toks m) {b0 : Nat} (hv_b0 : Var w b0 [.pointer (some ⟨bP,0,none⟩)] 100) (hF_b0 : F b0) : Clo w0 tv toks n F bP 147 [] [.pointer (some ⟨b0,0,none⟩)] w (.seq .bump (.loop (fun t _ _ _ => t.1 != 100 && !isAt items t) .bump)) := by
 refine ⟨Tryz.call147,fun w1 hw1 below k s r hp hr hb => ?_⟩
 replace hv_b0 := var_bw hv_b0 hw1 hF_b0
 show Cl Tryz.prog 147 #[.pointer (some ⟨b0,0,none⟩)] w1 _
 have hbw := Bw.refl F w1
 have hsub : ∀ z,F z → F z := fun z h => h
 have hbase := hp.base
 refine Cl.enter Tryz.func147 rfl Tryz.ntmps147 rfl rfl (.sr (.t2 (t_load ty100 rfl (hv_b0.g 0 rfl)) ?_))
 obtain ⟨s1,h1a,h1b⟩ := run_seq' hr
 refine Rg.wd trivial (w_call Tryz.call101 rfl (D_bump hC hp h1a (adds_le h1b hb))) rfl ?_
 rintro _ w1 ⟨hp1,hb1⟩
 replace hv_b0 := var_bw hv_b0 hb1 hF_b0
 replace hbw := hbw.trans (hb1.sub hsub)
 clear hp
 have hp := hp1
 clear hp1
 refine .done (Wp.block ?_)
 refine Wp.loop (ι := S × Nat) (fun _ => [(0,.pointer (some ⟨b0,0,none⟩))])
  (fun i w' => Ps w0 tv toks F w' bP below k i.1 ∧ Bw F w1 w' ∧ run body i.2 (.loop (fun t _ _ _ => t.1 != 100 && !isAt items t) .bump) i.1 = some r ∧ i.2 ≤ n) (fun i => i.2) (s1,n) (by repeat (first | exact .nil | refine .cons rfl ?_)) ⟨hp,Bw.refl _ _,h1b,Nat.le_refl _⟩ ?_
 clear hp
 rintro ⟨s',m⟩ wl ⟨hp,hbl,hrun,hmn⟩
 simp only at hp hrun hmn
 replace hbw := hbw.trans (hbl.sub hsub)
 replace hv_b0 := var_bw hv_b0 hbl hF_b0
 refine .seq ?_
 cases haq1 : ((sig1 s'.rem).1 == 100) with
 | true =>
  obtain rfl := run_loopF hrun (show S.test _ _ = false by simp only [S.test,at1,ident,bne,haq1]; (try rfl))
  refine Wp.seq (Wp.draw [0,1,2,3,4,5,6,7,8] [] mixed (by kernel_rfl) (by kernel_rfl) ?_)
  intro w2 hx2 _
  replace hbw := bS hbw hp.und hsub hx2
  replace hp := hp.extw hx2
  replace hv_b0 := hv_b0.ext hx2
  refine .t2 (t_load ty100 rfl (hv_b0.g 0 rfl)) (Rg.wdB trivial rfl (w_call Tryz.call52 rfl (atEOF_ok hC hp)) rfl (fun _ _ h => h.2) ?_)
  rintro _ w3 ⟨rfl,hx3⟩
  replace hbw := bS hbw hp.und hsub hx3
  replace hp := hp.extw hx3
  replace hv_b0 := hv_b0.ext hx3
  rw [show ((sig1 r.rem).1 == 100) = true from haq1]
  refine .t2 (t_notB rfl) (.m2 rfl (.so rfl rfl (.so rfl rfl (.so rfl rfl (.so rfl rfl (.t2 (t_pickF rfl rfl) (.done (.condF rfl (Wp.exit ?_)))))))))
  exact ⟨[],trivial,hp.sub hsub hbase,hbw⟩
 | false =>
  cases haq2 : (isAt items (sig1 s'.rem)) with
  | true =>
   obtain rfl := run_loopF hrun (show S.test _ _ = false by simp only [S.test,at1,ident,bne,haq1,haq2]; (try rfl))
   refine Wp.seq (Wp.draw [0,1,2,3,4,5,6,7,8] [] mixed (by kernel_rfl) (by kernel_rfl) ?_)
   intro w2 hx2 _
   replace hbw := bS hbw hp.und hsub hx2
   replace hp := hp.extw hx2
   replace hv_b0 := hv_b0.ext hx2
   refine .t2 (t_load ty100 rfl (hv_b0.g 0 rfl)) (Rg.wdB trivial rfl (w_call Tryz.call52 rfl (atEOF_ok hC hp)) rfl (fun _ _ h => h.2) ?_)
   rintro _ w3 ⟨rfl,hx3⟩
   replace hbw := bS hbw hp.und hsub hx3
   replace hp := hp.extw hx3
   replace hv_b0 := hv_b0.ext hx3
   rw [show ((sig1 r.rem).1 == 100) = false from haq1]
   refine .t2 (t_notB rfl) (.m2 rfl (.g2 (t_load ty100 rfl (hv_b0.g 0 rfl)) (Rg.wdB ⟨_,rfl,rfl⟩ rfl (w_call Tryz.call148 rfl (itemKw_ok (hC.asc.ext hp.ext))) rfl (fun _ _ h => h.2) ?_)))
   rintro _ w4 ⟨⟨bt8,rfl,hvt8⟩,hx4⟩
   replace hbw := bS hbw hp.und hsub hx4
   replace hp := hp.extw hx4
   replace hv_b0 := hv_b0.ext hx4
   refine Rg.wdB ⟨_,rfl,rfl⟩ rfl (w_call Tryz.call94 rfl (at_ok hC hp (texts := items) hvt8 (by rw [items_len]; decide))) rfl (fun _ _ h => h.2) ?_
   rintro _ w5 ⟨rfl,hx5⟩
   replace hbw := bS hbw hp.und hsub hx5
   replace hp := hp.extw hx5
   replace hv_b0 := hv_b0.ext hx5
   try replace hvt8 := hvt8.ext hx5
   rw [show (isAt items (sig1 r.rem)) = true from haq2]
   refine .g2 (t_notB rfl) (.t2 (t_pickT rfl rfl) (.done (.condF rfl (Wp.exit ?_))))
   exact ⟨[],trivial,hp.sub hsub hbase,hbw⟩
  | false =>
   obtain ⟨m1,s2,rfl,hbody,hrest⟩ := run_loopT hrun (show S.test _ _ = true by simp only [S.test,at1,ident,bne,haq1,haq2]; (try rfl))
   replace hbody := run_le hmn hbody
   refine Wp.seq (Wp.draw [0,1,2,3,4,5,6,7,8] [] mixed (by kernel_rfl) (by kernel_rfl) ?_)
   intro w2 hx2 _
   replace hbl := hbl.trans (Bw.of hx2 hp.und)
   replace hbw := bS hbw hp.und hsub hx2
   replace hp := hp.extw hx2
   replace hv_b0 := hv_b0.ext hx2
   refine .t2 (t_load ty100 rfl (hv_b0.g 0 rfl)) (Rg.wdB trivial rfl (w_call Tryz.call52 rfl (atEOF_ok hC hp)) rfl (fun _ _ h => h.2) ?_)
   rintro _ w3 ⟨rfl,hx3⟩
   replace hbl := hbl.trans (Bw.of hx3 hp.und)
   replace hbw := bS hbw hp.und hsub hx3
   replace hp := hp.extw hx3
   replace hv_b0 := hv_b0.ext hx3
   rw [show ((sig1 s'.rem).1 == 100) = false from haq1]
   refine .t2 (t_notB rfl) (.m2 rfl (.g2 (t_load ty100 rfl (hv_b0.g 0 rfl)) (Rg.wdB ⟨_,rfl,rfl⟩ rfl (w_call Tryz.call148 rfl (itemKw_ok (hC.asc.ext hp.ext))) rfl (fun _ _ h => h.2) ?_)))
   rintro _ w4 ⟨⟨bt8,rfl,hvt8⟩,hx4⟩
   replace hbl := hbl.trans (Bw.of hx4 hp.und)
   replace hbw := bS hbw hp.und hsub hx4
   replace hp := hp.extw hx4
   replace hv_b0 := hv_b0.ext hx4
   refine Rg.wdB ⟨_,rfl,rfl⟩ rfl (w_call Tryz.call94 rfl (at_ok hC hp (texts := items) hvt8 (by rw [items_len]; decide))) rfl (fun _ _ h => h.2) ?_
   rintro _ w5 ⟨rfl,hx5⟩
   replace hbl := hbl.trans (Bw.of hx5 hp.und)
   replace hbw := bS hbw hp.und hsub hx5
   replace hp := hp.extw hx5
   replace hv_b0 := hv_b0.ext hx5
   try replace hvt8 := hvt8.ext hx5
   rw [show (isAt items (sig1 s'.rem)) = false from haq2]
   refine .g2 (t_notB rfl) (.t2 (t_pickT rfl rfl) (.done (.condT rfl (Wp.skip (Wp.block (Wp.region (.t2 (t_load ty100 rfl (hv_b0.g 0 rfl)) (Rg.wd trivial (w_call Tryz.call101 rfl (D_bump hC hp hbody (adds_le hrest hb))) rfl ?_))))))))
   rintro _ w6 ⟨hp1,hb6⟩
   replace hbl := hbl.trans hb6
   replace hv_b0 := var_bw hv_b0 hb6 hF_b0
   replace hbw := hbw.trans (hb6.sub hsub)
   clear hp
   have hp := hp1
   clear hp1
   refine .done ?_
   exact ⟨(s2,m1),by repeat (first | exact .nil | refine .cons rfl ?_),⟨hp,hbl,hrest,by simp only; omega⟩,by simp only; omega⟩
theorem N_skipTo (hC : Cx w0 tv toks) (hD : ∀ m,m < n → DN w0 tv toks m) (hp : Ps w0 tv toks F w bP below k s) (hr : run body n (body .skipTo) s = some r) (hb : r.adds ≤ big) :
  Cl Tryz.prog 97 #[.pointer (some ⟨bP,0,none⟩)] w (fun u w' => (Nm.skipTo = Nm.statement → u = .bool r.flag) ∧ Ps w0 tv toks F w' bP below k r ∧ Bw F w w') := by
 have hbw := Bw.refl F w
 have hsub : ∀ z,F z → F z := fun z h => h
 have hbase := hp.base
 have hr : run body n (.node 46 (.seq .bump (.loop (fun t _ _ _ => t.1 != 100 && !isAt items t) .bump))) s = some r := hr
 refine Cl.enter Tryz.func97 rfl Tryz.ntmps97 rfl rfl (.sr (Rg.wd trivial (w_boxed rfl rfl) rfl ?_))
 rintro _ w1 ⟨bx51_1,rfl,qbx51_1,hx1,hv_bx51_1⟩
 replace hbw := bS hbw hp.und hsub hx1
 obtain ⟨F_bx51_1,hp1,hF_bx51_1,hs1⟩ := hp.box hx1 qbx51_1 hv_bx51_1.lt
 clear hp
 have hp := hp1
 clear hp1
 replace hsub := fun z hz => hs1 z (hsub z hz)
 refine .done (Wp.region (.t2 (t_load ty100 rfl (hv_bx51_1.g 0 rfl)) (.t2 (t_makeFuncB (us := []) (vs := [.pointer (some ⟨bx51_1,0,none⟩)]) rfl rfl) (Rg.wd trivial (w_call Tryz.call98 rfl (D_node hp (clo_101 hC hD hv_bx51_1 hF_bx51_1) hr hb)) rfl ?_))))
 rintro _ w2 ⟨hp1,hb2⟩
 replace hv_bx51_1 := var_bw hv_bx51_1 hb2 hF_bx51_1
 replace hbw := hbw.trans (hb2.sub hsub)
 clear hp
 have hp := hp1
 clear hp1
 refine .done ?_
 exact ⟨[],trivial,(fun h => by cases h),hp.sub hsub hbase,hbw⟩
end
end Go.Proofs.YtiogccmfmjhipaaGreatDoor.Par
