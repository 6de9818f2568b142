/- The parser: its functions, one after the other. Printed by r6/Nq.py (auto.py). -/
import Derived.Test.YtcelfjbajdffkaaGreatDoorXf
set_option linter.unusedVariables false
set_option linter.unusedSimpArgs false
namespace Go.Proofs.YtcelfjbajdffkaaGreatDoor.Par
set_option maxRecDepth 20000
open Go.Gx Go.RowKit Go.Lib
open Lexi (Asc)
section
variable {w0 : World} {tv : Value} {toks : List Tok} {F : Fs} {w w' : World} {bP : Nat} {below : List (Int × List Tr)} {k : Int} {s r : S} {n : Nat}
theorem clo_199 (hC : Cx w0 tv toks) (hD : ∀ m,m < n → DN w0 tv toks m) : Clo w0 tv toks n F bP 199 [] [] w .skip := by
 refine ⟨Tryz.call199,fun w1 hw1 below k s r hp hr hb => ?_⟩
 obtain rfl := run_skip' hr
 refine Cl.enter Tryz.func199 rfl Tryz.ntmps199 rfl rfl (Wp.skip ?_)
 exact ⟨[],trivial,hp,Bw.refl _ _⟩
theorem clo_176 (hC : Cx w0 tv toks) (hD : ∀ m,m < n → DN w0 tv toks m) {b0 : Nat} (hv_b0 : Var w b0 [.pointer (some ⟨bP,0,none⟩)] 60) (hF_b0 : F b0) : Clo w0 tv toks n F bP 176 [] [.pointer (some ⟨b0,0,none⟩)] w (.seq .bump (.call .unary)) := by
 refine ⟨Tryz.call176,fun w1 hw1 below k s r hp hr hb => ?_⟩
 replace hv_b0 := var_bw hv_b0 hw1 hF_b0
 show Cl Tryz.prog 176 #[.pointer (some ⟨b0,0,none⟩)] w1 _
 have hbw := Bw.refl F w1
 have hsub : ∀ z,F z → F z := fun z h => h
 have hbase := hp.base
 refine Cl.enter Tryz.func176 rfl Tryz.ntmps176 rfl rfl (.sr (.tq (t_load ty60 rfl (Cells.get (i := 0) hv_b0.cells rfl)) rfl ?_))
 obtain ⟨s1,h1a,h1b⟩ := run_seq' hr
 refine Rg.wd trivial (w_call Tryz.call55 rfl (D_bump hC hp h1a (adds_le h1b hb))) rfl ?_
 rintro _ w1 ⟨hp1,hb1⟩
 replace hv_b0 := var_bw hv_b0 hb1 hF_b0
 replace hbw := hbw.trans (hb1.sub hsub)
 clear hp
 have hp := hp1
 clear hp1
 refine .done (Wp.region (.tq (t_load ty60 rfl (Cells.get (i := 0) hv_b0.cells rfl)) rfl (Rg.wd trivial (w_call Tryz.call161 rfl (D_call hD hp h1b hb)) rfl ?_)))
 rintro _ w2 ⟨hst,hp1,hb2⟩
 replace hv_b0 := var_bw hv_b0 hb2 hF_b0
 replace hbw := hbw.trans (hb2.sub hsub)
 clear hp
 have hp := hp1
 clear hp1
 refine .done ?_
 exact ⟨[],trivial,hp.sub hsub hbase,hbw⟩
theorem clo_177 (hC : Cx w0 tv toks) (hD : ∀ m,m < n → DN w0 tv toks m) {b0 : Nat} (hv_b0 : Var w b0 [.pointer (some ⟨bP,0,none⟩)] 60) (hF_b0 : F b0) : Clo w0 tv toks n F bP 177 [] [.pointer (some ⟨b0,0,none⟩)] w (.seq .bump (.seq (Cmd.acc ⟨#[109,117,116]⟩) (.call .unary))) := by
 refine ⟨Tryz.call177,fun w1 hw1 below k s r hp hr hb => ?_⟩
 replace hv_b0 := var_bw hv_b0 hw1 hF_b0
 show Cl Tryz.prog 177 #[.pointer (some ⟨b0,0,none⟩)] w1 _
 have hbw := Bw.refl F w1
 have hsub : ∀ z,F z → F z := fun z h => h
 have hbase := hp.base
 refine Cl.enter Tryz.func177 rfl Tryz.ntmps177 rfl rfl (.sr (.tq (t_load ty60 rfl (Cells.get (i := 0) hv_b0.cells rfl)) rfl ?_))
 obtain ⟨s1,h1a,h1b⟩ := run_seq' hr
 refine Rg.wd trivial (w_call Tryz.call55 rfl (D_bump hC hp h1a (adds_le h1b hb))) rfl ?_
 rintro _ w1 ⟨hp1,hb1⟩
 replace hv_b0 := var_bw hv_b0 hb1 hF_b0
 replace hbw := hbw.trans (hb1.sub hsub)
 clear hp
 have hp := hp1
 clear hp1
 refine .done ?_
 obtain ⟨s2,h2a,h2b⟩ := run_seq' h1b
 cases haq1 : (isAt [⟨#[109,117,116]⟩] (sig1 s1.rem)) with
 | true =>
  have hq2 := run_condT h2a haq1
  refine .sr (.tq (t_load ty60 rfl (Cells.get (i := 0) hv_b0.cells rfl)) rfl (Rg.wd trivial (w_buildSlice (bs124_1 _) rfl) rfl ?_))
  rintro _ w2 ⟨bt4,rfl,qt4,hx2,hvt4⟩
  replace hbw := hbw.trans (Bw.of hx2 fun z hz => hp.und z (hsub z hz))
  replace hp := hp.extw hx2
  replace hv_b0 := hv_b0.ext hx2
  obtain rfl := run_bump' hq2
  refine Rg.wd trivial (w_call Tryz.call54 rfl (acc_T hC hp (texts := [⟨#[109,117,116]⟩]) hvt4 (by decide) haq1 (adds_le h2b hb))) rfl ?_
  rintro _ w3 ⟨rfl,hp1,hb3⟩
  replace hv_b0 := var_bw hv_b0 hb3 hF_b0
  replace hbw := hbw.trans (hb3.sub hsub)
  clear hp
  have hp := hp1
  clear hp1
  refine .done (Wp.region (.tq (t_load ty60 rfl (Cells.get (i := 0) hv_b0.cells rfl)) rfl (Rg.wd trivial (w_call Tryz.call161 rfl (D_call hD hp h2b hb)) rfl ?_)))
  rintro _ w4 ⟨hst,hp1,hb4⟩
  replace hv_b0 := var_bw hv_b0 hb4 hF_b0
  replace hbw := hbw.trans (hb4.sub hsub)
  clear hp
  have hp := hp1
  clear hp1
  refine .done ?_
  exact ⟨[],trivial,hp.sub hsub hbase,hbw⟩
 | false =>
  have hq2 := run_condF h2a haq1
  obtain rfl := run_skip' hq2
  refine .sr (.tq (t_load ty60 rfl (Cells.get (i := 0) hv_b0.cells rfl)) rfl (Rg.wd trivial (w_buildSlice (bs124_1 _) rfl) rfl ?_))
  rintro _ w2 ⟨bt4,rfl,qt4,hx2,hvt4⟩
  replace hbw := hbw.trans (Bw.of hx2 fun z hz => hp.und z (hsub z hz))
  replace hp := hp.extw hx2
  replace hv_b0 := hv_b0.ext hx2
  refine Rg.wd trivial (w_call Tryz.call54 rfl (acc_F hC hp (texts := [⟨#[109,117,116]⟩]) hvt4 (by decide) haq1)) rfl ?_
  rintro _ w3 ⟨rfl,hp1,hb3⟩
  replace hv_b0 := var_bw hv_b0 hb3 hF_b0
  replace hbw := hbw.trans (hb3.sub hsub)
  clear hp
  have hp := hp1
  clear hp1
  refine .done (Wp.region (.tq (t_load ty60 rfl (Cells.get (i := 0) hv_b0.cells rfl)) rfl (Rg.wd trivial (w_call Tryz.call161 rfl (D_call hD hp h2b hb)) rfl ?_)))
  rintro _ w4 ⟨hst,hp1,hb4⟩
  replace hv_b0 := var_bw hv_b0 hb4 hF_b0
  replace hbw := hbw.trans (hb4.sub hsub)
  clear hp
  have hp := hp1
  clear hp1
  refine .done ?_
  exact ⟨[],trivial,hp.sub hsub hbase,hbw⟩
theorem N_unary (hC : Cx w0 tv toks) (hD : ∀ m,m < n → DN w0 tv toks m) (hp : Ps w0 tv toks F w bP below k s) (hr : run body n (body .unary) s = some r) (hb : r.adds ≤ big) :
  Cl Tryz.prog 161 #[.pointer (some ⟨bP,0,none⟩)] w (fun u w' => (Nm.unary = Nm.statement → u = .bool r.flag) ∧ Ps w0 tv toks F w' bP below k r ∧ Bw F w w') := by
 have hbw := Bw.refl F w
 have hsub : ∀ z,F z → F z := fun z h => h
 have hbase := hp.base
 have hr : run body n (.cond (at1 [⟨#[45]⟩,⟨#[33]⟩,⟨#[42]⟩]) (.node 40 (.seq .bump (.call .unary))) (.cond (at1 [⟨#[38]⟩]) (.node 41 (.seq .bump (.seq (Cmd.acc ⟨#[109,117,116]⟩) (.call .unary)))) (.seq (.call .primary) (.call .postE)))) s = some r := hr
 refine Cl.enter Tryz.func161 rfl Tryz.ntmps161 rfl rfl (.sr (Rg.wd trivial (w_boxed rfl rfl) rfl ?_))
 rintro _ w1 ⟨bx161_1,rfl,qbx161_1,hx1,hv_bx161_1⟩
 replace hbw := hbw.trans (Bw.of hx1 fun z hz => hp.und z (hsub z hz))
 obtain ⟨F_bx161_1,hp1,hF_bx161_1,hs1⟩ := hp.box hx1 qbx161_1 hv_bx161_1.lt
 clear hp
 have hp := hp1
 clear hp1
 replace hsub := fun z hz => hs1 z (hsub z hz)
 refine .done (Wp.block ?_)
 cases haq1 : (isAt [⟨#[45]⟩,⟨#[33]⟩,⟨#[42]⟩] (sig1 s.rem)) with
 | true =>
  have hq2 := run_condT hr haq1
  refine .sr (.tq (t_load ty60 rfl (Cells.get (i := 0) hv_bx161_1.cells rfl)) rfl (Rg.wd trivial (w_buildSlice (bs124_3 _ _ _) rfl) rfl ?_))
  rintro _ w2 ⟨bt8,rfl,qt8,hx2,hvt8⟩
  replace hbw := hbw.trans (Bw.of hx2 fun z hz => hp.und z (hsub z hz))
  replace hp := hp.extw hx2
  replace hv_bx161_1 := hv_bx161_1.ext hx2
  refine Rg.wd trivial (w_call Tryz.call48 rfl (at_ok hC hp (texts := [⟨#[45]⟩,⟨#[33]⟩,⟨#[42]⟩]) hvt8 (by decide))) rfl ?_
  rintro _ w3 ⟨rfl,hx3⟩
  replace hbw := hbw.trans (Bw.of hx3 fun z hz => hp.und z (hsub z hz))
  replace hp := hp.extw hx3
  replace hv_bx161_1 := hv_bx161_1.ext hx3
  try replace hvt8 := hvt8.ext hx3
  rw [show (isAt [⟨#[45]⟩,⟨#[33]⟩,⟨#[42]⟩] (sig1 s.rem)) = true from haq1]
  refine .as rfl rfl (.done (.condT rfl (Wp.region (.tq (t_load ty60 rfl (Cells.get (i := 0) hv_bx161_1.cells rfl)) rfl (.tq (t_makeFuncB (us := []) (vs := [.pointer (some ⟨bx161_1,0,none⟩)]) rfl rfl) rfl (Rg.wd trivial (w_call Tryz.call52 rfl (D_node hp (clo_176 hC hD hv_bx161_1 hF_bx161_1) hq2 hb)) rfl ?_))))))
  rintro _ w4 ⟨hp1,hb4⟩
  replace hv_bx161_1 := var_bw hv_bx161_1 hb4 hF_bx161_1
  replace hbw := hbw.trans (hb4.sub hsub)
  clear hp
  have hp := hp1
  clear hp1
  refine .done ?_
  exact ⟨[],trivial,(fun h => by cases h),hp.sub hsub hbase,hbw⟩
 | false =>
  have hq2 := run_condF hr haq1
  refine .sr (.tq (t_load ty60 rfl (Cells.get (i := 0) hv_bx161_1.cells rfl)) rfl (Rg.wd trivial (w_buildSlice (bs124_3 _ _ _) rfl) rfl ?_))
  rintro _ w2 ⟨bt8,rfl,qt8,hx2,hvt8⟩
  replace hbw := hbw.trans (Bw.of hx2 fun z hz => hp.und z (hsub z hz))
  replace hp := hp.extw hx2
  replace hv_bx161_1 := hv_bx161_1.ext hx2
  refine Rg.wd trivial (w_call Tryz.call48 rfl (at_ok hC hp (texts := [⟨#[45]⟩,⟨#[33]⟩,⟨#[42]⟩]) hvt8 (by decide))) rfl ?_
  rintro _ w3 ⟨rfl,hx3⟩
  replace hbw := hbw.trans (Bw.of hx3 fun z hz => hp.und z (hsub z hz))
  replace hp := hp.extw hx3
  replace hv_bx161_1 := hv_bx161_1.ext hx3
  try replace hvt8 := hvt8.ext hx3
  rw [show (isAt [⟨#[45]⟩,⟨#[33]⟩,⟨#[42]⟩] (sig1 s.rem)) = false from haq1]
  refine .as rfl rfl (.done (.condF rfl ?_))
  cases haq3 : (isAt [⟨#[38]⟩] (sig1 s.rem)) with
  | true =>
   have hq4 := run_condT hq2 haq3
   refine .sr (.tq (t_load ty60 rfl (Cells.get (i := 0) hv_bx161_1.cells rfl)) rfl (Rg.wd trivial (w_buildSlice (bs124_1 _) rfl) rfl ?_))
   rintro _ w4 ⟨bt15,rfl,qt15,hx4,hvt15⟩
   replace hbw := hbw.trans (Bw.of hx4 fun z hz => hp.und z (hsub z hz))
   replace hp := hp.extw hx4
   replace hv_bx161_1 := hv_bx161_1.ext hx4
   try replace hvt8 := hvt8.ext hx4
   refine Rg.wd trivial (w_call Tryz.call48 rfl (at_ok hC hp (texts := [⟨#[38]⟩]) hvt15 (by decide))) rfl ?_
   rintro _ w5 ⟨rfl,hx5⟩
   replace hbw := hbw.trans (Bw.of hx5 fun z hz => hp.und z (hsub z hz))
   replace hp := hp.extw hx5
   replace hv_bx161_1 := hv_bx161_1.ext hx5
   try replace hvt8 := hvt8.ext hx5
   try replace hvt15 := hvt15.ext hx5
   rw [show (isAt [⟨#[38]⟩] (sig1 s.rem)) = true from haq3]
   refine .as rfl rfl (.done (.condT rfl (Wp.region (.tq (t_load ty60 rfl (Cells.get (i := 0) hv_bx161_1.cells rfl)) rfl (.tq (t_makeFuncB (us := []) (vs := [.pointer (some ⟨bx161_1,0,none⟩)]) rfl rfl) rfl (Rg.wd trivial (w_call Tryz.call52 rfl (D_node hp (clo_177 hC hD hv_bx161_1 hF_bx161_1) hq4 hb)) rfl ?_))))))
   rintro _ w6 ⟨hp1,hb6⟩
   replace hv_bx161_1 := var_bw hv_bx161_1 hb6 hF_bx161_1
   replace hbw := hbw.trans (hb6.sub hsub)
   clear hp
   have hp := hp1
   clear hp1
   refine .done ?_
   exact ⟨[],trivial,(fun h => by cases h),hp.sub hsub hbase,hbw⟩
  | false =>
   have hq4 := run_condF hq2 haq3
   refine .sr (.tq (t_load ty60 rfl (Cells.get (i := 0) hv_bx161_1.cells rfl)) rfl (Rg.wd trivial (w_buildSlice (bs124_1 _) rfl) rfl ?_))
   rintro _ w4 ⟨bt15,rfl,qt15,hx4,hvt15⟩
   replace hbw := hbw.trans (Bw.of hx4 fun z hz => hp.und z (hsub z hz))
   replace hp := hp.extw hx4
   replace hv_bx161_1 := hv_bx161_1.ext hx4
   try replace hvt8 := hvt8.ext hx4
   refine Rg.wd trivial (w_call Tryz.call48 rfl (at_ok hC hp (texts := [⟨#[38]⟩]) hvt15 (by decide))) rfl ?_
   rintro _ w5 ⟨rfl,hx5⟩
   replace hbw := hbw.trans (Bw.of hx5 fun z hz => hp.und z (hsub z hz))
   replace hp := hp.extw hx5
   replace hv_bx161_1 := hv_bx161_1.ext hx5
   try replace hvt8 := hvt8.ext hx5
   try replace hvt15 := hvt15.ext hx5
   rw [show (isAt [⟨#[38]⟩] (sig1 s.rem)) = false from haq3]
   refine .as rfl rfl (.done (.condF rfl (.sr (.tq (t_load ty60 rfl (Cells.get (i := 0) hv_bx161_1.cells rfl)) rfl ?_))))
   obtain ⟨s1,h1a,h1b⟩ := run_seq' hq4
   refine Rg.wd trivial (w_call Tryz.call172 rfl (D_call hD hp h1a (adds_le h1b hb))) rfl ?_
   rintro _ w6 ⟨hst,hp1,hb6⟩
   replace hv_bx161_1 := var_bw hv_bx161_1 hb6 hF_bx161_1
   replace hbw := hbw.trans (hb6.sub hsub)
   clear hp
   have hp := hp1
   clear hp1
   refine .done (Wp.region (.tq (t_load ty60 rfl (Cells.get (i := 0) hv_bx161_1.cells rfl)) rfl (Rg.wd trivial (w_call Tryz.call178 rfl (D_call hD hp h1b hb)) rfl ?_)))
   rintro _ w7 ⟨hst,hp1,hb7⟩
   replace hv_bx161_1 := var_bw hv_bx161_1 hb7 hF_bx161_1
   replace hbw := hbw.trans (hb7.sub hsub)
   clear hp
   have hp := hp1
   clear hp1
   refine .done ?_
   exact ⟨[],trivial,(fun h => by cases h),hp.sub hsub hbase,hbw⟩
theorem clo_193 (hC : Cx w0 tv toks) (hD : ∀ m,m < n → DN w0 tv toks m) {b0 : Nat} (hv_b0 : Var w b0 [.pointer (some ⟨bP,0,none⟩)] 60) (hF_b0 : F b0) : Clo w0 tv toks n F bP 193 [] [.pointer (some ⟨b0,0,none⟩)] w (.cond (at1 [⟨#[105,102]⟩]) (.call .ifExpr) (.call .block)) := by
 refine ⟨Tryz.call193,fun w1 hw1 below k s r hp hr hb => ?_⟩
 replace hv_b0 := var_bw hv_b0 hw1 hF_b0
 show Cl Tryz.prog 193 #[.pointer (some ⟨b0,0,none⟩)] w1 _
 have hbw := Bw.refl F w1
 have hsub : ∀ z,F z → F z := fun z h => h
 have hbase := hp.base
 refine Cl.enter Tryz.func193 rfl Tryz.ntmps193 rfl rfl ?_
 cases haq1 : (isAt [⟨#[105,102]⟩] (sig1 s.rem)) with
 | true =>
  have hq2 := run_condT hr haq1
  refine .sr (.tq (t_load ty60 rfl (Cells.get (i := 0) hv_b0.cells rfl)) rfl (Rg.wd trivial (w_buildSlice (bs124_1 _) rfl) rfl ?_))
  rintro _ w1 ⟨bt2,rfl,qt2,hx1,hvt2⟩
  replace hbw := hbw.trans (Bw.of hx1 fun z hz => hp.und z (hsub z hz))
  replace hp := hp.extw hx1
  replace hv_b0 := hv_b0.ext hx1
  refine Rg.wd trivial (w_call Tryz.call48 rfl (at_ok hC hp (texts := [⟨#[105,102]⟩]) hvt2 (by decide))) rfl ?_
  rintro _ w2 ⟨rfl,hx2⟩
  replace hbw := hbw.trans (Bw.of hx2 fun z hz => hp.und z (hsub z hz))
  replace hp := hp.extw hx2
  replace hv_b0 := hv_b0.ext hx2
  try replace hvt2 := hvt2.ext hx2
  rw [show (isAt [⟨#[105,102]⟩] (sig1 s.rem)) = true from haq1]
  refine .done (.condT rfl (Wp.region (.tq (t_load ty60 rfl (Cells.get (i := 0) hv_b0.cells rfl)) rfl (Rg.wd trivial (w_call Tryz.call183 rfl (D_call hD hp hq2 hb)) rfl ?_))))
  rintro _ w3 ⟨hst,hp1,hb3⟩
  replace hv_b0 := var_bw hv_b0 hb3 hF_b0
  replace hbw := hbw.trans (hb3.sub hsub)
  clear hp
  have hp := hp1
  clear hp1
  refine .done ?_
  exact ⟨[],trivial,hp.sub hsub hbase,hbw⟩
 | false =>
  have hq2 := run_condF hr haq1
  refine .sr (.tq (t_load ty60 rfl (Cells.get (i := 0) hv_b0.cells rfl)) rfl (Rg.wd trivial (w_buildSlice (bs124_1 _) rfl) rfl ?_))
  rintro _ w1 ⟨bt2,rfl,qt2,hx1,hvt2⟩
  replace hbw := hbw.trans (Bw.of hx1 fun z hz => hp.und z (hsub z hz))
  replace hp := hp.extw hx1
  replace hv_b0 := hv_b0.ext hx1
  refine Rg.wd trivial (w_call Tryz.call48 rfl (at_ok hC hp (texts := [⟨#[105,102]⟩]) hvt2 (by decide))) rfl ?_
  rintro _ w2 ⟨rfl,hx2⟩
  replace hbw := hbw.trans (Bw.of hx2 fun z hz => hp.und z (hsub z hz))
  replace hp := hp.extw hx2
  replace hv_b0 := hv_b0.ext hx2
  try replace hvt2 := hvt2.ext hx2
  rw [show (isAt [⟨#[105,102]⟩] (sig1 s.rem)) = false from haq1]
  refine .done (.condF rfl (Wp.region (.tq (t_load ty60 rfl (Cells.get (i := 0) hv_b0.cells rfl)) rfl (Rg.wd trivial (w_call Tryz.call129 rfl (D_call hD hp hq2 hb)) rfl ?_))))
  rintro _ w3 ⟨hst,hp1,hb3⟩
  replace hv_b0 := var_bw hv_b0 hb3 hF_b0
  replace hbw := hbw.trans (hb3.sub hsub)
  clear hp
  have hp := hp1
  clear hp1
  refine .done ?_
  exact ⟨[],trivial,hp.sub hsub hbase,hbw⟩
theorem clo_192 (hC : Cx w0 tv toks) (hD : ∀ m,m < n → DN w0 tv toks m) {b0 : Nat} (hv_b0 : Var w b0 [.pointer (some ⟨bP,0,none⟩)] 60) (hF_b0 : F b0) : Clo w0 tv toks n F bP 192 [] [.pointer (some ⟨b0,0,none⟩)] w (.seq .bump (.seq Cmd.expr (.seq (.call .block) (Cmd.opt ⟨#[101,108,115,101]⟩ (.cond (at1 [⟨#[105,102]⟩]) (.call .ifExpr) (.call .block)))))) := by
 refine ⟨Tryz.call192,fun w1 hw1 below k s r hp hr hb => ?_⟩
 replace hv_b0 := var_bw hv_b0 hw1 hF_b0
 show Cl Tryz.prog 192 #[.pointer (some ⟨b0,0,none⟩)] w1 _
 have hbw := Bw.refl F w1
 have hsub : ∀ z,F z → F z := fun z h => h
 have hbase := hp.base
 refine Cl.enter Tryz.func192 rfl Tryz.ntmps192 rfl rfl (.sr (.tq (t_load ty60 rfl (Cells.get (i := 0) hv_b0.cells rfl)) rfl ?_))
 obtain ⟨s1,h1a,h1b⟩ := run_seq' hr
 refine Rg.wd trivial (w_call Tryz.call55 rfl (D_bump hC hp h1a (adds_le h1b hb))) rfl ?_
 rintro _ w1 ⟨hp1,hb1⟩
 replace hv_b0 := var_bw hv_b0 hb1 hF_b0
 replace hbw := hbw.trans (hb1.sub hsub)
 clear hp
 have hp := hp1
 clear hp1
 refine .done (.sr (.tq (t_load ty60 rfl (Cells.get (i := 0) hv_b0.cells rfl)) rfl ?_))
 obtain ⟨s2,h2a,h2b⟩ := run_seq' h1b
 refine Rg.wd trivial (w_call Tryz.call112 rfl (D_expr hC hD hp h2a (adds_le h2b hb))) rfl ?_
 rintro _ w2 ⟨hp1,hb2⟩
 replace hv_b0 := var_bw hv_b0 hb2 hF_b0
 replace hbw := hbw.trans (hb2.sub hsub)
 clear hp
 have hp := hp1
 clear hp1
 refine .done (.sr (.tq (t_load ty60 rfl (Cells.get (i := 0) hv_b0.cells rfl)) rfl ?_))
 obtain ⟨s3,h3a,h3b⟩ := run_seq' h2b
 refine Rg.wd trivial (w_call Tryz.call129 rfl (D_call hD hp h3a (adds_le h3b hb))) rfl ?_
 rintro _ w3 ⟨hst,hp1,hb3⟩
 replace hv_b0 := var_bw hv_b0 hb3 hF_b0
 replace hbw := hbw.trans (hb3.sub hsub)
 clear hp
 have hp := hp1
 clear hp1
 refine .done (Wp.region (.tq (t_load ty60 rfl (Cells.get (i := 0) hv_b0.cells rfl)) rfl (.tq (t_makeFuncB (us := []) (vs := [.pointer (some ⟨b0,0,none⟩)]) rfl rfl) rfl (Rg.wd trivial (w_call Tryz.call127 rfl (D_opt hC hp (clo_193 hC hD hv_b0 hF_b0) h3b hb)) rfl ?_))))
 rintro _ w4 ⟨hp1,hb4⟩
 replace hv_b0 := var_bw hv_b0 hb4 hF_b0
 replace hbw := hbw.trans (hb4.sub hsub)
 clear hp
 have hp := hp1
 clear hp1
 refine .done ?_
 exact ⟨[],trivial,hp.sub hsub hbase,hbw⟩
theorem N_ifExpr (hC : Cx w0 tv toks) (hD : ∀ m,m < n → DN w0 tv toks m) (hp : Ps w0 tv toks F w bP below k s) (hr : run body n (body .ifExpr) s = some r) (hb : r.adds ≤ big) :
  Cl Tryz.prog 183 #[.pointer (some ⟨bP,0,none⟩)] w (fun u w' => (Nm.ifExpr = Nm.statement → u = .bool r.flag) ∧ Ps w0 tv toks F w' bP below k r ∧ Bw F w w') := by
 have hbw := Bw.refl F w
 have hsub : ∀ z,F z → F z := fun z h => h
 have hbase := hp.base
 have hr : run body n (.node 37 (.seq .bump (.seq Cmd.expr (.seq (.call .block) (Cmd.opt ⟨#[101,108,115,101]⟩ (.cond (at1 [⟨#[105,102]⟩]) (.call .ifExpr) (.call .block))))))) s = some r := hr
 refine Cl.enter Tryz.func183 rfl Tryz.ntmps183 rfl rfl (.sr (Rg.wd trivial (w_boxed rfl rfl) rfl ?_))
 rintro _ w1 ⟨bx183_1,rfl,qbx183_1,hx1,hv_bx183_1⟩
 replace hbw := hbw.trans (Bw.of hx1 fun z hz => hp.und z (hsub z hz))
 obtain ⟨F_bx183_1,hp1,hF_bx183_1,hs1⟩ := hp.box hx1 qbx183_1 hv_bx183_1.lt
 clear hp
 have hp := hp1
 clear hp1
 replace hsub := fun z hz => hs1 z (hsub z hz)
 refine .done (Wp.region (.tq (t_load ty60 rfl (Cells.get (i := 0) hv_bx183_1.cells rfl)) rfl (.tq (t_makeFuncB (us := []) (vs := [.pointer (some ⟨bx183_1,0,none⟩)]) rfl rfl) rfl (Rg.wd trivial (w_call Tryz.call52 rfl (D_node hp (clo_192 hC hD hv_bx183_1 hF_bx183_1) hr hb)) rfl ?_))))
 rintro _ w2 ⟨hp1,hb2⟩
 replace hv_bx183_1 := var_bw hv_bx183_1 hb2 hF_bx183_1
 replace hbw := hbw.trans (hb2.sub hsub)
 clear hp
 have hp := hp1
 clear hp1
 refine .done ?_
 exact ⟨[],trivial,(fun h => by cases h),hp.sub hsub hbase,hbw⟩
theorem clo_196 (hC : Cx w0 tv toks) (hD : ∀ m,m < n → DN w0 tv toks m) {b0 : Nat} (hv_b0 : Var w b0 [.pointer (some ⟨bP,0,none⟩)] 60) (hF_b0 : F b0) : Clo w0 tv toks n F bP 196 [] [.pointer (some ⟨b0,0,none⟩)] w (.seq (.call .pattern) (.seq (Cmd.exp ⟨#[61,62]⟩) Cmd.expr)) := by
 refine ⟨Tryz.call196,fun w1 hw1 below k s r hp hr hb => ?_⟩
 replace hv_b0 := var_bw hv_b0 hw1 hF_b0
 show Cl Tryz.prog 196 #[.pointer (some ⟨b0,0,none⟩)] w1 _
 have hbw := Bw.refl F w1
 have hsub : ∀ z,F z → F z := fun z h => h
 have hbase := hp.base
 refine Cl.enter Tryz.func196 rfl Tryz.ntmps196 rfl rfl (.sr (.tq (t_load ty60 rfl (Cells.get (i := 0) hv_b0.cells rfl)) rfl ?_))
 obtain ⟨s1,h1a,h1b⟩ := run_seq' hr
 refine Rg.wd trivial (w_call Tryz.call179 rfl (D_call hD hp h1a (adds_le h1b hb))) rfl ?_
 rintro _ w1 ⟨hst,hp1,hb1⟩
 replace hv_b0 := var_bw hv_b0 hb1 hF_b0
 replace hbw := hbw.trans (hb1.sub hsub)
 clear hp
 have hp := hp1
 clear hp1
 refine .done (.sr (.tq (t_load ty60 rfl (Cells.get (i := 0) hv_b0.cells rfl)) rfl ?_))
 obtain ⟨s2,h2a,h2b⟩ := run_seq' h1b
 refine Rg.wd trivial (w_call Tryz.call110 rfl (D_exp hC hp h2a (adds_le h2b hb))) rfl ?_
 rintro _ w2 ⟨hp1,hb2⟩
 replace hv_b0 := var_bw hv_b0 hb2 hF_b0
 replace hbw := hbw.trans (hb2.sub hsub)
 clear hp
 have hp := hp1
 clear hp1
 refine .done (Wp.region (.tq (t_load ty60 rfl (Cells.get (i := 0) hv_b0.cells rfl)) rfl (Rg.wd trivial (w_call Tryz.call112 rfl (D_expr hC hD hp h2b hb)) rfl ?_)))
 rintro _ w3 ⟨hp1,hb3⟩
 replace hv_b0 := var_bw hv_b0 hb3 hF_b0
 replace hbw := hbw.trans (hb3.sub hsub)
 clear hp
 have hp := hp1
 clear hp1
 refine .done ?_
 exact ⟨[],trivial,hp.sub hsub hbase,hbw⟩
theorem clo_194 (hC : Cx w0 tv toks) (hD : ∀ m,m < n → DN w0 tv toks m) {b0 : Nat} (hv_b0 : Var w b0 [.pointer (some ⟨bP,0,none⟩)] 60) (hF_b0 : F b0) : Clo w0 tv toks n F bP 194 [] [.pointer (some ⟨b0,0,none⟩)] w (.cond (fun t _ _ _ => atPattern t) (.node 36 (.seq (.call .pattern) (.seq (Cmd.exp ⟨#[61,62]⟩) Cmd.expr))) .skip) := by
 refine ⟨Tryz.call194,fun w1 hw1 below k s r hp hr hb => ?_⟩
 replace hv_b0 := var_bw hv_b0 hw1 hF_b0
 show Cl Tryz.prog 194 #[.pointer (some ⟨b0,0,none⟩)] w1 _
 have hbw := Bw.refl F w1
 have hsub : ∀ z,F z → F z := fun z h => h
 have hbase := hp.base
 refine Cl.enter Tryz.func194 rfl Tryz.ntmps194 rfl rfl ?_
 cases haq1 : (atPattern (sig1 s.rem)) with
 | true =>
  have hq2 := run_condT hr (show S.test _ _ = true by simp only [S.test,at1,ident,bne,haq1]; (try rfl))
  refine .sr (.tq (t_load ty60 rfl (Cells.get (i := 0) hv_b0.cells rfl)) rfl (Rg.wd trivial (w_call Tryz.call195 rfl (atPattern_ok hC hp)) rfl ?_))
  rintro _ w1 ⟨rfl,hx1⟩
  replace hbw := hbw.trans (Bw.of hx1 fun z hz => hp.und z (hsub z hz))
  replace hp := hp.extw hx1
  replace hv_b0 := hv_b0.ext hx1
  rw [show (atPattern (sig1 s.rem)) = true from haq1]
  refine .done (.condT rfl (Wp.region (.tq (t_load ty60 rfl (Cells.get (i := 0) hv_b0.cells rfl)) rfl (.tq (t_makeFuncB (us := []) (vs := [.pointer (some ⟨b0,0,none⟩)]) rfl rfl) rfl (Rg.wd trivial (w_call Tryz.call52 rfl (D_node hp (clo_196 hC hD hv_b0 hF_b0) hq2 hb)) rfl ?_)))))
  rintro _ w2 ⟨hp1,hb2⟩
  replace hv_b0 := var_bw hv_b0 hb2 hF_b0
  replace hbw := hbw.trans (hb2.sub hsub)
  clear hp
  have hp := hp1
  clear hp1
  refine .done ?_
  exact ⟨[],trivial,hp.sub hsub hbase,hbw⟩
 | false =>
  have hq2 := run_condF hr (show S.test _ _ = false by simp only [S.test,at1,ident,bne,haq1]; (try rfl))
  obtain rfl := run_skip' hq2
  refine .sr (.tq (t_load ty60 rfl (Cells.get (i := 0) hv_b0.cells rfl)) rfl (Rg.wd trivial (w_call Tryz.call195 rfl (atPattern_ok hC hp)) rfl ?_))
  rintro _ w1 ⟨rfl,hx1⟩
  replace hbw := hbw.trans (Bw.of hx1 fun z hz => hp.und z (hsub z hz))
  replace hp := hp.extw hx1
  replace hv_b0 := hv_b0.ext hx1
  rw [show (atPattern (sig1 r.rem)) = false from haq1]
  refine .done (.condF rfl (Wp.skip ?_))
  exact ⟨[],trivial,hp.sub hsub hbase,hbw⟩
theorem N_matchE (hC : Cx w0 tv toks) (hD : ∀ m,m < n → DN w0 tv toks m) (hp : Ps w0 tv toks F w bP below k s) (hr : run body n (body .matchE) s = some r) (hb : r.adds ≤ big) :
  Cl Tryz.prog 184 #[.pointer (some ⟨bP,0,none⟩)] w (fun u w' => (Nm.matchE = Nm.statement → u = .bool r.flag) ∧ Ps w0 tv toks F w' bP below k r ∧ Bw F w w') := by
 have hbw := Bw.refl F w
 have hsub : ∀ z,F z → F z := fun z h => h
 have hbase := hp.base
 have hr : run body n (.seq .bump (.seq Cmd.expr (.seq (Cmd.exp ⟨#[123]⟩) (Cmd.list ⟨#[125]⟩ (.cond (fun t _ _ _ => atPattern t) (.node 36 (.seq (.call .pattern) (.seq (Cmd.exp ⟨#[61,62]⟩) Cmd.expr))) .skip))))) s = some r := hr
 refine Cl.enter Tryz.func184 rfl Tryz.ntmps184 rfl rfl (.sr (Rg.wd trivial (w_boxed rfl rfl) rfl ?_))
 rintro _ w1 ⟨bx184_1,rfl,qbx184_1,hx1,hv_bx184_1⟩
 replace hbw := hbw.trans (Bw.of hx1 fun z hz => hp.und z (hsub z hz))
 obtain ⟨F_bx184_1,hp1,hF_bx184_1,hs1⟩ := hp.box hx1 qbx184_1 hv_bx184_1.lt
 clear hp
 have hp := hp1
 clear hp1
 replace hsub := fun z hz => hs1 z (hsub z hz)
 refine .done (.sr (.tq (t_load ty60 rfl (Cells.get (i := 0) hv_bx184_1.cells rfl)) rfl ?_))
 obtain ⟨s1,h1a,h1b⟩ := run_seq' hr
 refine Rg.wd trivial (w_call Tryz.call55 rfl (D_bump hC hp h1a (adds_le h1b hb))) rfl ?_
 rintro _ w2 ⟨hp1,hb2⟩
 replace hv_bx184_1 := var_bw hv_bx184_1 hb2 hF_bx184_1
 replace hbw := hbw.trans (hb2.sub hsub)
 clear hp
 have hp := hp1
 clear hp1
 refine .done (.sr (.tq (t_load ty60 rfl (Cells.get (i := 0) hv_bx184_1.cells rfl)) rfl ?_))
 obtain ⟨s2,h2a,h2b⟩ := run_seq' h1b
 refine Rg.wd trivial (w_call Tryz.call112 rfl (D_expr hC hD hp h2a (adds_le h2b hb))) rfl ?_
 rintro _ w3 ⟨hp1,hb3⟩
 replace hv_bx184_1 := var_bw hv_bx184_1 hb3 hF_bx184_1
 replace hbw := hbw.trans (hb3.sub hsub)
 clear hp
 have hp := hp1
 clear hp1
 refine .done (.sr (.tq (t_load ty60 rfl (Cells.get (i := 0) hv_bx184_1.cells rfl)) rfl ?_))
 obtain ⟨s3,h3a,h3b⟩ := run_seq' h2b
 refine Rg.wd trivial (w_call Tryz.call110 rfl (D_exp hC hp h3a (adds_le h3b hb))) rfl ?_
 rintro _ w4 ⟨hp1,hb4⟩
 replace hv_bx184_1 := var_bw hv_bx184_1 hb4 hF_bx184_1
 replace hbw := hbw.trans (hb4.sub hsub)
 clear hp
 have hp := hp1
 clear hp1
 refine .done (Wp.region (.tq (t_load ty60 rfl (Cells.get (i := 0) hv_bx184_1.cells rfl)) rfl (.tq (t_makeFuncB (us := []) (vs := [.pointer (some ⟨bx184_1,0,none⟩)]) rfl rfl) rfl (Rg.wd trivial (w_call Tryz.call130 rfl (D_list hC hp (clo_194 hC hD hv_bx184_1 hF_bx184_1) h3b hb)) rfl ?_))))
 rintro _ w5 ⟨hp1,hb5⟩
 replace hv_bx184_1 := var_bw hv_bx184_1 hb5 hF_bx184_1
 replace hbw := hbw.trans (hb5.sub hsub)
 clear hp
 have hp := hp1
 clear hp1
 refine .done ?_
 exact ⟨[],trivial,(fun h => by cases h),hp.sub hsub hbase,hbw⟩
theorem clo_198 (hC : Cx w0 tv toks) (hD : ∀ m,m < n → DN w0 tv toks m) {b0 : Nat} (hv_b0 : Var w b0 [.pointer (some ⟨bP,0,none⟩)] 60) (hF_b0 : F b0) : Clo w0 tv toks n F bP 198 [] [.pointer (some ⟨b0,0,none⟩)] w (.seq .bump (.seq (Cmd.exp ⟨#[58]⟩) Cmd.expr)) := by
 refine ⟨Tryz.call198,fun w1 hw1 below k s r hp hr hb => ?_⟩
 replace hv_b0 := var_bw hv_b0 hw1 hF_b0
 show Cl Tryz.prog 198 #[.pointer (some ⟨b0,0,none⟩)] w1 _
 have hbw := Bw.refl F w1
 have hsub : ∀ z,F z → F z := fun z h => h
 have hbase := hp.base
 refine Cl.enter Tryz.func198 rfl Tryz.ntmps198 rfl rfl (.sr (.tq (t_load ty60 rfl (Cells.get (i := 0) hv_b0.cells rfl)) rfl ?_))
 obtain ⟨s1,h1a,h1b⟩ := run_seq' hr
 refine Rg.wd trivial (w_call Tryz.call55 rfl (D_bump hC hp h1a (adds_le h1b hb))) rfl ?_
 rintro _ w1 ⟨hp1,hb1⟩
 replace hv_b0 := var_bw hv_b0 hb1 hF_b0
 replace hbw := hbw.trans (hb1.sub hsub)
 clear hp
 have hp := hp1
 clear hp1
 refine .done (.sr (.tq (t_load ty60 rfl (Cells.get (i := 0) hv_b0.cells rfl)) rfl ?_))
 obtain ⟨s2,h2a,h2b⟩ := run_seq' h1b
 refine Rg.wd trivial (w_call Tryz.call110 rfl (D_exp hC hp h2a (adds_le h2b hb))) rfl ?_
 rintro _ w2 ⟨hp1,hb2⟩
 replace hv_b0 := var_bw hv_b0 hb2 hF_b0
 replace hbw := hbw.trans (hb2.sub hsub)
 clear hp
 have hp := hp1
 clear hp1
 refine .done (Wp.region (.tq (t_load ty60 rfl (Cells.get (i := 0) hv_b0.cells rfl)) rfl (Rg.wd trivial (w_call Tryz.call112 rfl (D_expr hC hD hp h2b hb)) rfl ?_)))
 rintro _ w3 ⟨hp1,hb3⟩
 replace hv_b0 := var_bw hv_b0 hb3 hF_b0
 replace hbw := hbw.trans (hb3.sub hsub)
 clear hp
 have hp := hp1
 clear hp1
 refine .done ?_
 exact ⟨[],trivial,hp.sub hsub hbase,hbw⟩
theorem clo_197 (hC : Cx w0 tv toks) (hD : ∀ m,m < n → DN w0 tv toks m) {b0 : Nat} (hv_b0 : Var w b0 [.pointer (some ⟨bP,0,none⟩)] 60) (hF_b0 : F b0) : Clo w0 tv toks n F bP 197 [] [.pointer (some ⟨b0,0,none⟩)] w (.cond ident (.node 34 (.seq .bump (.seq (Cmd.exp ⟨#[58]⟩) Cmd.expr))) .skip) := by
 refine ⟨Tryz.call197,fun w1 hw1 below k s r hp hr hb => ?_⟩
 replace hv_b0 := var_bw hv_b0 hw1 hF_b0
 show Cl Tryz.prog 197 #[.pointer (some ⟨b0,0,none⟩)] w1 _
 have hbw := Bw.refl F w1
 have hsub : ∀ z,F z → F z := fun z h => h
 have hbase := hp.base
 refine Cl.enter Tryz.func197 rfl Tryz.ntmps197 rfl rfl ?_
 cases haq1 : ((sig1 s.rem).1 == 103) with
 | true =>
  have hq2 := run_condT hr haq1
  refine .sr (.tq (t_load ty60 rfl (Cells.get (i := 0) hv_b0.cells rfl)) rfl (Rg.wd trivial (w_call Tryz.call132 rfl (atIdent_ok hC hp)) rfl ?_))
  rintro _ w1 ⟨rfl,hx1⟩
  replace hbw := hbw.trans (Bw.of hx1 fun z hz => hp.und z (hsub z hz))
  replace hp := hp.extw hx1
  replace hv_b0 := hv_b0.ext hx1
  rw [show ((sig1 s.rem).1 == 103) = true from haq1]
  refine .done (.condT rfl (Wp.region (.tq (t_load ty60 rfl (Cells.get (i := 0) hv_b0.cells rfl)) rfl (.tq (t_makeFuncB (us := []) (vs := [.pointer (some ⟨b0,0,none⟩)]) rfl rfl) rfl (Rg.wd trivial (w_call Tryz.call52 rfl (D_node hp (clo_198 hC hD hv_b0 hF_b0) hq2 hb)) rfl ?_)))))
  rintro _ w2 ⟨hp1,hb2⟩
  replace hv_b0 := var_bw hv_b0 hb2 hF_b0
  replace hbw := hbw.trans (hb2.sub hsub)
  clear hp
  have hp := hp1
  clear hp1
  refine .done ?_
  exact ⟨[],trivial,hp.sub hsub hbase,hbw⟩
 | false =>
  have hq2 := run_condF hr haq1
  obtain rfl := run_skip' hq2
  refine .sr (.tq (t_load ty60 rfl (Cells.get (i := 0) hv_b0.cells rfl)) rfl (Rg.wd trivial (w_call Tryz.call132 rfl (atIdent_ok hC hp)) rfl ?_))
  rintro _ w1 ⟨rfl,hx1⟩
  replace hbw := hbw.trans (Bw.of hx1 fun z hz => hp.und z (hsub z hz))
  replace hp := hp.extw hx1
  replace hv_b0 := hv_b0.ext hx1
  rw [show ((sig1 r.rem).1 == 103) = false from haq1]
  refine .done (.condF rfl (Wp.skip ?_))
  exact ⟨[],trivial,hp.sub hsub hbase,hbw⟩
theorem N_structLit (hC : Cx w0 tv toks) (hD : ∀ m,m < n → DN w0 tv toks m) (hp : Ps w0 tv toks F w bP below k s) (hr : run body n (body .structLit) s = some r) (hb : r.adds ≤ big) :
  Cl Tryz.prog 185 #[.pointer (some ⟨bP,0,none⟩)] w (fun u w' => (Nm.structLit = Nm.statement → u = .bool r.flag) ∧ Ps w0 tv toks F w' bP below k r ∧ Bw F w w') := by
 have hbw := Bw.refl F w
 have hsub : ∀ z,F z → F z := fun z h => h
 have hbase := hp.base
 have hr : run body n (.seq .bump (.seq (.call (.path false)) (.seq (Cmd.exp ⟨#[123]⟩) (Cmd.list ⟨#[125]⟩ (.cond ident (.node 34 (.seq .bump (.seq (Cmd.exp ⟨#[58]⟩) Cmd.expr))) .skip))))) s = some r := hr
 refine Cl.enter Tryz.func185 rfl Tryz.ntmps185 rfl rfl (.sr (Rg.wd trivial (w_boxed rfl rfl) rfl ?_))
 rintro _ w1 ⟨bx185_1,rfl,qbx185_1,hx1,hv_bx185_1⟩
 replace hbw := hbw.trans (Bw.of hx1 fun z hz => hp.und z (hsub z hz))
 obtain ⟨F_bx185_1,hp1,hF_bx185_1,hs1⟩ := hp.box hx1 qbx185_1 hv_bx185_1.lt
 clear hp
 have hp := hp1
 clear hp1
 replace hsub := fun z hz => hs1 z (hsub z hz)
 refine .done (.sr (.tq (t_load ty60 rfl (Cells.get (i := 0) hv_bx185_1.cells rfl)) rfl ?_))
 obtain ⟨s1,h1a,h1b⟩ := run_seq' hr
 refine Rg.wd trivial (w_call Tryz.call55 rfl (D_bump hC hp h1a (adds_le h1b hb))) rfl ?_
 rintro _ w2 ⟨hp1,hb2⟩
 replace hv_bx185_1 := var_bw hv_bx185_1 hb2 hF_bx185_1
 replace hbw := hbw.trans (hb2.sub hsub)
 clear hp
 have hp := hp1
 clear hp1
 refine .done (.sr (.tq (t_load ty60 rfl (Cells.get (i := 0) hv_bx185_1.cells rfl)) rfl ?_))
 obtain ⟨s2,h2a,h2b⟩ := run_seq' h1b
 refine Rg.wd trivial (w_call Tryz.call141 rfl (D_call hD hp h2a (adds_le h2b hb))) rfl ?_
 rintro _ w3 ⟨hst,hp1,hb3⟩
 replace hv_bx185_1 := var_bw hv_bx185_1 hb3 hF_bx185_1
 replace hbw := hbw.trans (hb3.sub hsub)
 clear hp
 have hp := hp1
 clear hp1
 refine .done (.sr (.tq (t_load ty60 rfl (Cells.get (i := 0) hv_bx185_1.cells rfl)) rfl ?_))
 obtain ⟨s3,h3a,h3b⟩ := run_seq' h2b
 refine Rg.wd trivial (w_call Tryz.call110 rfl (D_exp hC hp h3a (adds_le h3b hb))) rfl ?_
 rintro _ w4 ⟨hp1,hb4⟩
 replace hv_bx185_1 := var_bw hv_bx185_1 hb4 hF_bx185_1
 replace hbw := hbw.trans (hb4.sub hsub)
 clear hp
 have hp := hp1
 clear hp1
 refine .done (Wp.region (.tq (t_load ty60 rfl (Cells.get (i := 0) hv_bx185_1.cells rfl)) rfl (.tq (t_makeFuncB (us := []) (vs := [.pointer (some ⟨bx185_1,0,none⟩)]) rfl rfl) rfl (Rg.wd trivial (w_call Tryz.call130 rfl (D_list hC hp (clo_197 hC hD hv_bx185_1 hF_bx185_1) h3b hb)) rfl ?_))))
 rintro _ w5 ⟨hp1,hb5⟩
 replace hv_bx185_1 := var_bw hv_bx185_1 hb5 hF_bx185_1
 replace hbw := hbw.trans (hb5.sub hsub)
 clear hp
 have hp := hp1
 clear hp1
 refine .done ?_
 exact ⟨[],trivial,(fun h => by cases h),hp.sub hsub hbase,hbw⟩
theorem N_lambda (hC : Cx w0 tv toks) (hD : ∀ m,m < n → DN w0 tv toks m) (hp : Ps w0 tv toks F w bP below k s) (hr : run body n (body .lambda) s = some r) (hb : r.adds ≤ big) :
  Cl Tryz.prog 186 #[.pointer (some ⟨bP,0,none⟩)] w (fun u w' => (Nm.lambda = Nm.statement → u = .bool r.flag) ∧ Ps w0 tv toks F w' bP below k r ∧ Bw F w w') := by
 have hbw := Bw.refl F w
 have hsub : ∀ z,F z → F z := fun z h => h
 have hbase := hp.base
 have hr : run body n (.seq (.cond (at1 [⟨#[124,124]⟩]) (.seq .bump (.node 12 .skip)) (.seq .bump (.call (.params ⟨#[124]⟩)))) Cmd.expr) s = some r := hr
 refine Cl.enter Tryz.func186 rfl Tryz.ntmps186 rfl rfl (.seq ?_)
 cases haq1 : (isAt [⟨#[124,124]⟩] (sig1 s.rem)) with
 | true =>
  obtain ⟨s1,h1a,h1b⟩ := run_seq' hr
  have hq2 := run_condT h1a haq1
  refine .sr (.mv rfl rfl (Rg.wd trivial (w_buildSlice (bs124_1 _) rfl) rfl ?_))
  rintro _ w1 ⟨bt3,rfl,qt3,hx1,hvt3⟩
  replace hbw := hbw.trans (Bw.of hx1 fun z hz => hp.und z (hsub z hz))
  replace hp := hp.extw hx1
  refine Rg.wd trivial (w_call Tryz.call48 rfl (at_ok hC hp (texts := [⟨#[124,124]⟩]) hvt3 (by decide))) rfl ?_
  rintro _ w2 ⟨rfl,hx2⟩
  replace hbw := hbw.trans (Bw.of hx2 fun z hz => hp.und z (hsub z hz))
  replace hp := hp.extw hx2
  try replace hvt3 := hvt3.ext hx2
  rw [show (isAt [⟨#[124,124]⟩] (sig1 s.rem)) = true from haq1]
  refine .done (.condT rfl (.sr (.mv rfl rfl ?_)))
  obtain ⟨s2,h2a,h2b⟩ := run_seq' hq2
  refine Rg.wd trivial (w_call Tryz.call55 rfl (D_bump hC hp h2a (adds_le h2b (adds_le h1b hb)))) rfl ?_
  rintro _ w3 ⟨hp1,hb3⟩
  replace hbw := hbw.trans (hb3.sub hsub)
  clear hp
  have hp := hp1
  clear hp1
  refine .done (Wp.region (.mv rfl rfl (Rg.wd trivial (w_call Tryz.call52 rfl (D_node hp (clo_199 hC hD) h2b (adds_le h1b hb))) rfl ?_)))
  rintro _ w4 ⟨hp1,hb4⟩
  replace hbw := hbw.trans (hb4.sub hsub)
  clear hp
  have hp := hp1
  clear hp1
  refine .done (Wp.region (.mv rfl rfl (Rg.wd trivial (w_call Tryz.call112 rfl (D_expr hC hD hp h1b hb)) rfl ?_)))
  rintro _ w5 ⟨hp1,hb5⟩
  replace hbw := hbw.trans (hb5.sub hsub)
  clear hp
  have hp := hp1
  clear hp1
  refine .done ?_
  exact ⟨[],trivial,(fun h => by cases h),hp.sub hsub hbase,hbw⟩
 | false =>
  obtain ⟨s1,h1a,h1b⟩ := run_seq' hr
  have hq2 := run_condF h1a haq1
  refine .sr (.mv rfl rfl (Rg.wd trivial (w_buildSlice (bs124_1 _) rfl) rfl ?_))
  rintro _ w1 ⟨bt3,rfl,qt3,hx1,hvt3⟩
  replace hbw := hbw.trans (Bw.of hx1 fun z hz => hp.und z (hsub z hz))
  replace hp := hp.extw hx1
  refine Rg.wd trivial (w_call Tryz.call48 rfl (at_ok hC hp (texts := [⟨#[124,124]⟩]) hvt3 (by decide))) rfl ?_
  rintro _ w2 ⟨rfl,hx2⟩
  replace hbw := hbw.trans (Bw.of hx2 fun z hz => hp.und z (hsub z hz))
  replace hp := hp.extw hx2
  try replace hvt3 := hvt3.ext hx2
  rw [show (isAt [⟨#[124,124]⟩] (sig1 s.rem)) = false from haq1]
  refine .done (.condF rfl (.sr (.mv rfl rfl ?_)))
  obtain ⟨s2,h2a,h2b⟩ := run_seq' hq2
  refine Rg.wd trivial (w_call Tryz.call55 rfl (D_bump hC hp h2a (adds_le h2b (adds_le h1b hb)))) rfl ?_
  rintro _ w3 ⟨hp1,hb3⟩
  replace hbw := hbw.trans (hb3.sub hsub)
  clear hp
  have hp := hp1
  clear hp1
  refine .done (Wp.region (.mv rfl rfl (Rg.wd trivial (w_call Tryz.call113 rfl (D_call hD hp h2b (adds_le h1b hb))) rfl ?_)))
  rintro _ w4 ⟨hst,hp1,hb4⟩
  replace hbw := hbw.trans (hb4.sub hsub)
  clear hp
  have hp := hp1
  clear hp1
  refine .done (Wp.region (.mv rfl rfl (Rg.wd trivial (w_call Tryz.call112 rfl (D_expr hC hD hp h1b hb)) rfl ?_)))
  rintro _ w5 ⟨hp1,hb5⟩
  replace hbw := hbw.trans (hb5.sub hsub)
  clear hp
  have hp := hp1
  clear hp1
  refine .done ?_
  exact ⟨[],trivial,(fun h => by cases h),hp.sub hsub hbase,hbw⟩
theorem clo_151 (hC : Cx w0 tv toks) (hD : ∀ m,m < n → DN w0 tv toks m) {b0 : Nat} (hv_b0 : Var w b0 [.pointer (some ⟨bP,0,none⟩)] 60) (hF_b0 : F b0) : Clo w0 tv toks n F bP 151 [] [.pointer (some ⟨b0,0,none⟩)] w (.cond (at1 [⟨#[60]⟩]) (.seq .bump (Cmd.list ⟨#[62]⟩ (.call .typeParam))) .skip) := by
 refine ⟨Tryz.call151,fun w1 hw1 below k s r hp hr hb => ?_⟩
 replace hv_b0 := var_bw hv_b0 hw1 hF_b0
 show Cl Tryz.prog 151 #[.pointer (some ⟨b0,0,none⟩)] w1 _
 have hbw := Bw.refl F w1
 have hsub : ∀ z,F z → F z := fun z h => h
 have hbase := hp.base
 refine Cl.enter Tryz.func151 rfl Tryz.ntmps151 rfl rfl ?_
 cases haq1 : (isAt [⟨#[60]⟩] (sig1 s.rem)) with
 | true =>
  have hq2 := run_condT hr haq1
  refine .sr (.tq (t_load ty60 rfl (Cells.get (i := 0) hv_b0.cells rfl)) rfl (Rg.wd trivial (w_buildSlice (bs124_1 _) rfl) rfl ?_))
  rintro _ w1 ⟨bt2,rfl,qt2,hx1,hvt2⟩
  replace hbw := hbw.trans (Bw.of hx1 fun z hz => hp.und z (hsub z hz))
  replace hp := hp.extw hx1
  replace hv_b0 := hv_b0.ext hx1
  obtain ⟨s1,h1a,h1b⟩ := run_seq' hq2
  obtain rfl := run_bump' h1a
  refine Rg.wd trivial (w_call Tryz.call54 rfl (acc_T hC hp (texts := [⟨#[60]⟩]) hvt2 (by decide) haq1 (adds_le h1b hb))) rfl ?_
  rintro _ w2 ⟨rfl,hp1,hb2⟩
  replace hv_b0 := var_bw hv_b0 hb2 hF_b0
  replace hbw := hbw.trans (hb2.sub hsub)
  clear hp
  have hp := hp1
  clear hp1
  refine .done (.condT rfl (Wp.region (.tq (t_load ty60 rfl (Cells.get (i := 0) hv_b0.cells rfl)) rfl (.tq (t_load ty60 rfl (Cells.get (i := 0) hv_b0.cells rfl)) rfl (.tq (t_makeFuncB (us := [.pointer (some ⟨bP,0,none⟩)]) (vs := []) rfl rfl) rfl (Rg.wd trivial (w_call Tryz.call130 rfl (D_list hC hp (clo_call Tryz.call152 hD (.typeParam)) h1b hb)) rfl ?_))))))
  rintro _ w3 ⟨hp1,hb3⟩
  replace hv_b0 := var_bw hv_b0 hb3 hF_b0
  replace hbw := hbw.trans (hb3.sub hsub)
  clear hp
  have hp := hp1
  clear hp1
  refine .done ?_
  exact ⟨[],trivial,hp.sub hsub hbase,hbw⟩
 | false =>
  have hq2 := run_condF hr haq1
  obtain rfl := run_skip' hq2
  refine .sr (.tq (t_load ty60 rfl (Cells.get (i := 0) hv_b0.cells rfl)) rfl (Rg.wd trivial (w_buildSlice (bs124_1 _) rfl) rfl ?_))
  rintro _ w1 ⟨bt2,rfl,qt2,hx1,hvt2⟩
  replace hbw := hbw.trans (Bw.of hx1 fun z hz => hp.und z (hsub z hz))
  replace hp := hp.extw hx1
  replace hv_b0 := hv_b0.ext hx1
  refine Rg.wd trivial (w_call Tryz.call54 rfl (acc_F hC hp (texts := [⟨#[60]⟩]) hvt2 (by decide) haq1)) rfl ?_
  rintro _ w2 ⟨rfl,hp1,hb2⟩
  replace hv_b0 := var_bw hv_b0 hb2 hF_b0
  replace hbw := hbw.trans (hb2.sub hsub)
  clear hp
  have hp := hp1
  clear hp1
  refine .done (.condF rfl (Wp.skip ?_))
  exact ⟨[],trivial,hp.sub hsub hbase,hbw⟩
theorem N_typeParams (hC : Cx w0 tv toks) (hD : ∀ m,m < n → DN w0 tv toks m) (hp : Ps w0 tv toks F w bP below k s) (hr : run body n (body .typeParams) s = some r) (hb : r.adds ≤ big) :
  Cl Tryz.prog 126 #[.pointer (some ⟨bP,0,none⟩)] w (fun u w' => (Nm.typeParams = Nm.statement → u = .bool r.flag) ∧ Ps w0 tv toks F w' bP below k r ∧ Bw F w w') := by
 have hbw := Bw.refl F w
 have hsub : ∀ z,F z → F z := fun z h => h
 have hbase := hp.base
 have hr : run body n (.node 10 (.cond (at1 [⟨#[60]⟩]) (.seq .bump (Cmd.list ⟨#[62]⟩ (.call .typeParam))) .skip)) s = some r := hr
 refine Cl.enter Tryz.func126 rfl Tryz.ntmps126 rfl rfl (.sr (Rg.wd trivial (w_boxed rfl rfl) rfl ?_))
 rintro _ w1 ⟨bx126_1,rfl,qbx126_1,hx1,hv_bx126_1⟩
 replace hbw := hbw.trans (Bw.of hx1 fun z hz => hp.und z (hsub z hz))
 obtain ⟨F_bx126_1,hp1,hF_bx126_1,hs1⟩ := hp.box hx1 qbx126_1 hv_bx126_1.lt
 clear hp
 have hp := hp1
 clear hp1
 replace hsub := fun z hz => hs1 z (hsub z hz)
 refine .done (Wp.region (.tq (t_load ty60 rfl (Cells.get (i := 0) hv_bx126_1.cells rfl)) rfl (.tq (t_makeFuncB (us := []) (vs := [.pointer (some ⟨bx126_1,0,none⟩)]) rfl rfl) rfl (Rg.wd trivial (w_call Tryz.call52 rfl (D_node hp (clo_151 hC hD hv_bx126_1 hF_bx126_1) hr hb)) rfl ?_))))
 rintro _ w2 ⟨hp1,hb2⟩
 replace hv_bx126_1 := var_bw hv_bx126_1 hb2 hF_bx126_1
 replace hbw := hbw.trans (hb2.sub hsub)
 clear hp
 have hp := hp1
 clear hp1
 refine .done ?_
 exact ⟨[],trivial,(fun h => by cases h),hp.sub hsub hbase,hbw⟩
theorem clo_168 (hC : Cx w0 tv toks) (hD : ∀ m,m < n → DN w0 tv toks m) {b0 : Nat} (hv_b0 : Var w b0 [.pointer (some ⟨bP,0,none⟩)] 60) (hF_b0 : F b0) : Clo w0 tv toks n F bP 168 [] [.pointer (some ⟨b0,0,none⟩)] w (.seq .bump (.cond (at1 [⟨#[58]⟩]) (.seq .bump (.seq (.call (.path true)) (.loop (at1 [⟨#[43]⟩]) (.seq .bump (.call (.path true)))))) .skip)) := by
 refine ⟨Tryz.call168,fun w1 hw1 below k s r hp hr hb => ?_⟩
 replace hv_b0 := var_bw hv_b0 hw1 hF_b0
 show Cl Tryz.prog 168 #[.pointer (some ⟨b0,0,none⟩)] w1 _
 have hbw := Bw.refl F w1
 have hsub : ∀ z,F z → F z := fun z h => h
 have hbase := hp.base
 refine Cl.enter Tryz.func168 rfl Tryz.ntmps168 rfl rfl (.sr (.tq (t_load ty60 rfl (Cells.get (i := 0) hv_b0.cells rfl)) rfl ?_))
 obtain ⟨s1,h1a,h1b⟩ := run_seq' hr
 refine Rg.wd trivial (w_call Tryz.call55 rfl (D_bump hC hp h1a (adds_le h1b hb))) rfl ?_
 rintro _ w1 ⟨hp1,hb1⟩
 replace hv_b0 := var_bw hv_b0 hb1 hF_b0
 replace hbw := hbw.trans (hb1.sub hsub)
 clear hp
 have hp := hp1
 clear hp1
 refine .done ?_
 cases haq1 : (isAt [⟨#[58]⟩] (sig1 s1.rem)) with
 | true =>
  have hq2 := run_condT h1b haq1
  refine .sr (.tq (t_load ty60 rfl (Cells.get (i := 0) hv_b0.cells rfl)) rfl (Rg.wd trivial (w_buildSlice (bs124_1 _) rfl) rfl ?_))
  rintro _ w2 ⟨bt4,rfl,qt4,hx2,hvt4⟩
  replace hbw := hbw.trans (Bw.of hx2 fun z hz => hp.und z (hsub z hz))
  replace hp := hp.extw hx2
  replace hv_b0 := hv_b0.ext hx2
  obtain ⟨s2,h2a,h2b⟩ := run_seq' hq2
  obtain rfl := run_bump' h2a
  refine Rg.wd trivial (w_call Tryz.call54 rfl (acc_T hC hp (texts := [⟨#[58]⟩]) hvt4 (by decide) haq1 (adds_le h2b hb))) rfl ?_
  rintro _ w3 ⟨rfl,hp1,hb3⟩
  replace hv_b0 := var_bw hv_b0 hb3 hF_b0
  replace hbw := hbw.trans (hb3.sub hsub)
  clear hp
  have hp := hp1
  clear hp1
  refine .done (.condT rfl (.sr (.tq (t_load ty60 rfl (Cells.get (i := 0) hv_b0.cells rfl)) rfl ?_)))
  obtain ⟨s3,h3a,h3b⟩ := run_seq' h2b
  refine Rg.wd trivial (w_call Tryz.call141 rfl (D_call hD hp h3a (adds_le h3b hb))) rfl ?_
  rintro _ w4 ⟨hst,hp1,hb4⟩
  replace hv_b0 := var_bw hv_b0 hb4 hF_b0
  replace hbw := hbw.trans (hb4.sub hsub)
  clear hp
  have hp := hp1
  clear hp1
  refine .done (Wp.block ?_)
  refine Wp.loop (ι := S × Nat) (fun _ => [(0,.pointer (some ⟨b0,0,none⟩))])
   (fun i w' => Ps w0 tv toks F w' bP below k i.1 ∧ Bw F w4 w' ∧ run body i.2 (.loop (at1 [⟨#[43]⟩]) (.seq .bump (.call (.path true)))) i.1 = some r ∧ i.2 ≤ n) (fun i => i.2) (s3,n) (by repeat (first | exact .nil | refine .cons rfl ?_)) ⟨hp,Bw.refl _ _,h3b,Nat.le_refl _⟩ ?_
  clear hp
  rintro ⟨s',m⟩ wl ⟨hp,hbl,hrun,hmn⟩
  simp only at hp hrun hmn
  replace hbw := hbw.trans (hbl.sub hsub)
  replace hv_b0 := var_bw hv_b0 hbl hF_b0
  refine .seq ?_
  cases haq3 : (isAt [⟨#[43]⟩] (sig1 s'.rem)) with
  | true =>
   obtain ⟨m1,s2,rfl,hbody,hrest⟩ := run_loopT hrun haq3
   replace hbody := run_le hmn hbody
   refine .sr (.tq (t_load ty60 rfl (Cells.get (i := 0) hv_b0.cells rfl)) rfl (Rg.wd trivial (w_buildSlice (bs124_1 _) rfl) rfl ?_))
   rintro _ w5 ⟨bt9,rfl,qt9,hx5,hvt9⟩
   replace hbl := hbl.trans (Bw.of hx5 hp.und)
   replace hbw := hbw.trans (Bw.of hx5 fun z hz => hp.und z (hsub z hz))
   replace hp := hp.extw hx5
   replace hv_b0 := hv_b0.ext hx5
   obtain ⟨s4,h4a,h4b⟩ := run_seq' hbody
   obtain rfl := run_bump' h4a
   refine Rg.wd trivial (w_call Tryz.call54 rfl (acc_T hC hp (texts := [⟨#[43]⟩]) hvt9 (by decide) haq3 (adds_le h4b (adds_le hrest hb)))) rfl ?_
   rintro _ w6 ⟨rfl,hp1,hb6⟩
   replace hbl := hbl.trans hb6
   replace hv_b0 := var_bw hv_b0 hb6 hF_b0
   replace hbw := hbw.trans (hb6.sub hsub)
   clear hp
   have hp := hp1
   clear hp1
   refine .done (.condT rfl (Wp.skip (Wp.block (Wp.region (.tq (t_load ty60 rfl (Cells.get (i := 0) hv_b0.cells rfl)) rfl (Rg.wd trivial (w_call Tryz.call141 rfl (D_call hD hp h4b (adds_le hrest hb))) rfl ?_))))))
   rintro _ w7 ⟨hst,hp1,hb7⟩
   replace hbl := hbl.trans hb7
   replace hv_b0 := var_bw hv_b0 hb7 hF_b0
   replace hbw := hbw.trans (hb7.sub hsub)
   clear hp
   have hp := hp1
   clear hp1
   refine .done ?_
   exact ⟨(s2,m1),by repeat (first | exact .nil | refine .cons rfl ?_),⟨hp,hbl,hrest,by simp only; omega⟩,by simp only; omega⟩
  | false =>
   obtain rfl := run_loopF hrun haq3
   refine .sr (.tq (t_load ty60 rfl (Cells.get (i := 0) hv_b0.cells rfl)) rfl (Rg.wd trivial (w_buildSlice (bs124_1 _) rfl) rfl ?_))
   rintro _ w5 ⟨bt9,rfl,qt9,hx5,hvt9⟩
   replace hbw := hbw.trans (Bw.of hx5 fun z hz => hp.und z (hsub z hz))
   replace hp := hp.extw hx5
   replace hv_b0 := hv_b0.ext hx5
   refine Rg.wd trivial (w_call Tryz.call54 rfl (acc_F hC hp (texts := [⟨#[43]⟩]) hvt9 (by decide) haq3)) rfl ?_
   rintro _ w6 ⟨rfl,hp1,hb6⟩
   replace hv_b0 := var_bw hv_b0 hb6 hF_b0
   replace hbw := hbw.trans (hb6.sub hsub)
   clear hp
   have hp := hp1
   clear hp1
   refine .done (.condF rfl (Wp.exit ?_))
   exact ⟨[],trivial,hp.sub hsub hbase,hbw⟩
 | false =>
  have hq2 := run_condF h1b haq1
  obtain rfl := run_skip' hq2
  refine .sr (.tq (t_load ty60 rfl (Cells.get (i := 0) hv_b0.cells rfl)) rfl (Rg.wd trivial (w_buildSlice (bs124_1 _) rfl) rfl ?_))
  rintro _ w2 ⟨bt4,rfl,qt4,hx2,hvt4⟩
  replace hbw := hbw.trans (Bw.of hx2 fun z hz => hp.und z (hsub z hz))
  replace hp := hp.extw hx2
  replace hv_b0 := hv_b0.ext hx2
  refine Rg.wd trivial (w_call Tryz.call54 rfl (acc_F hC hp (texts := [⟨#[58]⟩]) hvt4 (by decide) haq1)) rfl ?_
  rintro _ w3 ⟨rfl,hp1,hb3⟩
  replace hv_b0 := var_bw hv_b0 hb3 hF_b0
  replace hbw := hbw.trans (hb3.sub hsub)
  clear hp
  have hp := hp1
  clear hp1
  refine .done (.condF rfl (Wp.skip ?_))
  exact ⟨[],trivial,hp.sub hsub hbase,hbw⟩
theorem N_typeParam (hC : Cx w0 tv toks) (hD : ∀ m,m < n → DN w0 tv toks m) (hp : Ps w0 tv toks F w bP below k s) (hr : run body n (body .typeParam) s = some r) (hb : r.adds ≤ big) :
  Cl Tryz.prog 152 #[.pointer (some ⟨bP,0,none⟩)] w (fun u w' => (Nm.typeParam = Nm.statement → u = .bool r.flag) ∧ Ps w0 tv toks F w' bP below k r ∧ Bw F w w') := by
 have hbw := Bw.refl F w
 have hsub : ∀ z,F z → F z := fun z h => h
 have hbase := hp.base
 have hr : run body n (.cond ident (.node 11 (.seq .bump (.cond (at1 [⟨#[58]⟩]) (.seq .bump (.seq (.call (.path true)) (.loop (at1 [⟨#[43]⟩]) (.seq .bump (.call (.path true)))))) .skip))) .skip) s = some r := hr
 refine Cl.enter Tryz.func152 rfl Tryz.ntmps152 rfl rfl (.sr (Rg.wd trivial (w_boxed rfl rfl) rfl ?_))
 rintro _ w1 ⟨bx152_1,rfl,qbx152_1,hx1,hv_bx152_1⟩
 replace hbw := hbw.trans (Bw.of hx1 fun z hz => hp.und z (hsub z hz))
 obtain ⟨F_bx152_1,hp1,hF_bx152_1,hs1⟩ := hp.box hx1 qbx152_1 hv_bx152_1.lt
 clear hp
 have hp := hp1
 clear hp1
 replace hsub := fun z hz => hs1 z (hsub z hz)
 refine .done (.seq ?_)
 cases haq1 : ((sig1 s.rem).1 == 103) with
 | true =>
  have hq2 := run_condT hr haq1
  refine .sr (.tq (t_load ty60 rfl (Cells.get (i := 0) hv_bx152_1.cells rfl)) rfl (Rg.wd trivial (w_call Tryz.call132 rfl (atIdent_ok hC hp)) rfl ?_))
  rintro _ w2 ⟨rfl,hx2⟩
  replace hbw := hbw.trans (Bw.of hx2 fun z hz => hp.und z (hsub z hz))
  replace hp := hp.extw hx2
  replace hv_bx152_1 := hv_bx152_1.ext hx2
  rw [show ((sig1 s.rem).1 == 103) = true from haq1]
  refine .tq (t_notB rfl) rfl (.done (.condF rfl (Wp.skip (Wp.region (.tq (t_load ty60 rfl (Cells.get (i := 0) hv_bx152_1.cells rfl)) rfl (.tq (t_makeFuncB (us := []) (vs := [.pointer (some ⟨bx152_1,0,none⟩)]) rfl rfl) rfl (Rg.wd trivial (w_call Tryz.call52 rfl (D_node hp (clo_168 hC hD hv_bx152_1 hF_bx152_1) hq2 hb)) rfl ?_)))))))
  rintro _ w3 ⟨hp1,hb3⟩
  replace hv_bx152_1 := var_bw hv_bx152_1 hb3 hF_bx152_1
  replace hbw := hbw.trans (hb3.sub hsub)
  clear hp
  have hp := hp1
  clear hp1
  refine .done ?_
  exact ⟨[],trivial,(fun h => by cases h),hp.sub hsub hbase,hbw⟩
 | false =>
  have hq2 := run_condF hr haq1
  obtain rfl := run_skip' hq2
  refine .sr (.tq (t_load ty60 rfl (Cells.get (i := 0) hv_bx152_1.cells rfl)) rfl (Rg.wd trivial (w_call Tryz.call132 rfl (atIdent_ok hC hp)) rfl ?_))
  rintro _ w2 ⟨rfl,hx2⟩
  replace hbw := hbw.trans (Bw.of hx2 fun z hz => hp.und z (hsub z hz))
  replace hp := hp.extw hx2
  replace hv_bx152_1 := hv_bx152_1.ext hx2
  rw [show ((sig1 r.rem).1 == 103) = false from haq1]
  refine .tq (t_notB rfl) rfl (.done (.condT rfl (Wp.ret ?_)))
  exact ⟨[],trivial,(fun h => by cases h),hp.sub hsub hbase,hbw⟩
theorem clo_146 (hC : Cx w0 tv toks) (hD : ∀ m,m < n → DN w0 tv toks m) {b0 : Nat} (hv_b0 : Var w b0 [.pointer (some ⟨bP,0,none⟩)] 60) (hF_b0 : F b0) : Clo w0 tv toks n F bP 146 [] [.pointer (some ⟨b0,0,none⟩)] w (.seq .bump (Cmd.opt ⟨#[58]⟩ (.call .typeExpr))) := by
 refine ⟨Tryz.call146,fun w1 hw1 below k s r hp hr hb => ?_⟩
 replace hv_b0 := var_bw hv_b0 hw1 hF_b0
 show Cl Tryz.prog 146 #[.pointer (some ⟨b0,0,none⟩)] w1 _
 have hbw := Bw.refl F w1
 have hsub : ∀ z,F z → F z := fun z h => h
 have hbase := hp.base
 refine Cl.enter Tryz.func146 rfl Tryz.ntmps146 rfl rfl (.sr (.tq (t_load ty60 rfl (Cells.get (i := 0) hv_b0.cells rfl)) rfl ?_))
 obtain ⟨s1,h1a,h1b⟩ := run_seq' hr
 refine Rg.wd trivial (w_call Tryz.call55 rfl (D_bump hC hp h1a (adds_le h1b hb))) rfl ?_
 rintro _ w1 ⟨hp1,hb1⟩
 replace hv_b0 := var_bw hv_b0 hb1 hF_b0
 replace hbw := hbw.trans (hb1.sub hsub)
 clear hp
 have hp := hp1
 clear hp1
 refine .done (Wp.region (.tq (t_load ty60 rfl (Cells.get (i := 0) hv_b0.cells rfl)) rfl (.tq (t_load ty60 rfl (Cells.get (i := 0) hv_b0.cells rfl)) rfl (.tq (t_makeFuncB (us := [.pointer (some ⟨bP,0,none⟩)]) (vs := []) rfl rfl) rfl (Rg.wd trivial (w_call Tryz.call127 rfl (D_opt hC hp (clo_call Tryz.call111 hD (.typeExpr)) h1b hb)) rfl ?_)))))
 rintro _ w2 ⟨hp1,hb2⟩
 replace hv_b0 := var_bw hv_b0 hb2 hF_b0
 replace hbw := hbw.trans (hb2.sub hsub)
 clear hp
 have hp := hp1
 clear hp1
 refine .done ?_
 exact ⟨[],trivial,hp.sub hsub hbase,hbw⟩
theorem clo_145 (hC : Cx w0 tv toks) (hD : ∀ m,m < n → DN w0 tv toks m) {b0 : Nat} (hv_b0 : Var w b0 [.pointer (some ⟨bP,0,none⟩)] 60) (hF_b0 : F b0) : Clo w0 tv toks n F bP 145 [] [.pointer (some ⟨b0,0,none⟩)] w (.cond ident (.node 13 (.seq .bump (Cmd.opt ⟨#[58]⟩ (.call .typeExpr)))) .skip) := by
 refine ⟨Tryz.call145,fun w1 hw1 below k s r hp hr hb => ?_⟩
 replace hv_b0 := var_bw hv_b0 hw1 hF_b0
 show Cl Tryz.prog 145 #[.pointer (some ⟨b0,0,none⟩)] w1 _
 have hbw := Bw.refl F w1
 have hsub : ∀ z,F z → F z := fun z h => h
 have hbase := hp.base
 refine Cl.enter Tryz.func145 rfl Tryz.ntmps145 rfl rfl ?_
 cases haq1 : ((sig1 s.rem).1 == 103) with
 | true =>
  have hq2 := run_condT hr haq1
  refine .sr (.tq (t_load ty60 rfl (Cells.get (i := 0) hv_b0.cells rfl)) rfl (Rg.wd trivial (w_call Tryz.call132 rfl (atIdent_ok hC hp)) rfl ?_))
  rintro _ w1 ⟨rfl,hx1⟩
  replace hbw := hbw.trans (Bw.of hx1 fun z hz => hp.und z (hsub z hz))
  replace hp := hp.extw hx1
  replace hv_b0 := hv_b0.ext hx1
  rw [show ((sig1 s.rem).1 == 103) = true from haq1]
  refine .done (.condT rfl (Wp.region (.tq (t_load ty60 rfl (Cells.get (i := 0) hv_b0.cells rfl)) rfl (.tq (t_makeFuncB (us := []) (vs := [.pointer (some ⟨b0,0,none⟩)]) rfl rfl) rfl (Rg.wd trivial (w_call Tryz.call52 rfl (D_node hp (clo_146 hC hD hv_b0 hF_b0) hq2 hb)) rfl ?_)))))
  rintro _ w2 ⟨hp1,hb2⟩
  replace hv_b0 := var_bw hv_b0 hb2 hF_b0
  replace hbw := hbw.trans (hb2.sub hsub)
  clear hp
  have hp := hp1
  clear hp1
  refine .done ?_
  exact ⟨[],trivial,hp.sub hsub hbase,hbw⟩
 | false =>
  have hq2 := run_condF hr haq1
  obtain rfl := run_skip' hq2
  refine .sr (.tq (t_load ty60 rfl (Cells.get (i := 0) hv_b0.cells rfl)) rfl (Rg.wd trivial (w_call Tryz.call132 rfl (atIdent_ok hC hp)) rfl ?_))
  rintro _ w1 ⟨rfl,hx1⟩
  replace hbw := hbw.trans (Bw.of hx1 fun z hz => hp.und z (hsub z hz))
  replace hp := hp.extw hx1
  replace hv_b0 := hv_b0.ext hx1
  rw [show ((sig1 r.rem).1 == 103) = false from haq1]
  refine .done (.condF rfl (Wp.skip ?_))
  exact ⟨[],trivial,hp.sub hsub hbase,hbw⟩
theorem clo_144 {cl : ByteArray} (hC : Cx w0 tv toks) (hD : ∀ m,m < n → DN w0 tv toks m) {b0 : Nat} (hv_b0 : Var w b0 [.pointer (some ⟨bP,0,none⟩)] 60) (hF_b0 : F b0) {b1 : Nat} (hv_b1 : Var w b1 [.string cl] 9) (hF_b1 : F b1) : Clo w0 tv toks n F bP 144 [] [.pointer (some ⟨b0,0,none⟩),.pointer (some ⟨b1,0,none⟩)] w (Cmd.list cl (.cond ident (.node 13 (.seq .bump (Cmd.opt ⟨#[58]⟩ (.call .typeExpr)))) .skip)) := by
 refine ⟨Tryz.call144,fun w1 hw1 below k s r hp hr hb => ?_⟩
 replace hv_b0 := var_bw hv_b0 hw1 hF_b0
 replace hv_b1 := var_bw hv_b1 hw1 hF_b1
 show Cl Tryz.prog 144 #[.pointer (some ⟨b0,0,none⟩),.pointer (some ⟨b1,0,none⟩)] w1 _
 have hbw := Bw.refl F w1
 have hsub : ∀ z,F z → F z := fun z h => h
 have hbase := hp.base
 refine Cl.enter Tryz.func144 rfl Tryz.ntmps144 rfl rfl (Wp.region (.tq (t_load ty60 rfl (Cells.get (i := 0) hv_b0.cells rfl)) rfl (.tq (t_load ty9 rfl (Cells.get (i := 0) hv_b1.cells rfl)) rfl (.tq (t_makeFuncB (us := []) (vs := [.pointer (some ⟨b0,0,none⟩)]) rfl rfl) rfl (Rg.wd trivial (w_call Tryz.call130 rfl (D_list hC hp (clo_145 hC hD hv_b0 hF_b0) hr hb)) rfl ?_)))))
 rintro _ w1 ⟨hp1,hb1⟩
 replace hv_b0 := var_bw hv_b0 hb1 hF_b0
 replace hv_b1 := var_bw hv_b1 hb1 hF_b1
 replace hbw := hbw.trans (hb1.sub hsub)
 clear hp
 have hp := hp1
 clear hp1
 refine .done ?_
 exact ⟨[],trivial,hp.sub hsub hbase,hbw⟩
theorem N_params {cl : ByteArray} (hC : Cx w0 tv toks) (hD : ∀ m,m < n → DN w0 tv toks m) (hp : Ps w0 tv toks F w bP below k s) (hr : run body n (body (.params cl)) s = some r) (hb : r.adds ≤ big) :
  Cl Tryz.prog 113 #[.pointer (some ⟨bP,0,none⟩),.string cl] w (fun u w' => ((Nm.params cl) = Nm.statement → u = .bool r.flag) ∧ Ps w0 tv toks F w' bP below k r ∧ Bw F w w') := by
 have hbw := Bw.refl F w
 have hsub : ∀ z,F z → F z := fun z h => h
 have hbase := hp.base
 have hr : run body n (.node 12 (Cmd.list cl (.cond ident (.node 13 (.seq .bump (Cmd.opt ⟨#[58]⟩ (.call .typeExpr)))) .skip))) s = some r := hr
 refine Cl.enter Tryz.func113 rfl Tryz.ntmps113 rfl rfl (.sr (Rg.wd trivial (w_boxed rfl rfl) rfl ?_))
 rintro _ w1 ⟨bx113_2,rfl,qbx113_2,hx1,hv_bx113_2⟩
 replace hbw := hbw.trans (Bw.of hx1 fun z hz => hp.und z (hsub z hz))
 obtain ⟨F_bx113_2,hp1,hF_bx113_2,hs1⟩ := hp.box hx1 qbx113_2 hv_bx113_2.lt
 clear hp
 have hp := hp1
 clear hp1
 replace hsub := fun z hz => hs1 z (hsub z hz)
 refine Rg.wd trivial (w_boxed rfl rfl) rfl ?_
 rintro _ w2 ⟨bx113_3,rfl,qbx113_3,hx2,hv_bx113_3⟩
 replace hbw := hbw.trans (Bw.of hx2 fun z hz => hp.und z (hsub z hz))
 obtain ⟨F_bx113_3,hp1,hF_bx113_3,hs2⟩ := hp.box hx2 qbx113_3 hv_bx113_3.lt
 clear hp
 have hp := hp1
 clear hp1
 replace hsub := fun z hz => hs2 z (hsub z hz)
 replace hv_bx113_2 := hv_bx113_2.ext hx2
 replace hF_bx113_2 := hs2 _ hF_bx113_2
 refine .done (Wp.region (.tq (t_load ty60 rfl (Cells.get (i := 0) hv_bx113_2.cells rfl)) rfl (.tq (t_makeFuncB (us := []) (vs := [.pointer (some ⟨bx113_2,0,none⟩),.pointer (some ⟨bx113_3,0,none⟩)]) rfl rfl) rfl (Rg.wd trivial (w_call Tryz.call52 rfl (D_node hp (clo_144 hC hD hv_bx113_2 hF_bx113_2 hv_bx113_3 hF_bx113_3) hr hb)) rfl ?_))))
 rintro _ w3 ⟨hp1,hb3⟩
 replace hv_bx113_2 := var_bw hv_bx113_2 hb3 hF_bx113_2
 replace hv_bx113_3 := var_bw hv_bx113_3 hb3 hF_bx113_3
 replace hbw := hbw.trans (hb3.sub hsub)
 clear hp
 have hp := hp1
 clear hp1
 refine .done ?_
 exact ⟨[],trivial,(fun h => by cases h),hp.sub hsub hbase,hbw⟩
theorem clo_139 (hC : Cx w0 tv toks) (hD : ∀ m,m < n → DN w0 tv toks m) {b0 : Nat} (hv_b0 : Var w b0 [.pointer (some ⟨bP,0,none⟩)] 60) (hF_b0 : F b0) : Clo w0 tv toks n F bP 139 [] [.pointer (some ⟨b0,0,none⟩)] w (.seq .bump (.seq (Cmd.acc ⟨#[109,117,116]⟩) (.call .typeExpr))) := by
 refine ⟨Tryz.call139,fun w1 hw1 below k s r hp hr hb => ?_⟩
 replace hv_b0 := var_bw hv_b0 hw1 hF_b0
 show Cl Tryz.prog 139 #[.pointer (some ⟨b0,0,none⟩)] w1 _
 have hbw := Bw.refl F w1
 have hsub : ∀ z,F z → F z := fun z h => h
 have hbase := hp.base
 refine Cl.enter Tryz.func139 rfl Tryz.ntmps139 rfl rfl (.sr (.tq (t_load ty60 rfl (Cells.get (i := 0) hv_b0.cells rfl)) rfl ?_))
 obtain ⟨s1,h1a,h1b⟩ := run_seq' hr
 refine Rg.wd trivial (w_call Tryz.call55 rfl (D_bump hC hp h1a (adds_le h1b hb))) rfl ?_
 rintro _ w1 ⟨hp1,hb1⟩
 replace hv_b0 := var_bw hv_b0 hb1 hF_b0
 replace hbw := hbw.trans (hb1.sub hsub)
 clear hp
 have hp := hp1
 clear hp1
 refine .done ?_
 obtain ⟨s2,h2a,h2b⟩ := run_seq' h1b
 cases haq1 : (isAt [⟨#[109,117,116]⟩] (sig1 s1.rem)) with
 | true =>
  have hq2 := run_condT h2a haq1
  refine .sr (.tq (t_load ty60 rfl (Cells.get (i := 0) hv_b0.cells rfl)) rfl (Rg.wd trivial (w_buildSlice (bs124_1 _) rfl) rfl ?_))
  rintro _ w2 ⟨bt4,rfl,qt4,hx2,hvt4⟩
  replace hbw := hbw.trans (Bw.of hx2 fun z hz => hp.und z (hsub z hz))
  replace hp := hp.extw hx2
  replace hv_b0 := hv_b0.ext hx2
  obtain rfl := run_bump' hq2
  refine Rg.wd trivial (w_call Tryz.call54 rfl (acc_T hC hp (texts := [⟨#[109,117,116]⟩]) hvt4 (by decide) haq1 (adds_le h2b hb))) rfl ?_
  rintro _ w3 ⟨rfl,hp1,hb3⟩
  replace hv_b0 := var_bw hv_b0 hb3 hF_b0
  replace hbw := hbw.trans (hb3.sub hsub)
  clear hp
  have hp := hp1
  clear hp1
  refine .done (Wp.region (.tq (t_load ty60 rfl (Cells.get (i := 0) hv_b0.cells rfl)) rfl (Rg.wd trivial (w_call Tryz.call111 rfl (D_call hD hp h2b hb)) rfl ?_)))
  rintro _ w4 ⟨hst,hp1,hb4⟩
  replace hv_b0 := var_bw hv_b0 hb4 hF_b0
  replace hbw := hbw.trans (hb4.sub hsub)
  clear hp
  have hp := hp1
  clear hp1
  refine .done ?_
  exact ⟨[],trivial,hp.sub hsub hbase,hbw⟩
 | false =>
  have hq2 := run_condF h2a haq1
  obtain rfl := run_skip' hq2
  refine .sr (.tq (t_load ty60 rfl (Cells.get (i := 0) hv_b0.cells rfl)) rfl (Rg.wd trivial (w_buildSlice (bs124_1 _) rfl) rfl ?_))
  rintro _ w2 ⟨bt4,rfl,qt4,hx2,hvt4⟩
  replace hbw := hbw.trans (Bw.of hx2 fun z hz => hp.und z (hsub z hz))
  replace hp := hp.extw hx2
  replace hv_b0 := hv_b0.ext hx2
  refine Rg.wd trivial (w_call Tryz.call54 rfl (acc_F hC hp (texts := [⟨#[109,117,116]⟩]) hvt4 (by decide) haq1)) rfl ?_
  rintro _ w3 ⟨rfl,hp1,hb3⟩
  replace hv_b0 := var_bw hv_b0 hb3 hF_b0
  replace hbw := hbw.trans (hb3.sub hsub)
  clear hp
  have hp := hp1
  clear hp1
  refine .done (Wp.region (.tq (t_load ty60 rfl (Cells.get (i := 0) hv_b0.cells rfl)) rfl (Rg.wd trivial (w_call Tryz.call111 rfl (D_call hD hp h2b hb)) rfl ?_)))
  rintro _ w4 ⟨hst,hp1,hb4⟩
  replace hv_b0 := var_bw hv_b0 hb4 hF_b0
  replace hbw := hbw.trans (hb4.sub hsub)
  clear hp
  have hp := hp1
  clear hp1
  refine .done ?_
  exact ⟨[],trivial,hp.sub hsub hbase,hbw⟩
theorem clo_140 (hC : Cx w0 tv toks) (hD : ∀ m,m < n → DN w0 tv toks m) {b0 : Nat} (hv_b0 : Var w b0 [.pointer (some ⟨bP,0,none⟩)] 60) (hF_b0 : F b0) : Clo w0 tv toks n F bP 140 [] [.pointer (some ⟨b0,0,none⟩)] w (.seq .bump (.seq (Cmd.exp ⟨#[40]⟩) (.seq (Cmd.list ⟨#[41]⟩ (.call .typeExpr)) (Cmd.opt ⟨#[45,62]⟩ (.call .typeExpr))))) := by
 refine ⟨Tryz.call140,fun w1 hw1 below k s r hp hr hb => ?_⟩
 replace hv_b0 := var_bw hv_b0 hw1 hF_b0
 show Cl Tryz.prog 140 #[.pointer (some ⟨b0,0,none⟩)] w1 _
 have hbw := Bw.refl F w1
 have hsub : ∀ z,F z → F z := fun z h => h
 have hbase := hp.base
 refine Cl.enter Tryz.func140 rfl Tryz.ntmps140 rfl rfl (.sr (.tq (t_load ty60 rfl (Cells.get (i := 0) hv_b0.cells rfl)) rfl ?_))
 obtain ⟨s1,h1a,h1b⟩ := run_seq' hr
 refine Rg.wd trivial (w_call Tryz.call55 rfl (D_bump hC hp h1a (adds_le h1b hb))) rfl ?_
 rintro _ w1 ⟨hp1,hb1⟩
 replace hv_b0 := var_bw hv_b0 hb1 hF_b0
 replace hbw := hbw.trans (hb1.sub hsub)
 clear hp
 have hp := hp1
 clear hp1
 refine .done (.sr (.tq (t_load ty60 rfl (Cells.get (i := 0) hv_b0.cells rfl)) rfl ?_))
 obtain ⟨s2,h2a,h2b⟩ := run_seq' h1b
 refine Rg.wd trivial (w_call Tryz.call110 rfl (D_exp hC hp h2a (adds_le h2b hb))) rfl ?_
 rintro _ w2 ⟨hp1,hb2⟩
 replace hv_b0 := var_bw hv_b0 hb2 hF_b0
 replace hbw := hbw.trans (hb2.sub hsub)
 clear hp
 have hp := hp1
 clear hp1
 refine .done (.sr (.tq (t_load ty60 rfl (Cells.get (i := 0) hv_b0.cells rfl)) rfl (.tq (t_load ty60 rfl (Cells.get (i := 0) hv_b0.cells rfl)) rfl (.tq (t_makeFuncB (us := [.pointer (some ⟨bP,0,none⟩)]) (vs := []) rfl rfl) rfl ?_))))
 obtain ⟨s3,h3a,h3b⟩ := run_seq' h2b
 refine Rg.wd trivial (w_call Tryz.call130 rfl (D_list hC hp (clo_call Tryz.call111 hD (.typeExpr)) h3a (adds_le h3b hb))) rfl ?_
 rintro _ w3 ⟨hp1,hb3⟩
 replace hv_b0 := var_bw hv_b0 hb3 hF_b0
 replace hbw := hbw.trans (hb3.sub hsub)
 clear hp
 have hp := hp1
 clear hp1
 refine .done (Wp.region (.tq (t_load ty60 rfl (Cells.get (i := 0) hv_b0.cells rfl)) rfl (.tq (t_load ty60 rfl (Cells.get (i := 0) hv_b0.cells rfl)) rfl (.tq (t_makeFuncB (us := [.pointer (some ⟨bP,0,none⟩)]) (vs := []) rfl rfl) rfl (Rg.wd trivial (w_call Tryz.call127 rfl (D_opt hC hp (clo_call Tryz.call111 hD (.typeExpr)) h3b hb)) rfl ?_)))))
 rintro _ w4 ⟨hp1,hb4⟩
 replace hv_b0 := var_bw hv_b0 hb4 hF_b0
 replace hbw := hbw.trans (hb4.sub hsub)
 clear hp
 have hp := hp1
 clear hp1
 refine .done ?_
 exact ⟨[],trivial,hp.sub hsub hbase,hbw⟩
theorem N_typeExpr (hC : Cx w0 tv toks) (hD : ∀ m,m < n → DN w0 tv toks m) (hp : Ps w0 tv toks F w bP below k s) (hr : run body n (body .typeExpr) s = some r) (hb : r.adds ≤ big) :
  Cl Tryz.prog 111 #[.pointer (some ⟨bP,0,none⟩)] w (fun u w' => (Nm.typeExpr = Nm.statement → u = .bool r.flag) ∧ Ps w0 tv toks F w' bP below k r ∧ Bw F w w') := by
 have hbw := Bw.refl F w
 have hsub : ∀ z,F z → F z := fun z h => h
 have hbase := hp.base
 have hr : run body n (.cond (at1 [⟨#[38]⟩]) (.node 19 (.seq .bump (.seq (Cmd.acc ⟨#[109,117,116]⟩) (.call .typeExpr)))) (.cond (at1 [⟨#[102,110]⟩]) (.node 20 (.seq .bump (.seq (Cmd.exp ⟨#[40]⟩) (.seq (Cmd.list ⟨#[41]⟩ (.call .typeExpr)) (Cmd.opt ⟨#[45,62]⟩ (.call .typeExpr)))))) (.cond ident (.call (.path true)) (.leaf 46)))) s = some r := hr
 refine Cl.enter Tryz.func111 rfl Tryz.ntmps111 rfl rfl (.sr (Rg.wd trivial (w_boxed rfl rfl) rfl ?_))
 rintro _ w1 ⟨bx111_1,rfl,qbx111_1,hx1,hv_bx111_1⟩
 replace hbw := hbw.trans (Bw.of hx1 fun z hz => hp.und z (hsub z hz))
 obtain ⟨F_bx111_1,hp1,hF_bx111_1,hs1⟩ := hp.box hx1 qbx111_1 hv_bx111_1.lt
 clear hp
 have hp := hp1
 clear hp1
 replace hsub := fun z hz => hs1 z (hsub z hz)
 refine .done (Wp.block ?_)
 cases haq1 : (isAt [⟨#[38]⟩] (sig1 s.rem)) with
 | true =>
  have hq2 := run_condT hr haq1
  refine .sr (.tq (t_load ty60 rfl (Cells.get (i := 0) hv_bx111_1.cells rfl)) rfl (Rg.wd trivial (w_buildSlice (bs124_1 _) rfl) rfl ?_))
  rintro _ w2 ⟨bt6,rfl,qt6,hx2,hvt6⟩
  replace hbw := hbw.trans (Bw.of hx2 fun z hz => hp.und z (hsub z hz))
  replace hp := hp.extw hx2
  replace hv_bx111_1 := hv_bx111_1.ext hx2
  refine Rg.wd trivial (w_call Tryz.call48 rfl (at_ok hC hp (texts := [⟨#[38]⟩]) hvt6 (by decide))) rfl ?_
  rintro _ w3 ⟨rfl,hx3⟩
  replace hbw := hbw.trans (Bw.of hx3 fun z hz => hp.und z (hsub z hz))
  replace hp := hp.extw hx3
  replace hv_bx111_1 := hv_bx111_1.ext hx3
  try replace hvt6 := hvt6.ext hx3
  rw [show (isAt [⟨#[38]⟩] (sig1 s.rem)) = true from haq1]
  refine .as rfl rfl (.done (.condT rfl (Wp.region (.tq (t_load ty60 rfl (Cells.get (i := 0) hv_bx111_1.cells rfl)) rfl (.tq (t_makeFuncB (us := []) (vs := [.pointer (some ⟨bx111_1,0,none⟩)]) rfl rfl) rfl (Rg.wd trivial (w_call Tryz.call52 rfl (D_node hp (clo_139 hC hD hv_bx111_1 hF_bx111_1) hq2 hb)) rfl ?_))))))
  rintro _ w4 ⟨hp1,hb4⟩
  replace hv_bx111_1 := var_bw hv_bx111_1 hb4 hF_bx111_1
  replace hbw := hbw.trans (hb4.sub hsub)
  clear hp
  have hp := hp1
  clear hp1
  refine .done ?_
  exact ⟨[],trivial,(fun h => by cases h),hp.sub hsub hbase,hbw⟩
 | false =>
  have hq2 := run_condF hr haq1
  refine .sr (.tq (t_load ty60 rfl (Cells.get (i := 0) hv_bx111_1.cells rfl)) rfl (Rg.wd trivial (w_buildSlice (bs124_1 _) rfl) rfl ?_))
  rintro _ w2 ⟨bt6,rfl,qt6,hx2,hvt6⟩
  replace hbw := hbw.trans (Bw.of hx2 fun z hz => hp.und z (hsub z hz))
  replace hp := hp.extw hx2
  replace hv_bx111_1 := hv_bx111_1.ext hx2
  refine Rg.wd trivial (w_call Tryz.call48 rfl (at_ok hC hp (texts := [⟨#[38]⟩]) hvt6 (by decide))) rfl ?_
  rintro _ w3 ⟨rfl,hx3⟩
  replace hbw := hbw.trans (Bw.of hx3 fun z hz => hp.und z (hsub z hz))
  replace hp := hp.extw hx3
  replace hv_bx111_1 := hv_bx111_1.ext hx3
  try replace hvt6 := hvt6.ext hx3
  rw [show (isAt [⟨#[38]⟩] (sig1 s.rem)) = false from haq1]
  refine .as rfl rfl (.done (.condF rfl ?_))
  cases haq3 : (isAt [⟨#[102,110]⟩] (sig1 s.rem)) with
  | true =>
   have hq4 := run_condT hq2 haq3
   refine .sr (.tq (t_load ty60 rfl (Cells.get (i := 0) hv_bx111_1.cells rfl)) rfl (Rg.wd trivial (w_buildSlice (bs124_1 _) rfl) rfl ?_))
   rintro _ w4 ⟨bt13,rfl,qt13,hx4,hvt13⟩
   replace hbw := hbw.trans (Bw.of hx4 fun z hz => hp.und z (hsub z hz))
   replace hp := hp.extw hx4
   replace hv_bx111_1 := hv_bx111_1.ext hx4
   try replace hvt6 := hvt6.ext hx4
   refine Rg.wd trivial (w_call Tryz.call48 rfl (at_ok hC hp (texts := [⟨#[102,110]⟩]) hvt13 (by decide))) rfl ?_
   rintro _ w5 ⟨rfl,hx5⟩
   replace hbw := hbw.trans (Bw.of hx5 fun z hz => hp.und z (hsub z hz))
   replace hp := hp.extw hx5
   replace hv_bx111_1 := hv_bx111_1.ext hx5
   try replace hvt6 := hvt6.ext hx5
   try replace hvt13 := hvt13.ext hx5
   rw [show (isAt [⟨#[102,110]⟩] (sig1 s.rem)) = true from haq3]
   refine .as rfl rfl (.done (.condT rfl (Wp.region (.tq (t_load ty60 rfl (Cells.get (i := 0) hv_bx111_1.cells rfl)) rfl (.tq (t_makeFuncB (us := []) (vs := [.pointer (some ⟨bx111_1,0,none⟩)]) rfl rfl) rfl (Rg.wd trivial (w_call Tryz.call52 rfl (D_node hp (clo_140 hC hD hv_bx111_1 hF_bx111_1) hq4 hb)) rfl ?_))))))
   rintro _ w6 ⟨hp1,hb6⟩
   replace hv_bx111_1 := var_bw hv_bx111_1 hb6 hF_bx111_1
   replace hbw := hbw.trans (hb6.sub hsub)
   clear hp
   have hp := hp1
   clear hp1
   refine .done ?_
   exact ⟨[],trivial,(fun h => by cases h),hp.sub hsub hbase,hbw⟩
  | false =>
   have hq4 := run_condF hq2 haq3
   refine .sr (.tq (t_load ty60 rfl (Cells.get (i := 0) hv_bx111_1.cells rfl)) rfl (Rg.wd trivial (w_buildSlice (bs124_1 _) rfl) rfl ?_))
   rintro _ w4 ⟨bt13,rfl,qt13,hx4,hvt13⟩
   replace hbw := hbw.trans (Bw.of hx4 fun z hz => hp.und z (hsub z hz))
   replace hp := hp.extw hx4
   replace hv_bx111_1 := hv_bx111_1.ext hx4
   try replace hvt6 := hvt6.ext hx4
   refine Rg.wd trivial (w_call Tryz.call48 rfl (at_ok hC hp (texts := [⟨#[102,110]⟩]) hvt13 (by decide))) rfl ?_
   rintro _ w5 ⟨rfl,hx5⟩
   replace hbw := hbw.trans (Bw.of hx5 fun z hz => hp.und z (hsub z hz))
   replace hp := hp.extw hx5
   replace hv_bx111_1 := hv_bx111_1.ext hx5
   try replace hvt6 := hvt6.ext hx5
   try replace hvt13 := hvt13.ext hx5
   rw [show (isAt [⟨#[102,110]⟩] (sig1 s.rem)) = false from haq3]
   refine .as rfl rfl (.done (.condF rfl ?_))
   cases haq5 : ((sig1 s.rem).1 == 103) with
   | true =>
    have hq6 := run_condT hq4 haq5
    refine .sr (.tq (t_load ty60 rfl (Cells.get (i := 0) hv_bx111_1.cells rfl)) rfl (Rg.wd trivial (w_call Tryz.call132 rfl (atIdent_ok hC hp)) rfl ?_))
    rintro _ w6 ⟨rfl,hx6⟩
    replace hbw := hbw.trans (Bw.of hx6 fun z hz => hp.und z (hsub z hz))
    replace hp := hp.extw hx6
    replace hv_bx111_1 := hv_bx111_1.ext hx6
    try replace hvt6 := hvt6.ext hx6
    try replace hvt13 := hvt13.ext hx6
    rw [show ((sig1 s.rem).1 == 103) = true from haq5]
    refine .as rfl rfl (.done (.condT rfl (Wp.region (.tq (t_load ty60 rfl (Cells.get (i := 0) hv_bx111_1.cells rfl)) rfl (Rg.wd trivial (w_call Tryz.call141 rfl (D_call hD hp hq6 hb)) rfl ?_)))))
    rintro _ w7 ⟨hst,hp1,hb7⟩
    replace hv_bx111_1 := var_bw hv_bx111_1 hb7 hF_bx111_1
    replace hbw := hbw.trans (hb7.sub hsub)
    clear hp
    have hp := hp1
    clear hp1
    refine .done ?_
    exact ⟨[],trivial,(fun h => by cases h),hp.sub hsub hbase,hbw⟩
   | false =>
    have hq6 := run_condF hq4 haq5
    refine .sr (.tq (t_load ty60 rfl (Cells.get (i := 0) hv_bx111_1.cells rfl)) rfl (Rg.wd trivial (w_call Tryz.call132 rfl (atIdent_ok hC hp)) rfl ?_))
    rintro _ w6 ⟨rfl,hx6⟩
    replace hbw := hbw.trans (Bw.of hx6 fun z hz => hp.und z (hsub z hz))
    replace hp := hp.extw hx6
    replace hv_bx111_1 := hv_bx111_1.ext hx6
    try replace hvt6 := hvt6.ext hx6
    try replace hvt13 := hvt13.ext hx6
    rw [show ((sig1 s.rem).1 == 103) = false from haq5]
    refine .as rfl rfl (.done (.condF rfl (Wp.region (.tq (t_load ty60 rfl (Cells.get (i := 0) hv_bx111_1.cells rfl)) rfl (Rg.wd trivial (w_call Tryz.call142 rfl (D_missingN hp hq6 hb)) rfl ?_)))))
    rintro _ w7 ⟨hp1,hb7⟩
    replace hv_bx111_1 := var_bw hv_bx111_1 hb7 hF_bx111_1
    replace hbw := hbw.trans (hb7.sub hsub)
    clear hp
    have hp := hp1
    clear hp1
    refine .done ?_
    exact ⟨[],trivial,(fun h => by cases h),hp.sub hsub hbase,hbw⟩
theorem clo_188 (hC : Cx w0 tv toks) (hD : ∀ m,m < n → DN w0 tv toks m) {b0 : Nat} (hv_b0 : Var w b0 [.pointer (some ⟨bP,0,none⟩)] 60) (hF_b0 : F b0) : Clo w0 tv toks n F bP 188 [] [.pointer (some ⟨b0,0,none⟩)] w (.seq .bump (.seq .bump (.call .arguments))) := by
 refine ⟨Tryz.call188,fun w1 hw1 below k s r hp hr hb => ?_⟩
 replace hv_b0 := var_bw hv_b0 hw1 hF_b0
 show Cl Tryz.prog 188 #[.pointer (some ⟨b0,0,none⟩)] w1 _
 have hbw := Bw.refl F w1
 have hsub : ∀ z,F z → F z := fun z h => h
 have hbase := hp.base
 refine Cl.enter Tryz.func188 rfl Tryz.ntmps188 rfl rfl (.sr (.tq (t_load ty60 rfl (Cells.get (i := 0) hv_b0.cells rfl)) rfl ?_))
 obtain ⟨s1,h1a,h1b⟩ := run_seq' hr
 refine Rg.wd trivial (w_call Tryz.call55 rfl (D_bump hC hp h1a (adds_le h1b hb))) rfl ?_
 rintro _ w1 ⟨hp1,hb1⟩
 replace hv_b0 := var_bw hv_b0 hb1 hF_b0
 replace hbw := hbw.trans (hb1.sub hsub)
 clear hp
 have hp := hp1
 clear hp1
 refine .done (.sr (.tq (t_load ty60 rfl (Cells.get (i := 0) hv_b0.cells rfl)) rfl ?_))
 obtain ⟨s2,h2a,h2b⟩ := run_seq' h1b
 refine Rg.wd trivial (w_call Tryz.call55 rfl (D_bump hC hp h2a (adds_le h2b hb))) rfl ?_
 rintro _ w2 ⟨hp1,hb2⟩
 replace hv_b0 := var_bw hv_b0 hb2 hF_b0
 replace hbw := hbw.trans (hb2.sub hsub)
 clear hp
 have hp := hp1
 clear hp1
 refine .done (Wp.region (.tq (t_load ty60 rfl (Cells.get (i := 0) hv_b0.cells rfl)) rfl (Rg.wd trivial (w_call Tryz.call181 rfl (D_call hD hp h2b hb)) rfl ?_)))
 rintro _ w3 ⟨hst,hp1,hb3⟩
 replace hv_b0 := var_bw hv_b0 hb3 hF_b0
 replace hbw := hbw.trans (hb3.sub hsub)
 clear hp
 have hp := hp1
 clear hp1
 refine .done ?_
 exact ⟨[],trivial,hp.sub hsub hbase,hbw⟩
theorem clo_189 (hC : Cx w0 tv toks) (hD : ∀ m,m < n → DN w0 tv toks m) {b0 : Nat} (hv_b0 : Var w b0 [.pointer (some ⟨bP,0,none⟩)] 60) (hF_b0 : F b0) : Clo w0 tv toks n F bP 189 [] [.pointer (some ⟨b0,0,none⟩)] w (.seq .bump Cmd.expIdent) := by
 refine ⟨Tryz.call189,fun w1 hw1 below k s r hp hr hb => ?_⟩
 replace hv_b0 := var_bw hv_b0 hw1 hF_b0
 show Cl Tryz.prog 189 #[.pointer (some ⟨b0,0,none⟩)] w1 _
 have hbw := Bw.refl F w1
 have hsub : ∀ z,F z → F z := fun z h => h
 have hbase := hp.base
 refine Cl.enter Tryz.func189 rfl Tryz.ntmps189 rfl rfl (.sr (.tq (t_load ty60 rfl (Cells.get (i := 0) hv_b0.cells rfl)) rfl ?_))
 obtain ⟨s1,h1a,h1b⟩ := run_seq' hr
 refine Rg.wd trivial (w_call Tryz.call55 rfl (D_bump hC hp h1a (adds_le h1b hb))) rfl ?_
 rintro _ w1 ⟨hp1,hb1⟩
 replace hv_b0 := var_bw hv_b0 hb1 hF_b0
 replace hbw := hbw.trans (hb1.sub hsub)
 clear hp
 have hp := hp1
 clear hp1
 refine .done (Wp.region (.tq (t_load ty60 rfl (Cells.get (i := 0) hv_b0.cells rfl)) rfl (Rg.wd trivial (w_call Tryz.call107 rfl (D_expIdent hC hp h1b hb)) rfl ?_)))
 rintro _ w2 ⟨hp1,hb2⟩
 replace hv_b0 := var_bw hv_b0 hb2 hF_b0
 replace hbw := hbw.trans (hb2.sub hsub)
 clear hp
 have hp := hp1
 clear hp1
 refine .done ?_
 exact ⟨[],trivial,hp.sub hsub hbase,hbw⟩
theorem clo_190 (hC : Cx w0 tv toks) (hD : ∀ m,m < n → DN w0 tv toks m) {b0 : Nat} (hv_b0 : Var w b0 [.pointer (some ⟨bP,0,none⟩)] 60) (hF_b0 : F b0) : Clo w0 tv toks n F bP 190 [] [.pointer (some ⟨b0,0,none⟩)] w (.seq .bump Cmd.expIdent) := by
 refine ⟨Tryz.call190,fun w1 hw1 below k s r hp hr hb => ?_⟩
 replace hv_b0 := var_bw hv_b0 hw1 hF_b0
 show Cl Tryz.prog 190 #[.pointer (some ⟨b0,0,none⟩)] w1 _
 have hbw := Bw.refl F w1
 have hsub : ∀ z,F z → F z := fun z h => h
 have hbase := hp.base
 refine Cl.enter Tryz.func190 rfl Tryz.ntmps190 rfl rfl (.sr (.tq (t_load ty60 rfl (Cells.get (i := 0) hv_b0.cells rfl)) rfl ?_))
 obtain ⟨s1,h1a,h1b⟩ := run_seq' hr
 refine Rg.wd trivial (w_call Tryz.call55 rfl (D_bump hC hp h1a (adds_le h1b hb))) rfl ?_
 rintro _ w1 ⟨hp1,hb1⟩
 replace hv_b0 := var_bw hv_b0 hb1 hF_b0
 replace hbw := hbw.trans (hb1.sub hsub)
 clear hp
 have hp := hp1
 clear hp1
 refine .done (Wp.region (.tq (t_load ty60 rfl (Cells.get (i := 0) hv_b0.cells rfl)) rfl (Rg.wd trivial (w_call Tryz.call107 rfl (D_expIdent hC hp h1b hb)) rfl ?_)))
 rintro _ w2 ⟨hp1,hb2⟩
 replace hv_b0 := var_bw hv_b0 hb2 hF_b0
 replace hbw := hbw.trans (hb2.sub hsub)
 clear hp
 have hp := hp1
 clear hp1
 refine .done ?_
 exact ⟨[],trivial,hp.sub hsub hbase,hbw⟩
theorem clo_191 (hC : Cx w0 tv toks) (hD : ∀ m,m < n → DN w0 tv toks m) {b0 : Nat} (hv_b0 : Var w b0 [.pointer (some ⟨bP,0,none⟩)] 60) (hF_b0 : F b0) : Clo w0 tv toks n F bP 191 [] [.pointer (some ⟨b0,0,none⟩)] w (.seq (.call (.path false)) (.cond (at1 [⟨#[40]⟩]) (.seq .bump (Cmd.list ⟨#[41]⟩ (.call .pattern))) .skip)) := by
 refine ⟨Tryz.call191,fun w1 hw1 below k s r hp hr hb => ?_⟩
 replace hv_b0 := var_bw hv_b0 hw1 hF_b0
 show Cl Tryz.prog 191 #[.pointer (some ⟨b0,0,none⟩)] w1 _
 have hbw := Bw.refl F w1
 have hsub : ∀ z,F z → F z := fun z h => h
 have hbase := hp.base
 refine Cl.enter Tryz.func191 rfl Tryz.ntmps191 rfl rfl (.sr (.tq (t_load ty60 rfl (Cells.get (i := 0) hv_b0.cells rfl)) rfl ?_))
 obtain ⟨s1,h1a,h1b⟩ := run_seq' hr
 refine Rg.wd trivial (w_call Tryz.call141 rfl (D_call hD hp h1a (adds_le h1b hb))) rfl ?_
 rintro _ w1 ⟨hst,hp1,hb1⟩
 replace hv_b0 := var_bw hv_b0 hb1 hF_b0
 replace hbw := hbw.trans (hb1.sub hsub)
 clear hp
 have hp := hp1
 clear hp1
 refine .done ?_
 cases haq1 : (isAt [⟨#[40]⟩] (sig1 s1.rem)) with
 | true =>
  have hq2 := run_condT h1b haq1
  refine .sr (.tq (t_load ty60 rfl (Cells.get (i := 0) hv_b0.cells rfl)) rfl (Rg.wd trivial (w_buildSlice (bs124_1 _) rfl) rfl ?_))
  rintro _ w2 ⟨bt4,rfl,qt4,hx2,hvt4⟩
  replace hbw := hbw.trans (Bw.of hx2 fun z hz => hp.und z (hsub z hz))
  replace hp := hp.extw hx2
  replace hv_b0 := hv_b0.ext hx2
  obtain ⟨s2,h2a,h2b⟩ := run_seq' hq2
  obtain rfl := run_bump' h2a
  refine Rg.wd trivial (w_call Tryz.call54 rfl (acc_T hC hp (texts := [⟨#[40]⟩]) hvt4 (by decide) haq1 (adds_le h2b hb))) rfl ?_
  rintro _ w3 ⟨rfl,hp1,hb3⟩
  replace hv_b0 := var_bw hv_b0 hb3 hF_b0
  replace hbw := hbw.trans (hb3.sub hsub)
  clear hp
  have hp := hp1
  clear hp1
  refine .done (.condT rfl (Wp.region (.tq (t_load ty60 rfl (Cells.get (i := 0) hv_b0.cells rfl)) rfl (.tq (t_load ty60 rfl (Cells.get (i := 0) hv_b0.cells rfl)) rfl (.tq (t_makeFuncB (us := [.pointer (some ⟨bP,0,none⟩)]) (vs := []) rfl rfl) rfl (Rg.wd trivial (w_call Tryz.call130 rfl (D_list hC hp (clo_call Tryz.call179 hD (.pattern)) h2b hb)) rfl ?_))))))
  rintro _ w4 ⟨hp1,hb4⟩
  replace hv_b0 := var_bw hv_b0 hb4 hF_b0
  replace hbw := hbw.trans (hb4.sub hsub)
  clear hp
  have hp := hp1
  clear hp1
  refine .done ?_
  exact ⟨[],trivial,hp.sub hsub hbase,hbw⟩
 | false =>
  have hq2 := run_condF h1b haq1
  obtain rfl := run_skip' hq2
  refine .sr (.tq (t_load ty60 rfl (Cells.get (i := 0) hv_b0.cells rfl)) rfl (Rg.wd trivial (w_buildSlice (bs124_1 _) rfl) rfl ?_))
  rintro _ w2 ⟨bt4,rfl,qt4,hx2,hvt4⟩
  replace hbw := hbw.trans (Bw.of hx2 fun z hz => hp.und z (hsub z hz))
  replace hp := hp.extw hx2
  replace hv_b0 := hv_b0.ext hx2
  refine Rg.wd trivial (w_call Tryz.call54 rfl (acc_F hC hp (texts := [⟨#[40]⟩]) hvt4 (by decide) haq1)) rfl ?_
  rintro _ w3 ⟨rfl,hp1,hb3⟩
  replace hv_b0 := var_bw hv_b0 hb3 hF_b0
  replace hbw := hbw.trans (hb3.sub hsub)
  clear hp
  have hp := hp1
  clear hp1
  refine .done (.condF rfl (Wp.skip ?_))
  exact ⟨[],trivial,hp.sub hsub hbase,hbw⟩
theorem clo_180 (hC : Cx w0 tv toks) (hD : ∀ m,m < n → DN w0 tv toks m) {b0 : Nat} (hv_b0 : Var w b0 [.pointer (some ⟨bP,0,none⟩)] 60) (hF_b0 : F b0) : Clo w0 tv toks n F bP 180 [] [.pointer (some ⟨b0,0,none⟩)] w (.seq .bump (.call .arguments)) := by
 refine ⟨Tryz.call180,fun w1 hw1 below k s r hp hr hb => ?_⟩
 replace hv_b0 := var_bw hv_b0 hw1 hF_b0
 show Cl Tryz.prog 180 #[.pointer (some ⟨b0,0,none⟩)] w1 _
 have hbw := Bw.refl F w1
 have hsub : ∀ z,F z → F z := fun z h => h
 have hbase := hp.base
 refine Cl.enter Tryz.func180 rfl Tryz.ntmps180 rfl rfl (.sr (.tq (t_load ty60 rfl (Cells.get (i := 0) hv_b0.cells rfl)) rfl ?_))
 obtain ⟨s1,h1a,h1b⟩ := run_seq' hr
 refine Rg.wd trivial (w_call Tryz.call55 rfl (D_bump hC hp h1a (adds_le h1b hb))) rfl ?_
 rintro _ w1 ⟨hp1,hb1⟩
 replace hv_b0 := var_bw hv_b0 hb1 hF_b0
 replace hbw := hbw.trans (hb1.sub hsub)
 clear hp
 have hp := hp1
 clear hp1
 refine .done (Wp.region (.tq (t_load ty60 rfl (Cells.get (i := 0) hv_b0.cells rfl)) rfl (Rg.wd trivial (w_call Tryz.call181 rfl (D_call hD hp h1b hb)) rfl ?_)))
 rintro _ w2 ⟨hst,hp1,hb2⟩
 replace hv_b0 := var_bw hv_b0 hb2 hF_b0
 replace hbw := hbw.trans (hb2.sub hsub)
 clear hp
 have hp := hp1
 clear hp1
 refine .done ?_
 exact ⟨[],trivial,hp.sub hsub hbase,hbw⟩
theorem clo_182 (hC : Cx w0 tv toks) (hD : ∀ m,m < n → DN w0 tv toks m) {b0 : Nat} (hv_b0 : Var w b0 [.pointer (some ⟨bP,0,none⟩)] 60) (hF_b0 : F b0) : Clo w0 tv toks n F bP 182 [] [.pointer (some ⟨b0,0,none⟩)] w (.seq .bump (.seq Cmd.expr (Cmd.exp ⟨#[41]⟩))) := by
 refine ⟨Tryz.call182,fun w1 hw1 below k s r hp hr hb => ?_⟩
 replace hv_b0 := var_bw hv_b0 hw1 hF_b0
 show Cl Tryz.prog 182 #[.pointer (some ⟨b0,0,none⟩)] w1 _
 have hbw := Bw.refl F w1
 have hsub : ∀ z,F z → F z := fun z h => h
 have hbase := hp.base
 refine Cl.enter Tryz.func182 rfl Tryz.ntmps182 rfl rfl (.sr (.tq (t_load ty60 rfl (Cells.get (i := 0) hv_b0.cells rfl)) rfl ?_))
 obtain ⟨s1,h1a,h1b⟩ := run_seq' hr
 refine Rg.wd trivial (w_call Tryz.call55 rfl (D_bump hC hp h1a (adds_le h1b hb))) rfl ?_
 rintro _ w1 ⟨hp1,hb1⟩
 replace hv_b0 := var_bw hv_b0 hb1 hF_b0
 replace hbw := hbw.trans (hb1.sub hsub)
 clear hp
 have hp := hp1
 clear hp1
 refine .done (.sr (.tq (t_load ty60 rfl (Cells.get (i := 0) hv_b0.cells rfl)) rfl ?_))
 obtain ⟨s2,h2a,h2b⟩ := run_seq' h1b
 refine Rg.wd trivial (w_call Tryz.call112 rfl (D_expr hC hD hp h2a (adds_le h2b hb))) rfl ?_
 rintro _ w2 ⟨hp1,hb2⟩
 replace hv_b0 := var_bw hv_b0 hb2 hF_b0
 replace hbw := hbw.trans (hb2.sub hsub)
 clear hp
 have hp := hp1
 clear hp1
 refine .done (Wp.region (.tq (t_load ty60 rfl (Cells.get (i := 0) hv_b0.cells rfl)) rfl (Rg.wd trivial (w_call Tryz.call110 rfl (D_exp hC hp h2b hb)) rfl ?_)))
 rintro _ w3 ⟨hp1,hb3⟩
 replace hv_b0 := var_bw hv_b0 hb3 hF_b0
 replace hbw := hbw.trans (hb3.sub hsub)
 clear hp
 have hp := hp1
 clear hp1
 refine .done ?_
 exact ⟨[],trivial,hp.sub hsub hbase,hbw⟩
end
end Go.Proofs.YtcelfjbajdffkaaGreatDoor.Par
namespace Go.Proofs.YtcelfjbajdffkaaGreatDoor.Par
set_option maxRecDepth 20000
open Go.Gx Go.RowKit Go.Lib
open Lexi (Asc)
section
variable {w0 : World} {tv : Value} {toks : List Tok} {F : Fs} {w w' : World} {bP : Nat} {below : List (Int × List Tr)} {k : Int} {s r : S} {n : Nat}
theorem N_primary (hC : Cx w0 tv toks) (hD : ∀ m,m < n → DN w0 tv toks m) (hp : Ps w0 tv toks F w bP below k s) (hr : run body n (body .primary) s = some r) (hb : r.adds ≤ big) :
  Cl Tryz.prog 172 #[.pointer (some ⟨bP,0,none⟩)] w (fun u w' => (Nm.primary = Nm.statement → u = .bool r.flag) ∧ Ps w0 tv toks F w' bP below k r ∧ Bw F w w') := by
 have hbw := Bw.refl F w
 have hsub : ∀ z,F z → F z := fun z h => h
 have hbase := hp.base
 have hr : run body n (.cond (fun t _ _ _ => t.1 == 105) (.node 27 .bump) (.cond (fun t _ _ _ => t.1 == 106) (.node 29 .bump) (.cond (at1 [⟨#[116,114,117,101]⟩,⟨#[102,97,108,115,101]⟩]) (.node 28 .bump) (.cond ident (.seq (.call (.path false)) (.cond (fun t u _ _ => isAt [⟨#[33]⟩] t && isAt [⟨#[40]⟩] u) (.wrap 42 (.seq .bump (.call .arguments))) .skip)) (.cond (at1 [⟨#[40]⟩]) (.node 60 (.seq .bump (.seq Cmd.expr (Cmd.exp ⟨#[41]⟩)))) (.cond (at1 [⟨#[123]⟩]) (.call .block) (.cond (at1 [⟨#[105,102]⟩]) (.call .ifExpr) (.cond (at1 [⟨#[109,97,116,99,104]⟩]) (.node 35 (.call .matchE)) (.cond (at1 [⟨#[110,101,119]⟩]) (.node 33 (.call .structLit)) (.cond (at1 [⟨#[124]⟩,⟨#[124,124]⟩]) (.node 38 (.call .lambda)) (.leaf 46))))))))))) s = some r := hr
 refine Cl.enter Tryz.func172 rfl Tryz.ntmps172 rfl rfl (.sr (Rg.wd trivial (w_boxed rfl rfl) rfl ?_))
 rintro _ w1 ⟨bx172_1,rfl,qbx172_1,hx1,hv_bx172_1⟩
 replace hbw := hbw.trans (Bw.of hx1 fun z hz => hp.und z (hsub z hz))
 obtain ⟨F_bx172_1,hp1,hF_bx172_1,hs1⟩ := hp.box hx1 qbx172_1 hv_bx172_1.lt
 clear hp
 have hp := hp1
 clear hp1
 replace hsub := fun z hz => hs1 z (hsub z hz)
 refine .done (.sr (.tq (t_load ty60 rfl (Cells.get (i := 0) hv_bx172_1.cells rfl)) rfl (Rg.wd trivial (w_call Tryz.call47 rfl (hp.peek hC)) rfl ?_)))
 rintro _ w2 ⟨rfl,hx2⟩
 replace hbw := hbw.trans (Bw.of hx2 fun z hz => hp.und z (hsub z hz))
 replace hp := hp.extw hx2
 replace hv_bx172_1 := hv_bx172_1.ext hx2
 have hlo_bx172_2 := hp.ext.le
 have hlt_bx172_2_bx172_1 := hv_bx172_1.lt
 have hun_bx172_2 := fun z hz => hp.und z (hsub z hz)
 refine Rg.wd trivial (w_new Tryz.zeroValue55 rfl) rfl ?_
 rintro _ w3 ⟨bx172_2,rfl,qbx172_2,hx3,hv_bx172_2⟩
 replace hbw := hbw.trans (Bw.of hx3 fun z hz => hp.und z (hsub z hz))
 obtain ⟨F_bx172_2,hp1,hF_bx172_2,hs3⟩ := hp.box hx3 qbx172_2 hv_bx172_2.lt
 clear hp
 have hp := hp1
 clear hp1
 replace hsub := fun z hz => hs3 z (hsub z hz)
 replace hv_bx172_1 := hv_bx172_1.ext hx3
 replace hF_bx172_1 := hs3 _ hF_bx172_1
 have hn_bx172_2 : ¬ F bx172_2 := fun hh => by have := hun_bx172_2 _ hh; omega
 have hw_bx172_2 : w0.heap.size ≤ bx172_2 := by omega
 have hne_bx172_2_bx172_1 : bx172_1 ≠ bx172_2 := by omega
 refine Rg.wn trivial (w_put hv_bx172_2 rfl rfl rfl ty55 rfl rfl) ?_
 rintro _ w4 ⟨hu4,hvn⟩
 replace hbw := hbw.trans (Bw.upd hu4 hn_bx172_2)
 replace hp := hp.updF hu4 hF_bx172_2 hw_bx172_2
 clear hv_bx172_2
 have hv_bx172_2 := hvn
 clear hvn
 replace hv_bx172_1 := hv_bx172_1.upd hu4 hne_bx172_2_bx172_1
 refine .done (Wp.block ?_)
 cases haq1 : ((sig1 s.rem).1 == 105) with
 | true =>
  have hq2 := run_condT hr haq1
  refine .sr (.tq (t_fieldAddr fa55_0 rfl) rfl (.tq (t_load ty3 rfl (Cells.get (i := 0) hv_bx172_2.cells rfl)) rfl (.tq (t_eqlT rfl rfl (beq_iff_eq.1 haq1)) rfl (.as rfl rfl (.done (.condT rfl (Wp.region (.tq (t_load ty60 rfl (Cells.get (i := 0) hv_bx172_1.cells rfl)) rfl (.tq (t_load ty60 rfl (Cells.get (i := 0) hv_bx172_1.cells rfl)) rfl (.tq (t_makeFuncB (us := [.pointer (some ⟨bP,0,none⟩)]) (vs := []) rfl rfl) rfl (Rg.wd trivial (w_call Tryz.call52 rfl (D_node hp (clo_bump hC) hq2 hb)) rfl ?_)))))))))))
  rintro _ w5 ⟨hp1,hb5⟩
  replace hv_bx172_1 := var_bw hv_bx172_1 hb5 hF_bx172_1
  replace hv_bx172_2 := var_bw hv_bx172_2 hb5 hF_bx172_2
  replace hbw := hbw.trans (hb5.sub hsub)
  clear hp
  have hp := hp1
  clear hp1
  refine .done ?_
  exact ⟨[],trivial,(fun h => by cases h),hp.sub hsub hbase,hbw⟩
 | false =>
  have hq2 := run_condF hr haq1
  refine .sr (.tq (t_fieldAddr fa55_0 rfl) rfl (.tq (t_load ty3 rfl (Cells.get (i := 0) hv_bx172_2.cells rfl)) rfl ?_))
  refine .tq (t_eqlF rfl rfl (fun e => by rw [beq_iff_eq.2 e] at haq1; cases haq1)) rfl ?_
  refine .as rfl rfl (.done (.condF rfl ?_))
  cases haq3 : ((sig1 s.rem).1 == 106) with
  | true =>
   have hq4 := run_condT hq2 haq3
   refine .sr (.tq (t_fieldAddr fa55_0 rfl) rfl (.tq (t_load ty3 rfl (Cells.get (i := 0) hv_bx172_2.cells rfl)) rfl (.tq (t_eqlT rfl rfl (beq_iff_eq.1 haq3)) rfl (.as rfl rfl (.done (.condT rfl (Wp.region (.tq (t_load ty60 rfl (Cells.get (i := 0) hv_bx172_1.cells rfl)) rfl (.tq (t_load ty60 rfl (Cells.get (i := 0) hv_bx172_1.cells rfl)) rfl (.tq (t_makeFuncB (us := [.pointer (some ⟨bP,0,none⟩)]) (vs := []) rfl rfl) rfl (Rg.wd trivial (w_call Tryz.call52 rfl (D_node hp (clo_bump hC) hq4 hb)) rfl ?_)))))))))))
   rintro _ w5 ⟨hp1,hb5⟩
   replace hv_bx172_1 := var_bw hv_bx172_1 hb5 hF_bx172_1
   replace hv_bx172_2 := var_bw hv_bx172_2 hb5 hF_bx172_2
   replace hbw := hbw.trans (hb5.sub hsub)
   clear hp
   have hp := hp1
   clear hp1
   refine .done ?_
   exact ⟨[],trivial,(fun h => by cases h),hp.sub hsub hbase,hbw⟩
  | false =>
   have hq4 := run_condF hq2 haq3
   refine .sr (.tq (t_fieldAddr fa55_0 rfl) rfl (.tq (t_load ty3 rfl (Cells.get (i := 0) hv_bx172_2.cells rfl)) rfl ?_))
   refine .tq (t_eqlF rfl rfl (fun e => by rw [beq_iff_eq.2 e] at haq3; cases haq3)) rfl ?_
   refine .as rfl rfl (.done (.condF rfl ?_))
   cases haq5 : (isAt [⟨#[116,114,117,101]⟩,⟨#[102,97,108,115,101]⟩] (sig1 s.rem)) with
   | true =>
    have hq6 := run_condT hq4 haq5
    refine .sr (.tq (t_load ty60 rfl (Cells.get (i := 0) hv_bx172_1.cells rfl)) rfl (Rg.wd trivial (w_buildSlice (bs124_2 _ _) rfl) rfl ?_))
    rintro _ w5 ⟨bt25,rfl,qt25,hx5,hvt25⟩
    replace hbw := hbw.trans (Bw.of hx5 fun z hz => hp.und z (hsub z hz))
    replace hp := hp.extw hx5
    replace hv_bx172_1 := hv_bx172_1.ext hx5
    replace hv_bx172_2 := hv_bx172_2.ext hx5
    refine Rg.wd trivial (w_call Tryz.call48 rfl (at_ok hC hp (texts := [⟨#[116,114,117,101]⟩,⟨#[102,97,108,115,101]⟩]) hvt25 (by decide))) rfl ?_
    rintro _ w6 ⟨rfl,hx6⟩
    replace hbw := hbw.trans (Bw.of hx6 fun z hz => hp.und z (hsub z hz))
    replace hp := hp.extw hx6
    replace hv_bx172_1 := hv_bx172_1.ext hx6
    replace hv_bx172_2 := hv_bx172_2.ext hx6
    try replace hvt25 := hvt25.ext hx6
    rw [show (isAt [⟨#[116,114,117,101]⟩,⟨#[102,97,108,115,101]⟩] (sig1 s.rem)) = true from haq5]
    refine .as rfl rfl (.done (.condT rfl (Wp.region (.tq (t_load ty60 rfl (Cells.get (i := 0) hv_bx172_1.cells rfl)) rfl (.tq (t_load ty60 rfl (Cells.get (i := 0) hv_bx172_1.cells rfl)) rfl (.tq (t_makeFuncB (us := [.pointer (some ⟨bP,0,none⟩)]) (vs := []) rfl rfl) rfl (Rg.wd trivial (w_call Tryz.call52 rfl (D_node hp (clo_bump hC) hq6 hb)) rfl ?_)))))))
    rintro _ w7 ⟨hp1,hb7⟩
    replace hv_bx172_1 := var_bw hv_bx172_1 hb7 hF_bx172_1
    replace hv_bx172_2 := var_bw hv_bx172_2 hb7 hF_bx172_2
    replace hbw := hbw.trans (hb7.sub hsub)
    clear hp
    have hp := hp1
    clear hp1
    refine .done ?_
    exact ⟨[],trivial,(fun h => by cases h),hp.sub hsub hbase,hbw⟩
   | false =>
    have hq6 := run_condF hq4 haq5
    refine .sr (.tq (t_load ty60 rfl (Cells.get (i := 0) hv_bx172_1.cells rfl)) rfl (Rg.wd trivial (w_buildSlice (bs124_2 _ _) rfl) rfl ?_))
    rintro _ w5 ⟨bt25,rfl,qt25,hx5,hvt25⟩
    replace hbw := hbw.trans (Bw.of hx5 fun z hz => hp.und z (hsub z hz))
    replace hp := hp.extw hx5
    replace hv_bx172_1 := hv_bx172_1.ext hx5
    replace hv_bx172_2 := hv_bx172_2.ext hx5
    refine Rg.wd trivial (w_call Tryz.call48 rfl (at_ok hC hp (texts := [⟨#[116,114,117,101]⟩,⟨#[102,97,108,115,101]⟩]) hvt25 (by decide))) rfl ?_
    rintro _ w6 ⟨rfl,hx6⟩
    replace hbw := hbw.trans (Bw.of hx6 fun z hz => hp.und z (hsub z hz))
    replace hp := hp.extw hx6
    replace hv_bx172_1 := hv_bx172_1.ext hx6
    replace hv_bx172_2 := hv_bx172_2.ext hx6
    try replace hvt25 := hvt25.ext hx6
    rw [show (isAt [⟨#[116,114,117,101]⟩,⟨#[102,97,108,115,101]⟩] (sig1 s.rem)) = false from haq5]
    refine .as rfl rfl (.done (.condF rfl ?_))
    cases haq7 : ((sig1 s.rem).1 == 103) with
    | true =>
     have hq8 := run_condT hq6 haq7
     refine .sr (.tq (t_fieldAddr fa55_0 rfl) rfl (.tq (t_load ty3 rfl (Cells.get (i := 0) hv_bx172_2.cells rfl)) rfl (.tq (t_eqlT rfl rfl (beq_iff_eq.1 haq7)) rfl (.as rfl rfl (.done (.condT rfl (.sr (.tq (t_load ty60 rfl (Cells.get (i := 0) hv_bx172_1.cells rfl)) rfl ?_))))))))
     obtain ⟨s1,h1a,h1b⟩ := run_seq' hq8
     refine Rg.wd trivial (w_call Tryz.call141 rfl (D_call hD hp h1a (adds_le h1b hb))) rfl ?_
     rintro _ w7 ⟨hst,hp1,hb7⟩
     replace hv_bx172_1 := var_bw hv_bx172_1 hb7 hF_bx172_1
     replace hv_bx172_2 := var_bw hv_bx172_2 hb7 hF_bx172_2
     replace hbw := hbw.trans (hb7.sub hsub)
     clear hp
     have hp := hp1
     clear hp1
     refine .done ?_
     cases haq9 : (isAt [⟨#[33]⟩] (sig1 s1.rem)) with
     | true =>
      cases haq10 : (isAt [⟨#[40]⟩] (sig1 (left s1.rem))) with
      | true =>
       have hq11 := run_condT h1b (show S.test _ _ = true by simp only [S.test,at1,ident,bne,haq9,haq10]; (try rfl))
       refine .sr (.tq (t_load ty60 rfl (Cells.get (i := 0) hv_bx172_1.cells rfl)) rfl (Rg.wd trivial (w_buildSlice (bs124_1 _) rfl) rfl ?_))
       rintro _ w8 ⟨bt38,rfl,qt38,hx8,hvt38⟩
       replace hbw := hbw.trans (Bw.of hx8 fun z hz => hp.und z (hsub z hz))
       replace hp := hp.extw hx8
       replace hv_bx172_1 := hv_bx172_1.ext hx8
       replace hv_bx172_2 := hv_bx172_2.ext hx8
       refine Rg.wd trivial (w_call Tryz.call48 rfl (at_ok hC hp (texts := [⟨#[33]⟩]) hvt38 (by decide))) rfl ?_
       rintro _ w9 ⟨rfl,hx9⟩
       replace hbw := hbw.trans (Bw.of hx9 fun z hz => hp.und z (hsub z hz))
       replace hp := hp.extw hx9
       replace hv_bx172_1 := hv_bx172_1.ext hx9
       replace hv_bx172_2 := hv_bx172_2.ext hx9
       try replace hvt38 := hvt38.ext hx9
       rw [show (isAt [⟨#[33]⟩] (sig1 s1.rem)) = true from haq9]
       refine .mv rfl rfl (.gd (t_load ty60 rfl (Cells.get (i := 0) hv_bx172_1.cells rfl)) rfl (Rg.wd ⟨_,rfl,rfl⟩ (w_call Tryz.call49 rfl (lookahead_ok hC hp)) rfl ?_))
       rintro _ w10 ⟨bk42,rfl,hk42,hx10⟩
       replace hbw := hbw.trans (Bw.of hx10 fun z hz => hp.und z (hsub z hz))
       replace hp := hp.extw hx10
       replace hv_bx172_1 := hv_bx172_1.ext hx10
       replace hv_bx172_2 := hv_bx172_2.ext hx10
       try replace hvt38 := hvt38.ext hx10
       refine Rg.wd ⟨_,rfl,rfl⟩ (w_buildSlice (bs124_1 _) rfl) rfl ?_
       rintro _ w11 ⟨bt43,rfl,qt43,hx11,hvt43⟩
       replace hbw := hbw.trans (Bw.of hx11 fun z hz => hp.und z (hsub z hz))
       replace hp := hp.extw hx11
       replace hv_bx172_1 := hv_bx172_1.ext hx11
       replace hv_bx172_2 := hv_bx172_2.ext hx11
       try replace hvt38 := hvt38.ext hx11
       try replace hk42 := hk42.extw hx11
       refine Rg.wd ⟨_,rfl,rfl⟩ (w_call Tryz.call48 rfl (at_ok hC hk42 (texts := [⟨#[40]⟩]) hvt43 (by decide))) rfl ?_
       rintro _ w12 ⟨rfl,hx12⟩
       replace hbw := hbw.trans (Bw.of hx12 fun z hz => hp.und z (hsub z hz))
       replace hp := hp.extw hx12
       replace hv_bx172_1 := hv_bx172_1.ext hx12
       replace hv_bx172_2 := hv_bx172_2.ext hx12
       try replace hvt38 := hvt38.ext hx12
       try replace hvt43 := hvt43.ext hx12
       try replace hk42 := hk42.extw hx12
       rw [show (isAt [⟨#[40]⟩] (sig1 s1.look.rem)) = true from haq10]
       refine .tq (t_pickT rfl rfl) rfl (.done (.condT rfl (Wp.region (.tq (t_load ty60 rfl (Cells.get (i := 0) hv_bx172_1.cells rfl)) rfl (.tq (t_makeFuncB (us := []) (vs := [.pointer (some ⟨bx172_1,0,none⟩)]) rfl rfl) rfl (Rg.wd trivial (w_call Tryz.call163 rfl (D_wrap hp (clo_180 hC hD hv_bx172_1 hF_bx172_1) hq11 hb)) rfl ?_))))))
       rintro _ w13 ⟨hp1,hb13⟩
       replace hv_bx172_1 := var_bw hv_bx172_1 hb13 hF_bx172_1
       replace hv_bx172_2 := var_bw hv_bx172_2 hb13 hF_bx172_2
       replace hbw := hbw.trans (hb13.sub hsub)
       clear hp
       have hp := hp1
       clear hp1
       refine .done ?_
       exact ⟨[],trivial,(fun h => by cases h),hp.sub hsub hbase,hbw⟩
      | false =>
       have hq11 := run_condF h1b (show S.test _ _ = false by simp only [S.test,at1,ident,bne,haq9,haq10]; (try rfl))
       obtain rfl := run_skip' hq11
       refine .sr (.tq (t_load ty60 rfl (Cells.get (i := 0) hv_bx172_1.cells rfl)) rfl (Rg.wd trivial (w_buildSlice (bs124_1 _) rfl) rfl ?_))
       rintro _ w8 ⟨bt38,rfl,qt38,hx8,hvt38⟩
       replace hbw := hbw.trans (Bw.of hx8 fun z hz => hp.und z (hsub z hz))
       replace hp := hp.extw hx8
       replace hv_bx172_1 := hv_bx172_1.ext hx8
       replace hv_bx172_2 := hv_bx172_2.ext hx8
       refine Rg.wd trivial (w_call Tryz.call48 rfl (at_ok hC hp (texts := [⟨#[33]⟩]) hvt38 (by decide))) rfl ?_
       rintro _ w9 ⟨rfl,hx9⟩
       replace hbw := hbw.trans (Bw.of hx9 fun z hz => hp.und z (hsub z hz))
       replace hp := hp.extw hx9
       replace hv_bx172_1 := hv_bx172_1.ext hx9
       replace hv_bx172_2 := hv_bx172_2.ext hx9
       try replace hvt38 := hvt38.ext hx9
       rw [show (isAt [⟨#[33]⟩] (sig1 r.rem)) = true from haq9]
       refine .mv rfl rfl (.gd (t_load ty60 rfl (Cells.get (i := 0) hv_bx172_1.cells rfl)) rfl (Rg.wd ⟨_,rfl,rfl⟩ (w_call Tryz.call49 rfl (lookahead_ok hC hp)) rfl ?_))
       rintro _ w10 ⟨bk42,rfl,hk42,hx10⟩
       replace hbw := hbw.trans (Bw.of hx10 fun z hz => hp.und z (hsub z hz))
       replace hp := hp.extw hx10
       replace hv_bx172_1 := hv_bx172_1.ext hx10
       replace hv_bx172_2 := hv_bx172_2.ext hx10
       try replace hvt38 := hvt38.ext hx10
       refine Rg.wd ⟨_,rfl,rfl⟩ (w_buildSlice (bs124_1 _) rfl) rfl ?_
       rintro _ w11 ⟨bt43,rfl,qt43,hx11,hvt43⟩
       replace hbw := hbw.trans (Bw.of hx11 fun z hz => hp.und z (hsub z hz))
       replace hp := hp.extw hx11
       replace hv_bx172_1 := hv_bx172_1.ext hx11
       replace hv_bx172_2 := hv_bx172_2.ext hx11
       try replace hvt38 := hvt38.ext hx11
       try replace hk42 := hk42.extw hx11
       refine Rg.wd ⟨_,rfl,rfl⟩ (w_call Tryz.call48 rfl (at_ok hC hk42 (texts := [⟨#[40]⟩]) hvt43 (by decide))) rfl ?_
       rintro _ w12 ⟨rfl,hx12⟩
       replace hbw := hbw.trans (Bw.of hx12 fun z hz => hp.und z (hsub z hz))
       replace hp := hp.extw hx12
       replace hv_bx172_1 := hv_bx172_1.ext hx12
       replace hv_bx172_2 := hv_bx172_2.ext hx12
       try replace hvt38 := hvt38.ext hx12
       try replace hvt43 := hvt43.ext hx12
       try replace hk42 := hk42.extw hx12
       rw [show (isAt [⟨#[40]⟩] (sig1 r.look.rem)) = false from haq10]
       refine .tq (t_pickT rfl rfl) rfl (.done (.condF rfl (Wp.skip ?_)))
       exact ⟨[],trivial,(fun h => by cases h),hp.sub hsub hbase,hbw⟩
     | false =>
      have hq10 := run_condF h1b (show S.test _ _ = false by simp only [S.test,at1,ident,bne,haq9]; (try rfl))
      obtain rfl := run_skip' hq10
      refine .sr (.tq (t_load ty60 rfl (Cells.get (i := 0) hv_bx172_1.cells rfl)) rfl (Rg.wd trivial (w_buildSlice (bs124_1 _) rfl) rfl ?_))
      rintro _ w8 ⟨bt38,rfl,qt38,hx8,hvt38⟩
      replace hbw := hbw.trans (Bw.of hx8 fun z hz => hp.und z (hsub z hz))
      replace hp := hp.extw hx8
      replace hv_bx172_1 := hv_bx172_1.ext hx8
      replace hv_bx172_2 := hv_bx172_2.ext hx8
      refine Rg.wd trivial (w_call Tryz.call48 rfl (at_ok hC hp (texts := [⟨#[33]⟩]) hvt38 (by decide))) rfl ?_
      rintro _ w9 ⟨rfl,hx9⟩
      replace hbw := hbw.trans (Bw.of hx9 fun z hz => hp.und z (hsub z hz))
      replace hp := hp.extw hx9
      replace hv_bx172_1 := hv_bx172_1.ext hx9
      replace hv_bx172_2 := hv_bx172_2.ext hx9
      try replace hvt38 := hvt38.ext hx9
      rw [show (isAt [⟨#[33]⟩] (sig1 r.rem)) = false from haq9]
      refine .mv rfl rfl (.so rfl rfl (.so rfl rfl (.so rfl rfl (.so rfl rfl (.tq (t_pickF rfl rfl) rfl (.done (.condF rfl (Wp.skip ?_))))))))
      exact ⟨[],trivial,(fun h => by cases h),hp.sub hsub hbase,hbw⟩
    | false =>
     have hq8 := run_condF hq6 haq7
     refine .sr (.tq (t_fieldAddr fa55_0 rfl) rfl (.tq (t_load ty3 rfl (Cells.get (i := 0) hv_bx172_2.cells rfl)) rfl ?_))
     refine .tq (t_eqlF rfl rfl (fun e => by rw [beq_iff_eq.2 e] at haq7; cases haq7)) rfl ?_
     refine .as rfl rfl (.done (.condF rfl ?_))
     cases haq9 : (isAt [⟨#[40]⟩] (sig1 s.rem)) with
     | true =>
      have hq10 := run_condT hq8 haq9
      refine .sr (.tq (t_load ty60 rfl (Cells.get (i := 0) hv_bx172_1.cells rfl)) rfl (Rg.wd trivial (w_buildSlice (bs124_1 _) rfl) rfl ?_))
      rintro _ w7 ⟨bt51,rfl,qt51,hx7,hvt51⟩
      replace hbw := hbw.trans (Bw.of hx7 fun z hz => hp.und z (hsub z hz))
      replace hp := hp.extw hx7
      replace hv_bx172_1 := hv_bx172_1.ext hx7
      replace hv_bx172_2 := hv_bx172_2.ext hx7
      try replace hvt25 := hvt25.ext hx7
      refine Rg.wd trivial (w_call Tryz.call48 rfl (at_ok hC hp (texts := [⟨#[40]⟩]) hvt51 (by decide))) rfl ?_
      rintro _ w8 ⟨rfl,hx8⟩
      replace hbw := hbw.trans (Bw.of hx8 fun z hz => hp.und z (hsub z hz))
      replace hp := hp.extw hx8
      replace hv_bx172_1 := hv_bx172_1.ext hx8
      replace hv_bx172_2 := hv_bx172_2.ext hx8
      try replace hvt25 := hvt25.ext hx8
      try replace hvt51 := hvt51.ext hx8
      rw [show (isAt [⟨#[40]⟩] (sig1 s.rem)) = true from haq9]
      refine .as rfl rfl (.done (.condT rfl (Wp.region (.tq (t_load ty60 rfl (Cells.get (i := 0) hv_bx172_1.cells rfl)) rfl (.tq (t_makeFuncB (us := []) (vs := [.pointer (some ⟨bx172_1,0,none⟩)]) rfl rfl) rfl (Rg.wd trivial (w_call Tryz.call52 rfl (D_node hp (clo_182 hC hD hv_bx172_1 hF_bx172_1) hq10 hb)) rfl ?_))))))
      rintro _ w9 ⟨hp1,hb9⟩
      replace hv_bx172_1 := var_bw hv_bx172_1 hb9 hF_bx172_1
      replace hv_bx172_2 := var_bw hv_bx172_2 hb9 hF_bx172_2
      replace hbw := hbw.trans (hb9.sub hsub)
      clear hp
      have hp := hp1
      clear hp1
      refine .done ?_
      exact ⟨[],trivial,(fun h => by cases h),hp.sub hsub hbase,hbw⟩
     | false =>
      have hq10 := run_condF hq8 haq9
      refine .sr (.tq (t_load ty60 rfl (Cells.get (i := 0) hv_bx172_1.cells rfl)) rfl (Rg.wd trivial (w_buildSlice (bs124_1 _) rfl) rfl ?_))
      rintro _ w7 ⟨bt51,rfl,qt51,hx7,hvt51⟩
      replace hbw := hbw.trans (Bw.of hx7 fun z hz => hp.und z (hsub z hz))
      replace hp := hp.extw hx7
      replace hv_bx172_1 := hv_bx172_1.ext hx7
      replace hv_bx172_2 := hv_bx172_2.ext hx7
      try replace hvt25 := hvt25.ext hx7
      refine Rg.wd trivial (w_call Tryz.call48 rfl (at_ok hC hp (texts := [⟨#[40]⟩]) hvt51 (by decide))) rfl ?_
      rintro _ w8 ⟨rfl,hx8⟩
      replace hbw := hbw.trans (Bw.of hx8 fun z hz => hp.und z (hsub z hz))
      replace hp := hp.extw hx8
      replace hv_bx172_1 := hv_bx172_1.ext hx8
      replace hv_bx172_2 := hv_bx172_2.ext hx8
      try replace hvt25 := hvt25.ext hx8
      try replace hvt51 := hvt51.ext hx8
      rw [show (isAt [⟨#[40]⟩] (sig1 s.rem)) = false from haq9]
      refine .as rfl rfl (.done (.condF rfl ?_))
      cases haq11 : (isAt [⟨#[123]⟩] (sig1 s.rem)) with
      | true =>
       have hq12 := run_condT hq10 haq11
       refine .sr (.tq (t_load ty60 rfl (Cells.get (i := 0) hv_bx172_1.cells rfl)) rfl (Rg.wd trivial (w_buildSlice (bs124_1 _) rfl) rfl ?_))
       rintro _ w9 ⟨bt58,rfl,qt58,hx9,hvt58⟩
       replace hbw := hbw.trans (Bw.of hx9 fun z hz => hp.und z (hsub z hz))
       replace hp := hp.extw hx9
       replace hv_bx172_1 := hv_bx172_1.ext hx9
       replace hv_bx172_2 := hv_bx172_2.ext hx9
       try replace hvt25 := hvt25.ext hx9
       try replace hvt51 := hvt51.ext hx9
       refine Rg.wd trivial (w_call Tryz.call48 rfl (at_ok hC hp (texts := [⟨#[123]⟩]) hvt58 (by decide))) rfl ?_
       rintro _ w10 ⟨rfl,hx10⟩
       replace hbw := hbw.trans (Bw.of hx10 fun z hz => hp.und z (hsub z hz))
       replace hp := hp.extw hx10
       replace hv_bx172_1 := hv_bx172_1.ext hx10
       replace hv_bx172_2 := hv_bx172_2.ext hx10
       try replace hvt25 := hvt25.ext hx10
       try replace hvt51 := hvt51.ext hx10
       try replace hvt58 := hvt58.ext hx10
       rw [show (isAt [⟨#[123]⟩] (sig1 s.rem)) = true from haq11]
       refine .as rfl rfl (.done (.condT rfl (Wp.region (.tq (t_load ty60 rfl (Cells.get (i := 0) hv_bx172_1.cells rfl)) rfl (Rg.wd trivial (w_call Tryz.call129 rfl (D_call hD hp hq12 hb)) rfl ?_)))))
       rintro _ w11 ⟨hst,hp1,hb11⟩
       replace hv_bx172_1 := var_bw hv_bx172_1 hb11 hF_bx172_1
       replace hv_bx172_2 := var_bw hv_bx172_2 hb11 hF_bx172_2
       replace hbw := hbw.trans (hb11.sub hsub)
       clear hp
       have hp := hp1
       clear hp1
       refine .done ?_
       exact ⟨[],trivial,(fun h => by cases h),hp.sub hsub hbase,hbw⟩
      | false =>
       have hq12 := run_condF hq10 haq11
       refine .sr (.tq (t_load ty60 rfl (Cells.get (i := 0) hv_bx172_1.cells rfl)) rfl (Rg.wd trivial (w_buildSlice (bs124_1 _) rfl) rfl ?_))
       rintro _ w9 ⟨bt58,rfl,qt58,hx9,hvt58⟩
       replace hbw := hbw.trans (Bw.of hx9 fun z hz => hp.und z (hsub z hz))
       replace hp := hp.extw hx9
       replace hv_bx172_1 := hv_bx172_1.ext hx9
       replace hv_bx172_2 := hv_bx172_2.ext hx9
       try replace hvt25 := hvt25.ext hx9
       try replace hvt51 := hvt51.ext hx9
       refine Rg.wd trivial (w_call Tryz.call48 rfl (at_ok hC hp (texts := [⟨#[123]⟩]) hvt58 (by decide))) rfl ?_
       rintro _ w10 ⟨rfl,hx10⟩
       replace hbw := hbw.trans (Bw.of hx10 fun z hz => hp.und z (hsub z hz))
       replace hp := hp.extw hx10
       replace hv_bx172_1 := hv_bx172_1.ext hx10
       replace hv_bx172_2 := hv_bx172_2.ext hx10
       try replace hvt25 := hvt25.ext hx10
       try replace hvt51 := hvt51.ext hx10
       try replace hvt58 := hvt58.ext hx10
       rw [show (isAt [⟨#[123]⟩] (sig1 s.rem)) = false from haq11]
       refine .as rfl rfl (.done (.condF rfl ?_))
       cases haq13 : (isAt [⟨#[105,102]⟩] (sig1 s.rem)) with
       | true =>
        have hq14 := run_condT hq12 haq13
        refine .sr (.tq (t_load ty60 rfl (Cells.get (i := 0) hv_bx172_1.cells rfl)) rfl (Rg.wd trivial (w_buildSlice (bs124_1 _) rfl) rfl ?_))
        rintro _ w11 ⟨bt64,rfl,qt64,hx11,hvt64⟩
        replace hbw := hbw.trans (Bw.of hx11 fun z hz => hp.und z (hsub z hz))
        replace hp := hp.extw hx11
        replace hv_bx172_1 := hv_bx172_1.ext hx11
        replace hv_bx172_2 := hv_bx172_2.ext hx11
        try replace hvt25 := hvt25.ext hx11
        try replace hvt51 := hvt51.ext hx11
        try replace hvt58 := hvt58.ext hx11
        refine Rg.wd trivial (w_call Tryz.call48 rfl (at_ok hC hp (texts := [⟨#[105,102]⟩]) hvt64 (by decide))) rfl ?_
        rintro _ w12 ⟨rfl,hx12⟩
        replace hbw := hbw.trans (Bw.of hx12 fun z hz => hp.und z (hsub z hz))
        replace hp := hp.extw hx12
        replace hv_bx172_1 := hv_bx172_1.ext hx12
        replace hv_bx172_2 := hv_bx172_2.ext hx12
        try replace hvt25 := hvt25.ext hx12
        try replace hvt51 := hvt51.ext hx12
        try replace hvt58 := hvt58.ext hx12
        try replace hvt64 := hvt64.ext hx12
        rw [show (isAt [⟨#[105,102]⟩] (sig1 s.rem)) = true from haq13]
        refine .as rfl rfl (.done (.condT rfl (Wp.region (.tq (t_load ty60 rfl (Cells.get (i := 0) hv_bx172_1.cells rfl)) rfl (Rg.wd trivial (w_call Tryz.call183 rfl (D_call hD hp hq14 hb)) rfl ?_)))))
        rintro _ w13 ⟨hst,hp1,hb13⟩
        replace hv_bx172_1 := var_bw hv_bx172_1 hb13 hF_bx172_1
        replace hv_bx172_2 := var_bw hv_bx172_2 hb13 hF_bx172_2
        replace hbw := hbw.trans (hb13.sub hsub)
        clear hp
        have hp := hp1
        clear hp1
        refine .done ?_
        exact ⟨[],trivial,(fun h => by cases h),hp.sub hsub hbase,hbw⟩
       | false =>
        have hq14 := run_condF hq12 haq13
        refine .sr (.tq (t_load ty60 rfl (Cells.get (i := 0) hv_bx172_1.cells rfl)) rfl (Rg.wd trivial (w_buildSlice (bs124_1 _) rfl) rfl ?_))
        rintro _ w11 ⟨bt64,rfl,qt64,hx11,hvt64⟩
        replace hbw := hbw.trans (Bw.of hx11 fun z hz => hp.und z (hsub z hz))
        replace hp := hp.extw hx11
        replace hv_bx172_1 := hv_bx172_1.ext hx11
        replace hv_bx172_2 := hv_bx172_2.ext hx11
        try replace hvt25 := hvt25.ext hx11
        try replace hvt51 := hvt51.ext hx11
        try replace hvt58 := hvt58.ext hx11
        refine Rg.wd trivial (w_call Tryz.call48 rfl (at_ok hC hp (texts := [⟨#[105,102]⟩]) hvt64 (by decide))) rfl ?_
        rintro _ w12 ⟨rfl,hx12⟩
        replace hbw := hbw.trans (Bw.of hx12 fun z hz => hp.und z (hsub z hz))
        replace hp := hp.extw hx12
        replace hv_bx172_1 := hv_bx172_1.ext hx12
        replace hv_bx172_2 := hv_bx172_2.ext hx12
        try replace hvt25 := hvt25.ext hx12
        try replace hvt51 := hvt51.ext hx12
        try replace hvt58 := hvt58.ext hx12
        try replace hvt64 := hvt64.ext hx12
        rw [show (isAt [⟨#[105,102]⟩] (sig1 s.rem)) = false from haq13]
        refine .as rfl rfl (.done (.condF rfl ?_))
        cases haq15 : (isAt [⟨#[109,97,116,99,104]⟩] (sig1 s.rem)) with
        | true =>
         have hq16 := run_condT hq14 haq15
         refine .sr (.tq (t_load ty60 rfl (Cells.get (i := 0) hv_bx172_1.cells rfl)) rfl (Rg.wd trivial (w_buildSlice (bs124_1 _) rfl) rfl ?_))
         rintro _ w13 ⟨bt70,rfl,qt70,hx13,hvt70⟩
         replace hbw := hbw.trans (Bw.of hx13 fun z hz => hp.und z (hsub z hz))
         replace hp := hp.extw hx13
         replace hv_bx172_1 := hv_bx172_1.ext hx13
         replace hv_bx172_2 := hv_bx172_2.ext hx13
         try replace hvt25 := hvt25.ext hx13
         try replace hvt51 := hvt51.ext hx13
         try replace hvt58 := hvt58.ext hx13
         try replace hvt64 := hvt64.ext hx13
         refine Rg.wd trivial (w_call Tryz.call48 rfl (at_ok hC hp (texts := [⟨#[109,97,116,99,104]⟩]) hvt70 (by decide))) rfl ?_
         rintro _ w14 ⟨rfl,hx14⟩
         replace hbw := hbw.trans (Bw.of hx14 fun z hz => hp.und z (hsub z hz))
         replace hp := hp.extw hx14
         replace hv_bx172_1 := hv_bx172_1.ext hx14
         replace hv_bx172_2 := hv_bx172_2.ext hx14
         try replace hvt25 := hvt25.ext hx14
         try replace hvt51 := hvt51.ext hx14
         try replace hvt58 := hvt58.ext hx14
         try replace hvt64 := hvt64.ext hx14
         try replace hvt70 := hvt70.ext hx14
         rw [show (isAt [⟨#[109,97,116,99,104]⟩] (sig1 s.rem)) = true from haq15]
         refine .as rfl rfl (.done (.condT rfl (Wp.region (.tq (t_load ty60 rfl (Cells.get (i := 0) hv_bx172_1.cells rfl)) rfl (.tq (t_load ty60 rfl (Cells.get (i := 0) hv_bx172_1.cells rfl)) rfl (.tq (t_makeFuncB (us := [.pointer (some ⟨bP,0,none⟩)]) (vs := []) rfl rfl) rfl (Rg.wd trivial (w_call Tryz.call52 rfl (D_node hp (clo_call Tryz.call184 hD (.matchE)) hq16 hb)) rfl ?_)))))))
         rintro _ w15 ⟨hp1,hb15⟩
         replace hv_bx172_1 := var_bw hv_bx172_1 hb15 hF_bx172_1
         replace hv_bx172_2 := var_bw hv_bx172_2 hb15 hF_bx172_2
         replace hbw := hbw.trans (hb15.sub hsub)
         clear hp
         have hp := hp1
         clear hp1
         refine .done ?_
         exact ⟨[],trivial,(fun h => by cases h),hp.sub hsub hbase,hbw⟩
        | false =>
         have hq16 := run_condF hq14 haq15
         refine .sr (.tq (t_load ty60 rfl (Cells.get (i := 0) hv_bx172_1.cells rfl)) rfl (Rg.wd trivial (w_buildSlice (bs124_1 _) rfl) rfl ?_))
         rintro _ w13 ⟨bt70,rfl,qt70,hx13,hvt70⟩
         replace hbw := hbw.trans (Bw.of hx13 fun z hz => hp.und z (hsub z hz))
         replace hp := hp.extw hx13
         replace hv_bx172_1 := hv_bx172_1.ext hx13
         replace hv_bx172_2 := hv_bx172_2.ext hx13
         try replace hvt25 := hvt25.ext hx13
         try replace hvt51 := hvt51.ext hx13
         try replace hvt58 := hvt58.ext hx13
         try replace hvt64 := hvt64.ext hx13
         refine Rg.wd trivial (w_call Tryz.call48 rfl (at_ok hC hp (texts := [⟨#[109,97,116,99,104]⟩]) hvt70 (by decide))) rfl ?_
         rintro _ w14 ⟨rfl,hx14⟩
         replace hbw := hbw.trans (Bw.of hx14 fun z hz => hp.und z (hsub z hz))
         replace hp := hp.extw hx14
         replace hv_bx172_1 := hv_bx172_1.ext hx14
         replace hv_bx172_2 := hv_bx172_2.ext hx14
         try replace hvt25 := hvt25.ext hx14
         try replace hvt51 := hvt51.ext hx14
         try replace hvt58 := hvt58.ext hx14
         try replace hvt64 := hvt64.ext hx14
         try replace hvt70 := hvt70.ext hx14
         rw [show (isAt [⟨#[109,97,116,99,104]⟩] (sig1 s.rem)) = false from haq15]
         refine .as rfl rfl (.done (.condF rfl ?_))
         cases haq17 : (isAt [⟨#[110,101,119]⟩] (sig1 s.rem)) with
         | true =>
          have hq18 := run_condT hq16 haq17
          refine .sr (.tq (t_load ty60 rfl (Cells.get (i := 0) hv_bx172_1.cells rfl)) rfl (Rg.wd trivial (w_buildSlice (bs124_1 _) rfl) rfl ?_))
          rintro _ w15 ⟨bt78,rfl,qt78,hx15,hvt78⟩
          replace hbw := hbw.trans (Bw.of hx15 fun z hz => hp.und z (hsub z hz))
          replace hp := hp.extw hx15
          replace hv_bx172_1 := hv_bx172_1.ext hx15
          replace hv_bx172_2 := hv_bx172_2.ext hx15
          try replace hvt25 := hvt25.ext hx15
          try replace hvt51 := hvt51.ext hx15
          try replace hvt58 := hvt58.ext hx15
          try replace hvt64 := hvt64.ext hx15
          try replace hvt70 := hvt70.ext hx15
          refine Rg.wd trivial (w_call Tryz.call48 rfl (at_ok hC hp (texts := [⟨#[110,101,119]⟩]) hvt78 (by decide))) rfl ?_
          rintro _ w16 ⟨rfl,hx16⟩
          replace hbw := hbw.trans (Bw.of hx16 fun z hz => hp.und z (hsub z hz))
          replace hp := hp.extw hx16
          replace hv_bx172_1 := hv_bx172_1.ext hx16
          replace hv_bx172_2 := hv_bx172_2.ext hx16
          try replace hvt25 := hvt25.ext hx16
          try replace hvt51 := hvt51.ext hx16
          try replace hvt58 := hvt58.ext hx16
          try replace hvt64 := hvt64.ext hx16
          try replace hvt70 := hvt70.ext hx16
          try replace hvt78 := hvt78.ext hx16
          rw [show (isAt [⟨#[110,101,119]⟩] (sig1 s.rem)) = true from haq17]
          refine .as rfl rfl (.done (.condT rfl (Wp.region (.tq (t_load ty60 rfl (Cells.get (i := 0) hv_bx172_1.cells rfl)) rfl (.tq (t_load ty60 rfl (Cells.get (i := 0) hv_bx172_1.cells rfl)) rfl (.tq (t_makeFuncB (us := [.pointer (some ⟨bP,0,none⟩)]) (vs := []) rfl rfl) rfl (Rg.wd trivial (w_call Tryz.call52 rfl (D_node hp (clo_call Tryz.call185 hD (.structLit)) hq18 hb)) rfl ?_)))))))
          rintro _ w17 ⟨hp1,hb17⟩
          replace hv_bx172_1 := var_bw hv_bx172_1 hb17 hF_bx172_1
          replace hv_bx172_2 := var_bw hv_bx172_2 hb17 hF_bx172_2
          replace hbw := hbw.trans (hb17.sub hsub)
          clear hp
          have hp := hp1
          clear hp1
          refine .done ?_
          exact ⟨[],trivial,(fun h => by cases h),hp.sub hsub hbase,hbw⟩
         | false =>
          have hq18 := run_condF hq16 haq17
          refine .sr (.tq (t_load ty60 rfl (Cells.get (i := 0) hv_bx172_1.cells rfl)) rfl (Rg.wd trivial (w_buildSlice (bs124_1 _) rfl) rfl ?_))
          rintro _ w15 ⟨bt78,rfl,qt78,hx15,hvt78⟩
          replace hbw := hbw.trans (Bw.of hx15 fun z hz => hp.und z (hsub z hz))
          replace hp := hp.extw hx15
          replace hv_bx172_1 := hv_bx172_1.ext hx15
          replace hv_bx172_2 := hv_bx172_2.ext hx15
          try replace hvt25 := hvt25.ext hx15
          try replace hvt51 := hvt51.ext hx15
          try replace hvt58 := hvt58.ext hx15
          try replace hvt64 := hvt64.ext hx15
          try replace hvt70 := hvt70.ext hx15
          refine Rg.wd trivial (w_call Tryz.call48 rfl (at_ok hC hp (texts := [⟨#[110,101,119]⟩]) hvt78 (by decide))) rfl ?_
          rintro _ w16 ⟨rfl,hx16⟩
          replace hbw := hbw.trans (Bw.of hx16 fun z hz => hp.und z (hsub z hz))
          replace hp := hp.extw hx16
          replace hv_bx172_1 := hv_bx172_1.ext hx16
          replace hv_bx172_2 := hv_bx172_2.ext hx16
          try replace hvt25 := hvt25.ext hx16
          try replace hvt51 := hvt51.ext hx16
          try replace hvt58 := hvt58.ext hx16
          try replace hvt64 := hvt64.ext hx16
          try replace hvt70 := hvt70.ext hx16
          try replace hvt78 := hvt78.ext hx16
          rw [show (isAt [⟨#[110,101,119]⟩] (sig1 s.rem)) = false from haq17]
          refine .as rfl rfl (.done (.condF rfl ?_))
          cases haq19 : (isAt [⟨#[124]⟩,⟨#[124,124]⟩] (sig1 s.rem)) with
          | true =>
           have hq20 := run_condT hq18 haq19
           refine .sr (.tq (t_load ty60 rfl (Cells.get (i := 0) hv_bx172_1.cells rfl)) rfl (Rg.wd trivial (w_buildSlice (bs124_2 _ _) rfl) rfl ?_))
           rintro _ w17 ⟨bt86,rfl,qt86,hx17,hvt86⟩
           replace hbw := hbw.trans (Bw.of hx17 fun z hz => hp.und z (hsub z hz))
           replace hp := hp.extw hx17
           replace hv_bx172_1 := hv_bx172_1.ext hx17
           replace hv_bx172_2 := hv_bx172_2.ext hx17
           try replace hvt25 := hvt25.ext hx17
           try replace hvt51 := hvt51.ext hx17
           try replace hvt58 := hvt58.ext hx17
           try replace hvt64 := hvt64.ext hx17
           try replace hvt70 := hvt70.ext hx17
           try replace hvt78 := hvt78.ext hx17
           refine Rg.wd trivial (w_call Tryz.call48 rfl (at_ok hC hp (texts := [⟨#[124]⟩,⟨#[124,124]⟩]) hvt86 (by decide))) rfl ?_
           rintro _ w18 ⟨rfl,hx18⟩
           replace hbw := hbw.trans (Bw.of hx18 fun z hz => hp.und z (hsub z hz))
           replace hp := hp.extw hx18
           replace hv_bx172_1 := hv_bx172_1.ext hx18
           replace hv_bx172_2 := hv_bx172_2.ext hx18
           try replace hvt25 := hvt25.ext hx18
           try replace hvt51 := hvt51.ext hx18
           try replace hvt58 := hvt58.ext hx18
           try replace hvt64 := hvt64.ext hx18
           try replace hvt70 := hvt70.ext hx18
           try replace hvt78 := hvt78.ext hx18
           try replace hvt86 := hvt86.ext hx18
           rw [show (isAt [⟨#[124]⟩,⟨#[124,124]⟩] (sig1 s.rem)) = true from haq19]
           refine .as rfl rfl (.done (.condT rfl (Wp.region (.tq (t_load ty60 rfl (Cells.get (i := 0) hv_bx172_1.cells rfl)) rfl (.tq (t_load ty60 rfl (Cells.get (i := 0) hv_bx172_1.cells rfl)) rfl (.tq (t_makeFuncB (us := [.pointer (some ⟨bP,0,none⟩)]) (vs := []) rfl rfl) rfl (Rg.wd trivial (w_call Tryz.call52 rfl (D_node hp (clo_call Tryz.call186 hD (.lambda)) hq20 hb)) rfl ?_)))))))
           rintro _ w19 ⟨hp1,hb19⟩
           replace hv_bx172_1 := var_bw hv_bx172_1 hb19 hF_bx172_1
           replace hv_bx172_2 := var_bw hv_bx172_2 hb19 hF_bx172_2
           replace hbw := hbw.trans (hb19.sub hsub)
           clear hp
           have hp := hp1
           clear hp1
           refine .done ?_
           exact ⟨[],trivial,(fun h => by cases h),hp.sub hsub hbase,hbw⟩
          | false =>
           have hq20 := run_condF hq18 haq19
           refine .sr (.tq (t_load ty60 rfl (Cells.get (i := 0) hv_bx172_1.cells rfl)) rfl (Rg.wd trivial (w_buildSlice (bs124_2 _ _) rfl) rfl ?_))
           rintro _ w17 ⟨bt86,rfl,qt86,hx17,hvt86⟩
           replace hbw := hbw.trans (Bw.of hx17 fun z hz => hp.und z (hsub z hz))
           replace hp := hp.extw hx17
           replace hv_bx172_1 := hv_bx172_1.ext hx17
           replace hv_bx172_2 := hv_bx172_2.ext hx17
           try replace hvt25 := hvt25.ext hx17
           try replace hvt51 := hvt51.ext hx17
           try replace hvt58 := hvt58.ext hx17
           try replace hvt64 := hvt64.ext hx17
           try replace hvt70 := hvt70.ext hx17
           try replace hvt78 := hvt78.ext hx17
           refine Rg.wd trivial (w_call Tryz.call48 rfl (at_ok hC hp (texts := [⟨#[124]⟩,⟨#[124,124]⟩]) hvt86 (by decide))) rfl ?_
           rintro _ w18 ⟨rfl,hx18⟩
           replace hbw := hbw.trans (Bw.of hx18 fun z hz => hp.und z (hsub z hz))
           replace hp := hp.extw hx18
           replace hv_bx172_1 := hv_bx172_1.ext hx18
           replace hv_bx172_2 := hv_bx172_2.ext hx18
           try replace hvt25 := hvt25.ext hx18
           try replace hvt51 := hvt51.ext hx18
           try replace hvt58 := hvt58.ext hx18
           try replace hvt64 := hvt64.ext hx18
           try replace hvt70 := hvt70.ext hx18
           try replace hvt78 := hvt78.ext hx18
           try replace hvt86 := hvt86.ext hx18
           rw [show (isAt [⟨#[124]⟩,⟨#[124,124]⟩] (sig1 s.rem)) = false from haq19]
           refine .as rfl rfl (.done (.condF rfl (Wp.region (.tq (t_load ty60 rfl (Cells.get (i := 0) hv_bx172_1.cells rfl)) rfl (Rg.wd trivial (w_call Tryz.call142 rfl (D_missingN hp hq20 hb)) rfl ?_)))))
           rintro _ w19 ⟨hp1,hb19⟩
           replace hv_bx172_1 := var_bw hv_bx172_1 hb19 hF_bx172_1
           replace hv_bx172_2 := var_bw hv_bx172_2 hb19 hF_bx172_2
           replace hbw := hbw.trans (hb19.sub hsub)
           clear hp
           have hp := hp1
           clear hp1
           refine .done ?_
           exact ⟨[],trivial,(fun h => by cases h),hp.sub hsub hbase,hbw⟩
theorem N_pattern (hC : Cx w0 tv toks) (hD : ∀ m,m < n → DN w0 tv toks m) (hp : Ps w0 tv toks F w bP below k s) (hr : run body n (body .pattern) s = some r) (hb : r.adds ≤ big) :
  Cl Tryz.prog 179 #[.pointer (some ⟨bP,0,none⟩)] w (fun u w' => (Nm.pattern = Nm.statement → u = .bool r.flag) ∧ Ps w0 tv toks F w' bP below k r ∧ Bw F w w') := by
 have hbw := Bw.refl F w
 have hsub : ∀ z,F z → F z := fun z h => h
 have hbase := hp.base
 have hr : run body n (.cond (at1 [⟨#[109,117,116]⟩]) (.node 44 (.seq .bump Cmd.expIdent)) (.cond (fun t _ _ _ => t.1 == 103 && decide (t.2 = ⟨#[95]⟩)) (.node 43 .bump) (.cond (fun t u _ _ => t.1 == 103 && !isAt [⟨#[40]⟩,⟨#[58,58]⟩] u) (.node 44 .bump) (.cond ident (.node 45 (.seq (.call (.path false)) (.cond (at1 [⟨#[40]⟩]) (.seq .bump (Cmd.list ⟨#[41]⟩ (.call .pattern))) .skip))) (.cond (fun t _ _ _ => t.1 == 105) (.node 27 .bump) (.cond (at1 [⟨#[116,114,117,101]⟩,⟨#[102,97,108,115,101]⟩]) (.node 28 .bump) (.leaf 46))))))) s = some r := hr
 refine Cl.enter Tryz.func179 rfl Tryz.ntmps179 rfl rfl (.sr (Rg.wd trivial (w_boxed rfl rfl) rfl ?_))
 rintro _ w1 ⟨bx179_1,rfl,qbx179_1,hx1,hv_bx179_1⟩
 replace hbw := hbw.trans (Bw.of hx1 fun z hz => hp.und z (hsub z hz))
 obtain ⟨F_bx179_1,hp1,hF_bx179_1,hs1⟩ := hp.box hx1 qbx179_1 hv_bx179_1.lt
 clear hp
 have hp := hp1
 clear hp1
 replace hsub := fun z hz => hs1 z (hsub z hz)
 refine .done (.sr (.tq (t_load ty60 rfl (Cells.get (i := 0) hv_bx179_1.cells rfl)) rfl (Rg.wd trivial (w_call Tryz.call47 rfl (hp.peek hC)) rfl ?_)))
 rintro _ w2 ⟨rfl,hx2⟩
 replace hbw := hbw.trans (Bw.of hx2 fun z hz => hp.und z (hsub z hz))
 replace hp := hp.extw hx2
 replace hv_bx179_1 := hv_bx179_1.ext hx2
 have hlo_bx179_2 := hp.ext.le
 have hlt_bx179_2_bx179_1 := hv_bx179_1.lt
 have hun_bx179_2 := fun z hz => hp.und z (hsub z hz)
 refine Rg.wd trivial (w_new Tryz.zeroValue55 rfl) rfl ?_
 rintro _ w3 ⟨bx179_2,rfl,qbx179_2,hx3,hv_bx179_2⟩
 replace hbw := hbw.trans (Bw.of hx3 fun z hz => hp.und z (hsub z hz))
 obtain ⟨F_bx179_2,hp1,hF_bx179_2,hs3⟩ := hp.box hx3 qbx179_2 hv_bx179_2.lt
 clear hp
 have hp := hp1
 clear hp1
 replace hsub := fun z hz => hs3 z (hsub z hz)
 replace hv_bx179_1 := hv_bx179_1.ext hx3
 replace hF_bx179_1 := hs3 _ hF_bx179_1
 have hn_bx179_2 : ¬ F bx179_2 := fun hh => by have := hun_bx179_2 _ hh; omega
 have hw_bx179_2 : w0.heap.size ≤ bx179_2 := by omega
 have hne_bx179_2_bx179_1 : bx179_1 ≠ bx179_2 := by omega
 refine Rg.wn trivial (w_put hv_bx179_2 rfl rfl rfl ty55 rfl rfl) ?_
 rintro _ w4 ⟨hu4,hvn⟩
 replace hbw := hbw.trans (Bw.upd hu4 hn_bx179_2)
 replace hp := hp.updF hu4 hF_bx179_2 hw_bx179_2
 clear hv_bx179_2
 have hv_bx179_2 := hvn
 clear hvn
 replace hv_bx179_1 := hv_bx179_1.upd hu4 hne_bx179_2_bx179_1
 refine .done (Wp.block ?_)
 cases haq1 : (isAt [⟨#[109,117,116]⟩] (sig1 s.rem)) with
 | true =>
  have hq2 := run_condT hr haq1
  refine .sr (.tq (t_load ty60 rfl (Cells.get (i := 0) hv_bx179_1.cells rfl)) rfl (Rg.wd trivial (w_buildSlice (bs124_1 _) rfl) rfl ?_))
  rintro _ w5 ⟨bt9,rfl,qt9,hx5,hvt9⟩
  replace hbw := hbw.trans (Bw.of hx5 fun z hz => hp.und z (hsub z hz))
  replace hp := hp.extw hx5
  replace hv_bx179_1 := hv_bx179_1.ext hx5
  replace hv_bx179_2 := hv_bx179_2.ext hx5
  refine Rg.wd trivial (w_call Tryz.call48 rfl (at_ok hC hp (texts := [⟨#[109,117,116]⟩]) hvt9 (by decide))) rfl ?_
  rintro _ w6 ⟨rfl,hx6⟩
  replace hbw := hbw.trans (Bw.of hx6 fun z hz => hp.und z (hsub z hz))
  replace hp := hp.extw hx6
  replace hv_bx179_1 := hv_bx179_1.ext hx6
  replace hv_bx179_2 := hv_bx179_2.ext hx6
  try replace hvt9 := hvt9.ext hx6
  rw [show (isAt [⟨#[109,117,116]⟩] (sig1 s.rem)) = true from haq1]
  refine .as rfl rfl (.done (.condT rfl (Wp.region (.tq (t_load ty60 rfl (Cells.get (i := 0) hv_bx179_1.cells rfl)) rfl (.tq (t_makeFuncB (us := []) (vs := [.pointer (some ⟨bx179_1,0,none⟩)]) rfl rfl) rfl (Rg.wd trivial (w_call Tryz.call52 rfl (D_node hp (clo_190 hC hD hv_bx179_1 hF_bx179_1) hq2 hb)) rfl ?_))))))
  rintro _ w7 ⟨hp1,hb7⟩
  replace hv_bx179_1 := var_bw hv_bx179_1 hb7 hF_bx179_1
  replace hv_bx179_2 := var_bw hv_bx179_2 hb7 hF_bx179_2
  replace hbw := hbw.trans (hb7.sub hsub)
  clear hp
  have hp := hp1
  clear hp1
  refine .done ?_
  exact ⟨[],trivial,(fun h => by cases h),hp.sub hsub hbase,hbw⟩
 | false =>
  have hq2 := run_condF hr haq1
  refine .sr (.tq (t_load ty60 rfl (Cells.get (i := 0) hv_bx179_1.cells rfl)) rfl (Rg.wd trivial (w_buildSlice (bs124_1 _) rfl) rfl ?_))
  rintro _ w5 ⟨bt9,rfl,qt9,hx5,hvt9⟩
  replace hbw := hbw.trans (Bw.of hx5 fun z hz => hp.und z (hsub z hz))
  replace hp := hp.extw hx5
  replace hv_bx179_1 := hv_bx179_1.ext hx5
  replace hv_bx179_2 := hv_bx179_2.ext hx5
  refine Rg.wd trivial (w_call Tryz.call48 rfl (at_ok hC hp (texts := [⟨#[109,117,116]⟩]) hvt9 (by decide))) rfl ?_
  rintro _ w6 ⟨rfl,hx6⟩
  replace hbw := hbw.trans (Bw.of hx6 fun z hz => hp.und z (hsub z hz))
  replace hp := hp.extw hx6
  replace hv_bx179_1 := hv_bx179_1.ext hx6
  replace hv_bx179_2 := hv_bx179_2.ext hx6
  try replace hvt9 := hvt9.ext hx6
  rw [show (isAt [⟨#[109,117,116]⟩] (sig1 s.rem)) = false from haq1]
  refine .as rfl rfl (.done (.condF rfl ?_))
  cases haq3 : ((sig1 s.rem).1 == 103) with
  | true =>
   cases haq4 : (decide ((sig1 s.rem).2 = ⟨#[95]⟩)) with
   | true =>
    have hq5 := run_condT hq2 (show S.test _ _ = true by simp only [S.test,at1,ident,bne,haq1,haq3,haq4]; (try rfl))
    refine .sr (.tq (t_load ty60 rfl (Cells.get (i := 0) hv_bx179_1.cells rfl)) rfl (Rg.wd trivial (w_call Tryz.call132 rfl (atIdent_ok hC hp)) rfl ?_))
    rintro _ w7 ⟨rfl,hx7⟩
    replace hbw := hbw.trans (Bw.of hx7 fun z hz => hp.und z (hsub z hz))
    replace hp := hp.extw hx7
    replace hv_bx179_1 := hv_bx179_1.ext hx7
    replace hv_bx179_2 := hv_bx179_2.ext hx7
    try replace hvt9 := hvt9.ext hx7
    rw [show ((sig1 s.rem).1 == 103) = true from haq3]
    refine .mv rfl rfl (.gd (t_fieldAddr fa55_1 rfl) rfl (.gd (t_load ty9 rfl (Cells.get (i := 1) hv_bx179_2.cells rfl)) rfl (.gd (t_seqlT rfl rfl (of_decide_eq_true haq4)) rfl (.tq (t_pickT rfl rfl) rfl (.as rfl rfl (.done (.condT rfl (Wp.region (.tq (t_load ty60 rfl (Cells.get (i := 0) hv_bx179_1.cells rfl)) rfl (.tq (t_load ty60 rfl (Cells.get (i := 0) hv_bx179_1.cells rfl)) rfl (.tq (t_makeFuncB (us := [.pointer (some ⟨bP,0,none⟩)]) (vs := []) rfl rfl) rfl (Rg.wd trivial (w_call Tryz.call52 rfl (D_node hp (clo_bump hC) hq5 hb)) rfl ?_))))))))))))
    rintro _ w8 ⟨hp1,hb8⟩
    replace hv_bx179_1 := var_bw hv_bx179_1 hb8 hF_bx179_1
    replace hv_bx179_2 := var_bw hv_bx179_2 hb8 hF_bx179_2
    replace hbw := hbw.trans (hb8.sub hsub)
    clear hp
    have hp := hp1
    clear hp1
    refine .done ?_
    exact ⟨[],trivial,(fun h => by cases h),hp.sub hsub hbase,hbw⟩
   | false =>
    have hq5 := run_condF hq2 (show S.test _ _ = false by simp only [S.test,at1,ident,bne,haq1,haq3,haq4]; (try rfl))
    refine .sr (.tq (t_load ty60 rfl (Cells.get (i := 0) hv_bx179_1.cells rfl)) rfl (Rg.wd trivial (w_call Tryz.call132 rfl (atIdent_ok hC hp)) rfl ?_))
    rintro _ w7 ⟨rfl,hx7⟩
    replace hbw := hbw.trans (Bw.of hx7 fun z hz => hp.und z (hsub z hz))
    replace hp := hp.extw hx7
    replace hv_bx179_1 := hv_bx179_1.ext hx7
    replace hv_bx179_2 := hv_bx179_2.ext hx7
    try replace hvt9 := hvt9.ext hx7
    rw [show ((sig1 s.rem).1 == 103) = true from haq3]
    refine .mv rfl rfl (.gd (t_fieldAddr fa55_1 rfl) rfl (.gd (t_load ty9 rfl (Cells.get (i := 1) hv_bx179_2.cells rfl)) rfl (.gd (t_seqlF rfl rfl (of_decide_eq_false haq4)) rfl (.tq (t_pickT rfl rfl) rfl (.as rfl rfl (.done (.condF rfl ?_)))))))
    cases haq6 : (isAt [⟨#[40]⟩,⟨#[58,58]⟩] (sig1 (left s.rem))) with
    | true =>
     have hq7 := run_condF hq5 (show S.test _ _ = false by simp only [S.test,at1,ident,bne,haq1,haq3,haq4,haq6]; (try rfl))
     have hq8 := run_condT hq7 haq3
     refine .sr (.tq (t_load ty60 rfl (Cells.get (i := 0) hv_bx179_1.cells rfl)) rfl (Rg.wd trivial (w_call Tryz.call132 rfl (atIdent_ok hC hp)) rfl ?_))
     rintro _ w8 ⟨rfl,hx8⟩
     replace hbw := hbw.trans (Bw.of hx8 fun z hz => hp.und z (hsub z hz))
     replace hp := hp.extw hx8
     replace hv_bx179_1 := hv_bx179_1.ext hx8
     replace hv_bx179_2 := hv_bx179_2.ext hx8
     try replace hvt9 := hvt9.ext hx8
     rw [show ((sig1 s.rem).1 == 103) = true from haq3]
     refine .mv rfl rfl (.gd (t_load ty60 rfl (Cells.get (i := 0) hv_bx179_1.cells rfl)) rfl (Rg.wd ⟨_,rfl,rfl⟩ (w_call Tryz.call49 rfl (lookahead_ok hC hp)) rfl ?_))
     rintro _ w9 ⟨bk31,rfl,hk31,hx9⟩
     replace hbw := hbw.trans (Bw.of hx9 fun z hz => hp.und z (hsub z hz))
     replace hp := hp.extw hx9
     replace hv_bx179_1 := hv_bx179_1.ext hx9
     replace hv_bx179_2 := hv_bx179_2.ext hx9
     try replace hvt9 := hvt9.ext hx9
     refine Rg.wd ⟨_,rfl,rfl⟩ (w_buildSlice (bs124_2 _ _) rfl) rfl ?_
     rintro _ w10 ⟨bt32,rfl,qt32,hx10,hvt32⟩
     replace hbw := hbw.trans (Bw.of hx10 fun z hz => hp.und z (hsub z hz))
     replace hp := hp.extw hx10
     replace hv_bx179_1 := hv_bx179_1.ext hx10
     replace hv_bx179_2 := hv_bx179_2.ext hx10
     try replace hvt9 := hvt9.ext hx10
     try replace hk31 := hk31.extw hx10
     refine Rg.wd ⟨_,rfl,rfl⟩ (w_call Tryz.call48 rfl (at_ok hC hk31 (texts := [⟨#[40]⟩,⟨#[58,58]⟩]) hvt32 (by decide))) rfl ?_
     rintro _ w11 ⟨rfl,hx11⟩
     replace hbw := hbw.trans (Bw.of hx11 fun z hz => hp.und z (hsub z hz))
     replace hp := hp.extw hx11
     replace hv_bx179_1 := hv_bx179_1.ext hx11
     replace hv_bx179_2 := hv_bx179_2.ext hx11
     try replace hvt9 := hvt9.ext hx11
     try replace hvt32 := hvt32.ext hx11
     try replace hk31 := hk31.extw hx11
     rw [show (isAt [⟨#[40]⟩,⟨#[58,58]⟩] (sig1 s.look.rem)) = true from haq6]
     refine .gd (t_notB rfl) rfl (.tq (t_pickT rfl rfl) rfl (.as rfl rfl (.done (.condF rfl (.sr (.tq (t_load ty60 rfl (Cells.get (i := 0) hv_bx179_1.cells rfl)) rfl (Rg.wd trivial (w_call Tryz.call132 rfl (atIdent_ok hC hp)) rfl ?_)))))))
     rintro _ w12 ⟨rfl,hx12⟩
     replace hbw := hbw.trans (Bw.of hx12 fun z hz => hp.und z (hsub z hz))
     replace hp := hp.extw hx12
     replace hv_bx179_1 := hv_bx179_1.ext hx12
     replace hv_bx179_2 := hv_bx179_2.ext hx12
     try replace hvt9 := hvt9.ext hx12
     try replace hvt32 := hvt32.ext hx12
     try replace hk31 := hk31.extw hx12
     rw [show ((sig1 s.rem).1 == 103) = true from haq3]
     refine .as rfl rfl (.done (.condT rfl (Wp.region (.tq (t_load ty60 rfl (Cells.get (i := 0) hv_bx179_1.cells rfl)) rfl (.tq (t_makeFuncB (us := []) (vs := [.pointer (some ⟨bx179_1,0,none⟩)]) rfl rfl) rfl (Rg.wd trivial (w_call Tryz.call52 rfl (D_node hp (clo_191 hC hD hv_bx179_1 hF_bx179_1) hq8 hb)) rfl ?_))))))
     rintro _ w13 ⟨hp1,hb13⟩
     replace hv_bx179_1 := var_bw hv_bx179_1 hb13 hF_bx179_1
     replace hv_bx179_2 := var_bw hv_bx179_2 hb13 hF_bx179_2
     replace hbw := hbw.trans (hb13.sub hsub)
     clear hp
     have hp := hp1
     clear hp1
     refine .done ?_
     exact ⟨[],trivial,(fun h => by cases h),hp.sub hsub hbase,hbw⟩
    | false =>
     have hq7 := run_condT hq5 (show S.test _ _ = true by simp only [S.test,at1,ident,bne,haq1,haq3,haq4,haq6]; (try rfl))
     refine .sr (.tq (t_load ty60 rfl (Cells.get (i := 0) hv_bx179_1.cells rfl)) rfl (Rg.wd trivial (w_call Tryz.call132 rfl (atIdent_ok hC hp)) rfl ?_))
     rintro _ w8 ⟨rfl,hx8⟩
     replace hbw := hbw.trans (Bw.of hx8 fun z hz => hp.und z (hsub z hz))
     replace hp := hp.extw hx8
     replace hv_bx179_1 := hv_bx179_1.ext hx8
     replace hv_bx179_2 := hv_bx179_2.ext hx8
     try replace hvt9 := hvt9.ext hx8
     rw [show ((sig1 s.rem).1 == 103) = true from haq3]
     refine .mv rfl rfl (.gd (t_load ty60 rfl (Cells.get (i := 0) hv_bx179_1.cells rfl)) rfl (Rg.wd ⟨_,rfl,rfl⟩ (w_call Tryz.call49 rfl (lookahead_ok hC hp)) rfl ?_))
     rintro _ w9 ⟨bk31,rfl,hk31,hx9⟩
     replace hbw := hbw.trans (Bw.of hx9 fun z hz => hp.und z (hsub z hz))
     replace hp := hp.extw hx9
     replace hv_bx179_1 := hv_bx179_1.ext hx9
     replace hv_bx179_2 := hv_bx179_2.ext hx9
     try replace hvt9 := hvt9.ext hx9
     refine Rg.wd ⟨_,rfl,rfl⟩ (w_buildSlice (bs124_2 _ _) rfl) rfl ?_
     rintro _ w10 ⟨bt32,rfl,qt32,hx10,hvt32⟩
     replace hbw := hbw.trans (Bw.of hx10 fun z hz => hp.und z (hsub z hz))
     replace hp := hp.extw hx10
     replace hv_bx179_1 := hv_bx179_1.ext hx10
     replace hv_bx179_2 := hv_bx179_2.ext hx10
     try replace hvt9 := hvt9.ext hx10
     try replace hk31 := hk31.extw hx10
     refine Rg.wd ⟨_,rfl,rfl⟩ (w_call Tryz.call48 rfl (at_ok hC hk31 (texts := [⟨#[40]⟩,⟨#[58,58]⟩]) hvt32 (by decide))) rfl ?_
     rintro _ w11 ⟨rfl,hx11⟩
     replace hbw := hbw.trans (Bw.of hx11 fun z hz => hp.und z (hsub z hz))
     replace hp := hp.extw hx11
     replace hv_bx179_1 := hv_bx179_1.ext hx11
     replace hv_bx179_2 := hv_bx179_2.ext hx11
     try replace hvt9 := hvt9.ext hx11
     try replace hvt32 := hvt32.ext hx11
     try replace hk31 := hk31.extw hx11
     rw [show (isAt [⟨#[40]⟩,⟨#[58,58]⟩] (sig1 s.look.rem)) = false from haq6]
     refine .gd (t_notB rfl) rfl (.tq (t_pickT rfl rfl) rfl (.as rfl rfl (.done (.condT rfl (Wp.region (.tq (t_load ty60 rfl (Cells.get (i := 0) hv_bx179_1.cells rfl)) rfl (.tq (t_load ty60 rfl (Cells.get (i := 0) hv_bx179_1.cells rfl)) rfl (.tq (t_makeFuncB (us := [.pointer (some ⟨bP,0,none⟩)]) (vs := []) rfl rfl) rfl (Rg.wd trivial (w_call Tryz.call52 rfl (D_node hp (clo_bump hC) hq7 hb)) rfl ?_)))))))))
     rintro _ w12 ⟨hp1,hb12⟩
     replace hv_bx179_1 := var_bw hv_bx179_1 hb12 hF_bx179_1
     replace hv_bx179_2 := var_bw hv_bx179_2 hb12 hF_bx179_2
     replace hbw := hbw.trans (hb12.sub hsub)
     clear hp
     have hp := hp1
     clear hp1
     refine .done ?_
     exact ⟨[],trivial,(fun h => by cases h),hp.sub hsub hbase,hbw⟩
  | false =>
   have hq4 := run_condF hq2 (show S.test _ _ = false by simp only [S.test,at1,ident,bne,haq1,haq3]; (try rfl))
   have hq5 := run_condF hq4 (show S.test _ _ = false by simp only [S.test,at1,ident,bne,haq1,haq3]; (try rfl))
   have hq6 := run_condF hq5 haq3
   refine .sr (.tq (t_load ty60 rfl (Cells.get (i := 0) hv_bx179_1.cells rfl)) rfl (Rg.wd trivial (w_call Tryz.call132 rfl (atIdent_ok hC hp)) rfl ?_))
   rintro _ w7 ⟨rfl,hx7⟩
   replace hbw := hbw.trans (Bw.of hx7 fun z hz => hp.und z (hsub z hz))
   replace hp := hp.extw hx7
   replace hv_bx179_1 := hv_bx179_1.ext hx7
   replace hv_bx179_2 := hv_bx179_2.ext hx7
   try replace hvt9 := hvt9.ext hx7
   rw [show ((sig1 s.rem).1 == 103) = false from haq3]
   refine .mv rfl rfl (.so rfl rfl (.so rfl rfl (.so rfl rfl (.tq (t_pickF rfl rfl) rfl (.as rfl rfl (.done (.condF rfl (.sr (.tq (t_load ty60 rfl (Cells.get (i := 0) hv_bx179_1.cells rfl)) rfl (Rg.wd trivial (w_call Tryz.call132 rfl (atIdent_ok hC hp)) rfl ?_))))))))))
   rintro _ w8 ⟨rfl,hx8⟩
   replace hbw := hbw.trans (Bw.of hx8 fun z hz => hp.und z (hsub z hz))
   replace hp := hp.extw hx8
   replace hv_bx179_1 := hv_bx179_1.ext hx8
   replace hv_bx179_2 := hv_bx179_2.ext hx8
   try replace hvt9 := hvt9.ext hx8
   rw [show ((sig1 s.rem).1 == 103) = false from haq3]
   refine .mv rfl rfl (.so rfl rfl (.so rfl rfl (.so rfl rfl (.so rfl rfl (.so rfl rfl (.tq (t_pickF rfl rfl) rfl (.as rfl rfl (.done (.condF rfl (.sr (.tq (t_load ty60 rfl (Cells.get (i := 0) hv_bx179_1.cells rfl)) rfl (Rg.wd trivial (w_call Tryz.call132 rfl (atIdent_ok hC hp)) rfl ?_))))))))))))
   rintro _ w9 ⟨rfl,hx9⟩
   replace hbw := hbw.trans (Bw.of hx9 fun z hz => hp.und z (hsub z hz))
   replace hp := hp.extw hx9
   replace hv_bx179_1 := hv_bx179_1.ext hx9
   replace hv_bx179_2 := hv_bx179_2.ext hx9
   try replace hvt9 := hvt9.ext hx9
   rw [show ((sig1 s.rem).1 == 103) = false from haq3]
   refine .as rfl rfl (.done (.condF rfl ?_))
   cases haq7 : ((sig1 s.rem).1 == 105) with
   | true =>
    have hq8 := run_condT hq6 haq7
    refine .sr (.tq (t_fieldAddr fa55_0 rfl) rfl (.tq (t_load ty3 rfl (Cells.get (i := 0) hv_bx179_2.cells rfl)) rfl (.tq (t_eqlT rfl rfl (beq_iff_eq.1 haq7)) rfl (.as rfl rfl (.done (.condT rfl (Wp.region (.tq (t_load ty60 rfl (Cells.get (i := 0) hv_bx179_1.cells rfl)) rfl (.tq (t_load ty60 rfl (Cells.get (i := 0) hv_bx179_1.cells rfl)) rfl (.tq (t_makeFuncB (us := [.pointer (some ⟨bP,0,none⟩)]) (vs := []) rfl rfl) rfl (Rg.wd trivial (w_call Tryz.call52 rfl (D_node hp (clo_bump hC) hq8 hb)) rfl ?_)))))))))))
    rintro _ w10 ⟨hp1,hb10⟩
    replace hv_bx179_1 := var_bw hv_bx179_1 hb10 hF_bx179_1
    replace hv_bx179_2 := var_bw hv_bx179_2 hb10 hF_bx179_2
    replace hbw := hbw.trans (hb10.sub hsub)
    clear hp
    have hp := hp1
    clear hp1
    refine .done ?_
    exact ⟨[],trivial,(fun h => by cases h),hp.sub hsub hbase,hbw⟩
   | false =>
    have hq8 := run_condF hq6 haq7
    refine .sr (.tq (t_fieldAddr fa55_0 rfl) rfl (.tq (t_load ty3 rfl (Cells.get (i := 0) hv_bx179_2.cells rfl)) rfl ?_))
    refine .tq (t_eqlF rfl rfl (fun e => by rw [beq_iff_eq.2 e] at haq7; cases haq7)) rfl ?_
    refine .as rfl rfl (.done (.condF rfl ?_))
    cases haq9 : (isAt [⟨#[116,114,117,101]⟩,⟨#[102,97,108,115,101]⟩] (sig1 s.rem)) with
    | true =>
     have hq10 := run_condT hq8 haq9
     refine .sr (.tq (t_load ty60 rfl (Cells.get (i := 0) hv_bx179_1.cells rfl)) rfl (Rg.wd trivial (w_buildSlice (bs124_2 _ _) rfl) rfl ?_))
     rintro _ w10 ⟨bt56,rfl,qt56,hx10,hvt56⟩
     replace hbw := hbw.trans (Bw.of hx10 fun z hz => hp.und z (hsub z hz))
     replace hp := hp.extw hx10
     replace hv_bx179_1 := hv_bx179_1.ext hx10
     replace hv_bx179_2 := hv_bx179_2.ext hx10
     try replace hvt9 := hvt9.ext hx10
     refine Rg.wd trivial (w_call Tryz.call48 rfl (at_ok hC hp (texts := [⟨#[116,114,117,101]⟩,⟨#[102,97,108,115,101]⟩]) hvt56 (by decide))) rfl ?_
     rintro _ w11 ⟨rfl,hx11⟩
     replace hbw := hbw.trans (Bw.of hx11 fun z hz => hp.und z (hsub z hz))
     replace hp := hp.extw hx11
     replace hv_bx179_1 := hv_bx179_1.ext hx11
     replace hv_bx179_2 := hv_bx179_2.ext hx11
     try replace hvt9 := hvt9.ext hx11
     try replace hvt56 := hvt56.ext hx11
     rw [show (isAt [⟨#[116,114,117,101]⟩,⟨#[102,97,108,115,101]⟩] (sig1 s.rem)) = true from haq9]
     refine .as rfl rfl (.done (.condT rfl (Wp.region (.tq (t_load ty60 rfl (Cells.get (i := 0) hv_bx179_1.cells rfl)) rfl (.tq (t_load ty60 rfl (Cells.get (i := 0) hv_bx179_1.cells rfl)) rfl (.tq (t_makeFuncB (us := [.pointer (some ⟨bP,0,none⟩)]) (vs := []) rfl rfl) rfl (Rg.wd trivial (w_call Tryz.call52 rfl (D_node hp (clo_bump hC) hq10 hb)) rfl ?_)))))))
     rintro _ w12 ⟨hp1,hb12⟩
     replace hv_bx179_1 := var_bw hv_bx179_1 hb12 hF_bx179_1
     replace hv_bx179_2 := var_bw hv_bx179_2 hb12 hF_bx179_2
     replace hbw := hbw.trans (hb12.sub hsub)
     clear hp
     have hp := hp1
     clear hp1
     refine .done ?_
     exact ⟨[],trivial,(fun h => by cases h),hp.sub hsub hbase,hbw⟩
    | false =>
     have hq10 := run_condF hq8 haq9
     refine .sr (.tq (t_load ty60 rfl (Cells.get (i := 0) hv_bx179_1.cells rfl)) rfl (Rg.wd trivial (w_buildSlice (bs124_2 _ _) rfl) rfl ?_))
     rintro _ w10 ⟨bt56,rfl,qt56,hx10,hvt56⟩
     replace hbw := hbw.trans (Bw.of hx10 fun z hz => hp.und z (hsub z hz))
     replace hp := hp.extw hx10
     replace hv_bx179_1 := hv_bx179_1.ext hx10
     replace hv_bx179_2 := hv_bx179_2.ext hx10
     try replace hvt9 := hvt9.ext hx10
     refine Rg.wd trivial (w_call Tryz.call48 rfl (at_ok hC hp (texts := [⟨#[116,114,117,101]⟩,⟨#[102,97,108,115,101]⟩]) hvt56 (by decide))) rfl ?_
     rintro _ w11 ⟨rfl,hx11⟩
     replace hbw := hbw.trans (Bw.of hx11 fun z hz => hp.und z (hsub z hz))
     replace hp := hp.extw hx11
     replace hv_bx179_1 := hv_bx179_1.ext hx11
     replace hv_bx179_2 := hv_bx179_2.ext hx11
     try replace hvt9 := hvt9.ext hx11
     try replace hvt56 := hvt56.ext hx11
     rw [show (isAt [⟨#[116,114,117,101]⟩,⟨#[102,97,108,115,101]⟩] (sig1 s.rem)) = false from haq9]
     refine .as rfl rfl (.done (.condF rfl (Wp.region (.tq (t_load ty60 rfl (Cells.get (i := 0) hv_bx179_1.cells rfl)) rfl (Rg.wd trivial (w_call Tryz.call142 rfl (D_missingN hp hq10 hb)) rfl ?_)))))
     rintro _ w12 ⟨hp1,hb12⟩
     replace hv_bx179_1 := var_bw hv_bx179_1 hb12 hF_bx179_1
     replace hv_bx179_2 := var_bw hv_bx179_2 hb12 hF_bx179_2
     replace hbw := hbw.trans (hb12.sub hsub)
     clear hp
     have hp := hp1
     clear hp1
     refine .done ?_
     exact ⟨[],trivial,(fun h => by cases h),hp.sub hsub hbase,hbw⟩
theorem N_postE (hC : Cx w0 tv toks) (hD : ∀ m,m < n → DN w0 tv toks m) (hp : Ps w0 tv toks F w bP below k s) (hr : run body n (body .postE) s = some r) (hb : r.adds ≤ big) :
  Cl Tryz.prog 178 #[.pointer (some ⟨bP,0,none⟩)] w (fun u w' => (Nm.postE = Nm.statement → u = .bool r.flag) ∧ Ps w0 tv toks F w' bP below k r ∧ Bw F w w') := by
 have hbw := Bw.refl F w
 have hsub : ∀ z,F z → F z := fun z h => h
 have hbase := hp.base
 have hr : run body n (.loop (at1 [⟨#[40]⟩,⟨#[46]⟩]) (.cond (at1 [⟨#[40]⟩]) (.wrap 30 (.call .arguments)) (.cond (fun _ u v _ => u.1 == 103 && isAt [⟨#[40]⟩] v) (.wrap 31 (.seq .bump (.seq .bump (.call .arguments)))) (.wrap 32 (.seq .bump Cmd.expIdent))))) s = some r := hr
 refine Cl.enter Tryz.func178 rfl Tryz.ntmps178 rfl rfl (.sr (Rg.wd trivial (w_boxed rfl rfl) rfl ?_))
 rintro _ w1 ⟨bx178_1,rfl,qbx178_1,hx1,hv_bx178_1⟩
 replace hbw := hbw.trans (Bw.of hx1 fun z hz => hp.und z (hsub z hz))
 obtain ⟨F_bx178_1,hp1,hF_bx178_1,hs1⟩ := hp.box hx1 qbx178_1 hv_bx178_1.lt
 clear hp
 have hp := hp1
 clear hp1
 replace hsub := fun z hz => hs1 z (hsub z hz)
 refine .done (Wp.block ?_)
 refine Wp.loop (ι := S × Nat) (fun _ => [(1,.pointer (some ⟨bx178_1,0,none⟩)),(0,.pointer (some ⟨bP,0,none⟩))])
  (fun i w' => Ps w0 tv toks F_bx178_1 w' bP below k i.1 ∧ Bw F_bx178_1 w1 w' ∧ run body i.2 (.loop (at1 [⟨#[40]⟩,⟨#[46]⟩]) (.cond (at1 [⟨#[40]⟩]) (.wrap 30 (.call .arguments)) (.cond (fun _ u v _ => u.1 == 103 && isAt [⟨#[40]⟩] v) (.wrap 31 (.seq .bump (.seq .bump (.call .arguments)))) (.wrap 32 (.seq .bump Cmd.expIdent))))) i.1 = some r ∧ i.2 ≤ n) (fun i => i.2) (s,n) (by repeat (first | exact .nil | refine .cons rfl ?_)) ⟨hp,Bw.refl _ _,hr,Nat.le_refl _⟩ ?_
 clear hp
 rintro ⟨s',m⟩ wl ⟨hp,hbl,hrun,hmn⟩
 simp only at hp hrun hmn
 replace hbw := hbw.trans (hbl.sub hsub)
 replace hv_bx178_1 := var_bw hv_bx178_1 hbl hF_bx178_1
 refine .seq ?_
 cases haq1 : (isAt [⟨#[40]⟩,⟨#[46]⟩] (sig1 s'.rem)) with
 | true =>
  obtain ⟨m1,s2,rfl,hbody,hrest⟩ := run_loopT hrun haq1
  replace hbody := run_le hmn hbody
  refine .sr (.tq (t_load ty60 rfl (Cells.get (i := 0) hv_bx178_1.cells rfl)) rfl (Rg.wd trivial (w_buildSlice (bs124_2 _ _) rfl) rfl ?_))
  rintro _ w2 ⟨bt4,rfl,qt4,hx2,hvt4⟩
  replace hbl := hbl.trans (Bw.of hx2 hp.und)
  replace hbw := hbw.trans (Bw.of hx2 fun z hz => hp.und z (hsub z hz))
  replace hp := hp.extw hx2
  replace hv_bx178_1 := hv_bx178_1.ext hx2
  refine Rg.wd trivial (w_call Tryz.call48 rfl (at_ok hC hp (texts := [⟨#[40]⟩,⟨#[46]⟩]) hvt4 (by decide))) rfl ?_
  rintro _ w3 ⟨rfl,hx3⟩
  replace hbl := hbl.trans (Bw.of hx3 hp.und)
  replace hbw := hbw.trans (Bw.of hx3 fun z hz => hp.und z (hsub z hz))
  replace hp := hp.extw hx3
  replace hv_bx178_1 := hv_bx178_1.ext hx3
  try replace hvt4 := hvt4.ext hx3
  rw [show (isAt [⟨#[40]⟩,⟨#[46]⟩] (sig1 s'.rem)) = true from haq1]
  refine .done (.condT rfl (Wp.skip (Wp.block (.seq ?_))))
  cases haq2 : (isAt [⟨#[40]⟩] (sig1 s'.rem)) with
  | true =>
   have hq3 := run_condT hbody haq2
   refine .sr (.tq (t_load ty60 rfl (Cells.get (i := 0) hv_bx178_1.cells rfl)) rfl (Rg.wd trivial (w_buildSlice (bs124_1 _) rfl) rfl ?_))
   rintro _ w4 ⟨bt7,rfl,qt7,hx4,hvt7⟩
   replace hbl := hbl.trans (Bw.of hx4 hp.und)
   replace hbw := hbw.trans (Bw.of hx4 fun z hz => hp.und z (hsub z hz))
   replace hp := hp.extw hx4
   replace hv_bx178_1 := hv_bx178_1.ext hx4
   try replace hvt4 := hvt4.ext hx4
   refine Rg.wd trivial (w_call Tryz.call48 rfl (at_ok hC hp (texts := [⟨#[40]⟩]) hvt7 (by decide))) rfl ?_
   rintro _ w5 ⟨rfl,hx5⟩
   replace hbl := hbl.trans (Bw.of hx5 hp.und)
   replace hbw := hbw.trans (Bw.of hx5 fun z hz => hp.und z (hsub z hz))
   replace hp := hp.extw hx5
   replace hv_bx178_1 := hv_bx178_1.ext hx5
   try replace hvt4 := hvt4.ext hx5
   try replace hvt7 := hvt7.ext hx5
   rw [show (isAt [⟨#[40]⟩] (sig1 s'.rem)) = true from haq2]
   refine .done (.condT rfl (.sr (.tq (t_load ty60 rfl (Cells.get (i := 0) hv_bx178_1.cells rfl)) rfl (.tq (t_load ty60 rfl (Cells.get (i := 0) hv_bx178_1.cells rfl)) rfl (.tq (t_makeFuncB (us := [.pointer (some ⟨bP,0,none⟩)]) (vs := []) rfl rfl) rfl (Rg.wd trivial (w_call Tryz.call163 rfl (D_wrap hp (clo_call Tryz.call181 hD (.arguments)) hq3 (adds_le hrest hb))) rfl ?_))))))
   rintro _ w6 ⟨hp1,hb6⟩
   replace hbl := hbl.trans hb6
   replace hv_bx178_1 := var_bw hv_bx178_1 hb6 hF_bx178_1
   replace hbw := hbw.trans (hb6.sub hsub)
   clear hp
   have hp := hp1
   clear hp1
   refine .done (Wp.exit ?_)
   exact ⟨(s2,m1),by repeat (first | exact .nil | refine .cons rfl ?_),⟨hp,hbl,hrest,by simp only; omega⟩,by simp only; omega⟩
  | false =>
   have hq3 := run_condF hbody haq2
   refine .sr (.tq (t_load ty60 rfl (Cells.get (i := 0) hv_bx178_1.cells rfl)) rfl (Rg.wd trivial (w_buildSlice (bs124_1 _) rfl) rfl ?_))
   rintro _ w4 ⟨bt7,rfl,qt7,hx4,hvt7⟩
   replace hbl := hbl.trans (Bw.of hx4 hp.und)
   replace hbw := hbw.trans (Bw.of hx4 fun z hz => hp.und z (hsub z hz))
   replace hp := hp.extw hx4
   replace hv_bx178_1 := hv_bx178_1.ext hx4
   try replace hvt4 := hvt4.ext hx4
   refine Rg.wd trivial (w_call Tryz.call48 rfl (at_ok hC hp (texts := [⟨#[40]⟩]) hvt7 (by decide))) rfl ?_
   rintro _ w5 ⟨rfl,hx5⟩
   replace hbl := hbl.trans (Bw.of hx5 hp.und)
   replace hbw := hbw.trans (Bw.of hx5 fun z hz => hp.und z (hsub z hz))
   replace hp := hp.extw hx5
   replace hv_bx178_1 := hv_bx178_1.ext hx5
   try replace hvt4 := hvt4.ext hx5
   try replace hvt7 := hvt7.ext hx5
   rw [show (isAt [⟨#[40]⟩] (sig1 s'.rem)) = false from haq2]
   refine .done (.condF rfl (Wp.skip (.sr (.tq (t_load ty60 rfl (Cells.get (i := 0) hv_bx178_1.cells rfl)) rfl (Rg.wd trivial (w_call Tryz.call49 rfl (lookahead_ok hC hp)) rfl ?_)))))
   rintro _ w6 ⟨bk14,rfl,hk14,hx6⟩
   replace hbl := hbl.trans (Bw.of hx6 hp.und)
   replace hbw := hbw.trans (Bw.of hx6 fun z hz => hp.und z (hsub z hz))
   replace hp := hp.extw hx6
   replace hv_bx178_1 := hv_bx178_1.ext hx6
   try replace hvt4 := hvt4.ext hx6
   try replace hvt7 := hvt7.ext hx6
   refine .as rfl rfl (.done (.seq ?_))
   cases haq4 : ((sig1 (left s'.rem)).1 == 103) with
   | true =>
    cases haq5 : (isAt [⟨#[40]⟩] (sig1 (left (left s'.rem)))) with
    | true =>
     have hq6 := run_condT hq3 (show S.test _ _ = true by simp only [S.test,at1,ident,bne,haq1,haq2,haq4,haq5]; (try rfl))
     refine .sr (.mv rfl rfl (Rg.wd trivial (w_call Tryz.call132 rfl (atIdent_ok hC hk14)) rfl ?_))
     rintro _ w7 ⟨rfl,hx7⟩
     replace hbl := hbl.trans (Bw.of hx7 hp.und)
     replace hbw := hbw.trans (Bw.of hx7 fun z hz => hp.und z (hsub z hz))
     replace hp := hp.extw hx7
     replace hv_bx178_1 := hv_bx178_1.ext hx7
     try replace hvt4 := hvt4.ext hx7
     try replace hvt7 := hvt7.ext hx7
     try replace hk14 := hk14.extw hx7
     try replace hk14 := hk14.extw hx7
     try replace hk14 := hk14.extw hx7
     rw [show ((sig1 s'.look.rem).1 == 103) = true from haq4]
     refine .mv rfl rfl (.gd (t_move rfl) rfl (Rg.wd ⟨_,rfl,rfl⟩ (w_call Tryz.call49 rfl (lookahead_ok hC hk14)) rfl ?_))
     rintro _ w8 ⟨bk19,rfl,hk19,hx8⟩
     replace hbl := hbl.trans (Bw.of hx8 hp.und)
     replace hbw := hbw.trans (Bw.of hx8 fun z hz => hp.und z (hsub z hz))
     replace hp := hp.extw hx8
     replace hv_bx178_1 := hv_bx178_1.ext hx8
     try replace hvt4 := hvt4.ext hx8
     try replace hvt7 := hvt7.ext hx8
     try replace hk14 := hk14.extw hx8
     try replace hk14 := hk14.extw hx8
     try replace hk14 := hk14.extw hx8
     try replace hk14 := hk14.extw hx8
     refine Rg.wd ⟨_,rfl,rfl⟩ (w_buildSlice (bs124_1 _) rfl) rfl ?_
     rintro _ w9 ⟨bt20,rfl,qt20,hx9,hvt20⟩
     replace hbl := hbl.trans (Bw.of hx9 hp.und)
     replace hbw := hbw.trans (Bw.of hx9 fun z hz => hp.und z (hsub z hz))
     replace hp := hp.extw hx9
     replace hv_bx178_1 := hv_bx178_1.ext hx9
     try replace hvt4 := hvt4.ext hx9
     try replace hvt7 := hvt7.ext hx9
     try replace hk14 := hk14.extw hx9
     try replace hk14 := hk14.extw hx9
     try replace hk14 := hk14.extw hx9
     try replace hk14 := hk14.extw hx9
     try replace hk19 := hk19.extw hx9
     refine Rg.wd ⟨_,rfl,rfl⟩ (w_call Tryz.call48 rfl (at_ok hC hk19 (texts := [⟨#[40]⟩]) hvt20 (by decide))) rfl ?_
     rintro _ w10 ⟨rfl,hx10⟩
     replace hbl := hbl.trans (Bw.of hx10 hp.und)
     replace hbw := hbw.trans (Bw.of hx10 fun z hz => hp.und z (hsub z hz))
     replace hp := hp.extw hx10
     replace hv_bx178_1 := hv_bx178_1.ext hx10
     try replace hvt4 := hvt4.ext hx10
     try replace hvt7 := hvt7.ext hx10
     try replace hvt20 := hvt20.ext hx10
     try replace hk14 := hk14.extw hx10
     try replace hk14 := hk14.extw hx10
     try replace hk14 := hk14.extw hx10
     try replace hk14 := hk14.extw hx10
     try replace hk19 := hk19.extw hx10
     rw [show (isAt [⟨#[40]⟩] (sig1 s'.look.look.rem)) = true from haq5]
     refine .tq (t_pickT rfl rfl) rfl (.done (.condT rfl (.sr (.tq (t_load ty60 rfl (Cells.get (i := 0) hv_bx178_1.cells rfl)) rfl (.tq (t_makeFuncB (us := []) (vs := [.pointer (some ⟨bx178_1,0,none⟩)]) rfl rfl) rfl (Rg.wd trivial (w_call Tryz.call163 rfl (D_wrap hp (clo_188 hC hD hv_bx178_1 hF_bx178_1) hq6 (adds_le hrest hb))) rfl ?_))))))
     rintro _ w11 ⟨hp1,hb11⟩
     replace hbl := hbl.trans hb11
     replace hv_bx178_1 := var_bw hv_bx178_1 hb11 hF_bx178_1
     replace hbw := hbw.trans (hb11.sub hsub)
     clear hp
     have hp := hp1
     clear hp1
     refine .done (Wp.exit ?_)
     exact ⟨(s2,m1),by repeat (first | exact .nil | refine .cons rfl ?_),⟨hp,hbl,hrest,by simp only; omega⟩,by simp only; omega⟩
    | false =>
     have hq6 := run_condF hq3 (show S.test _ _ = false by simp only [S.test,at1,ident,bne,haq1,haq2,haq4,haq5]; (try rfl))
     refine .sr (.mv rfl rfl (Rg.wd trivial (w_call Tryz.call132 rfl (atIdent_ok hC hk14)) rfl ?_))
     rintro _ w7 ⟨rfl,hx7⟩
     replace hbl := hbl.trans (Bw.of hx7 hp.und)
     replace hbw := hbw.trans (Bw.of hx7 fun z hz => hp.und z (hsub z hz))
     replace hp := hp.extw hx7
     replace hv_bx178_1 := hv_bx178_1.ext hx7
     try replace hvt4 := hvt4.ext hx7
     try replace hvt7 := hvt7.ext hx7
     try replace hk14 := hk14.extw hx7
     try replace hk14 := hk14.extw hx7
     try replace hk14 := hk14.extw hx7
     rw [show ((sig1 s'.look.rem).1 == 103) = true from haq4]
     refine .mv rfl rfl (.gd (t_move rfl) rfl (Rg.wd ⟨_,rfl,rfl⟩ (w_call Tryz.call49 rfl (lookahead_ok hC hk14)) rfl ?_))
     rintro _ w8 ⟨bk19,rfl,hk19,hx8⟩
     replace hbl := hbl.trans (Bw.of hx8 hp.und)
     replace hbw := hbw.trans (Bw.of hx8 fun z hz => hp.und z (hsub z hz))
     replace hp := hp.extw hx8
     replace hv_bx178_1 := hv_bx178_1.ext hx8
     try replace hvt4 := hvt4.ext hx8
     try replace hvt7 := hvt7.ext hx8
     try replace hk14 := hk14.extw hx8
     try replace hk14 := hk14.extw hx8
     try replace hk14 := hk14.extw hx8
     try replace hk14 := hk14.extw hx8
     refine Rg.wd ⟨_,rfl,rfl⟩ (w_buildSlice (bs124_1 _) rfl) rfl ?_
     rintro _ w9 ⟨bt20,rfl,qt20,hx9,hvt20⟩
     replace hbl := hbl.trans (Bw.of hx9 hp.und)
     replace hbw := hbw.trans (Bw.of hx9 fun z hz => hp.und z (hsub z hz))
     replace hp := hp.extw hx9
     replace hv_bx178_1 := hv_bx178_1.ext hx9
     try replace hvt4 := hvt4.ext hx9
     try replace hvt7 := hvt7.ext hx9
     try replace hk14 := hk14.extw hx9
     try replace hk14 := hk14.extw hx9
     try replace hk14 := hk14.extw hx9
     try replace hk14 := hk14.extw hx9
     try replace hk19 := hk19.extw hx9
     refine Rg.wd ⟨_,rfl,rfl⟩ (w_call Tryz.call48 rfl (at_ok hC hk19 (texts := [⟨#[40]⟩]) hvt20 (by decide))) rfl ?_
     rintro _ w10 ⟨rfl,hx10⟩
     replace hbl := hbl.trans (Bw.of hx10 hp.und)
     replace hbw := hbw.trans (Bw.of hx10 fun z hz => hp.und z (hsub z hz))
     replace hp := hp.extw hx10
     replace hv_bx178_1 := hv_bx178_1.ext hx10
     try replace hvt4 := hvt4.ext hx10
     try replace hvt7 := hvt7.ext hx10
     try replace hvt20 := hvt20.ext hx10
     try replace hk14 := hk14.extw hx10
     try replace hk14 := hk14.extw hx10
     try replace hk14 := hk14.extw hx10
     try replace hk14 := hk14.extw hx10
     try replace hk19 := hk19.extw hx10
     rw [show (isAt [⟨#[40]⟩] (sig1 s'.look.look.rem)) = false from haq5]
     refine .tq (t_pickT rfl rfl) rfl (.done (.condF rfl (Wp.skip (Wp.region (.tq (t_load ty60 rfl (Cells.get (i := 0) hv_bx178_1.cells rfl)) rfl (.tq (t_makeFuncB (us := []) (vs := [.pointer (some ⟨bx178_1,0,none⟩)]) rfl rfl) rfl (Rg.wd trivial (w_call Tryz.call163 rfl (D_wrap hp (clo_189 hC hD hv_bx178_1 hF_bx178_1) hq6 (adds_le hrest hb))) rfl ?_)))))))
     rintro _ w11 ⟨hp1,hb11⟩
     replace hbl := hbl.trans hb11
     replace hv_bx178_1 := var_bw hv_bx178_1 hb11 hF_bx178_1
     replace hbw := hbw.trans (hb11.sub hsub)
     clear hp
     have hp := hp1
     clear hp1
     refine .done ?_
     exact ⟨(s2,m1),by repeat (first | exact .nil | refine .cons rfl ?_),⟨hp,hbl,hrest,by simp only; omega⟩,by simp only; omega⟩
   | false =>
    have hq5 := run_condF hq3 (show S.test _ _ = false by simp only [S.test,at1,ident,bne,haq1,haq2,haq4]; (try rfl))
    refine .sr (.mv rfl rfl (Rg.wd trivial (w_call Tryz.call132 rfl (atIdent_ok hC hk14)) rfl ?_))
    rintro _ w7 ⟨rfl,hx7⟩
    replace hbl := hbl.trans (Bw.of hx7 hp.und)
    replace hbw := hbw.trans (Bw.of hx7 fun z hz => hp.und z (hsub z hz))
    replace hp := hp.extw hx7
    replace hv_bx178_1 := hv_bx178_1.ext hx7
    try replace hvt4 := hvt4.ext hx7
    try replace hvt7 := hvt7.ext hx7
    try replace hk14 := hk14.extw hx7
    try replace hk14 := hk14.extw hx7
    try replace hk14 := hk14.extw hx7
    rw [show ((sig1 s'.look.rem).1 == 103) = false from haq4]
    refine .mv rfl rfl (.so rfl rfl (.so rfl rfl (.so rfl rfl (.so rfl rfl (.tq (t_pickF rfl rfl) rfl (.done (.condF rfl (Wp.skip (Wp.region (.tq (t_load ty60 rfl (Cells.get (i := 0) hv_bx178_1.cells rfl)) rfl (.tq (t_makeFuncB (us := []) (vs := [.pointer (some ⟨bx178_1,0,none⟩)]) rfl rfl) rfl (Rg.wd trivial (w_call Tryz.call163 rfl (D_wrap hp (clo_189 hC hD hv_bx178_1 hF_bx178_1) hq5 (adds_le hrest hb))) rfl ?_))))))))))))
    rintro _ w8 ⟨hp1,hb8⟩
    replace hbl := hbl.trans hb8
    replace hv_bx178_1 := var_bw hv_bx178_1 hb8 hF_bx178_1
    replace hbw := hbw.trans (hb8.sub hsub)
    clear hp
    have hp := hp1
    clear hp1
    refine .done ?_
    exact ⟨(s2,m1),by repeat (first | exact .nil | refine .cons rfl ?_),⟨hp,hbl,hrest,by simp only; omega⟩,by simp only; omega⟩
 | false =>
  obtain rfl := run_loopF hrun haq1
  refine .sr (.tq (t_load ty60 rfl (Cells.get (i := 0) hv_bx178_1.cells rfl)) rfl (Rg.wd trivial (w_buildSlice (bs124_2 _ _) rfl) rfl ?_))
  rintro _ w2 ⟨bt4,rfl,qt4,hx2,hvt4⟩
  replace hbw := hbw.trans (Bw.of hx2 fun z hz => hp.und z (hsub z hz))
  replace hp := hp.extw hx2
  replace hv_bx178_1 := hv_bx178_1.ext hx2
  refine Rg.wd trivial (w_call Tryz.call48 rfl (at_ok hC hp (texts := [⟨#[40]⟩,⟨#[46]⟩]) hvt4 (by decide))) rfl ?_
  rintro _ w3 ⟨rfl,hx3⟩
  replace hbw := hbw.trans (Bw.of hx3 fun z hz => hp.und z (hsub z hz))
  replace hp := hp.extw hx3
  replace hv_bx178_1 := hv_bx178_1.ext hx3
  try replace hvt4 := hvt4.ext hx3
  rw [show (isAt [⟨#[40]⟩,⟨#[46]⟩] (sig1 r.rem)) = false from haq1]
  refine .done (.condF rfl (Wp.exit ?_))
  exact ⟨[],trivial,(fun h => by cases h),hp.sub hsub hbase,hbw⟩
end
end Go.Proofs.YtcelfjbajdffkaaGreatDoor.Par
