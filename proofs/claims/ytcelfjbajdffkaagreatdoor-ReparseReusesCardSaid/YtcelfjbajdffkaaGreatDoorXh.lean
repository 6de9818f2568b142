/- The parser: paths, functions, data types, members, items. Printed by r6/Ns.py (auto.py). -/
import Derived.Test.YtcelfjbajdffkaaGreatDoorXg
set_option linter.unusedVariables false
set_option linter.unusedSimpArgs false
namespace Go.Proofs.YtcelfjbajdffkaaGreatDoor.Par
set_option maxRecDepth 20000
open Go.Gx Go.RowKit Go.Lib
open Lexi (Asc)
section
variable {w0 : World} {tv : Value} {toks : List Tok} {F : Fs} {w w' : World} {bP : Nat} {below : List (Int × List Tr)} {k : Int} {s r : S} {n : Nat}
theorem clo_160_true (hC : Cx w0 tv toks) (hD : ∀ m,m < n → DN w0 tv toks m) {b0 : Nat} (hv_b0 : Var w b0 [.pointer (some ⟨bP,0,none⟩)] 60) (hF_b0 : F b0) {b1 : Nat} (hv_b1 : Var w b1 [.bool true] 4) (hF_b1 : F b1) : Clo w0 tv toks n F bP 160 [] [.pointer (some ⟨b0,0,none⟩),.pointer (some ⟨b1,0,none⟩)] w (.seq Cmd.expIdent (.cond (at1 [⟨#[60]⟩]) (.seq .bump (Cmd.list ⟨#[62]⟩ (.call .typeExpr))) .skip)) := by
 refine ⟨Tryz.call160,fun w1 hw1 below k s r hp hr hb => ?_⟩
 replace hv_b0 := var_bw hv_b0 hw1 hF_b0
 replace hv_b1 := var_bw hv_b1 hw1 hF_b1
 show Cl Tryz.prog 160 #[.pointer (some ⟨b0,0,none⟩),.pointer (some ⟨b1,0,none⟩)] w1 _
 have hbw := Bw.refl F w1
 have hsub : ∀ z,F z → F z := fun z h => h
 have hbase := hp.base
 refine Cl.enter Tryz.func160 rfl Tryz.ntmps160 rfl rfl (.sr (.tq (t_load ty60 rfl (Cells.get (i := 0) hv_b0.cells rfl)) rfl ?_))
 obtain ⟨s1,h1a,h1b⟩ := run_seq' hr
 refine Rg.wd trivial (w_call Tryz.call107 rfl (D_expIdent hC hp h1a (adds_le h1b hb))) rfl ?_
 rintro _ w1 ⟨hp1,hb1⟩
 replace hv_b0 := var_bw hv_b0 hb1 hF_b0
 replace hv_b1 := var_bw hv_b1 hb1 hF_b1
 replace hbw := hbw.trans (hb1.sub hsub)
 clear hp
 have hp := hp1
 clear hp1
 refine .done ?_
 cases haq1 : (isAt [⟨#[60]⟩] (sig1 s1.rem)) with
 | true =>
  have hq2 := run_condT h1b haq1
  refine .sr (.tq (t_load ty4 rfl (Cells.get (i := 0) hv_b1.cells rfl)) rfl (.mv rfl rfl (.gd (t_load ty60 rfl (Cells.get (i := 0) hv_b0.cells rfl)) rfl (Rg.wd ⟨_,rfl,rfl⟩ (w_buildSlice (bs124_1 _) rfl) rfl ?_))))
  rintro _ w2 ⟨bt7,rfl,qt7,hx2,hvt7⟩
  replace hbw := hbw.trans (Bw.of hx2 fun z hz => hp.und z (hsub z hz))
  replace hp := hp.extw hx2
  replace hv_b0 := hv_b0.ext hx2
  replace hv_b1 := hv_b1.ext hx2
  obtain ⟨s2,h2a,h2b⟩ := run_seq' hq2
  obtain rfl := run_bump' h2a
  refine Rg.wd ⟨_,rfl,rfl⟩ (w_call Tryz.call54 rfl (acc_T hC hp (texts := [⟨#[60]⟩]) hvt7 (by decide) haq1 (adds_le h2b hb))) rfl ?_
  rintro _ w3 ⟨rfl,hp1,hb3⟩
  replace hv_b0 := var_bw hv_b0 hb3 hF_b0
  replace hv_b1 := var_bw hv_b1 hb3 hF_b1
  replace hbw := hbw.trans (hb3.sub hsub)
  clear hp
  have hp := hp1
  clear hp1
  refine .tq (t_pickT rfl rfl) rfl (.done (.condT rfl (Wp.region (.tq (t_load ty60 rfl (Cells.get (i := 0) hv_b0.cells rfl)) rfl (.tq (t_load ty60 rfl (Cells.get (i := 0) hv_b0.cells rfl)) rfl (.tq (t_makeFuncB (us := [.pointer (some ⟨bP,0,none⟩)]) (vs := []) rfl rfl) rfl (Rg.wd trivial (w_call Tryz.call130 rfl (D_list hC hp (clo_call Tryz.call111 hD (.typeExpr)) h2b hb)) rfl ?_)))))))
  rintro _ w4 ⟨hp1,hb4⟩
  replace hv_b0 := var_bw hv_b0 hb4 hF_b0
  replace hv_b1 := var_bw hv_b1 hb4 hF_b1
  replace hbw := hbw.trans (hb4.sub hsub)
  clear hp
  have hp := hp1
  clear hp1
  refine .done ?_
  exact ⟨[],trivial,hp.sub hsub hbase,hbw⟩
 | false =>
  have hq2 := run_condF h1b haq1
  obtain rfl := run_skip' hq2
  refine .sr (.tq (t_load ty4 rfl (Cells.get (i := 0) hv_b1.cells rfl)) rfl (.mv rfl rfl (.gd (t_load ty60 rfl (Cells.get (i := 0) hv_b0.cells rfl)) rfl (Rg.wd ⟨_,rfl,rfl⟩ (w_buildSlice (bs124_1 _) rfl) rfl ?_))))
  rintro _ w2 ⟨bt7,rfl,qt7,hx2,hvt7⟩
  replace hbw := hbw.trans (Bw.of hx2 fun z hz => hp.und z (hsub z hz))
  replace hp := hp.extw hx2
  replace hv_b0 := hv_b0.ext hx2
  replace hv_b1 := hv_b1.ext hx2
  refine Rg.wd ⟨_,rfl,rfl⟩ (w_call Tryz.call54 rfl (acc_F hC hp (texts := [⟨#[60]⟩]) hvt7 (by decide) haq1)) rfl ?_
  rintro _ w3 ⟨rfl,hp1,hb3⟩
  replace hv_b0 := var_bw hv_b0 hb3 hF_b0
  replace hv_b1 := var_bw hv_b1 hb3 hF_b1
  replace hbw := hbw.trans (hb3.sub hsub)
  clear hp
  have hp := hp1
  clear hp1
  refine .tq (t_pickT rfl rfl) rfl (.done (.condF rfl (Wp.skip ?_)))
  exact ⟨[],trivial,hp.sub hsub hbase,hbw⟩
theorem clo_159_true (hC : Cx w0 tv toks) (hD : ∀ m,m < n → DN w0 tv toks m) {b0 : Nat} (hv_b0 : Var w b0 [.pointer (some ⟨bP,0,none⟩)] 60) (hF_b0 : F b0) {b1 : Nat} (hv_b1 : Var w b1 [.bool true] 4) (hF_b1 : F b1) : Clo w0 tv toks n F bP 159 [] [.pointer (some ⟨b0,0,none⟩),.pointer (some ⟨b1,0,none⟩)] w (.seq (.node 18 (.seq Cmd.expIdent (.cond (at1 [⟨#[60]⟩]) (.seq .bump (Cmd.list ⟨#[62]⟩ (.call .typeExpr))) .skip))) (.loop (at1 [⟨#[58,58]⟩]) (.seq .bump (.node 18 (.seq Cmd.expIdent (.cond (at1 [⟨#[60]⟩]) (.seq .bump (Cmd.list ⟨#[62]⟩ (.call .typeExpr))) .skip)))))) := by
 refine ⟨Tryz.call159,fun w1 hw1 below k s r hp hr hb => ?_⟩
 replace hv_b0 := var_bw hv_b0 hw1 hF_b0
 replace hv_b1 := var_bw hv_b1 hw1 hF_b1
 show Cl Tryz.prog 159 #[.pointer (some ⟨b0,0,none⟩),.pointer (some ⟨b1,0,none⟩)] w1 _
 have hbw := Bw.refl F w1
 have hsub : ∀ z,F z → F z := fun z h => h
 have hbase := hp.base
 refine Cl.enter Tryz.func159 rfl Tryz.ntmps159 rfl rfl (.sr (.as rfl rfl (.done (Wp.block ?_))))
 refine Wp.loop (ι := S × Nat × Bool) (fun i => [(0,.pointer (some ⟨b0,0,none⟩)),(1,.pointer (some ⟨b1,0,none⟩)),(2,.bool i.2.2)])
  (fun i w' => Ps w0 tv toks F w' bP below k i.1 ∧ Bw F w1 w' ∧ (i.2.2 = true → run body n (.seq (.node 18 (.seq Cmd.expIdent (.cond (at1 [⟨#[60]⟩]) (.seq .bump (Cmd.list ⟨#[62]⟩ (.call .typeExpr))) .skip))) (.loop (at1 [⟨#[58,58]⟩]) (.seq .bump (.node 18 (.seq Cmd.expIdent (.cond (at1 [⟨#[60]⟩]) (.seq .bump (Cmd.list ⟨#[62]⟩ (.call .typeExpr))) .skip)))))) i.1 = some r) ∧ (i.2.2 = false → run body i.2.1 (.loop (at1 [⟨#[58,58]⟩]) (.seq .bump (.node 18 (.seq Cmd.expIdent (.cond (at1 [⟨#[60]⟩]) (.seq .bump (Cmd.list ⟨#[62]⟩ (.call .typeExpr))) .skip))))) i.1 = some r ∧ i.2.1 ≤ n)) (fun i => if i.2.2 = true then n + 1 else i.2.1) (s,n,true) (by repeat (first | exact .nil | refine .cons rfl ?_)) ⟨hp,Bw.refl _ _,fun _ => hr,fun h => by cases h⟩ ?_
 clear hp
 rintro ⟨s',m,fst⟩ wl ⟨hp,hbl,hq1,hq2⟩
 simp only at hp hq1 hq2
 replace hbw := hbw.trans (hbl.sub hsub)
 replace hv_b0 := var_bw hv_b0 hbl hF_b0
 replace hv_b1 := var_bw hv_b1 hbl hF_b1
 cases fst with
 | true =>
  have hrun := hq1 rfl
  refine .seq (.sr (.mv rfl rfl (.mv rfl rfl (.so rfl rfl (.so rfl rfl (.so rfl rfl (.tq (t_pickT rfl rfl) rfl (.done (.condT rfl (Wp.skip (.seq (Wp.block ?_))))))))))))
  refine Wp.region (.tq (t_load ty60 rfl (Cells.get (i := 0) hv_b0.cells rfl)) rfl (.tq (t_makeFuncB (us := []) (vs := [.pointer (some ⟨b0,0,none⟩),.pointer (some ⟨b1,0,none⟩)]) rfl rfl) rfl ?_))
  obtain ⟨s1,h1a,h1b⟩ := run_seq' hrun
  refine Rg.wd trivial (w_call Tryz.call52 rfl (D_node hp (clo_160_true hC hD hv_b0 hF_b0 hv_b1 hF_b1) h1a (adds_le h1b hb))) rfl ?_
  rintro _ w1 ⟨hp1,hb1⟩
  replace hbl := hbl.trans hb1
  replace hv_b0 := var_bw hv_b0 hb1 hF_b0
  replace hv_b1 := var_bw hv_b1 hb1 hF_b1
  replace hbw := hbw.trans (hb1.sub hsub)
  clear hp
  have hp := hp1
  clear hp1
  refine .done (Wp.region (.as rfl rfl (.done ?_)))
  exact ⟨(s1,n,false),by repeat (first | exact .nil | refine .cons rfl ?_),⟨hp,hbl,fun h => (by cases h),fun _ => ⟨h1b,Nat.le_refl _⟩⟩,by simp⟩
 | false =>
  obtain ⟨hrun,hmn⟩ := hq2 rfl
  refine .seq ?_
  cases haq1 : (isAt [⟨#[58,58]⟩] (sig1 s'.rem)) with
  | true =>
   obtain ⟨m1,s2,rfl,hbody,hrest⟩ := run_loopT hrun haq1
   replace hbody := run_le hmn hbody
   refine .sr (.mv rfl rfl (.mv rfl rfl (.gd (t_load ty60 rfl (Cells.get (i := 0) hv_b0.cells rfl)) rfl (Rg.wd ⟨_,rfl,rfl⟩ (w_buildSlice (bs124_1 _) rfl) rfl ?_))))
   rintro _ w1 ⟨bt6,rfl,qt6,hx1,hvt6⟩
   replace hbl := hbl.trans (Bw.of hx1 hp.und)
   replace hbw := hbw.trans (Bw.of hx1 fun z hz => hp.und z (hsub z hz))
   replace hp := hp.extw hx1
   replace hv_b0 := hv_b0.ext hx1
   replace hv_b1 := hv_b1.ext hx1
   obtain ⟨s1,h1a,h1b⟩ := run_seq' hbody
   obtain rfl := run_bump' h1a
   refine Rg.wd ⟨_,rfl,rfl⟩ (w_call Tryz.call54 rfl (acc_T hC hp (texts := [⟨#[58,58]⟩]) hvt6 (by decide) haq1 (adds_le h1b (adds_le hrest hb)))) rfl ?_
   rintro _ w2 ⟨rfl,hp1,hb2⟩
   replace hbl := hbl.trans hb2
   replace hv_b0 := var_bw hv_b0 hb2 hF_b0
   replace hv_b1 := var_bw hv_b1 hb2 hF_b1
   replace hbw := hbw.trans (hb2.sub hsub)
   clear hp
   have hp := hp1
   clear hp1
   refine .tq (t_pickF rfl rfl) rfl (.done (.condT rfl (Wp.skip (.seq (Wp.block (Wp.region (.tq (t_load ty60 rfl (Cells.get (i := 0) hv_b0.cells rfl)) rfl (.tq (t_makeFuncB (us := []) (vs := [.pointer (some ⟨b0,0,none⟩),.pointer (some ⟨b1,0,none⟩)]) rfl rfl) rfl (Rg.wd trivial (w_call Tryz.call52 rfl (D_node hp (clo_160_true hC hD hv_b0 hF_b0 hv_b1 hF_b1) h1b (adds_le hrest hb))) rfl ?_)))))))))
   rintro _ w3 ⟨hp1,hb3⟩
   replace hbl := hbl.trans hb3
   replace hv_b0 := var_bw hv_b0 hb3 hF_b0
   replace hv_b1 := var_bw hv_b1 hb3 hF_b1
   replace hbw := hbw.trans (hb3.sub hsub)
   clear hp
   have hp := hp1
   clear hp1
   refine .done (Wp.region (.as rfl rfl (.done ?_)))
   exact ⟨(s2,m1,false),by repeat (first | exact .nil | refine .cons rfl ?_),⟨hp,hbl,fun h => (by cases h),fun _ => ⟨hrest,by simp only; omega⟩⟩,by simp⟩
  | false =>
   obtain rfl := run_loopF hrun haq1
   refine .sr (.mv rfl rfl (.mv rfl rfl (.gd (t_load ty60 rfl (Cells.get (i := 0) hv_b0.cells rfl)) rfl (Rg.wd ⟨_,rfl,rfl⟩ (w_buildSlice (bs124_1 _) rfl) rfl ?_))))
   rintro _ w1 ⟨bt6,rfl,qt6,hx1,hvt6⟩
   replace hbw := hbw.trans (Bw.of hx1 fun z hz => hp.und z (hsub z hz))
   replace hp := hp.extw hx1
   replace hv_b0 := hv_b0.ext hx1
   replace hv_b1 := hv_b1.ext hx1
   refine Rg.wd ⟨_,rfl,rfl⟩ (w_call Tryz.call54 rfl (acc_F hC hp (texts := [⟨#[58,58]⟩]) hvt6 (by decide) haq1)) rfl ?_
   rintro _ w2 ⟨rfl,hp1,hb2⟩
   replace hv_b0 := var_bw hv_b0 hb2 hF_b0
   replace hv_b1 := var_bw hv_b1 hb2 hF_b1
   replace hbw := hbw.trans (hb2.sub hsub)
   clear hp
   have hp := hp1
   clear hp1
   refine .tq (t_pickF rfl rfl) rfl (.done (.condF rfl (Wp.exit ?_)))
   exact ⟨[],trivial,hp.sub hsub hbase,hbw⟩
theorem N_path_true (hC : Cx w0 tv toks) (hD : ∀ m,m < n → DN w0 tv toks m) (hp : Ps w0 tv toks F w bP below k s) (hr : run body n (body (.path true)) s = some r) (hb : r.adds ≤ big) :
  Cl Tryz.prog 141 #[.pointer (some ⟨bP,0,none⟩),.bool true] w (fun u w' => ((Nm.path true) = Nm.statement → u = .bool r.flag) ∧ Ps w0 tv toks F w' bP below k r ∧ Bw F w w') := by
 have hbw := Bw.refl F w
 have hsub : ∀ z,F z → F z := fun z h => h
 have hbase := hp.base
 have hr : run body n (.node 17 (.seq (.node 18 (.seq Cmd.expIdent (.cond (at1 [⟨#[60]⟩]) (.seq .bump (Cmd.list ⟨#[62]⟩ (.call .typeExpr))) .skip))) (.loop (at1 [⟨#[58,58]⟩]) (.seq .bump (.node 18 (.seq Cmd.expIdent (.cond (at1 [⟨#[60]⟩]) (.seq .bump (Cmd.list ⟨#[62]⟩ (.call .typeExpr))) .skip))))))) s = some r := hr
 refine Cl.enter Tryz.func141 rfl Tryz.ntmps141 rfl rfl (.sr (Rg.wd trivial (w_boxed rfl rfl) rfl ?_))
 rintro _ w1 ⟨bx141_2,rfl,qbx141_2,hx1,hv_bx141_2⟩
 replace hbw := hbw.trans (Bw.of hx1 fun z hz => hp.und z (hsub z hz))
 obtain ⟨F_bx141_2,hp1,hF_bx141_2,hs1⟩ := hp.box hx1 qbx141_2 hv_bx141_2.lt
 clear hp
 have hp := hp1
 clear hp1
 replace hsub := fun z hz => hs1 z (hsub z hz)
 refine Rg.wd trivial (w_boxed rfl rfl) rfl ?_
 rintro _ w2 ⟨bx141_3,rfl,qbx141_3,hx2,hv_bx141_3⟩
 replace hbw := hbw.trans (Bw.of hx2 fun z hz => hp.und z (hsub z hz))
 obtain ⟨F_bx141_3,hp1,hF_bx141_3,hs2⟩ := hp.box hx2 qbx141_3 hv_bx141_3.lt
 clear hp
 have hp := hp1
 clear hp1
 replace hsub := fun z hz => hs2 z (hsub z hz)
 replace hv_bx141_2 := hv_bx141_2.ext hx2
 replace hF_bx141_2 := hs2 _ hF_bx141_2
 refine .done (Wp.region (.tq (t_load ty60 rfl (Cells.get (i := 0) hv_bx141_2.cells rfl)) rfl (.tq (t_makeFuncB (us := []) (vs := [.pointer (some ⟨bx141_2,0,none⟩),.pointer (some ⟨bx141_3,0,none⟩)]) rfl rfl) rfl (Rg.wd trivial (w_call Tryz.call52 rfl (D_node hp (clo_159_true hC hD hv_bx141_2 hF_bx141_2 hv_bx141_3 hF_bx141_3) hr hb)) rfl ?_))))
 rintro _ w3 ⟨hp1,hb3⟩
 replace hv_bx141_2 := var_bw hv_bx141_2 hb3 hF_bx141_2
 replace hv_bx141_3 := var_bw hv_bx141_3 hb3 hF_bx141_3
 replace hbw := hbw.trans (hb3.sub hsub)
 clear hp
 have hp := hp1
 clear hp1
 refine .done ?_
 exact ⟨[],trivial,(fun h => by cases h),hp.sub hsub hbase,hbw⟩
theorem clo_160_false (hC : Cx w0 tv toks) (hD : ∀ m,m < n → DN w0 tv toks m) {b0 : Nat} (hv_b0 : Var w b0 [.pointer (some ⟨bP,0,none⟩)] 60) (hF_b0 : F b0) {b1 : Nat} (hv_b1 : Var w b1 [.bool false] 4) (hF_b1 : F b1) : Clo w0 tv toks n F bP 160 [] [.pointer (some ⟨b0,0,none⟩),.pointer (some ⟨b1,0,none⟩)] w (.seq Cmd.expIdent .skip) := by
 refine ⟨Tryz.call160,fun w1 hw1 below k s r hp hr hb => ?_⟩
 replace hv_b0 := var_bw hv_b0 hw1 hF_b0
 replace hv_b1 := var_bw hv_b1 hw1 hF_b1
 show Cl Tryz.prog 160 #[.pointer (some ⟨b0,0,none⟩),.pointer (some ⟨b1,0,none⟩)] w1 _
 have hbw := Bw.refl F w1
 have hsub : ∀ z,F z → F z := fun z h => h
 have hbase := hp.base
 refine Cl.enter Tryz.func160 rfl Tryz.ntmps160 rfl rfl (.sr (.tq (t_load ty60 rfl (Cells.get (i := 0) hv_b0.cells rfl)) rfl ?_))
 obtain ⟨s1,h1a,h1b⟩ := run_seq' hr
 refine Rg.wd trivial (w_call Tryz.call107 rfl (D_expIdent hC hp h1a (adds_le h1b hb))) rfl ?_
 rintro _ w1 ⟨hp1,hb1⟩
 replace hv_b0 := var_bw hv_b0 hb1 hF_b0
 replace hv_b1 := var_bw hv_b1 hb1 hF_b1
 replace hbw := hbw.trans (hb1.sub hsub)
 clear hp
 have hp := hp1
 clear hp1
 refine .done ?_
 obtain rfl := run_skip' h1b
 refine .sr (.tq (t_load ty4 rfl (Cells.get (i := 0) hv_b1.cells rfl)) rfl (.mv rfl rfl (.so rfl rfl (.so rfl rfl (.so rfl rfl (.tq (t_pickF rfl rfl) rfl (.done (.condF rfl (Wp.skip ?_)))))))))
 exact ⟨[],trivial,hp.sub hsub hbase,hbw⟩
theorem clo_159_false (hC : Cx w0 tv toks) (hD : ∀ m,m < n → DN w0 tv toks m) {b0 : Nat} (hv_b0 : Var w b0 [.pointer (some ⟨bP,0,none⟩)] 60) (hF_b0 : F b0) {b1 : Nat} (hv_b1 : Var w b1 [.bool false] 4) (hF_b1 : F b1) : Clo w0 tv toks n F bP 159 [] [.pointer (some ⟨b0,0,none⟩),.pointer (some ⟨b1,0,none⟩)] w (.seq (.node 18 (.seq Cmd.expIdent .skip)) (.loop (at1 [⟨#[58,58]⟩]) (.seq .bump (.node 18 (.seq Cmd.expIdent .skip))))) := by
 refine ⟨Tryz.call159,fun w1 hw1 below k s r hp hr hb => ?_⟩
 replace hv_b0 := var_bw hv_b0 hw1 hF_b0
 replace hv_b1 := var_bw hv_b1 hw1 hF_b1
 show Cl Tryz.prog 159 #[.pointer (some ⟨b0,0,none⟩),.pointer (some ⟨b1,0,none⟩)] w1 _
 have hbw := Bw.refl F w1
 have hsub : ∀ z,F z → F z := fun z h => h
 have hbase := hp.base
 refine Cl.enter Tryz.func159 rfl Tryz.ntmps159 rfl rfl (.sr (.as rfl rfl (.done (Wp.block ?_))))
 refine Wp.loop (ι := S × Nat × Bool) (fun i => [(0,.pointer (some ⟨b0,0,none⟩)),(1,.pointer (some ⟨b1,0,none⟩)),(2,.bool i.2.2)])
  (fun i w' => Ps w0 tv toks F w' bP below k i.1 ∧ Bw F w1 w' ∧ (i.2.2 = true → run body n (.seq (.node 18 (.seq Cmd.expIdent .skip)) (.loop (at1 [⟨#[58,58]⟩]) (.seq .bump (.node 18 (.seq Cmd.expIdent .skip))))) i.1 = some r) ∧ (i.2.2 = false → run body i.2.1 (.loop (at1 [⟨#[58,58]⟩]) (.seq .bump (.node 18 (.seq Cmd.expIdent .skip)))) i.1 = some r ∧ i.2.1 ≤ n)) (fun i => if i.2.2 = true then n + 1 else i.2.1) (s,n,true) (by repeat (first | exact .nil | refine .cons rfl ?_)) ⟨hp,Bw.refl _ _,fun _ => hr,fun h => by cases h⟩ ?_
 clear hp
 rintro ⟨s',m,fst⟩ wl ⟨hp,hbl,hq1,hq2⟩
 simp only at hp hq1 hq2
 replace hbw := hbw.trans (hbl.sub hsub)
 replace hv_b0 := var_bw hv_b0 hbl hF_b0
 replace hv_b1 := var_bw hv_b1 hbl hF_b1
 cases fst with
 | true =>
  have hrun := hq1 rfl
  refine .seq (.sr (.mv rfl rfl (.mv rfl rfl (.so rfl rfl (.so rfl rfl (.so rfl rfl (.tq (t_pickT rfl rfl) rfl (.done (.condT rfl (Wp.skip (.seq (Wp.block ?_))))))))))))
  refine Wp.region (.tq (t_load ty60 rfl (Cells.get (i := 0) hv_b0.cells rfl)) rfl (.tq (t_makeFuncB (us := []) (vs := [.pointer (some ⟨b0,0,none⟩),.pointer (some ⟨b1,0,none⟩)]) rfl rfl) rfl ?_))
  obtain ⟨s1,h1a,h1b⟩ := run_seq' hrun
  refine Rg.wd trivial (w_call Tryz.call52 rfl (D_node hp (clo_160_false hC hD hv_b0 hF_b0 hv_b1 hF_b1) h1a (adds_le h1b hb))) rfl ?_
  rintro _ w1 ⟨hp1,hb1⟩
  replace hbl := hbl.trans hb1
  replace hv_b0 := var_bw hv_b0 hb1 hF_b0
  replace hv_b1 := var_bw hv_b1 hb1 hF_b1
  replace hbw := hbw.trans (hb1.sub hsub)
  clear hp
  have hp := hp1
  clear hp1
  refine .done (Wp.region (.as rfl rfl (.done ?_)))
  exact ⟨(s1,n,false),by repeat (first | exact .nil | refine .cons rfl ?_),⟨hp,hbl,fun h => (by cases h),fun _ => ⟨h1b,Nat.le_refl _⟩⟩,by simp⟩
 | false =>
  obtain ⟨hrun,hmn⟩ := hq2 rfl
  refine .seq ?_
  cases haq1 : (isAt [⟨#[58,58]⟩] (sig1 s'.rem)) with
  | true =>
   obtain ⟨m1,s2,rfl,hbody,hrest⟩ := run_loopT hrun haq1
   replace hbody := run_le hmn hbody
   refine .sr (.mv rfl rfl (.mv rfl rfl (.gd (t_load ty60 rfl (Cells.get (i := 0) hv_b0.cells rfl)) rfl (Rg.wd ⟨_,rfl,rfl⟩ (w_buildSlice (bs124_1 _) rfl) rfl ?_))))
   rintro _ w1 ⟨bt6,rfl,qt6,hx1,hvt6⟩
   replace hbl := hbl.trans (Bw.of hx1 hp.und)
   replace hbw := hbw.trans (Bw.of hx1 fun z hz => hp.und z (hsub z hz))
   replace hp := hp.extw hx1
   replace hv_b0 := hv_b0.ext hx1
   replace hv_b1 := hv_b1.ext hx1
   obtain ⟨s1,h1a,h1b⟩ := run_seq' hbody
   obtain rfl := run_bump' h1a
   refine Rg.wd ⟨_,rfl,rfl⟩ (w_call Tryz.call54 rfl (acc_T hC hp (texts := [⟨#[58,58]⟩]) hvt6 (by decide) haq1 (adds_le h1b (adds_le hrest hb)))) rfl ?_
   rintro _ w2 ⟨rfl,hp1,hb2⟩
   replace hbl := hbl.trans hb2
   replace hv_b0 := var_bw hv_b0 hb2 hF_b0
   replace hv_b1 := var_bw hv_b1 hb2 hF_b1
   replace hbw := hbw.trans (hb2.sub hsub)
   clear hp
   have hp := hp1
   clear hp1
   refine .tq (t_pickF rfl rfl) rfl (.done (.condT rfl (Wp.skip (.seq (Wp.block (Wp.region (.tq (t_load ty60 rfl (Cells.get (i := 0) hv_b0.cells rfl)) rfl (.tq (t_makeFuncB (us := []) (vs := [.pointer (some ⟨b0,0,none⟩),.pointer (some ⟨b1,0,none⟩)]) rfl rfl) rfl (Rg.wd trivial (w_call Tryz.call52 rfl (D_node hp (clo_160_false hC hD hv_b0 hF_b0 hv_b1 hF_b1) h1b (adds_le hrest hb))) rfl ?_)))))))))
   rintro _ w3 ⟨hp1,hb3⟩
   replace hbl := hbl.trans hb3
   replace hv_b0 := var_bw hv_b0 hb3 hF_b0
   replace hv_b1 := var_bw hv_b1 hb3 hF_b1
   replace hbw := hbw.trans (hb3.sub hsub)
   clear hp
   have hp := hp1
   clear hp1
   refine .done (Wp.region (.as rfl rfl (.done ?_)))
   exact ⟨(s2,m1,false),by repeat (first | exact .nil | refine .cons rfl ?_),⟨hp,hbl,fun h => (by cases h),fun _ => ⟨hrest,by simp only; omega⟩⟩,by simp⟩
  | false =>
   obtain rfl := run_loopF hrun haq1
   refine .sr (.mv rfl rfl (.mv rfl rfl (.gd (t_load ty60 rfl (Cells.get (i := 0) hv_b0.cells rfl)) rfl (Rg.wd ⟨_,rfl,rfl⟩ (w_buildSlice (bs124_1 _) rfl) rfl ?_))))
   rintro _ w1 ⟨bt6,rfl,qt6,hx1,hvt6⟩
   replace hbw := hbw.trans (Bw.of hx1 fun z hz => hp.und z (hsub z hz))
   replace hp := hp.extw hx1
   replace hv_b0 := hv_b0.ext hx1
   replace hv_b1 := hv_b1.ext hx1
   refine Rg.wd ⟨_,rfl,rfl⟩ (w_call Tryz.call54 rfl (acc_F hC hp (texts := [⟨#[58,58]⟩]) hvt6 (by decide) haq1)) rfl ?_
   rintro _ w2 ⟨rfl,hp1,hb2⟩
   replace hv_b0 := var_bw hv_b0 hb2 hF_b0
   replace hv_b1 := var_bw hv_b1 hb2 hF_b1
   replace hbw := hbw.trans (hb2.sub hsub)
   clear hp
   have hp := hp1
   clear hp1
   refine .tq (t_pickF rfl rfl) rfl (.done (.condF rfl (Wp.exit ?_)))
   exact ⟨[],trivial,hp.sub hsub hbase,hbw⟩
theorem N_path_false (hC : Cx w0 tv toks) (hD : ∀ m,m < n → DN w0 tv toks m) (hp : Ps w0 tv toks F w bP below k s) (hr : run body n (body (.path false)) s = some r) (hb : r.adds ≤ big) :
  Cl Tryz.prog 141 #[.pointer (some ⟨bP,0,none⟩),.bool false] w (fun u w' => ((Nm.path false) = Nm.statement → u = .bool r.flag) ∧ Ps w0 tv toks F w' bP below k r ∧ Bw F w w') := by
 have hbw := Bw.refl F w
 have hsub : ∀ z,F z → F z := fun z h => h
 have hbase := hp.base
 have hr : run body n (.node 17 (.seq (.node 18 (.seq Cmd.expIdent .skip)) (.loop (at1 [⟨#[58,58]⟩]) (.seq .bump (.node 18 (.seq Cmd.expIdent .skip)))))) s = some r := hr
 refine Cl.enter Tryz.func141 rfl Tryz.ntmps141 rfl rfl (.sr (Rg.wd trivial (w_boxed rfl rfl) rfl ?_))
 rintro _ w1 ⟨bx141_2,rfl,qbx141_2,hx1,hv_bx141_2⟩
 replace hbw := hbw.trans (Bw.of hx1 fun z hz => hp.und z (hsub z hz))
 obtain ⟨F_bx141_2,hp1,hF_bx141_2,hs1⟩ := hp.box hx1 qbx141_2 hv_bx141_2.lt
 clear hp
 have hp := hp1
 clear hp1
 replace hsub := fun z hz => hs1 z (hsub z hz)
 refine Rg.wd trivial (w_boxed rfl rfl) rfl ?_
 rintro _ w2 ⟨bx141_3,rfl,qbx141_3,hx2,hv_bx141_3⟩
 replace hbw := hbw.trans (Bw.of hx2 fun z hz => hp.und z (hsub z hz))
 obtain ⟨F_bx141_3,hp1,hF_bx141_3,hs2⟩ := hp.box hx2 qbx141_3 hv_bx141_3.lt
 clear hp
 have hp := hp1
 clear hp1
 replace hsub := fun z hz => hs2 z (hsub z hz)
 replace hv_bx141_2 := hv_bx141_2.ext hx2
 replace hF_bx141_2 := hs2 _ hF_bx141_2
 refine .done (Wp.region (.tq (t_load ty60 rfl (Cells.get (i := 0) hv_bx141_2.cells rfl)) rfl (.tq (t_makeFuncB (us := []) (vs := [.pointer (some ⟨bx141_2,0,none⟩),.pointer (some ⟨bx141_3,0,none⟩)]) rfl rfl) rfl (Rg.wd trivial (w_call Tryz.call52 rfl (D_node hp (clo_159_false hC hD hv_bx141_2 hF_bx141_2 hv_bx141_3 hF_bx141_3) hr hb)) rfl ?_))))
 rintro _ w3 ⟨hp1,hb3⟩
 replace hv_bx141_2 := var_bw hv_bx141_2 hb3 hF_bx141_2
 replace hv_bx141_3 := var_bw hv_bx141_3 hb3 hF_bx141_3
 replace hbw := hbw.trans (hb3.sub hsub)
 clear hp
 have hp := hp1
 clear hp1
 refine .done ?_
 exact ⟨[],trivial,(fun h => by cases h),hp.sub hsub hbase,hbw⟩
theorem N_function_true (hC : Cx w0 tv toks) (hD : ∀ m,m < n → DN w0 tv toks m) (hp : Ps w0 tv toks F w bP below k s) (hr : run body n (body (.function true)) s = some r) (hb : r.adds ≤ big) :
  Cl Tryz.prog 105 #[.pointer (some ⟨bP,0,none⟩),.bool true] w (fun u w' => ((Nm.function true) = Nm.statement → u = .bool r.flag) ∧ Ps w0 tv toks F w' bP below k r ∧ Bw F w w') := by
 have hbw := Bw.refl F w
 have hsub : ∀ z,F z → F z := fun z h => h
 have hbase := hp.base
 have hr : run body n (.seq Cmd.expIdent (.seq (.call .typeParams) (.seq (Cmd.exp ⟨#[40]⟩) (.seq (.call (.params ⟨#[41]⟩)) (.seq (Cmd.opt ⟨#[45,62]⟩ (.call .typeExpr)) (.call .block)))))) s = some r := hr
 refine Cl.enter Tryz.func105 rfl Tryz.ntmps105 rfl rfl (.sr (.mv rfl rfl ?_))
 obtain ⟨s1,h1a,h1b⟩ := run_seq' hr
 refine Rg.wd trivial (w_call Tryz.call107 rfl (D_expIdent hC hp h1a (adds_le h1b hb))) rfl ?_
 rintro _ w1 ⟨hp1,hb1⟩
 replace hbw := hbw.trans (hb1.sub hsub)
 clear hp
 have hp := hp1
 clear hp1
 refine .done (.sr (.mv rfl rfl ?_))
 obtain ⟨s2,h2a,h2b⟩ := run_seq' h1b
 refine Rg.wd trivial (w_call Tryz.call126 rfl (D_call hD hp h2a (adds_le h2b hb))) rfl ?_
 rintro _ w2 ⟨hst,hp1,hb2⟩
 replace hbw := hbw.trans (hb2.sub hsub)
 clear hp
 have hp := hp1
 clear hp1
 refine .done (.sr (.mv rfl rfl ?_))
 obtain ⟨s3,h3a,h3b⟩ := run_seq' h2b
 refine Rg.wd trivial (w_call Tryz.call110 rfl (D_exp hC hp h3a (adds_le h3b hb))) rfl ?_
 rintro _ w3 ⟨hp1,hb3⟩
 replace hbw := hbw.trans (hb3.sub hsub)
 clear hp
 have hp := hp1
 clear hp1
 refine .done (.sr (.mv rfl rfl ?_))
 obtain ⟨s4,h4a,h4b⟩ := run_seq' h3b
 refine Rg.wd trivial (w_call Tryz.call113 rfl (D_call hD hp h4a (adds_le h4b hb))) rfl ?_
 rintro _ w4 ⟨hst,hp1,hb4⟩
 replace hbw := hbw.trans (hb4.sub hsub)
 clear hp
 have hp := hp1
 clear hp1
 refine .done (.sr (.mv rfl rfl (.mv rfl rfl (.tq (t_makeFuncB (us := [.pointer (some ⟨bP,0,none⟩)]) (vs := []) rfl rfl) rfl ?_))))
 obtain ⟨s5,h5a,h5b⟩ := run_seq' h4b
 refine Rg.wd trivial (w_call Tryz.call127 rfl (D_opt hC hp (clo_call Tryz.call111 hD (.typeExpr)) h5a (adds_le h5b hb))) rfl ?_
 rintro _ w5 ⟨hp1,hb5⟩
 replace hbw := hbw.trans (hb5.sub hsub)
 clear hp
 have hp := hp1
 clear hp1
 refine .done (.seq (.sr (.mv rfl rfl (.tq (t_notB rfl) rfl (.mv rfl rfl (.so rfl rfl (.so rfl rfl (.so rfl rfl (.tq (t_pickF rfl rfl) rfl (.done (.condF rfl (Wp.skip ?_))))))))))))
 refine Wp.region (.mv rfl rfl (Rg.wd trivial (w_call Tryz.call129 rfl (D_call hD hp h5b hb)) rfl ?_))
 rintro _ w6 ⟨hst,hp1,hb6⟩
 replace hbw := hbw.trans (hb6.sub hsub)
 clear hp
 have hp := hp1
 clear hp1
 refine .done ?_
 exact ⟨[],trivial,(fun h => by cases h),hp.sub hsub hbase,hbw⟩
theorem N_function_false (hC : Cx w0 tv toks) (hD : ∀ m,m < n → DN w0 tv toks m) (hp : Ps w0 tv toks F w bP below k s) (hr : run body n (body (.function false)) s = some r) (hb : r.adds ≤ big) :
  Cl Tryz.prog 105 #[.pointer (some ⟨bP,0,none⟩),.bool false] w (fun u w' => ((Nm.function false) = Nm.statement → u = .bool r.flag) ∧ Ps w0 tv toks F w' bP below k r ∧ Bw F w w') := by
 have hbw := Bw.refl F w
 have hsub : ∀ z,F z → F z := fun z h => h
 have hbase := hp.base
 have hr : run body n (.seq Cmd.expIdent (.seq (.call .typeParams) (.seq (Cmd.exp ⟨#[40]⟩) (.seq (.call (.params ⟨#[41]⟩)) (.seq (Cmd.opt ⟨#[45,62]⟩ (.call .typeExpr)) (.cond (at1 [⟨#[59]⟩]) (.seq .bump (.leaf 0)) (.call .block))))))) s = some r := hr
 refine Cl.enter Tryz.func105 rfl Tryz.ntmps105 rfl rfl (.sr (.mv rfl rfl ?_))
 obtain ⟨s1,h1a,h1b⟩ := run_seq' hr
 refine Rg.wd trivial (w_call Tryz.call107 rfl (D_expIdent hC hp h1a (adds_le h1b hb))) rfl ?_
 rintro _ w1 ⟨hp1,hb1⟩
 replace hbw := hbw.trans (hb1.sub hsub)
 clear hp
 have hp := hp1
 clear hp1
 refine .done (.sr (.mv rfl rfl ?_))
 obtain ⟨s2,h2a,h2b⟩ := run_seq' h1b
 refine Rg.wd trivial (w_call Tryz.call126 rfl (D_call hD hp h2a (adds_le h2b hb))) rfl ?_
 rintro _ w2 ⟨hst,hp1,hb2⟩
 replace hbw := hbw.trans (hb2.sub hsub)
 clear hp
 have hp := hp1
 clear hp1
 refine .done (.sr (.mv rfl rfl ?_))
 obtain ⟨s3,h3a,h3b⟩ := run_seq' h2b
 refine Rg.wd trivial (w_call Tryz.call110 rfl (D_exp hC hp h3a (adds_le h3b hb))) rfl ?_
 rintro _ w3 ⟨hp1,hb3⟩
 replace hbw := hbw.trans (hb3.sub hsub)
 clear hp
 have hp := hp1
 clear hp1
 refine .done (.sr (.mv rfl rfl ?_))
 obtain ⟨s4,h4a,h4b⟩ := run_seq' h3b
 refine Rg.wd trivial (w_call Tryz.call113 rfl (D_call hD hp h4a (adds_le h4b hb))) rfl ?_
 rintro _ w4 ⟨hst,hp1,hb4⟩
 replace hbw := hbw.trans (hb4.sub hsub)
 clear hp
 have hp := hp1
 clear hp1
 refine .done (.sr (.mv rfl rfl (.mv rfl rfl (.tq (t_makeFuncB (us := [.pointer (some ⟨bP,0,none⟩)]) (vs := []) rfl rfl) rfl ?_))))
 obtain ⟨s5,h5a,h5b⟩ := run_seq' h4b
 refine Rg.wd trivial (w_call Tryz.call127 rfl (D_opt hC hp (clo_call Tryz.call111 hD (.typeExpr)) h5a (adds_le h5b hb))) rfl ?_
 rintro _ w5 ⟨hp1,hb5⟩
 replace hbw := hbw.trans (hb5.sub hsub)
 clear hp
 have hp := hp1
 clear hp1
 refine .done (.seq ?_)
 cases haq1 : (isAt [⟨#[59]⟩] (sig1 s5.rem)) with
 | true =>
  have hq2 := run_condT h5b haq1
  refine .sr (.mv rfl rfl (.tq (t_notB rfl) rfl (.mv rfl rfl (.gd (t_move rfl) rfl (Rg.wd ⟨_,rfl,rfl⟩ (w_buildSlice (bs124_1 _) rfl) rfl ?_)))))
  rintro _ w6 ⟨bt20,rfl,qt20,hx6,hvt20⟩
  replace hbw := hbw.trans (Bw.of hx6 fun z hz => hp.und z (hsub z hz))
  replace hp := hp.extw hx6
  obtain ⟨s6,h6a,h6b⟩ := run_seq' hq2
  obtain rfl := run_bump' h6a
  refine Rg.wd ⟨_,rfl,rfl⟩ (w_call Tryz.call54 rfl (acc_T hC hp (texts := [⟨#[59]⟩]) hvt20 (by decide) haq1 (adds_le h6b hb))) rfl ?_
  rintro _ w7 ⟨rfl,hp1,hb7⟩
  replace hbw := hbw.trans (hb7.sub hsub)
  clear hp
  have hp := hp1
  clear hp1
  refine .tq (t_pickT rfl rfl) rfl (.done (.condT rfl (.sr (.mv rfl rfl (Rg.wd trivial (w_call Tryz.call128 rfl (D_absent hp h6b hb)) rfl ?_)))))
  rintro _ w8 ⟨hp1,hb8⟩
  replace hbw := hbw.trans (hb8.sub hsub)
  clear hp
  have hp := hp1
  clear hp1
  refine .done (Wp.ret ?_)
  exact ⟨[],trivial,(fun h => by cases h),hp.sub hsub hbase,hbw⟩
 | false =>
  have hq2 := run_condF h5b haq1
  refine .sr (.mv rfl rfl (.tq (t_notB rfl) rfl (.mv rfl rfl (.gd (t_move rfl) rfl (Rg.wd ⟨_,rfl,rfl⟩ (w_buildSlice (bs124_1 _) rfl) rfl ?_)))))
  rintro _ w6 ⟨bt20,rfl,qt20,hx6,hvt20⟩
  replace hbw := hbw.trans (Bw.of hx6 fun z hz => hp.und z (hsub z hz))
  replace hp := hp.extw hx6
  refine Rg.wd ⟨_,rfl,rfl⟩ (w_call Tryz.call54 rfl (acc_F hC hp (texts := [⟨#[59]⟩]) hvt20 (by decide) haq1)) rfl ?_
  rintro _ w7 ⟨rfl,hp1,hb7⟩
  replace hbw := hbw.trans (hb7.sub hsub)
  clear hp
  have hp := hp1
  clear hp1
  refine .tq (t_pickT rfl rfl) rfl (.done (.condF rfl (Wp.skip (Wp.region (.mv rfl rfl (Rg.wd trivial (w_call Tryz.call129 rfl (D_call hD hp hq2 hb)) rfl ?_))))))
  rintro _ w8 ⟨hst,hp1,hb8⟩
  replace hbw := hbw.trans (hb8.sub hsub)
  clear hp
  have hp := hp1
  clear hp1
  refine .done ?_
  exact ⟨[],trivial,(fun h => by cases h),hp.sub hsub hbase,hbw⟩
theorem clo_133 (hC : Cx w0 tv toks) (hD : ∀ m,m < n → DN w0 tv toks m) {b0 : Nat} (hv_b0 : Var w b0 [.pointer (some ⟨bP,0,none⟩)] 60) (hF_b0 : F b0) : Clo w0 tv toks n F bP 133 [] [.pointer (some ⟨b0,0,none⟩)] w (.seq .bump (.seq (Cmd.exp ⟨#[58]⟩) (.call .typeExpr))) := by
 refine ⟨Tryz.call133,fun w1 hw1 below k s r hp hr hb => ?_⟩
 replace hv_b0 := var_bw hv_b0 hw1 hF_b0
 show Cl Tryz.prog 133 #[.pointer (some ⟨b0,0,none⟩)] w1 _
 have hbw := Bw.refl F w1
 have hsub : ∀ z,F z → F z := fun z h => h
 have hbase := hp.base
 refine Cl.enter Tryz.func133 rfl Tryz.ntmps133 rfl rfl (.sr (.tq (t_load ty60 rfl (Cells.get (i := 0) hv_b0.cells rfl)) rfl ?_))
 obtain ⟨s1,h1a,h1b⟩ := run_seq' hr
 refine Rg.wd trivial (w_call Tryz.call55 rfl (D_bump hC hp h1a (adds_le h1b hb))) rfl ?_
 rintro _ w1 ⟨hp1,hb1⟩
 replace hv_b0 := var_bw hv_b0 hb1 hF_b0
 replace hbw := hbw.trans (hb1.sub hsub)
 clear hp
 have hp := hp1
 clear hp1
 refine .done (.sr (.tq (t_load ty60 rfl (Cells.get (i := 0) hv_b0.cells rfl)) rfl ?_))
 obtain ⟨s2,h2a,h2b⟩ := run_seq' h1b
 refine Rg.wd trivial (w_call Tryz.call110 rfl (D_exp hC hp h2a (adds_le h2b hb))) rfl ?_
 rintro _ w2 ⟨hp1,hb2⟩
 replace hv_b0 := var_bw hv_b0 hb2 hF_b0
 replace hbw := hbw.trans (hb2.sub hsub)
 clear hp
 have hp := hp1
 clear hp1
 refine .done (Wp.region (.tq (t_load ty60 rfl (Cells.get (i := 0) hv_b0.cells rfl)) rfl (Rg.wd trivial (w_call Tryz.call111 rfl (D_call hD hp h2b hb)) rfl ?_)))
 rintro _ w3 ⟨hst,hp1,hb3⟩
 replace hv_b0 := var_bw hv_b0 hb3 hF_b0
 replace hbw := hbw.trans (hb3.sub hsub)
 clear hp
 have hp := hp1
 clear hp1
 refine .done ?_
 exact ⟨[],trivial,hp.sub hsub hbase,hbw⟩
theorem clo_134 (hC : Cx w0 tv toks) (hD : ∀ m,m < n → DN w0 tv toks m) {b0 : Nat} (hv_b0 : Var w b0 [.pointer (some ⟨bP,0,none⟩)] 60) (hF_b0 : F b0) : Clo w0 tv toks n F bP 134 [] [.pointer (some ⟨b0,0,none⟩)] w (.seq .bump (.cond (at1 [⟨#[40]⟩]) (.seq .bump (Cmd.list ⟨#[41]⟩ (.call .typeExpr))) .skip)) := by
 refine ⟨Tryz.call134,fun w1 hw1 below k s r hp hr hb => ?_⟩
 replace hv_b0 := var_bw hv_b0 hw1 hF_b0
 show Cl Tryz.prog 134 #[.pointer (some ⟨b0,0,none⟩)] w1 _
 have hbw := Bw.refl F w1
 have hsub : ∀ z,F z → F z := fun z h => h
 have hbase := hp.base
 refine Cl.enter Tryz.func134 rfl Tryz.ntmps134 rfl rfl (.sr (.tq (t_load ty60 rfl (Cells.get (i := 0) hv_b0.cells rfl)) rfl ?_))
 obtain ⟨s1,h1a,h1b⟩ := run_seq' hr
 refine Rg.wd trivial (w_call Tryz.call55 rfl (D_bump hC hp h1a (adds_le h1b hb))) rfl ?_
 rintro _ w1 ⟨hp1,hb1⟩
 replace hv_b0 := var_bw hv_b0 hb1 hF_b0
 replace hbw := hbw.trans (hb1.sub hsub)
 clear hp
 have hp := hp1
 clear hp1
 refine .done ?_
 cases haq1 : (isAt [⟨#[40]⟩] (sig1 s1.rem)) with
 | true =>
  have hq2 := run_condT h1b haq1
  refine .sr (.tq (t_load ty60 rfl (Cells.get (i := 0) hv_b0.cells rfl)) rfl (Rg.wd trivial (w_buildSlice (bs124_1 _) rfl) rfl ?_))
  rintro _ w2 ⟨bt4,rfl,qt4,hx2,hvt4⟩
  replace hbw := hbw.trans (Bw.of hx2 fun z hz => hp.und z (hsub z hz))
  replace hp := hp.extw hx2
  replace hv_b0 := hv_b0.ext hx2
  obtain ⟨s2,h2a,h2b⟩ := run_seq' hq2
  obtain rfl := run_bump' h2a
  refine Rg.wd trivial (w_call Tryz.call54 rfl (acc_T hC hp (texts := [⟨#[40]⟩]) hvt4 (by decide) haq1 (adds_le h2b hb))) rfl ?_
  rintro _ w3 ⟨rfl,hp1,hb3⟩
  replace hv_b0 := var_bw hv_b0 hb3 hF_b0
  replace hbw := hbw.trans (hb3.sub hsub)
  clear hp
  have hp := hp1
  clear hp1
  refine .done (.condT rfl (Wp.region (.tq (t_load ty60 rfl (Cells.get (i := 0) hv_b0.cells rfl)) rfl (.tq (t_load ty60 rfl (Cells.get (i := 0) hv_b0.cells rfl)) rfl (.tq (t_makeFuncB (us := [.pointer (some ⟨bP,0,none⟩)]) (vs := []) rfl rfl) rfl (Rg.wd trivial (w_call Tryz.call130 rfl (D_list hC hp (clo_call Tryz.call111 hD (.typeExpr)) h2b hb)) rfl ?_))))))
  rintro _ w4 ⟨hp1,hb4⟩
  replace hv_b0 := var_bw hv_b0 hb4 hF_b0
  replace hbw := hbw.trans (hb4.sub hsub)
  clear hp
  have hp := hp1
  clear hp1
  refine .done ?_
  exact ⟨[],trivial,hp.sub hsub hbase,hbw⟩
 | false =>
  have hq2 := run_condF h1b haq1
  obtain rfl := run_skip' hq2
  refine .sr (.tq (t_load ty60 rfl (Cells.get (i := 0) hv_b0.cells rfl)) rfl (Rg.wd trivial (w_buildSlice (bs124_1 _) rfl) rfl ?_))
  rintro _ w2 ⟨bt4,rfl,qt4,hx2,hvt4⟩
  replace hbw := hbw.trans (Bw.of hx2 fun z hz => hp.und z (hsub z hz))
  replace hp := hp.extw hx2
  replace hv_b0 := hv_b0.ext hx2
  refine Rg.wd trivial (w_call Tryz.call54 rfl (acc_F hC hp (texts := [⟨#[40]⟩]) hvt4 (by decide) haq1)) rfl ?_
  rintro _ w3 ⟨rfl,hp1,hb3⟩
  replace hv_b0 := var_bw hv_b0 hb3 hF_b0
  replace hbw := hbw.trans (hb3.sub hsub)
  clear hp
  have hp := hp1
  clear hp1
  refine .done (.condF rfl (Wp.skip ?_))
  exact ⟨[],trivial,hp.sub hsub hbase,hbw⟩
theorem clo_131 {kd : Int} (hC : Cx w0 tv toks) (hD : ∀ m,m < n → DN w0 tv toks m) {b0 : Nat} (hv_b0 : Var w b0 [.pointer (some ⟨bP,0,none⟩)] 60) (hF_b0 : F b0) {b1 : Nat} (hv_b1 : Var w b1 [.int .i64 kd] 3) (hF_b1 : F b1) : Clo w0 tv toks n F bP 131 [] [.pointer (some ⟨b0,0,none⟩),.pointer (some ⟨b1,0,none⟩)] w (.cond ident (if kd = 4 then (.node 14 (.seq .bump (.seq (Cmd.exp ⟨#[58]⟩) (.call .typeExpr)))) else (.node 15 (.seq .bump (.cond (at1 [⟨#[40]⟩]) (.seq .bump (Cmd.list ⟨#[41]⟩ (.call .typeExpr))) .skip)))) .skip) := by
 refine ⟨Tryz.call131,fun w1 hw1 below k s r hp hr hb => ?_⟩
 replace hv_b0 := var_bw hv_b0 hw1 hF_b0
 replace hv_b1 := var_bw hv_b1 hw1 hF_b1
 show Cl Tryz.prog 131 #[.pointer (some ⟨b0,0,none⟩),.pointer (some ⟨b1,0,none⟩)] w1 _
 have hbw := Bw.refl F w1
 have hsub : ∀ z,F z → F z := fun z h => h
 have hbase := hp.base
 refine Cl.enter Tryz.func131 rfl Tryz.ntmps131 rfl rfl (Wp.block ?_)
 cases haq1 : ((sig1 s.rem).1 == 103) with
 | true =>
  have hq2 := run_condT hr haq1
  refine .sr (.tq (t_load ty60 rfl (Cells.get (i := 0) hv_b0.cells rfl)) rfl (Rg.wd trivial (w_call Tryz.call132 rfl (atIdent_ok hC hp)) rfl ?_))
  rintro _ w1 ⟨rfl,hx1⟩
  replace hbw := hbw.trans (Bw.of hx1 fun z hz => hp.und z (hsub z hz))
  replace hp := hp.extw hx1
  replace hv_b0 := hv_b0.ext hx1
  replace hv_b1 := hv_b1.ext hx1
  rw [show ((sig1 s.rem).1 == 103) = true from haq1]
  refine .tq (t_notB rfl) rfl (.as rfl rfl (.done (.condF rfl ?_)))
  cases haq3 : (kd == 4) with
  | true =>
   rw [if_pos (beq_iff_eq.1 haq3)] at hq2
   refine .sr (.tq (t_load ty3 rfl (Cells.get (i := 0) hv_b1.cells rfl)) rfl (.tq (t_eqlT rfl rfl (beq_iff_eq.1 haq3)) rfl (.as rfl rfl (.done (.condT rfl (Wp.region (.tq (t_load ty60 rfl (Cells.get (i := 0) hv_b0.cells rfl)) rfl (.tq (t_makeFuncB (us := []) (vs := [.pointer (some ⟨b0,0,none⟩)]) rfl rfl) rfl (Rg.wd trivial (w_call Tryz.call52 rfl (D_node hp (clo_133 hC hD hv_b0 hF_b0) hq2 hb)) rfl ?_)))))))))
   rintro _ w2 ⟨hp1,hb2⟩
   replace hv_b0 := var_bw hv_b0 hb2 hF_b0
   replace hv_b1 := var_bw hv_b1 hb2 hF_b1
   replace hbw := hbw.trans (hb2.sub hsub)
   clear hp
   have hp := hp1
   clear hp1
   refine .done ?_
   exact ⟨[],trivial,hp.sub hsub hbase,hbw⟩
  | false =>
   rw [if_neg (fun e => by rw [beq_iff_eq.2 e] at haq3; cases haq3)] at hq2
   refine .sr (.tq (t_load ty3 rfl (Cells.get (i := 0) hv_b1.cells rfl)) rfl ?_)
   refine .tq (t_eqlF rfl rfl (fun e => by rw [beq_iff_eq.2 e] at haq3; cases haq3)) rfl ?_
   refine .as rfl rfl (.done (.condF rfl (Wp.region (.tq (t_load ty60 rfl (Cells.get (i := 0) hv_b0.cells rfl)) rfl (.tq (t_makeFuncB (us := []) (vs := [.pointer (some ⟨b0,0,none⟩)]) rfl rfl) rfl (Rg.wd trivial (w_call Tryz.call52 rfl (D_node hp (clo_134 hC hD hv_b0 hF_b0) hq2 hb)) rfl ?_))))))
   rintro _ w2 ⟨hp1,hb2⟩
   replace hv_b0 := var_bw hv_b0 hb2 hF_b0
   replace hv_b1 := var_bw hv_b1 hb2 hF_b1
   replace hbw := hbw.trans (hb2.sub hsub)
   clear hp
   have hp := hp1
   clear hp1
   refine .done ?_
   exact ⟨[],trivial,hp.sub hsub hbase,hbw⟩
 | false =>
  have hq2 := run_condF hr haq1
  obtain rfl := run_skip' hq2
  refine .sr (.tq (t_load ty60 rfl (Cells.get (i := 0) hv_b0.cells rfl)) rfl (Rg.wd trivial (w_call Tryz.call132 rfl (atIdent_ok hC hp)) rfl ?_))
  rintro _ w1 ⟨rfl,hx1⟩
  replace hbw := hbw.trans (Bw.of hx1 fun z hz => hp.und z (hsub z hz))
  replace hp := hp.extw hx1
  replace hv_b0 := hv_b0.ext hx1
  replace hv_b1 := hv_b1.ext hx1
  rw [show ((sig1 r.rem).1 == 103) = false from haq1]
  refine .tq (t_notB rfl) rfl (.as rfl rfl (.done (.condT rfl (Wp.skip ?_))))
  exact ⟨[],trivial,hp.sub hsub hbase,hbw⟩
theorem N_dataType {kd : Int} (hC : Cx w0 tv toks) (hD : ∀ m,m < n → DN w0 tv toks m) (hp : Ps w0 tv toks F w bP below k s) (hr : run body n (body (.dataType kd)) s = some r) (hb : r.adds ≤ big) :
  Cl Tryz.prog 106 #[.pointer (some ⟨bP,0,none⟩),.int .i64 kd] w (fun u w' => ((Nm.dataType kd) = Nm.statement → u = .bool r.flag) ∧ Ps w0 tv toks F w' bP below k r ∧ Bw F w w') := by
 have hbw := Bw.refl F w
 have hsub : ∀ z,F z → F z := fun z h => h
 have hbase := hp.base
 have hr : run body n (.seq Cmd.expIdent (.seq (.call .typeParams) (.seq (Cmd.exp ⟨#[123]⟩) (Cmd.list ⟨#[125]⟩ (.cond ident (if kd = 4 then (.node 14 (.seq .bump (.seq (Cmd.exp ⟨#[58]⟩) (.call .typeExpr)))) else (.node 15 (.seq .bump (.cond (at1 [⟨#[40]⟩]) (.seq .bump (Cmd.list ⟨#[41]⟩ (.call .typeExpr))) .skip)))) .skip))))) s = some r := hr
 refine Cl.enter Tryz.func106 rfl Tryz.ntmps106 rfl rfl (.sr (Rg.wd trivial (w_boxed rfl rfl) rfl ?_))
 rintro _ w1 ⟨bx106_2,rfl,qbx106_2,hx1,hv_bx106_2⟩
 replace hbw := hbw.trans (Bw.of hx1 fun z hz => hp.und z (hsub z hz))
 obtain ⟨F_bx106_2,hp1,hF_bx106_2,hs1⟩ := hp.box hx1 qbx106_2 hv_bx106_2.lt
 clear hp
 have hp := hp1
 clear hp1
 replace hsub := fun z hz => hs1 z (hsub z hz)
 refine Rg.wd trivial (w_boxed rfl rfl) rfl ?_
 rintro _ w2 ⟨bx106_3,rfl,qbx106_3,hx2,hv_bx106_3⟩
 replace hbw := hbw.trans (Bw.of hx2 fun z hz => hp.und z (hsub z hz))
 obtain ⟨F_bx106_3,hp1,hF_bx106_3,hs2⟩ := hp.box hx2 qbx106_3 hv_bx106_3.lt
 clear hp
 have hp := hp1
 clear hp1
 replace hsub := fun z hz => hs2 z (hsub z hz)
 replace hv_bx106_2 := hv_bx106_2.ext hx2
 replace hF_bx106_2 := hs2 _ hF_bx106_2
 refine .done (.sr (.tq (t_load ty60 rfl (Cells.get (i := 0) hv_bx106_2.cells rfl)) rfl ?_))
 obtain ⟨s1,h1a,h1b⟩ := run_seq' hr
 refine Rg.wd trivial (w_call Tryz.call107 rfl (D_expIdent hC hp h1a (adds_le h1b hb))) rfl ?_
 rintro _ w3 ⟨hp1,hb3⟩
 replace hv_bx106_2 := var_bw hv_bx106_2 hb3 hF_bx106_2
 replace hv_bx106_3 := var_bw hv_bx106_3 hb3 hF_bx106_3
 replace hbw := hbw.trans (hb3.sub hsub)
 clear hp
 have hp := hp1
 clear hp1
 refine .done (.sr (.tq (t_load ty60 rfl (Cells.get (i := 0) hv_bx106_2.cells rfl)) rfl ?_))
 obtain ⟨s2,h2a,h2b⟩ := run_seq' h1b
 refine Rg.wd trivial (w_call Tryz.call126 rfl (D_call hD hp h2a (adds_le h2b hb))) rfl ?_
 rintro _ w4 ⟨hst,hp1,hb4⟩
 replace hv_bx106_2 := var_bw hv_bx106_2 hb4 hF_bx106_2
 replace hv_bx106_3 := var_bw hv_bx106_3 hb4 hF_bx106_3
 replace hbw := hbw.trans (hb4.sub hsub)
 clear hp
 have hp := hp1
 clear hp1
 refine .done (.sr (.tq (t_load ty60 rfl (Cells.get (i := 0) hv_bx106_2.cells rfl)) rfl ?_))
 obtain ⟨s3,h3a,h3b⟩ := run_seq' h2b
 refine Rg.wd trivial (w_call Tryz.call110 rfl (D_exp hC hp h3a (adds_le h3b hb))) rfl ?_
 rintro _ w5 ⟨hp1,hb5⟩
 replace hv_bx106_2 := var_bw hv_bx106_2 hb5 hF_bx106_2
 replace hv_bx106_3 := var_bw hv_bx106_3 hb5 hF_bx106_3
 replace hbw := hbw.trans (hb5.sub hsub)
 clear hp
 have hp := hp1
 clear hp1
 refine .done (Wp.region (.tq (t_load ty60 rfl (Cells.get (i := 0) hv_bx106_2.cells rfl)) rfl (.tq (t_makeFuncB (us := []) (vs := [.pointer (some ⟨bx106_2,0,none⟩),.pointer (some ⟨bx106_3,0,none⟩)]) rfl rfl) rfl (Rg.wd trivial (w_call Tryz.call130 rfl (D_list hC hp (clo_131 hC hD hv_bx106_2 hF_bx106_2 hv_bx106_3 hF_bx106_3) h3b hb)) rfl ?_))))
 rintro _ w6 ⟨hp1,hb6⟩
 replace hv_bx106_2 := var_bw hv_bx106_2 hb6 hF_bx106_2
 replace hv_bx106_3 := var_bw hv_bx106_3 hb6 hF_bx106_3
 replace hbw := hbw.trans (hb6.sub hsub)
 clear hp
 have hp := hp1
 clear hp1
 refine .done ?_
 exact ⟨[],trivial,(fun h => by cases h),hp.sub hsub hbase,hbw⟩
theorem clo_136 (hC : Cx w0 tv toks) (hD : ∀ m,m < n → DN w0 tv toks m) {b0 : Nat} (hv_b0 : Var w b0 [.pointer (some ⟨bP,0,none⟩)] 60) (hF_b0 : F b0) : Clo w0 tv toks n F bP 136 [] [.pointer (some ⟨b0,0,none⟩)] w (.seq .bump (.call (.function false))) := by
 refine ⟨Tryz.call136,fun w1 hw1 below k s r hp hr hb => ?_⟩
 replace hv_b0 := var_bw hv_b0 hw1 hF_b0
 show Cl Tryz.prog 136 #[.pointer (some ⟨b0,0,none⟩)] w1 _
 have hbw := Bw.refl F w1
 have hsub : ∀ z,F z → F z := fun z h => h
 have hbase := hp.base
 refine Cl.enter Tryz.func136 rfl Tryz.ntmps136 rfl rfl (.sr (.tq (t_load ty60 rfl (Cells.get (i := 0) hv_b0.cells rfl)) rfl ?_))
 obtain ⟨s1,h1a,h1b⟩ := run_seq' hr
 refine Rg.wd trivial (w_call Tryz.call55 rfl (D_bump hC hp h1a (adds_le h1b hb))) rfl ?_
 rintro _ w1 ⟨hp1,hb1⟩
 replace hv_b0 := var_bw hv_b0 hb1 hF_b0
 replace hbw := hbw.trans (hb1.sub hsub)
 clear hp
 have hp := hp1
 clear hp1
 refine .done (Wp.region (.tq (t_load ty60 rfl (Cells.get (i := 0) hv_b0.cells rfl)) rfl (Rg.wd trivial (w_call Tryz.call105 rfl (D_call hD hp h1b hb)) rfl ?_)))
 rintro _ w2 ⟨hst,hp1,hb2⟩
 replace hv_b0 := var_bw hv_b0 hb2 hF_b0
 replace hbw := hbw.trans (hb2.sub hsub)
 clear hp
 have hp := hp1
 clear hp1
 refine .done ?_
 exact ⟨[],trivial,hp.sub hsub hbase,hbw⟩
theorem clo_137 (hC : Cx w0 tv toks) (hD : ∀ m,m < n → DN w0 tv toks m) {b0 : Nat} (hv_b0 : Var w b0 [.pointer (some ⟨bP,0,none⟩)] 60) (hF_b0 : F b0) : Clo w0 tv toks n F bP 137 [] [.pointer (some ⟨b0,0,none⟩)] w (.seq .bump (.seq Cmd.expIdent (.seq (Cmd.opt ⟨#[61]⟩ (.call .typeExpr)) (Cmd.exp ⟨#[59]⟩)))) := by
 refine ⟨Tryz.call137,fun w1 hw1 below k s r hp hr hb => ?_⟩
 replace hv_b0 := var_bw hv_b0 hw1 hF_b0
 show Cl Tryz.prog 137 #[.pointer (some ⟨b0,0,none⟩)] w1 _
 have hbw := Bw.refl F w1
 have hsub : ∀ z,F z → F z := fun z h => h
 have hbase := hp.base
 refine Cl.enter Tryz.func137 rfl Tryz.ntmps137 rfl rfl (.sr (.tq (t_load ty60 rfl (Cells.get (i := 0) hv_b0.cells rfl)) rfl ?_))
 obtain ⟨s1,h1a,h1b⟩ := run_seq' hr
 refine Rg.wd trivial (w_call Tryz.call55 rfl (D_bump hC hp h1a (adds_le h1b hb))) rfl ?_
 rintro _ w1 ⟨hp1,hb1⟩
 replace hv_b0 := var_bw hv_b0 hb1 hF_b0
 replace hbw := hbw.trans (hb1.sub hsub)
 clear hp
 have hp := hp1
 clear hp1
 refine .done (.sr (.tq (t_load ty60 rfl (Cells.get (i := 0) hv_b0.cells rfl)) rfl ?_))
 obtain ⟨s2,h2a,h2b⟩ := run_seq' h1b
 refine Rg.wd trivial (w_call Tryz.call107 rfl (D_expIdent hC hp h2a (adds_le h2b hb))) rfl ?_
 rintro _ w2 ⟨hp1,hb2⟩
 replace hv_b0 := var_bw hv_b0 hb2 hF_b0
 replace hbw := hbw.trans (hb2.sub hsub)
 clear hp
 have hp := hp1
 clear hp1
 refine .done (.sr (.tq (t_load ty60 rfl (Cells.get (i := 0) hv_b0.cells rfl)) rfl (.tq (t_load ty60 rfl (Cells.get (i := 0) hv_b0.cells rfl)) rfl (.tq (t_makeFuncB (us := [.pointer (some ⟨bP,0,none⟩)]) (vs := []) rfl rfl) rfl ?_))))
 obtain ⟨s3,h3a,h3b⟩ := run_seq' h2b
 refine Rg.wd trivial (w_call Tryz.call127 rfl (D_opt hC hp (clo_call Tryz.call111 hD (.typeExpr)) h3a (adds_le h3b hb))) rfl ?_
 rintro _ w3 ⟨hp1,hb3⟩
 replace hv_b0 := var_bw hv_b0 hb3 hF_b0
 replace hbw := hbw.trans (hb3.sub hsub)
 clear hp
 have hp := hp1
 clear hp1
 refine .done (Wp.region (.tq (t_load ty60 rfl (Cells.get (i := 0) hv_b0.cells rfl)) rfl (Rg.wd trivial (w_call Tryz.call110 rfl (D_exp hC hp h3b hb)) rfl ?_)))
 rintro _ w4 ⟨hp1,hb4⟩
 replace hv_b0 := var_bw hv_b0 hb4 hF_b0
 replace hbw := hbw.trans (hb4.sub hsub)
 clear hp
 have hp := hp1
 clear hp1
 refine .done ?_
 exact ⟨[],trivial,hp.sub hsub hbase,hbw⟩
theorem N_members (hC : Cx w0 tv toks) (hD : ∀ m,m < n → DN w0 tv toks m) (hp : Ps w0 tv toks F w bP below k s) (hr : run body n (body .members) s = some r) (hb : r.adds ≤ big) :
  Cl Tryz.prog 108 #[.pointer (some ⟨bP,0,none⟩)] w (fun u w' => (Nm.members = Nm.statement → u = .bool r.flag) ∧ Ps w0 tv toks F w' bP below k r ∧ Bw F w w') := by
 have hbw := Bw.refl F w
 have hsub : ∀ z,F z → F z := fun z h => h
 have hbase := hp.base
 have hr : run body n (.seq (Cmd.exp ⟨#[123]⟩) (.seq (.loop (at1 [⟨#[116,121,112,101]⟩,⟨#[102,110]⟩]) (.cond (at1 [⟨#[102,110]⟩]) (.node 3 (.seq .bump (.call (.function false)))) (.node 16 (.seq .bump (.seq Cmd.expIdent (.seq (Cmd.opt ⟨#[61]⟩ (.call .typeExpr)) (Cmd.exp ⟨#[59]⟩))))))) (Cmd.exp ⟨#[125]⟩))) s = some r := hr
 refine Cl.enter Tryz.func108 rfl Tryz.ntmps108 rfl rfl (.sr (Rg.wd trivial (w_boxed rfl rfl) rfl ?_))
 rintro _ w1 ⟨bx108_1,rfl,qbx108_1,hx1,hv_bx108_1⟩
 replace hbw := hbw.trans (Bw.of hx1 fun z hz => hp.und z (hsub z hz))
 obtain ⟨F_bx108_1,hp1,hF_bx108_1,hs1⟩ := hp.box hx1 qbx108_1 hv_bx108_1.lt
 clear hp
 have hp := hp1
 clear hp1
 replace hsub := fun z hz => hs1 z (hsub z hz)
 refine .done (.sr (.tq (t_load ty60 rfl (Cells.get (i := 0) hv_bx108_1.cells rfl)) rfl ?_))
 obtain ⟨s1,h1a,h1b⟩ := run_seq' hr
 refine Rg.wd trivial (w_call Tryz.call110 rfl (D_exp hC hp h1a (adds_le h1b hb))) rfl ?_
 rintro _ w2 ⟨hp1,hb2⟩
 replace hv_bx108_1 := var_bw hv_bx108_1 hb2 hF_bx108_1
 replace hbw := hbw.trans (hb2.sub hsub)
 clear hp
 have hp := hp1
 clear hp1
 refine .done (.seq (Wp.block ?_))
 obtain ⟨s2,h2a,h2b⟩ := run_seq' h1b
 refine Wp.loop (ι := S × Nat) (fun _ => [(1,.pointer (some ⟨bx108_1,0,none⟩)),(0,.pointer (some ⟨bP,0,none⟩))])
  (fun i w' => Ps w0 tv toks F_bx108_1 w' bP below k i.1 ∧ Bw F_bx108_1 w2 w' ∧ run body i.2 (.loop (at1 [⟨#[116,121,112,101]⟩,⟨#[102,110]⟩]) (.cond (at1 [⟨#[102,110]⟩]) (.node 3 (.seq .bump (.call (.function false)))) (.node 16 (.seq .bump (.seq Cmd.expIdent (.seq (Cmd.opt ⟨#[61]⟩ (.call .typeExpr)) (Cmd.exp ⟨#[59]⟩))))))) i.1 = some s2 ∧ i.2 ≤ n) (fun i => i.2) (s1,n) (by repeat (first | exact .nil | refine .cons rfl ?_)) ⟨hp,Bw.refl _ _,h2a,Nat.le_refl _⟩ ?_
 clear hp
 rintro ⟨s',m⟩ wl ⟨hp,hbl,hrun,hmn⟩
 simp only at hp hrun hmn
 replace hbw := hbw.trans (hbl.sub hsub)
 replace hv_bx108_1 := var_bw hv_bx108_1 hbl hF_bx108_1
 refine .seq ?_
 cases haq1 : (isAt [⟨#[116,121,112,101]⟩,⟨#[102,110]⟩] (sig1 s'.rem)) with
 | true =>
  obtain ⟨m1,s2,rfl,hbody,hrest⟩ := run_loopT hrun haq1
  replace hbody := run_le hmn hbody
  refine .sr (.tq (t_load ty60 rfl (Cells.get (i := 0) hv_bx108_1.cells rfl)) rfl (Rg.wd trivial (w_buildSlice (bs124_2 _ _) rfl) rfl ?_))
  rintro _ w3 ⟨bt5,rfl,qt5,hx3,hvt5⟩
  replace hbl := hbl.trans (Bw.of hx3 hp.und)
  replace hbw := hbw.trans (Bw.of hx3 fun z hz => hp.und z (hsub z hz))
  replace hp := hp.extw hx3
  replace hv_bx108_1 := hv_bx108_1.ext hx3
  refine Rg.wd trivial (w_call Tryz.call48 rfl (at_ok hC hp (texts := [⟨#[116,121,112,101]⟩,⟨#[102,110]⟩]) hvt5 (by decide))) rfl ?_
  rintro _ w4 ⟨rfl,hx4⟩
  replace hbl := hbl.trans (Bw.of hx4 hp.und)
  replace hbw := hbw.trans (Bw.of hx4 fun z hz => hp.und z (hsub z hz))
  replace hp := hp.extw hx4
  replace hv_bx108_1 := hv_bx108_1.ext hx4
  try replace hvt5 := hvt5.ext hx4
  rw [show (isAt [⟨#[116,121,112,101]⟩,⟨#[102,110]⟩] (sig1 s'.rem)) = true from haq1]
  refine .done (.condT rfl (Wp.skip (Wp.block (.seq ?_))))
  cases haq2 : (isAt [⟨#[102,110]⟩] (sig1 s'.rem)) with
  | true =>
   have hq3 := run_condT hbody haq2
   refine .sr (.tq (t_load ty60 rfl (Cells.get (i := 0) hv_bx108_1.cells rfl)) rfl (Rg.wd trivial (w_buildSlice (bs124_1 _) rfl) rfl ?_))
   rintro _ w5 ⟨bt8,rfl,qt8,hx5,hvt8⟩
   replace hbl := hbl.trans (Bw.of hx5 hp.und)
   replace hbw := hbw.trans (Bw.of hx5 fun z hz => hp.und z (hsub z hz))
   replace hp := hp.extw hx5
   replace hv_bx108_1 := hv_bx108_1.ext hx5
   try replace hvt5 := hvt5.ext hx5
   refine Rg.wd trivial (w_call Tryz.call48 rfl (at_ok hC hp (texts := [⟨#[102,110]⟩]) hvt8 (by decide))) rfl ?_
   rintro _ w6 ⟨rfl,hx6⟩
   replace hbl := hbl.trans (Bw.of hx6 hp.und)
   replace hbw := hbw.trans (Bw.of hx6 fun z hz => hp.und z (hsub z hz))
   replace hp := hp.extw hx6
   replace hv_bx108_1 := hv_bx108_1.ext hx6
   try replace hvt5 := hvt5.ext hx6
   try replace hvt8 := hvt8.ext hx6
   rw [show (isAt [⟨#[102,110]⟩] (sig1 s'.rem)) = true from haq2]
   refine .done (.condT rfl (.sr (.tq (t_load ty60 rfl (Cells.get (i := 0) hv_bx108_1.cells rfl)) rfl (.tq (t_makeFuncB (us := []) (vs := [.pointer (some ⟨bx108_1,0,none⟩)]) rfl rfl) rfl (Rg.wd trivial (w_call Tryz.call52 rfl (D_node hp (clo_136 hC hD hv_bx108_1 hF_bx108_1) hq3 (adds_le hrest (adds_le h2b hb)))) rfl ?_)))))
   rintro _ w7 ⟨hp1,hb7⟩
   replace hbl := hbl.trans hb7
   replace hv_bx108_1 := var_bw hv_bx108_1 hb7 hF_bx108_1
   replace hbw := hbw.trans (hb7.sub hsub)
   clear hp
   have hp := hp1
   clear hp1
   refine .done (Wp.exit ?_)
   exact ⟨(s2,m1),by repeat (first | exact .nil | refine .cons rfl ?_),⟨hp,hbl,hrest,by simp only; omega⟩,by simp only; omega⟩
  | false =>
   have hq3 := run_condF hbody haq2
   refine .sr (.tq (t_load ty60 rfl (Cells.get (i := 0) hv_bx108_1.cells rfl)) rfl (Rg.wd trivial (w_buildSlice (bs124_1 _) rfl) rfl ?_))
   rintro _ w5 ⟨bt8,rfl,qt8,hx5,hvt8⟩
   replace hbl := hbl.trans (Bw.of hx5 hp.und)
   replace hbw := hbw.trans (Bw.of hx5 fun z hz => hp.und z (hsub z hz))
   replace hp := hp.extw hx5
   replace hv_bx108_1 := hv_bx108_1.ext hx5
   try replace hvt5 := hvt5.ext hx5
   refine Rg.wd trivial (w_call Tryz.call48 rfl (at_ok hC hp (texts := [⟨#[102,110]⟩]) hvt8 (by decide))) rfl ?_
   rintro _ w6 ⟨rfl,hx6⟩
   replace hbl := hbl.trans (Bw.of hx6 hp.und)
   replace hbw := hbw.trans (Bw.of hx6 fun z hz => hp.und z (hsub z hz))
   replace hp := hp.extw hx6
   replace hv_bx108_1 := hv_bx108_1.ext hx6
   try replace hvt5 := hvt5.ext hx6
   try replace hvt8 := hvt8.ext hx6
   rw [show (isAt [⟨#[102,110]⟩] (sig1 s'.rem)) = false from haq2]
   refine .done (.condF rfl (Wp.skip (Wp.region (.tq (t_load ty60 rfl (Cells.get (i := 0) hv_bx108_1.cells rfl)) rfl (.tq (t_makeFuncB (us := []) (vs := [.pointer (some ⟨bx108_1,0,none⟩)]) rfl rfl) rfl (Rg.wd trivial (w_call Tryz.call52 rfl (D_node hp (clo_137 hC hD hv_bx108_1 hF_bx108_1) hq3 (adds_le hrest (adds_le h2b hb)))) rfl ?_))))))
   rintro _ w7 ⟨hp1,hb7⟩
   replace hbl := hbl.trans hb7
   replace hv_bx108_1 := var_bw hv_bx108_1 hb7 hF_bx108_1
   replace hbw := hbw.trans (hb7.sub hsub)
   clear hp
   have hp := hp1
   clear hp1
   refine .done ?_
   exact ⟨(s2,m1),by repeat (first | exact .nil | refine .cons rfl ?_),⟨hp,hbl,hrest,by simp only; omega⟩,by simp only; omega⟩
 | false =>
  obtain rfl := run_loopF hrun haq1
  refine .sr (.tq (t_load ty60 rfl (Cells.get (i := 0) hv_bx108_1.cells rfl)) rfl (Rg.wd trivial (w_buildSlice (bs124_2 _ _) rfl) rfl ?_))
  rintro _ w3 ⟨bt5,rfl,qt5,hx3,hvt5⟩
  replace hbw := hbw.trans (Bw.of hx3 fun z hz => hp.und z (hsub z hz))
  replace hp := hp.extw hx3
  replace hv_bx108_1 := hv_bx108_1.ext hx3
  refine Rg.wd trivial (w_call Tryz.call48 rfl (at_ok hC hp (texts := [⟨#[116,121,112,101]⟩,⟨#[102,110]⟩]) hvt5 (by decide))) rfl ?_
  rintro _ w4 ⟨rfl,hx4⟩
  replace hbw := hbw.trans (Bw.of hx4 fun z hz => hp.und z (hsub z hz))
  replace hp := hp.extw hx4
  replace hv_bx108_1 := hv_bx108_1.ext hx4
  try replace hvt5 := hvt5.ext hx4
  rw [show (isAt [⟨#[116,121,112,101]⟩,⟨#[102,110]⟩] (sig1 s2.rem)) = false from haq1]
  refine .done (.condF rfl (Wp.exit (Wp.region (.tq (t_load ty60 rfl (Cells.get (i := 0) hv_bx108_1.cells rfl)) rfl (Rg.wd trivial (w_call Tryz.call110 rfl (D_exp hC hp h2b hb)) rfl ?_)))))
  rintro _ w5 ⟨hp1,hb5⟩
  replace hv_bx108_1 := var_bw hv_bx108_1 hb5 hF_bx108_1
  replace hbw := hbw.trans (hb5.sub hsub)
  clear hp
  have hp := hp1
  clear hp1
  refine .done ?_
  exact ⟨[],trivial,(fun h => by cases h),hp.sub hsub hbase,hbw⟩
theorem clo_101 (hC : Cx w0 tv toks) (hD : ∀ m,m < n → DN w0 tv toks m) {b0 : Nat} (hv_b0 : Var w b0 [.pointer (some ⟨bP,0,none⟩)] 60) (hF_b0 : F b0) : Clo w0 tv toks n F bP 101 [] [.pointer (some ⟨b0,0,none⟩)] w (.seq .bump (.loop (fun t _ _ _ => t.1 != 100 && !isAt items t) .bump)) := by
 refine ⟨Tryz.call101,fun w1 hw1 below k s r hp hr hb => ?_⟩
 replace hv_b0 := var_bw hv_b0 hw1 hF_b0
 show Cl Tryz.prog 101 #[.pointer (some ⟨b0,0,none⟩)] w1 _
 have hbw := Bw.refl F w1
 have hsub : ∀ z,F z → F z := fun z h => h
 have hbase := hp.base
 refine Cl.enter Tryz.func101 rfl Tryz.ntmps101 rfl rfl (.sr (.tq (t_load ty60 rfl (Cells.get (i := 0) hv_b0.cells rfl)) rfl ?_))
 obtain ⟨s1,h1a,h1b⟩ := run_seq' hr
 refine Rg.wd trivial (w_call Tryz.call55 rfl (D_bump hC hp h1a (adds_le h1b hb))) rfl ?_
 rintro _ w1 ⟨hp1,hb1⟩
 replace hv_b0 := var_bw hv_b0 hb1 hF_b0
 replace hbw := hbw.trans (hb1.sub hsub)
 clear hp
 have hp := hp1
 clear hp1
 refine .done (Wp.block ?_)
 refine Wp.loop (ι := S × Nat) (fun _ => [(0,.pointer (some ⟨b0,0,none⟩))])
  (fun i w' => Ps w0 tv toks F w' bP below k i.1 ∧ Bw F w1 w' ∧ run body i.2 (.loop (fun t _ _ _ => t.1 != 100 && !isAt items t) .bump) i.1 = some r ∧ i.2 ≤ n) (fun i => i.2) (s1,n) (by repeat (first | exact .nil | refine .cons rfl ?_)) ⟨hp,Bw.refl _ _,h1b,Nat.le_refl _⟩ ?_
 clear hp
 rintro ⟨s',m⟩ wl ⟨hp,hbl,hrun,hmn⟩
 simp only at hp hrun hmn
 replace hbw := hbw.trans (hbl.sub hsub)
 replace hv_b0 := var_bw hv_b0 hbl hF_b0
 refine .seq ?_
 cases haq1 : ((sig1 s'.rem).1 == 100) with
 | true =>
  obtain rfl := run_loopF hrun (show S.test _ _ = false by simp only [S.test,at1,ident,bne,haq1]; (try rfl))
  refine Wp.seq (Wp.draw [0,1,2,3,4,5,6,7,8] [] mixed (by kernel_rfl) (by kernel_rfl) ?_)
  intro w2 hx2 _
  replace hbw := hbw.trans (Bw.of hx2 fun z hz => hp.und z (hsub z hz))
  replace hp := hp.extw hx2
  replace hv_b0 := hv_b0.ext hx2
  refine .tq (t_load ty60 rfl (Cells.get (i := 0) hv_b0.cells rfl)) rfl (Rg.wdB trivial rfl (w_call Tryz.call25 rfl (atEOF_ok hC hp)) rfl (fun _ _ h => h.2) ?_)
  rintro _ w3 ⟨rfl,hx3⟩
  replace hbw := hbw.trans (Bw.of hx3 fun z hz => hp.und z (hsub z hz))
  replace hp := hp.extw hx3
  replace hv_b0 := hv_b0.ext hx3
  rw [show ((sig1 r.rem).1 == 100) = true from haq1]
  refine .tq (t_notB rfl) rfl (.mv rfl rfl (.so rfl rfl (.so rfl rfl (.so rfl rfl (.so rfl rfl (.tq (t_pickF rfl rfl) rfl (.done (.condF rfl (Wp.exit ?_)))))))))
  exact ⟨[],trivial,hp.sub hsub hbase,hbw⟩
 | false =>
  cases haq2 : (isAt items (sig1 s'.rem)) with
  | true =>
   obtain rfl := run_loopF hrun (show S.test _ _ = false by simp only [S.test,at1,ident,bne,haq1,haq2]; (try rfl))
   refine Wp.seq (Wp.draw [0,1,2,3,4,5,6,7,8] [] mixed (by kernel_rfl) (by kernel_rfl) ?_)
   intro w2 hx2 _
   replace hbw := hbw.trans (Bw.of hx2 fun z hz => hp.und z (hsub z hz))
   replace hp := hp.extw hx2
   replace hv_b0 := hv_b0.ext hx2
   refine .tq (t_load ty60 rfl (Cells.get (i := 0) hv_b0.cells rfl)) rfl (Rg.wdB trivial rfl (w_call Tryz.call25 rfl (atEOF_ok hC hp)) rfl (fun _ _ h => h.2) ?_)
   rintro _ w3 ⟨rfl,hx3⟩
   replace hbw := hbw.trans (Bw.of hx3 fun z hz => hp.und z (hsub z hz))
   replace hp := hp.extw hx3
   replace hv_b0 := hv_b0.ext hx3
   rw [show ((sig1 r.rem).1 == 100) = false from haq1]
   refine .tq (t_notB rfl) rfl (.mv rfl rfl (.gd (t_load ty60 rfl (Cells.get (i := 0) hv_b0.cells rfl)) rfl (Rg.wdB ⟨_,rfl,rfl⟩ rfl (w_call Tryz.call102 rfl (itemKw_ok (hC.asc.ext hp.ext))) rfl (fun _ _ h => h.2) ?_)))
   rintro _ w4 ⟨⟨bt8,rfl,hvt8⟩,hx4⟩
   replace hbw := hbw.trans (Bw.of hx4 fun z hz => hp.und z (hsub z hz))
   replace hp := hp.extw hx4
   replace hv_b0 := hv_b0.ext hx4
   refine Rg.wdB ⟨_,rfl,rfl⟩ rfl (w_call Tryz.call48 rfl (at_ok hC hp (texts := items) hvt8 (by rw [items_len]; decide))) rfl (fun _ _ h => h.2) ?_
   rintro _ w5 ⟨rfl,hx5⟩
   replace hbw := hbw.trans (Bw.of hx5 fun z hz => hp.und z (hsub z hz))
   replace hp := hp.extw hx5
   replace hv_b0 := hv_b0.ext hx5
   try replace hvt8 := hvt8.ext hx5
   rw [show (isAt items (sig1 r.rem)) = true from haq2]
   refine .gd (t_notB rfl) rfl (.tq (t_pickT rfl rfl) rfl (.done (.condF rfl (Wp.exit ?_))))
   exact ⟨[],trivial,hp.sub hsub hbase,hbw⟩
  | false =>
   obtain ⟨m1,s2,rfl,hbody,hrest⟩ := run_loopT hrun (show S.test _ _ = true by simp only [S.test,at1,ident,bne,haq1,haq2]; (try rfl))
   replace hbody := run_le hmn hbody
   refine Wp.seq (Wp.draw [0,1,2,3,4,5,6,7,8] [] mixed (by kernel_rfl) (by kernel_rfl) ?_)
   intro w2 hx2 _
   replace hbl := hbl.trans (Bw.of hx2 hp.und)
   replace hbw := hbw.trans (Bw.of hx2 fun z hz => hp.und z (hsub z hz))
   replace hp := hp.extw hx2
   replace hv_b0 := hv_b0.ext hx2
   refine .tq (t_load ty60 rfl (Cells.get (i := 0) hv_b0.cells rfl)) rfl (Rg.wdB trivial rfl (w_call Tryz.call25 rfl (atEOF_ok hC hp)) rfl (fun _ _ h => h.2) ?_)
   rintro _ w3 ⟨rfl,hx3⟩
   replace hbl := hbl.trans (Bw.of hx3 hp.und)
   replace hbw := hbw.trans (Bw.of hx3 fun z hz => hp.und z (hsub z hz))
   replace hp := hp.extw hx3
   replace hv_b0 := hv_b0.ext hx3
   rw [show ((sig1 s'.rem).1 == 100) = false from haq1]
   refine .tq (t_notB rfl) rfl (.mv rfl rfl (.gd (t_load ty60 rfl (Cells.get (i := 0) hv_b0.cells rfl)) rfl (Rg.wdB ⟨_,rfl,rfl⟩ rfl (w_call Tryz.call102 rfl (itemKw_ok (hC.asc.ext hp.ext))) rfl (fun _ _ h => h.2) ?_)))
   rintro _ w4 ⟨⟨bt8,rfl,hvt8⟩,hx4⟩
   replace hbl := hbl.trans (Bw.of hx4 hp.und)
   replace hbw := hbw.trans (Bw.of hx4 fun z hz => hp.und z (hsub z hz))
   replace hp := hp.extw hx4
   replace hv_b0 := hv_b0.ext hx4
   refine Rg.wdB ⟨_,rfl,rfl⟩ rfl (w_call Tryz.call48 rfl (at_ok hC hp (texts := items) hvt8 (by rw [items_len]; decide))) rfl (fun _ _ h => h.2) ?_
   rintro _ w5 ⟨rfl,hx5⟩
   replace hbl := hbl.trans (Bw.of hx5 hp.und)
   replace hbw := hbw.trans (Bw.of hx5 fun z hz => hp.und z (hsub z hz))
   replace hp := hp.extw hx5
   replace hv_b0 := hv_b0.ext hx5
   try replace hvt8 := hvt8.ext hx5
   rw [show (isAt items (sig1 s'.rem)) = false from haq2]
   refine .gd (t_notB rfl) rfl (.tq (t_pickT rfl rfl) rfl (.done (.condT rfl (Wp.skip (Wp.block (Wp.region (.tq (t_load ty60 rfl (Cells.get (i := 0) hv_b0.cells rfl)) rfl (Rg.wd trivial (w_call Tryz.call55 rfl (D_bump hC hp hbody (adds_le hrest hb))) rfl ?_))))))))
   rintro _ w6 ⟨hp1,hb6⟩
   replace hbl := hbl.trans hb6
   replace hv_b0 := var_bw hv_b0 hb6 hF_b0
   replace hbw := hbw.trans (hb6.sub hsub)
   clear hp
   have hp := hp1
   clear hp1
   refine .done ?_
   exact ⟨(s2,m1),by repeat (first | exact .nil | refine .cons rfl ?_),⟨hp,hbl,hrest,by simp only; omega⟩,by simp only; omega⟩
theorem N_skipTo (hC : Cx w0 tv toks) (hD : ∀ m,m < n → DN w0 tv toks m) (hp : Ps w0 tv toks F w bP below k s) (hr : run body n (body .skipTo) s = some r) (hb : r.adds ≤ big) :
  Cl Tryz.prog 51 #[.pointer (some ⟨bP,0,none⟩)] w (fun u w' => (Nm.skipTo = Nm.statement → u = .bool r.flag) ∧ Ps w0 tv toks F w' bP below k r ∧ Bw F w w') := by
 have hbw := Bw.refl F w
 have hsub : ∀ z,F z → F z := fun z h => h
 have hbase := hp.base
 have hr : run body n (.node 46 (.seq .bump (.loop (fun t _ _ _ => t.1 != 100 && !isAt items t) .bump))) s = some r := hr
 refine Cl.enter Tryz.func51 rfl Tryz.ntmps51 rfl rfl (.sr (Rg.wd trivial (w_boxed rfl rfl) rfl ?_))
 rintro _ w1 ⟨bx51_1,rfl,qbx51_1,hx1,hv_bx51_1⟩
 replace hbw := hbw.trans (Bw.of hx1 fun z hz => hp.und z (hsub z hz))
 obtain ⟨F_bx51_1,hp1,hF_bx51_1,hs1⟩ := hp.box hx1 qbx51_1 hv_bx51_1.lt
 clear hp
 have hp := hp1
 clear hp1
 replace hsub := fun z hz => hs1 z (hsub z hz)
 refine .done (Wp.region (.tq (t_load ty60 rfl (Cells.get (i := 0) hv_bx51_1.cells rfl)) rfl (.tq (t_makeFuncB (us := []) (vs := [.pointer (some ⟨bx51_1,0,none⟩)]) rfl rfl) rfl (Rg.wd trivial (w_call Tryz.call52 rfl (D_node hp (clo_101 hC hD hv_bx51_1 hF_bx51_1) hr hb)) rfl ?_))))
 rintro _ w2 ⟨hp1,hb2⟩
 replace hv_bx51_1 := var_bw hv_bx51_1 hb2 hF_bx51_1
 replace hbw := hbw.trans (hb2.sub hsub)
 clear hp
 have hp := hp1
 clear hp1
 refine .done ?_
 exact ⟨[],trivial,(fun h => by cases h),hp.sub hsub hbase,hbw⟩
end
end Go.Proofs.YtcelfjbajdffkaaGreatDoor.Par
namespace Go.Proofs.YtcelfjbajdffkaaGreatDoor.Par
set_option maxRecDepth 20000
open Go.Gx Go.RowKit Go.Lib
open Lexi (Asc)
section
variable {w0 : World} {tv : Value} {toks : List Tok} {F : Fs} {w w' : World} {bP : Nat} {below : List (Int × List Tr)} {k : Int} {s r : S} {n : Nat}
theorem N_itemBody {kd : Int} (hC : Cx w0 tv toks) (hD : ∀ m,m < n → DN w0 tv toks m) (hp : Ps w0 tv toks F w bP below k s) (hr : run body n (body (.itemBody kd)) s = some r) (hb : r.adds ≤ big) :
  Cl Tryz.prog 56 #[.pointer (some ⟨bP,0,none⟩),.int .i64 kd] w (fun u w' => ((Nm.itemBody kd) = Nm.statement → u = .bool r.flag) ∧ Ps w0 tv toks F w' bP below k r ∧ Bw F w w') := by
 have hbw := Bw.refl F w
 have hsub : ∀ z,F z → F z := fun z h => h
 have hbase := hp.base
 have hr : run body n (if kd = 2 then (.call .use) else (if kd = 3 then (.call (.function true)) else (if kd = 4 ∨ kd = 5 then (.call (.dataType kd)) else (if kd = 6 then (.seq Cmd.expIdent (.call .members)) else (if kd = 7 then (.call .impl) else (if kd = 8 then (.seq Cmd.expIdent (.seq (Cmd.exp ⟨#[58]⟩) (.seq (.call .typeExpr) (.seq (Cmd.exp ⟨#[61]⟩) (.seq Cmd.expr (Cmd.exp ⟨#[59]⟩)))))) else (if kd = 9 then (.seq Cmd.expIdent (.seq (Cmd.exp ⟨#[40]⟩) (.seq (.call (.params ⟨#[41]⟩)) (.seq (Cmd.exp ⟨#[61]⟩) (.seq Cmd.expr (Cmd.exp ⟨#[59]⟩)))))) else .skip))))))) s = some r := hr
 refine Cl.enter Tryz.func56 rfl Tryz.ntmps56 rfl rfl (.sr (.mv rfl rfl (.done (Wp.block ?_))))
 cases haq1 : (kd == 2) with
 | true =>
  rw [if_pos (beq_iff_eq.1 haq1)] at hr
  refine .sr (.tq (t_eqlT rfl rfl (beq_iff_eq.1 haq1)) rfl (.as rfl rfl (.done (.condT rfl (Wp.region (.mv rfl rfl (Rg.wd trivial (w_call Tryz.call104 rfl (D_call hD hp hr hb)) rfl ?_)))))))
  rintro _ w1 ⟨hst,hp1,hb1⟩
  replace hbw := hbw.trans (hb1.sub hsub)
  clear hp
  have hp := hp1
  clear hp1
  refine .done ?_
  exact ⟨[],trivial,(fun h => by cases h),hp.sub hsub hbase,hbw⟩
 | false =>
  rw [if_neg (fun e => by rw [beq_iff_eq.2 e] at haq1; cases haq1)] at hr
  refine .sr ?_
  refine .tq (t_eqlF rfl rfl (fun e => by rw [beq_iff_eq.2 e] at haq1; cases haq1)) rfl ?_
  refine .as rfl rfl (.done (.condF rfl ?_))
  cases haq2 : (kd == 3) with
  | true =>
   rw [if_pos (beq_iff_eq.1 haq2)] at hr
   refine .sr (.tq (t_eqlT rfl rfl (beq_iff_eq.1 haq2)) rfl (.as rfl rfl (.done (.condT rfl (Wp.region (.mv rfl rfl (Rg.wd trivial (w_call Tryz.call105 rfl (D_call hD hp hr hb)) rfl ?_)))))))
   rintro _ w1 ⟨hst,hp1,hb1⟩
   replace hbw := hbw.trans (hb1.sub hsub)
   clear hp
   have hp := hp1
   clear hp1
   refine .done ?_
   exact ⟨[],trivial,(fun h => by cases h),hp.sub hsub hbase,hbw⟩
  | false =>
   rw [if_neg (fun e => by rw [beq_iff_eq.2 e] at haq2; cases haq2)] at hr
   refine .sr ?_
   refine .tq (t_eqlF rfl rfl (fun e => by rw [beq_iff_eq.2 e] at haq2; cases haq2)) rfl ?_
   refine .as rfl rfl (.done (.condF rfl (.seq ?_)))
   cases haq3 : (kd == 4) with
   | true =>
    rw [if_pos (.inl (beq_iff_eq.1 haq3))] at hr
    refine .sr (.tq (t_eqlT rfl rfl (beq_iff_eq.1 haq3)) rfl (.as rfl rfl (.done (.condT rfl (Wp.skip (.condT rfl (Wp.region (.mv rfl rfl (.mv rfl rfl (Rg.wd trivial (w_call Tryz.call106 rfl (D_call hD hp hr hb)) rfl ?_))))))))))
    rintro _ w1 ⟨hst,hp1,hb1⟩
    replace hbw := hbw.trans (hb1.sub hsub)
    clear hp
    have hp := hp1
    clear hp1
    refine .done ?_
    exact ⟨[],trivial,(fun h => by cases h),hp.sub hsub hbase,hbw⟩
   | false =>
    refine .sr ?_
    refine .tq (t_eqlF rfl rfl (fun e => by rw [beq_iff_eq.2 e] at haq3; cases haq3)) rfl ?_
    refine .as rfl rfl (.done (.condF rfl ?_))
    cases haq4 : (kd == 5) with
    | true =>
     rw [if_pos (.inr (beq_iff_eq.1 haq4))] at hr
     refine Wp.region (.tq (t_eqlT rfl rfl (beq_iff_eq.1 haq4)) rfl (.as rfl rfl (.done (.condT rfl (Wp.region (.mv rfl rfl (.mv rfl rfl (Rg.wd trivial (w_call Tryz.call106 rfl (D_call hD hp hr hb)) rfl ?_))))))))
     rintro _ w1 ⟨hst,hp1,hb1⟩
     replace hbw := hbw.trans (hb1.sub hsub)
     clear hp
     have hp := hp1
     clear hp1
     refine .done ?_
     exact ⟨[],trivial,(fun h => by cases h),hp.sub hsub hbase,hbw⟩
    | false =>
     rw [if_neg (fun h => h.elim (fun e => by rw [beq_iff_eq.2 e] at haq3; cases haq3) (fun e => by rw [beq_iff_eq.2 e] at haq4; cases haq4))] at hr
     refine Wp.region ?_
     refine .tq (t_eqlF rfl rfl (fun e => by rw [beq_iff_eq.2 e] at haq4; cases haq4)) rfl ?_
     refine .as rfl rfl (.done (.condF rfl ?_))
     cases haq5 : (kd == 6) with
     | true =>
      rw [if_pos (beq_iff_eq.1 haq5)] at hr
      refine .sr (.tq (t_eqlT rfl rfl (beq_iff_eq.1 haq5)) rfl (.as rfl rfl (.done (.condT rfl (.sr (.mv rfl rfl ?_))))))
      obtain ⟨s1,h1a,h1b⟩ := run_seq' hr
      refine Rg.wd trivial (w_call Tryz.call107 rfl (D_expIdent hC hp h1a (adds_le h1b hb))) rfl ?_
      rintro _ w1 ⟨hp1,hb1⟩
      replace hbw := hbw.trans (hb1.sub hsub)
      clear hp
      have hp := hp1
      clear hp1
      refine .done (Wp.region (.mv rfl rfl (Rg.wd trivial (w_call Tryz.call108 rfl (D_call hD hp h1b hb)) rfl ?_)))
      rintro _ w2 ⟨hst,hp1,hb2⟩
      replace hbw := hbw.trans (hb2.sub hsub)
      clear hp
      have hp := hp1
      clear hp1
      refine .done ?_
      exact ⟨[],trivial,(fun h => by cases h),hp.sub hsub hbase,hbw⟩
     | false =>
      rw [if_neg (fun e => by rw [beq_iff_eq.2 e] at haq5; cases haq5)] at hr
      refine .sr ?_
      refine .tq (t_eqlF rfl rfl (fun e => by rw [beq_iff_eq.2 e] at haq5; cases haq5)) rfl ?_
      refine .as rfl rfl (.done (.condF rfl ?_))
      cases haq6 : (kd == 7) with
      | true =>
       rw [if_pos (beq_iff_eq.1 haq6)] at hr
       refine .sr (.tq (t_eqlT rfl rfl (beq_iff_eq.1 haq6)) rfl (.as rfl rfl (.done (.condT rfl (Wp.region (.mv rfl rfl (Rg.wd trivial (w_call Tryz.call109 rfl (D_call hD hp hr hb)) rfl ?_)))))))
       rintro _ w1 ⟨hst,hp1,hb1⟩
       replace hbw := hbw.trans (hb1.sub hsub)
       clear hp
       have hp := hp1
       clear hp1
       refine .done ?_
       exact ⟨[],trivial,(fun h => by cases h),hp.sub hsub hbase,hbw⟩
      | false =>
       rw [if_neg (fun e => by rw [beq_iff_eq.2 e] at haq6; cases haq6)] at hr
       refine .sr ?_
       refine .tq (t_eqlF rfl rfl (fun e => by rw [beq_iff_eq.2 e] at haq6; cases haq6)) rfl ?_
       refine .as rfl rfl (.done (.condF rfl ?_))
       cases haq7 : (kd == 8) with
       | true =>
        rw [if_pos (beq_iff_eq.1 haq7)] at hr
        refine .sr (.tq (t_eqlT rfl rfl (beq_iff_eq.1 haq7)) rfl (.as rfl rfl (.done (.condT rfl (.sr (.mv rfl rfl ?_))))))
        obtain ⟨s1,h1a,h1b⟩ := run_seq' hr
        refine Rg.wd trivial (w_call Tryz.call107 rfl (D_expIdent hC hp h1a (adds_le h1b hb))) rfl ?_
        rintro _ w1 ⟨hp1,hb1⟩
        replace hbw := hbw.trans (hb1.sub hsub)
        clear hp
        have hp := hp1
        clear hp1
        refine .done (.sr (.mv rfl rfl ?_))
        obtain ⟨s2,h2a,h2b⟩ := run_seq' h1b
        refine Rg.wd trivial (w_call Tryz.call110 rfl (D_exp hC hp h2a (adds_le h2b hb))) rfl ?_
        rintro _ w2 ⟨hp1,hb2⟩
        replace hbw := hbw.trans (hb2.sub hsub)
        clear hp
        have hp := hp1
        clear hp1
        refine .done (.sr (.mv rfl rfl ?_))
        obtain ⟨s3,h3a,h3b⟩ := run_seq' h2b
        refine Rg.wd trivial (w_call Tryz.call111 rfl (D_call hD hp h3a (adds_le h3b hb))) rfl ?_
        rintro _ w3 ⟨hst,hp1,hb3⟩
        replace hbw := hbw.trans (hb3.sub hsub)
        clear hp
        have hp := hp1
        clear hp1
        refine .done (.sr (.mv rfl rfl ?_))
        obtain ⟨s4,h4a,h4b⟩ := run_seq' h3b
        refine Rg.wd trivial (w_call Tryz.call110 rfl (D_exp hC hp h4a (adds_le h4b hb))) rfl ?_
        rintro _ w4 ⟨hp1,hb4⟩
        replace hbw := hbw.trans (hb4.sub hsub)
        clear hp
        have hp := hp1
        clear hp1
        refine .done (.sr (.mv rfl rfl ?_))
        obtain ⟨s5,h5a,h5b⟩ := run_seq' h4b
        refine Rg.wd trivial (w_call Tryz.call112 rfl (D_expr hC hD hp h5a (adds_le h5b hb))) rfl ?_
        rintro _ w5 ⟨hp1,hb5⟩
        replace hbw := hbw.trans (hb5.sub hsub)
        clear hp
        have hp := hp1
        clear hp1
        refine .done (Wp.region (.mv rfl rfl (Rg.wd trivial (w_call Tryz.call110 rfl (D_exp hC hp h5b hb)) rfl ?_)))
        rintro _ w6 ⟨hp1,hb6⟩
        replace hbw := hbw.trans (hb6.sub hsub)
        clear hp
        have hp := hp1
        clear hp1
        refine .done ?_
        exact ⟨[],trivial,(fun h => by cases h),hp.sub hsub hbase,hbw⟩
       | false =>
        rw [if_neg (fun e => by rw [beq_iff_eq.2 e] at haq7; cases haq7)] at hr
        refine .sr ?_
        refine .tq (t_eqlF rfl rfl (fun e => by rw [beq_iff_eq.2 e] at haq7; cases haq7)) rfl ?_
        refine .as rfl rfl (.done (.condF rfl ?_))
        cases haq8 : (kd == 9) with
        | true =>
         rw [if_pos (beq_iff_eq.1 haq8)] at hr
         refine .sr (.tq (t_eqlT rfl rfl (beq_iff_eq.1 haq8)) rfl (.as rfl rfl (.done (.condT rfl (.sr (.mv rfl rfl ?_))))))
         obtain ⟨s1,h1a,h1b⟩ := run_seq' hr
         refine Rg.wd trivial (w_call Tryz.call107 rfl (D_expIdent hC hp h1a (adds_le h1b hb))) rfl ?_
         rintro _ w1 ⟨hp1,hb1⟩
         replace hbw := hbw.trans (hb1.sub hsub)
         clear hp
         have hp := hp1
         clear hp1
         refine .done (.sr (.mv rfl rfl ?_))
         obtain ⟨s2,h2a,h2b⟩ := run_seq' h1b
         refine Rg.wd trivial (w_call Tryz.call110 rfl (D_exp hC hp h2a (adds_le h2b hb))) rfl ?_
         rintro _ w2 ⟨hp1,hb2⟩
         replace hbw := hbw.trans (hb2.sub hsub)
         clear hp
         have hp := hp1
         clear hp1
         refine .done (.sr (.mv rfl rfl ?_))
         obtain ⟨s3,h3a,h3b⟩ := run_seq' h2b
         refine Rg.wd trivial (w_call Tryz.call113 rfl (D_call hD hp h3a (adds_le h3b hb))) rfl ?_
         rintro _ w3 ⟨hst,hp1,hb3⟩
         replace hbw := hbw.trans (hb3.sub hsub)
         clear hp
         have hp := hp1
         clear hp1
         refine .done (.sr (.mv rfl rfl ?_))
         obtain ⟨s4,h4a,h4b⟩ := run_seq' h3b
         refine Rg.wd trivial (w_call Tryz.call110 rfl (D_exp hC hp h4a (adds_le h4b hb))) rfl ?_
         rintro _ w4 ⟨hp1,hb4⟩
         replace hbw := hbw.trans (hb4.sub hsub)
         clear hp
         have hp := hp1
         clear hp1
         refine .done (.sr (.mv rfl rfl ?_))
         obtain ⟨s5,h5a,h5b⟩ := run_seq' h4b
         refine Rg.wd trivial (w_call Tryz.call112 rfl (D_expr hC hD hp h5a (adds_le h5b hb))) rfl ?_
         rintro _ w5 ⟨hp1,hb5⟩
         replace hbw := hbw.trans (hb5.sub hsub)
         clear hp
         have hp := hp1
         clear hp1
         refine .done (Wp.region (.mv rfl rfl (Rg.wd trivial (w_call Tryz.call110 rfl (D_exp hC hp h5b hb)) rfl ?_)))
         rintro _ w6 ⟨hp1,hb6⟩
         replace hbw := hbw.trans (hb6.sub hsub)
         clear hp
         have hp := hp1
         clear hp1
         refine .done ?_
         exact ⟨[],trivial,(fun h => by cases h),hp.sub hsub hbase,hbw⟩
        | false =>
         rw [if_neg (fun e => by rw [beq_iff_eq.2 e] at haq8; cases haq8)] at hr
         obtain rfl := run_skip' hr
         refine .sr ?_
         refine .tq (t_eqlF rfl rfl (fun e => by rw [beq_iff_eq.2 e] at haq8; cases haq8)) rfl ?_
         refine .as rfl rfl (.done (.condF rfl (Wp.skip ?_)))
         exact ⟨[],trivial,(fun h => by cases h),hp.sub hsub hbase,hbw⟩
theorem clo_53 {kd : Int} (hC : Cx w0 tv toks) (hD : ∀ m,m < n → DN w0 tv toks m) {b0 : Nat} (hv_b0 : Var w b0 [.pointer (some ⟨bP,0,none⟩)] 60) (hF_b0 : F b0) {b1 : Nat} (hv_b1 : Var w b1 [.int .i64 kd] 3) (hF_b1 : F b1) : Clo w0 tv toks n F bP 53 [] [.pointer (some ⟨b0,0,none⟩),.pointer (some ⟨b1,0,none⟩)] w (.seq (Cmd.acc ⟨#[112,117,98]⟩) (.seq .bump (.call (.itemBody kd)))) := by
 refine ⟨Tryz.call53,fun w1 hw1 below k s r hp hr hb => ?_⟩
 replace hv_b0 := var_bw hv_b0 hw1 hF_b0
 replace hv_b1 := var_bw hv_b1 hw1 hF_b1
 show Cl Tryz.prog 53 #[.pointer (some ⟨b0,0,none⟩),.pointer (some ⟨b1,0,none⟩)] w1 _
 have hbw := Bw.refl F w1
 have hsub : ∀ z,F z → F z := fun z h => h
 have hbase := hp.base
 refine Cl.enter Tryz.func53 rfl Tryz.ntmps53 rfl rfl ?_
 cases haq1 : (isAt [⟨#[112,117,98]⟩] (sig1 s.rem)) with
 | true =>
  obtain ⟨s1,h1a,h1b⟩ := run_seq' hr
  have hq2 := run_condT h1a haq1
  refine .sr (.tq (t_load ty60 rfl (Cells.get (i := 0) hv_b0.cells rfl)) rfl (Rg.wd trivial (w_buildSlice (bs124_1 _) rfl) rfl ?_))
  rintro _ w1 ⟨bt3,rfl,qt3,hx1,hvt3⟩
  replace hbw := hbw.trans (Bw.of hx1 fun z hz => hp.und z (hsub z hz))
  replace hp := hp.extw hx1
  replace hv_b0 := hv_b0.ext hx1
  replace hv_b1 := hv_b1.ext hx1
  obtain rfl := run_bump' hq2
  refine Rg.wd trivial (w_call Tryz.call54 rfl (acc_T hC hp (texts := [⟨#[112,117,98]⟩]) hvt3 (by decide) haq1 (adds_le h1b hb))) rfl ?_
  rintro _ w2 ⟨rfl,hp1,hb2⟩
  replace hv_b0 := var_bw hv_b0 hb2 hF_b0
  replace hv_b1 := var_bw hv_b1 hb2 hF_b1
  replace hbw := hbw.trans (hb2.sub hsub)
  clear hp
  have hp := hp1
  clear hp1
  refine .done (.sr (.tq (t_load ty60 rfl (Cells.get (i := 0) hv_b0.cells rfl)) rfl ?_))
  obtain ⟨s2,h2a,h2b⟩ := run_seq' h1b
  refine Rg.wd trivial (w_call Tryz.call55 rfl (D_bump hC hp h2a (adds_le h2b hb))) rfl ?_
  rintro _ w3 ⟨hp1,hb3⟩
  replace hv_b0 := var_bw hv_b0 hb3 hF_b0
  replace hv_b1 := var_bw hv_b1 hb3 hF_b1
  replace hbw := hbw.trans (hb3.sub hsub)
  clear hp
  have hp := hp1
  clear hp1
  refine .done (Wp.region (.tq (t_load ty60 rfl (Cells.get (i := 0) hv_b0.cells rfl)) rfl (.tq (t_load ty3 rfl (Cells.get (i := 0) hv_b1.cells rfl)) rfl (Rg.wd trivial (w_call Tryz.call56 rfl (D_call hD hp h2b hb)) rfl ?_))))
  rintro _ w4 ⟨hst,hp1,hb4⟩
  replace hv_b0 := var_bw hv_b0 hb4 hF_b0
  replace hv_b1 := var_bw hv_b1 hb4 hF_b1
  replace hbw := hbw.trans (hb4.sub hsub)
  clear hp
  have hp := hp1
  clear hp1
  refine .done ?_
  exact ⟨[],trivial,hp.sub hsub hbase,hbw⟩
 | false =>
  obtain ⟨s1,h1a,h1b⟩ := run_seq' hr
  have hq2 := run_condF h1a haq1
  obtain rfl := run_skip' hq2
  refine .sr (.tq (t_load ty60 rfl (Cells.get (i := 0) hv_b0.cells rfl)) rfl (Rg.wd trivial (w_buildSlice (bs124_1 _) rfl) rfl ?_))
  rintro _ w1 ⟨bt3,rfl,qt3,hx1,hvt3⟩
  replace hbw := hbw.trans (Bw.of hx1 fun z hz => hp.und z (hsub z hz))
  replace hp := hp.extw hx1
  replace hv_b0 := hv_b0.ext hx1
  replace hv_b1 := hv_b1.ext hx1
  refine Rg.wd trivial (w_call Tryz.call54 rfl (acc_F hC hp (texts := [⟨#[112,117,98]⟩]) hvt3 (by decide) haq1)) rfl ?_
  rintro _ w2 ⟨rfl,hp1,hb2⟩
  replace hv_b0 := var_bw hv_b0 hb2 hF_b0
  replace hv_b1 := var_bw hv_b1 hb2 hF_b1
  replace hbw := hbw.trans (hb2.sub hsub)
  clear hp
  have hp := hp1
  clear hp1
  refine .done (.sr (.tq (t_load ty60 rfl (Cells.get (i := 0) hv_b0.cells rfl)) rfl ?_))
  obtain ⟨s2,h2a,h2b⟩ := run_seq' h1b
  refine Rg.wd trivial (w_call Tryz.call55 rfl (D_bump hC hp h2a (adds_le h2b hb))) rfl ?_
  rintro _ w3 ⟨hp1,hb3⟩
  replace hv_b0 := var_bw hv_b0 hb3 hF_b0
  replace hv_b1 := var_bw hv_b1 hb3 hF_b1
  replace hbw := hbw.trans (hb3.sub hsub)
  clear hp
  have hp := hp1
  clear hp1
  refine .done (Wp.region (.tq (t_load ty60 rfl (Cells.get (i := 0) hv_b0.cells rfl)) rfl (.tq (t_load ty3 rfl (Cells.get (i := 0) hv_b1.cells rfl)) rfl (Rg.wd trivial (w_call Tryz.call56 rfl (D_call hD hp h2b hb)) rfl ?_))))
  rintro _ w4 ⟨hst,hp1,hb4⟩
  replace hv_b0 := var_bw hv_b0 hb4 hF_b0
  replace hv_b1 := var_bw hv_b1 hb4 hF_b1
  replace hbw := hbw.trans (hb4.sub hsub)
  clear hp
  have hp := hp1
  clear hp1
  refine .done ?_
  exact ⟨[],trivial,hp.sub hsub hbase,hbw⟩
theorem ops_0 : Cl Tryz.prog 162 #[.int .i64 0] w (fun u w' => (∃ b,u = .slice (some ⟨b,0,none⟩) 1 1 ∧ Var w' b ([⟨#[124,124]⟩].map .string) 9) ∧ Ext w w') := by
 have hx := Ext.refl w
 refine Cl.enter Tryz.func162 rfl Tryz.ntmps162 rfl rfl (.sr (.as rfl rfl (.done (.sr (Rg.wd trivial (w_buildSlice (bs124_1 _) rfl) rfl ?_)))))
 rintro _ w1 ⟨b3,rfl,q3,hx1,hv3⟩
 replace hx := hx.ext hx1
 refine Rg.wd trivial (w_buildSlice (bs124_1 _) rfl) rfl ?_
 rintro _ w2 ⟨b4,rfl,q4,hx2,hv4⟩
 replace hx := hx.ext hx2
 replace hv3 := hv3.ext hx2
 clear hv4
 refine Rg.wd trivial (w_buildSlice (bs124_2 _ _) rfl) rfl ?_
 rintro _ w3 ⟨b5,rfl,q5,hx3,hv5⟩
 replace hx := hx.ext hx3
 replace hv3 := hv3.ext hx3
 clear hv5
 refine Rg.wd trivial (w_buildSlice (bs124_2 _ _) rfl) rfl ?_
 rintro _ w4 ⟨b6,rfl,q6,hx4,hv6⟩
 replace hx := hx.ext hx4
 replace hv3 := hv3.ext hx4
 clear hv6
 refine Rg.wd trivial (w_buildSlice (bs124_2 _ _) rfl) rfl ?_
 rintro _ w5 ⟨b7,rfl,q7,hx5,hv7⟩
 replace hx := hx.ext hx5
 replace hv3 := hv3.ext hx5
 clear hv7
 refine Rg.wd trivial (w_buildSlice (bs169_5 _ _ _ _ _ _ _ _ _ _ _ _ _ _ _) rfl) rfl ?_
 rintro _ w6 ⟨b8,rfl,q8,hx6,hv8⟩
 replace hx := hx.ext hx6
 replace hv3 := hv3.ext hx6
 refine .mv rfl rfl ?_
 refine .tq (t_indexAddrL Tryz.underlying169 ty124 rfl rfl (by decide)) rfl ?_
 refine .tq (t_load ty124 rfl (Cells.get (i := 0) hv8.cells rfl)) rfl (.as rfl rfl (.done (Wp.ret ?_)))
 exact ⟨[_],⟨rfl,trivial⟩,⟨_,rfl,hv3⟩,hx⟩
theorem ops_1 : Cl Tryz.prog 162 #[.int .i64 1] w (fun u w' => (∃ b,u = .slice (some ⟨b,0,none⟩) 1 1 ∧ Var w' b ([⟨#[38,38]⟩].map .string) 9) ∧ Ext w w') := by
 have hx := Ext.refl w
 refine Cl.enter Tryz.func162 rfl Tryz.ntmps162 rfl rfl (.sr (.as rfl rfl (.done (.sr (Rg.wd trivial (w_buildSlice (bs124_1 _) rfl) rfl ?_)))))
 rintro _ w1 ⟨b3,rfl,q3,hx1,hv3⟩
 replace hx := hx.ext hx1
 clear hv3
 refine Rg.wd trivial (w_buildSlice (bs124_1 _) rfl) rfl ?_
 rintro _ w2 ⟨b4,rfl,q4,hx2,hv4⟩
 replace hx := hx.ext hx2
 refine Rg.wd trivial (w_buildSlice (bs124_2 _ _) rfl) rfl ?_
 rintro _ w3 ⟨b5,rfl,q5,hx3,hv5⟩
 replace hx := hx.ext hx3
 replace hv4 := hv4.ext hx3
 clear hv5
 refine Rg.wd trivial (w_buildSlice (bs124_2 _ _) rfl) rfl ?_
 rintro _ w4 ⟨b6,rfl,q6,hx4,hv6⟩
 replace hx := hx.ext hx4
 replace hv4 := hv4.ext hx4
 clear hv6
 refine Rg.wd trivial (w_buildSlice (bs124_2 _ _) rfl) rfl ?_
 rintro _ w5 ⟨b7,rfl,q7,hx5,hv7⟩
 replace hx := hx.ext hx5
 replace hv4 := hv4.ext hx5
 clear hv7
 refine Rg.wd trivial (w_buildSlice (bs169_5 _ _ _ _ _ _ _ _ _ _ _ _ _ _ _) rfl) rfl ?_
 rintro _ w6 ⟨b8,rfl,q8,hx6,hv8⟩
 replace hx := hx.ext hx6
 replace hv4 := hv4.ext hx6
 refine .mv rfl rfl ?_
 refine .tq (t_indexAddrL Tryz.underlying169 ty124 rfl rfl (by decide)) rfl ?_
 refine .tq (t_load ty124 rfl (Cells.get (i := 1) hv8.cells rfl)) rfl (.as rfl rfl (.done (Wp.ret ?_)))
 exact ⟨[_],⟨rfl,trivial⟩,⟨_,rfl,hv4⟩,hx⟩
theorem ops_2 : Cl Tryz.prog 162 #[.int .i64 2] w (fun u w' => (∃ b,u = .slice (some ⟨b,0,none⟩) 2 2 ∧ Var w' b ([⟨#[61,61]⟩,⟨#[60]⟩].map .string) 9) ∧ Ext w w') := by
 have hx := Ext.refl w
 refine Cl.enter Tryz.func162 rfl Tryz.ntmps162 rfl rfl (.sr (.as rfl rfl (.done (.sr (Rg.wd trivial (w_buildSlice (bs124_1 _) rfl) rfl ?_)))))
 rintro _ w1 ⟨b3,rfl,q3,hx1,hv3⟩
 replace hx := hx.ext hx1
 clear hv3
 refine Rg.wd trivial (w_buildSlice (bs124_1 _) rfl) rfl ?_
 rintro _ w2 ⟨b4,rfl,q4,hx2,hv4⟩
 replace hx := hx.ext hx2
 clear hv4
 refine Rg.wd trivial (w_buildSlice (bs124_2 _ _) rfl) rfl ?_
 rintro _ w3 ⟨b5,rfl,q5,hx3,hv5⟩
 replace hx := hx.ext hx3
 refine Rg.wd trivial (w_buildSlice (bs124_2 _ _) rfl) rfl ?_
 rintro _ w4 ⟨b6,rfl,q6,hx4,hv6⟩
 replace hx := hx.ext hx4
 replace hv5 := hv5.ext hx4
 clear hv6
 refine Rg.wd trivial (w_buildSlice (bs124_2 _ _) rfl) rfl ?_
 rintro _ w5 ⟨b7,rfl,q7,hx5,hv7⟩
 replace hx := hx.ext hx5
 replace hv5 := hv5.ext hx5
 clear hv7
 refine Rg.wd trivial (w_buildSlice (bs169_5 _ _ _ _ _ _ _ _ _ _ _ _ _ _ _) rfl) rfl ?_
 rintro _ w6 ⟨b8,rfl,q8,hx6,hv8⟩
 replace hx := hx.ext hx6
 replace hv5 := hv5.ext hx6
 refine .mv rfl rfl ?_
 refine .tq (t_indexAddrL Tryz.underlying169 ty124 rfl rfl (by decide)) rfl ?_
 refine .tq (t_load ty124 rfl (Cells.get (i := 2) hv8.cells rfl)) rfl (.as rfl rfl (.done (Wp.ret ?_)))
 exact ⟨[_],⟨rfl,trivial⟩,⟨_,rfl,hv5⟩,hx⟩
theorem ops_3 : Cl Tryz.prog 162 #[.int .i64 3] w (fun u w' => (∃ b,u = .slice (some ⟨b,0,none⟩) 2 2 ∧ Var w' b ([⟨#[43]⟩,⟨#[45]⟩].map .string) 9) ∧ Ext w w') := by
 have hx := Ext.refl w
 refine Cl.enter Tryz.func162 rfl Tryz.ntmps162 rfl rfl (.sr (.as rfl rfl (.done (.sr (Rg.wd trivial (w_buildSlice (bs124_1 _) rfl) rfl ?_)))))
 rintro _ w1 ⟨b3,rfl,q3,hx1,hv3⟩
 replace hx := hx.ext hx1
 clear hv3
 refine Rg.wd trivial (w_buildSlice (bs124_1 _) rfl) rfl ?_
 rintro _ w2 ⟨b4,rfl,q4,hx2,hv4⟩
 replace hx := hx.ext hx2
 clear hv4
 refine Rg.wd trivial (w_buildSlice (bs124_2 _ _) rfl) rfl ?_
 rintro _ w3 ⟨b5,rfl,q5,hx3,hv5⟩
 replace hx := hx.ext hx3
 clear hv5
 refine Rg.wd trivial (w_buildSlice (bs124_2 _ _) rfl) rfl ?_
 rintro _ w4 ⟨b6,rfl,q6,hx4,hv6⟩
 replace hx := hx.ext hx4
 refine Rg.wd trivial (w_buildSlice (bs124_2 _ _) rfl) rfl ?_
 rintro _ w5 ⟨b7,rfl,q7,hx5,hv7⟩
 replace hx := hx.ext hx5
 replace hv6 := hv6.ext hx5
 clear hv7
 refine Rg.wd trivial (w_buildSlice (bs169_5 _ _ _ _ _ _ _ _ _ _ _ _ _ _ _) rfl) rfl ?_
 rintro _ w6 ⟨b8,rfl,q8,hx6,hv8⟩
 replace hx := hx.ext hx6
 replace hv6 := hv6.ext hx6
 refine .mv rfl rfl ?_
 refine .tq (t_indexAddrL Tryz.underlying169 ty124 rfl rfl (by decide)) rfl ?_
 refine .tq (t_load ty124 rfl (Cells.get (i := 3) hv8.cells rfl)) rfl (.as rfl rfl (.done (Wp.ret ?_)))
 exact ⟨[_],⟨rfl,trivial⟩,⟨_,rfl,hv6⟩,hx⟩
theorem ops_4 : Cl Tryz.prog 162 #[.int .i64 4] w (fun u w' => (∃ b,u = .slice (some ⟨b,0,none⟩) 2 2 ∧ Var w' b ([⟨#[42]⟩,⟨#[47]⟩].map .string) 9) ∧ Ext w w') := by
 have hx := Ext.refl w
 refine Cl.enter Tryz.func162 rfl Tryz.ntmps162 rfl rfl (.sr (.as rfl rfl (.done (.sr (Rg.wd trivial (w_buildSlice (bs124_1 _) rfl) rfl ?_)))))
 rintro _ w1 ⟨b3,rfl,q3,hx1,hv3⟩
 replace hx := hx.ext hx1
 clear hv3
 refine Rg.wd trivial (w_buildSlice (bs124_1 _) rfl) rfl ?_
 rintro _ w2 ⟨b4,rfl,q4,hx2,hv4⟩
 replace hx := hx.ext hx2
 clear hv4
 refine Rg.wd trivial (w_buildSlice (bs124_2 _ _) rfl) rfl ?_
 rintro _ w3 ⟨b5,rfl,q5,hx3,hv5⟩
 replace hx := hx.ext hx3
 clear hv5
 refine Rg.wd trivial (w_buildSlice (bs124_2 _ _) rfl) rfl ?_
 rintro _ w4 ⟨b6,rfl,q6,hx4,hv6⟩
 replace hx := hx.ext hx4
 clear hv6
 refine Rg.wd trivial (w_buildSlice (bs124_2 _ _) rfl) rfl ?_
 rintro _ w5 ⟨b7,rfl,q7,hx5,hv7⟩
 replace hx := hx.ext hx5
 refine Rg.wd trivial (w_buildSlice (bs169_5 _ _ _ _ _ _ _ _ _ _ _ _ _ _ _) rfl) rfl ?_
 rintro _ w6 ⟨b8,rfl,q8,hx6,hv8⟩
 replace hx := hx.ext hx6
 replace hv7 := hv7.ext hx6
 refine .mv rfl rfl ?_
 refine .tq (t_indexAddrL Tryz.underlying169 ty124 rfl rfl (by decide)) rfl ?_
 refine .tq (t_load ty124 rfl (Cells.get (i := 4) hv8.cells rfl)) rfl (.as rfl rfl (.done (Wp.ret ?_)))
 exact ⟨[_],⟨rfl,trivial⟩,⟨_,rfl,hv7⟩,hx⟩
theorem clo_164_0 (hC : Cx w0 tv toks) (hD : ∀ m,m < n → DN w0 tv toks m) {b0 : Nat} (hv_b0 : Var w b0 [.pointer (some ⟨bP,0,none⟩)] 60) (hF_b0 : F b0) {b1 : Nat} (hv_b1 : Var w b1 [.int .i64 0] 3) (hF_b1 : F b1) : Clo w0 tv toks n F bP 164 [] [.pointer (some ⟨b0,0,none⟩),.pointer (some ⟨b1,0,none⟩)] w (.seq .bump (.call (.binary 1))) := by
 refine ⟨Tryz.call164,fun w1 hw1 below k s r hp hr hb => ?_⟩
 replace hv_b0 := var_bw hv_b0 hw1 hF_b0
 replace hv_b1 := var_bw hv_b1 hw1 hF_b1
 show Cl Tryz.prog 164 #[.pointer (some ⟨b0,0,none⟩),.pointer (some ⟨b1,0,none⟩)] w1 _
 have hbw := Bw.refl F w1
 have hsub : ∀ z,F z → F z := fun z h => h
 have hbase := hp.base
 refine Cl.enter Tryz.func164 rfl Tryz.ntmps164 rfl rfl (.sr (.tq (t_load ty60 rfl (Cells.get (i := 0) hv_b0.cells rfl)) rfl ?_))
 obtain ⟨s1,h1a,h1b⟩ := run_seq' hr
 refine Rg.wd trivial (w_call Tryz.call55 rfl (D_bump hC hp h1a (adds_le h1b hb))) rfl ?_
 rintro _ w1 ⟨hp1,hb1⟩
 replace hv_b0 := var_bw hv_b0 hb1 hF_b0
 replace hv_b1 := var_bw hv_b1 hb1 hF_b1
 replace hbw := hbw.trans (hb1.sub hsub)
 clear hp
 have hp := hp1
 clear hp1
 refine .done (Wp.region (.tq (t_load ty60 rfl (Cells.get (i := 0) hv_b0.cells rfl)) rfl (.tq (t_load ty3 rfl (Cells.get (i := 0) hv_b1.cells rfl)) rfl ?_)))
 first | refine .tq (t_addI rfl rfl (by omega)) rfl ?_ | refine .tq (t_add rfl rfl) rfl ?_
 refine Rg.wd trivial (w_call Tryz.call143 rfl (D_call hD hp h1b hb)) rfl ?_
 rintro _ w2 ⟨hst,hp1,hb2⟩
 replace hv_b0 := var_bw hv_b0 hb2 hF_b0
 replace hv_b1 := var_bw hv_b1 hb2 hF_b1
 replace hbw := hbw.trans (hb2.sub hsub)
 clear hp
 have hp := hp1
 clear hp1
 refine .done ?_
 exact ⟨[],trivial,hp.sub hsub hbase,hbw⟩
theorem N_binary_0 (hC : Cx w0 tv toks) (hD : ∀ m,m < n → DN w0 tv toks m) (hp : Ps w0 tv toks F w bP below k s) (hr : run body n (body (.binary 0)) s = some r) (hb : r.adds ≤ big) :
  Cl Tryz.prog 143 #[.pointer (some ⟨bP,0,none⟩),.int .i64 0] w (fun u w' => ((Nm.binary 0) = Nm.statement → u = .bool r.flag) ∧ Ps w0 tv toks F w' bP below k r ∧ Bw F w w') := by
 have hbw := Bw.refl F w
 have hsub : ∀ z,F z → F z := fun z h => h
 have hbase := hp.base
 have hr : run body n (.seq (.call (.binary 1)) (.loop (at1 [⟨#[124,124]⟩]) (.wrap 39 (.seq .bump (.call (.binary 1)))))) s = some r := hr
 refine Cl.enter Tryz.func143 rfl Tryz.ntmps143 rfl rfl (.sr (Rg.wd trivial (w_boxed rfl rfl) rfl ?_))
 rintro _ w1 ⟨bx143_2,rfl,qbx143_2,hx1,hv_bx143_2⟩
 replace hbw := hbw.trans (Bw.of hx1 fun z hz => hp.und z (hsub z hz))
 obtain ⟨F_bx143_2,hp1,hF_bx143_2,hs1⟩ := hp.box hx1 qbx143_2 hv_bx143_2.lt
 clear hp
 have hp := hp1
 clear hp1
 replace hsub := fun z hz => hs1 z (hsub z hz)
 refine Rg.wd trivial (w_boxed rfl rfl) rfl ?_
 rintro _ w2 ⟨bx143_3,rfl,qbx143_3,hx2,hv_bx143_3⟩
 replace hbw := hbw.trans (Bw.of hx2 fun z hz => hp.und z (hsub z hz))
 obtain ⟨F_bx143_3,hp1,hF_bx143_3,hs2⟩ := hp.box hx2 qbx143_3 hv_bx143_3.lt
 clear hp
 have hp := hp1
 clear hp1
 replace hsub := fun z hz => hs2 z (hsub z hz)
 replace hv_bx143_2 := hv_bx143_2.ext hx2
 replace hF_bx143_2 := hs2 _ hF_bx143_2
 refine .done (.seq (.sr (.tq (t_load ty3 rfl (Cells.get (i := 0) hv_bx143_3.cells rfl)) rfl ?_)))
 refine .tq (t_eqlF rfl rfl (by decide)) rfl ?_
 refine .done (.condF rfl (Wp.skip (.sr (.tq (t_load ty60 rfl (Cells.get (i := 0) hv_bx143_2.cells rfl)) rfl (.tq (t_load ty3 rfl (Cells.get (i := 0) hv_bx143_3.cells rfl)) rfl ?_)))))
 first | refine .tq (t_addI rfl rfl (by omega)) rfl ?_ | refine .tq (t_add rfl rfl) rfl ?_
 obtain ⟨s1,h1a,h1b⟩ := run_seq' hr
 refine Rg.wd trivial (w_call Tryz.call143 rfl (D_call hD hp h1a (adds_le h1b hb))) rfl ?_
 rintro _ w3 ⟨hst,hp1,hb3⟩
 replace hv_bx143_2 := var_bw hv_bx143_2 hb3 hF_bx143_2
 replace hv_bx143_3 := var_bw hv_bx143_3 hb3 hF_bx143_3
 replace hbw := hbw.trans (hb3.sub hsub)
 clear hp
 have hp := hp1
 clear hp1
 refine .done (Wp.block ?_)
 refine Wp.loop (ι := S × Nat) (fun _ => [(2,.pointer (some ⟨bx143_2,0,none⟩)),(3,.pointer (some ⟨bx143_3,0,none⟩)),(0,.pointer (some ⟨bP,0,none⟩)),(1,.int .i64 0)])
  (fun i w' => Ps w0 tv toks F_bx143_3 w' bP below k i.1 ∧ Bw F_bx143_3 w3 w' ∧ run body i.2 (.loop (at1 [⟨#[124,124]⟩]) (.wrap 39 (.seq .bump (.call (.binary 1))))) i.1 = some r ∧ i.2 ≤ n) (fun i => i.2) (s1,n) (by repeat (first | exact .nil | refine .cons rfl ?_)) ⟨hp,Bw.refl _ _,h1b,Nat.le_refl _⟩ ?_
 clear hp
 rintro ⟨s',m⟩ wl ⟨hp,hbl,hrun,hmn⟩
 simp only at hp hrun hmn
 replace hbw := hbw.trans (hbl.sub hsub)
 replace hv_bx143_2 := var_bw hv_bx143_2 hbl hF_bx143_2
 replace hv_bx143_3 := var_bw hv_bx143_3 hbl hF_bx143_3
 refine .seq ?_
 cases haq1 : (isAt [⟨#[124,124]⟩] (sig1 s'.rem)) with
 | true =>
  obtain ⟨m1,s2,rfl,hbody,hrest⟩ := run_loopT hrun haq1
  replace hbody := run_le hmn hbody
  refine Wp.seq (Wp.draw [0,1,2,3] [] mixed (by kernel_rfl) (by kernel_rfl) ?_)
  intro w4 hx4 _
  replace hbl := hbl.trans (Bw.of hx4 hp.und)
  replace hbw := hbw.trans (Bw.of hx4 fun z hz => hp.und z (hsub z hz))
  replace hp := hp.extw hx4
  replace hv_bx143_2 := hv_bx143_2.ext hx4
  replace hv_bx143_3 := hv_bx143_3.ext hx4
  refine .tq (t_load ty60 rfl (Cells.get (i := 0) hv_bx143_2.cells rfl)) rfl (.tq (t_load ty3 rfl (Cells.get (i := 0) hv_bx143_3.cells rfl)) rfl (Rg.wdB trivial rfl (w_call Tryz.call162 rfl ops_0) rfl (fun _ _ h => h.2) ?_))
  rintro _ w5 ⟨⟨bt14,rfl,hvt14⟩,hx5⟩
  replace hbl := hbl.trans (Bw.of hx5 hp.und)
  replace hbw := hbw.trans (Bw.of hx5 fun z hz => hp.und z (hsub z hz))
  replace hp := hp.extw hx5
  replace hv_bx143_2 := hv_bx143_2.ext hx5
  replace hv_bx143_3 := hv_bx143_3.ext hx5
  refine Rg.wdB trivial rfl (w_call Tryz.call48 rfl (at_ok hC hp (texts := [⟨#[124,124]⟩]) hvt14 (by decide))) rfl (fun _ _ h => h.2) ?_
  rintro _ w6 ⟨rfl,hx6⟩
  replace hbl := hbl.trans (Bw.of hx6 hp.und)
  replace hbw := hbw.trans (Bw.of hx6 fun z hz => hp.und z (hsub z hz))
  replace hp := hp.extw hx6
  replace hv_bx143_2 := hv_bx143_2.ext hx6
  replace hv_bx143_3 := hv_bx143_3.ext hx6
  try replace hvt14 := hvt14.ext hx6
  rw [show (isAt [⟨#[124,124]⟩] (sig1 s'.rem)) = true from haq1]
  refine .done (.condT rfl (Wp.skip (Wp.block (.sr (.tq (t_load ty60 rfl (Cells.get (i := 0) hv_bx143_2.cells rfl)) rfl (.tq (t_makeFuncB (us := []) (vs := [.pointer (some ⟨bx143_2,0,none⟩),.pointer (some ⟨bx143_3,0,none⟩)]) rfl rfl) rfl (Rg.wd trivial (w_call Tryz.call163 rfl (D_wrap hp (clo_164_0 hC hD hv_bx143_2 hF_bx143_2 hv_bx143_3 hF_bx143_3) hbody (adds_le hrest hb))) rfl ?_)))))))
  rintro _ w7 ⟨hp1,hb7⟩
  replace hbl := hbl.trans hb7
  replace hv_bx143_2 := var_bw hv_bx143_2 hb7 hF_bx143_2
  replace hv_bx143_3 := var_bw hv_bx143_3 hb7 hF_bx143_3
  replace hbw := hbw.trans (hb7.sub hsub)
  clear hp
  have hp := hp1
  clear hp1
  refine .done (.sr (.tq (t_load ty3 rfl (Cells.get (i := 0) hv_bx143_3.cells rfl)) rfl ?_))
  refine .tq (t_eqlF rfl rfl (by decide)) rfl ?_
  refine .done (.condF rfl (Wp.skip ?_))
  exact ⟨(s2,m1),by repeat (first | exact .nil | refine .cons rfl ?_),⟨hp,hbl,hrest,by simp only; omega⟩,by simp only; omega⟩
 | false =>
  obtain rfl := run_loopF hrun haq1
  refine Wp.seq (Wp.draw [0,1,2,3] [] mixed (by kernel_rfl) (by kernel_rfl) ?_)
  intro w4 hx4 _
  replace hbw := hbw.trans (Bw.of hx4 fun z hz => hp.und z (hsub z hz))
  replace hp := hp.extw hx4
  replace hv_bx143_2 := hv_bx143_2.ext hx4
  replace hv_bx143_3 := hv_bx143_3.ext hx4
  refine .tq (t_load ty60 rfl (Cells.get (i := 0) hv_bx143_2.cells rfl)) rfl (.tq (t_load ty3 rfl (Cells.get (i := 0) hv_bx143_3.cells rfl)) rfl (Rg.wdB trivial rfl (w_call Tryz.call162 rfl ops_0) rfl (fun _ _ h => h.2) ?_))
  rintro _ w5 ⟨⟨bt14,rfl,hvt14⟩,hx5⟩
  replace hbw := hbw.trans (Bw.of hx5 fun z hz => hp.und z (hsub z hz))
  replace hp := hp.extw hx5
  replace hv_bx143_2 := hv_bx143_2.ext hx5
  replace hv_bx143_3 := hv_bx143_3.ext hx5
  refine Rg.wdB trivial rfl (w_call Tryz.call48 rfl (at_ok hC hp (texts := [⟨#[124,124]⟩]) hvt14 (by decide))) rfl (fun _ _ h => h.2) ?_
  rintro _ w6 ⟨rfl,hx6⟩
  replace hbw := hbw.trans (Bw.of hx6 fun z hz => hp.und z (hsub z hz))
  replace hp := hp.extw hx6
  replace hv_bx143_2 := hv_bx143_2.ext hx6
  replace hv_bx143_3 := hv_bx143_3.ext hx6
  try replace hvt14 := hvt14.ext hx6
  rw [show (isAt [⟨#[124,124]⟩] (sig1 r.rem)) = false from haq1]
  refine .done (.condF rfl (Wp.exit ?_))
  exact ⟨[],trivial,(fun h => by cases h),hp.sub hsub hbase,hbw⟩
theorem clo_164_1 (hC : Cx w0 tv toks) (hD : ∀ m,m < n → DN w0 tv toks m) {b0 : Nat} (hv_b0 : Var w b0 [.pointer (some ⟨bP,0,none⟩)] 60) (hF_b0 : F b0) {b1 : Nat} (hv_b1 : Var w b1 [.int .i64 1] 3) (hF_b1 : F b1) : Clo w0 tv toks n F bP 164 [] [.pointer (some ⟨b0,0,none⟩),.pointer (some ⟨b1,0,none⟩)] w (.seq .bump (.call (.binary 2))) := by
 refine ⟨Tryz.call164,fun w1 hw1 below k s r hp hr hb => ?_⟩
 replace hv_b0 := var_bw hv_b0 hw1 hF_b0
 replace hv_b1 := var_bw hv_b1 hw1 hF_b1
 show Cl Tryz.prog 164 #[.pointer (some ⟨b0,0,none⟩),.pointer (some ⟨b1,0,none⟩)] w1 _
 have hbw := Bw.refl F w1
 have hsub : ∀ z,F z → F z := fun z h => h
 have hbase := hp.base
 refine Cl.enter Tryz.func164 rfl Tryz.ntmps164 rfl rfl (.sr (.tq (t_load ty60 rfl (Cells.get (i := 0) hv_b0.cells rfl)) rfl ?_))
 obtain ⟨s1,h1a,h1b⟩ := run_seq' hr
 refine Rg.wd trivial (w_call Tryz.call55 rfl (D_bump hC hp h1a (adds_le h1b hb))) rfl ?_
 rintro _ w1 ⟨hp1,hb1⟩
 replace hv_b0 := var_bw hv_b0 hb1 hF_b0
 replace hv_b1 := var_bw hv_b1 hb1 hF_b1
 replace hbw := hbw.trans (hb1.sub hsub)
 clear hp
 have hp := hp1
 clear hp1
 refine .done (Wp.region (.tq (t_load ty60 rfl (Cells.get (i := 0) hv_b0.cells rfl)) rfl (.tq (t_load ty3 rfl (Cells.get (i := 0) hv_b1.cells rfl)) rfl ?_)))
 first | refine .tq (t_addI rfl rfl (by omega)) rfl ?_ | refine .tq (t_add rfl rfl) rfl ?_
 refine Rg.wd trivial (w_call Tryz.call143 rfl (D_call hD hp h1b hb)) rfl ?_
 rintro _ w2 ⟨hst,hp1,hb2⟩
 replace hv_b0 := var_bw hv_b0 hb2 hF_b0
 replace hv_b1 := var_bw hv_b1 hb2 hF_b1
 replace hbw := hbw.trans (hb2.sub hsub)
 clear hp
 have hp := hp1
 clear hp1
 refine .done ?_
 exact ⟨[],trivial,hp.sub hsub hbase,hbw⟩
theorem N_binary_1 (hC : Cx w0 tv toks) (hD : ∀ m,m < n → DN w0 tv toks m) (hp : Ps w0 tv toks F w bP below k s) (hr : run body n (body (.binary 1)) s = some r) (hb : r.adds ≤ big) :
  Cl Tryz.prog 143 #[.pointer (some ⟨bP,0,none⟩),.int .i64 1] w (fun u w' => ((Nm.binary 1) = Nm.statement → u = .bool r.flag) ∧ Ps w0 tv toks F w' bP below k r ∧ Bw F w w') := by
 have hbw := Bw.refl F w
 have hsub : ∀ z,F z → F z := fun z h => h
 have hbase := hp.base
 have hr : run body n (.seq (.call (.binary 2)) (.loop (at1 [⟨#[38,38]⟩]) (.wrap 39 (.seq .bump (.call (.binary 2)))))) s = some r := hr
 refine Cl.enter Tryz.func143 rfl Tryz.ntmps143 rfl rfl (.sr (Rg.wd trivial (w_boxed rfl rfl) rfl ?_))
 rintro _ w1 ⟨bx143_2,rfl,qbx143_2,hx1,hv_bx143_2⟩
 replace hbw := hbw.trans (Bw.of hx1 fun z hz => hp.und z (hsub z hz))
 obtain ⟨F_bx143_2,hp1,hF_bx143_2,hs1⟩ := hp.box hx1 qbx143_2 hv_bx143_2.lt
 clear hp
 have hp := hp1
 clear hp1
 replace hsub := fun z hz => hs1 z (hsub z hz)
 refine Rg.wd trivial (w_boxed rfl rfl) rfl ?_
 rintro _ w2 ⟨bx143_3,rfl,qbx143_3,hx2,hv_bx143_3⟩
 replace hbw := hbw.trans (Bw.of hx2 fun z hz => hp.und z (hsub z hz))
 obtain ⟨F_bx143_3,hp1,hF_bx143_3,hs2⟩ := hp.box hx2 qbx143_3 hv_bx143_3.lt
 clear hp
 have hp := hp1
 clear hp1
 replace hsub := fun z hz => hs2 z (hsub z hz)
 replace hv_bx143_2 := hv_bx143_2.ext hx2
 replace hF_bx143_2 := hs2 _ hF_bx143_2
 refine .done (.seq (.sr (.tq (t_load ty3 rfl (Cells.get (i := 0) hv_bx143_3.cells rfl)) rfl ?_)))
 refine .tq (t_eqlF rfl rfl (by decide)) rfl ?_
 refine .done (.condF rfl (Wp.skip (.sr (.tq (t_load ty60 rfl (Cells.get (i := 0) hv_bx143_2.cells rfl)) rfl (.tq (t_load ty3 rfl (Cells.get (i := 0) hv_bx143_3.cells rfl)) rfl ?_)))))
 first | refine .tq (t_addI rfl rfl (by omega)) rfl ?_ | refine .tq (t_add rfl rfl) rfl ?_
 obtain ⟨s1,h1a,h1b⟩ := run_seq' hr
 refine Rg.wd trivial (w_call Tryz.call143 rfl (D_call hD hp h1a (adds_le h1b hb))) rfl ?_
 rintro _ w3 ⟨hst,hp1,hb3⟩
 replace hv_bx143_2 := var_bw hv_bx143_2 hb3 hF_bx143_2
 replace hv_bx143_3 := var_bw hv_bx143_3 hb3 hF_bx143_3
 replace hbw := hbw.trans (hb3.sub hsub)
 clear hp
 have hp := hp1
 clear hp1
 refine .done (Wp.block ?_)
 refine Wp.loop (ι := S × Nat) (fun _ => [(2,.pointer (some ⟨bx143_2,0,none⟩)),(3,.pointer (some ⟨bx143_3,0,none⟩)),(0,.pointer (some ⟨bP,0,none⟩)),(1,.int .i64 1)])
  (fun i w' => Ps w0 tv toks F_bx143_3 w' bP below k i.1 ∧ Bw F_bx143_3 w3 w' ∧ run body i.2 (.loop (at1 [⟨#[38,38]⟩]) (.wrap 39 (.seq .bump (.call (.binary 2))))) i.1 = some r ∧ i.2 ≤ n) (fun i => i.2) (s1,n) (by repeat (first | exact .nil | refine .cons rfl ?_)) ⟨hp,Bw.refl _ _,h1b,Nat.le_refl _⟩ ?_
 clear hp
 rintro ⟨s',m⟩ wl ⟨hp,hbl,hrun,hmn⟩
 simp only at hp hrun hmn
 replace hbw := hbw.trans (hbl.sub hsub)
 replace hv_bx143_2 := var_bw hv_bx143_2 hbl hF_bx143_2
 replace hv_bx143_3 := var_bw hv_bx143_3 hbl hF_bx143_3
 refine .seq ?_
 cases haq1 : (isAt [⟨#[38,38]⟩] (sig1 s'.rem)) with
 | true =>
  obtain ⟨m1,s2,rfl,hbody,hrest⟩ := run_loopT hrun haq1
  replace hbody := run_le hmn hbody
  refine Wp.seq (Wp.draw [0,1,2,3] [] mixed (by kernel_rfl) (by kernel_rfl) ?_)
  intro w4 hx4 _
  replace hbl := hbl.trans (Bw.of hx4 hp.und)
  replace hbw := hbw.trans (Bw.of hx4 fun z hz => hp.und z (hsub z hz))
  replace hp := hp.extw hx4
  replace hv_bx143_2 := hv_bx143_2.ext hx4
  replace hv_bx143_3 := hv_bx143_3.ext hx4
  refine .tq (t_load ty60 rfl (Cells.get (i := 0) hv_bx143_2.cells rfl)) rfl (.tq (t_load ty3 rfl (Cells.get (i := 0) hv_bx143_3.cells rfl)) rfl (Rg.wdB trivial rfl (w_call Tryz.call162 rfl ops_1) rfl (fun _ _ h => h.2) ?_))
  rintro _ w5 ⟨⟨bt14,rfl,hvt14⟩,hx5⟩
  replace hbl := hbl.trans (Bw.of hx5 hp.und)
  replace hbw := hbw.trans (Bw.of hx5 fun z hz => hp.und z (hsub z hz))
  replace hp := hp.extw hx5
  replace hv_bx143_2 := hv_bx143_2.ext hx5
  replace hv_bx143_3 := hv_bx143_3.ext hx5
  refine Rg.wdB trivial rfl (w_call Tryz.call48 rfl (at_ok hC hp (texts := [⟨#[38,38]⟩]) hvt14 (by decide))) rfl (fun _ _ h => h.2) ?_
  rintro _ w6 ⟨rfl,hx6⟩
  replace hbl := hbl.trans (Bw.of hx6 hp.und)
  replace hbw := hbw.trans (Bw.of hx6 fun z hz => hp.und z (hsub z hz))
  replace hp := hp.extw hx6
  replace hv_bx143_2 := hv_bx143_2.ext hx6
  replace hv_bx143_3 := hv_bx143_3.ext hx6
  try replace hvt14 := hvt14.ext hx6
  rw [show (isAt [⟨#[38,38]⟩] (sig1 s'.rem)) = true from haq1]
  refine .done (.condT rfl (Wp.skip (Wp.block (.sr (.tq (t_load ty60 rfl (Cells.get (i := 0) hv_bx143_2.cells rfl)) rfl (.tq (t_makeFuncB (us := []) (vs := [.pointer (some ⟨bx143_2,0,none⟩),.pointer (some ⟨bx143_3,0,none⟩)]) rfl rfl) rfl (Rg.wd trivial (w_call Tryz.call163 rfl (D_wrap hp (clo_164_1 hC hD hv_bx143_2 hF_bx143_2 hv_bx143_3 hF_bx143_3) hbody (adds_le hrest hb))) rfl ?_)))))))
  rintro _ w7 ⟨hp1,hb7⟩
  replace hbl := hbl.trans hb7
  replace hv_bx143_2 := var_bw hv_bx143_2 hb7 hF_bx143_2
  replace hv_bx143_3 := var_bw hv_bx143_3 hb7 hF_bx143_3
  replace hbw := hbw.trans (hb7.sub hsub)
  clear hp
  have hp := hp1
  clear hp1
  refine .done (.sr (.tq (t_load ty3 rfl (Cells.get (i := 0) hv_bx143_3.cells rfl)) rfl ?_))
  refine .tq (t_eqlF rfl rfl (by decide)) rfl ?_
  refine .done (.condF rfl (Wp.skip ?_))
  exact ⟨(s2,m1),by repeat (first | exact .nil | refine .cons rfl ?_),⟨hp,hbl,hrest,by simp only; omega⟩,by simp only; omega⟩
 | false =>
  obtain rfl := run_loopF hrun haq1
  refine Wp.seq (Wp.draw [0,1,2,3] [] mixed (by kernel_rfl) (by kernel_rfl) ?_)
  intro w4 hx4 _
  replace hbw := hbw.trans (Bw.of hx4 fun z hz => hp.und z (hsub z hz))
  replace hp := hp.extw hx4
  replace hv_bx143_2 := hv_bx143_2.ext hx4
  replace hv_bx143_3 := hv_bx143_3.ext hx4
  refine .tq (t_load ty60 rfl (Cells.get (i := 0) hv_bx143_2.cells rfl)) rfl (.tq (t_load ty3 rfl (Cells.get (i := 0) hv_bx143_3.cells rfl)) rfl (Rg.wdB trivial rfl (w_call Tryz.call162 rfl ops_1) rfl (fun _ _ h => h.2) ?_))
  rintro _ w5 ⟨⟨bt14,rfl,hvt14⟩,hx5⟩
  replace hbw := hbw.trans (Bw.of hx5 fun z hz => hp.und z (hsub z hz))
  replace hp := hp.extw hx5
  replace hv_bx143_2 := hv_bx143_2.ext hx5
  replace hv_bx143_3 := hv_bx143_3.ext hx5
  refine Rg.wdB trivial rfl (w_call Tryz.call48 rfl (at_ok hC hp (texts := [⟨#[38,38]⟩]) hvt14 (by decide))) rfl (fun _ _ h => h.2) ?_
  rintro _ w6 ⟨rfl,hx6⟩
  replace hbw := hbw.trans (Bw.of hx6 fun z hz => hp.und z (hsub z hz))
  replace hp := hp.extw hx6
  replace hv_bx143_2 := hv_bx143_2.ext hx6
  replace hv_bx143_3 := hv_bx143_3.ext hx6
  try replace hvt14 := hvt14.ext hx6
  rw [show (isAt [⟨#[38,38]⟩] (sig1 r.rem)) = false from haq1]
  refine .done (.condF rfl (Wp.exit ?_))
  exact ⟨[],trivial,(fun h => by cases h),hp.sub hsub hbase,hbw⟩
theorem clo_164_2 (hC : Cx w0 tv toks) (hD : ∀ m,m < n → DN w0 tv toks m) {b0 : Nat} (hv_b0 : Var w b0 [.pointer (some ⟨bP,0,none⟩)] 60) (hF_b0 : F b0) {b1 : Nat} (hv_b1 : Var w b1 [.int .i64 2] 3) (hF_b1 : F b1) : Clo w0 tv toks n F bP 164 [] [.pointer (some ⟨b0,0,none⟩),.pointer (some ⟨b1,0,none⟩)] w (.seq .bump (.call (.binary 3))) := by
 refine ⟨Tryz.call164,fun w1 hw1 below k s r hp hr hb => ?_⟩
 replace hv_b0 := var_bw hv_b0 hw1 hF_b0
 replace hv_b1 := var_bw hv_b1 hw1 hF_b1
 show Cl Tryz.prog 164 #[.pointer (some ⟨b0,0,none⟩),.pointer (some ⟨b1,0,none⟩)] w1 _
 have hbw := Bw.refl F w1
 have hsub : ∀ z,F z → F z := fun z h => h
 have hbase := hp.base
 refine Cl.enter Tryz.func164 rfl Tryz.ntmps164 rfl rfl (.sr (.tq (t_load ty60 rfl (Cells.get (i := 0) hv_b0.cells rfl)) rfl ?_))
 obtain ⟨s1,h1a,h1b⟩ := run_seq' hr
 refine Rg.wd trivial (w_call Tryz.call55 rfl (D_bump hC hp h1a (adds_le h1b hb))) rfl ?_
 rintro _ w1 ⟨hp1,hb1⟩
 replace hv_b0 := var_bw hv_b0 hb1 hF_b0
 replace hv_b1 := var_bw hv_b1 hb1 hF_b1
 replace hbw := hbw.trans (hb1.sub hsub)
 clear hp
 have hp := hp1
 clear hp1
 refine .done (Wp.region (.tq (t_load ty60 rfl (Cells.get (i := 0) hv_b0.cells rfl)) rfl (.tq (t_load ty3 rfl (Cells.get (i := 0) hv_b1.cells rfl)) rfl ?_)))
 first | refine .tq (t_addI rfl rfl (by omega)) rfl ?_ | refine .tq (t_add rfl rfl) rfl ?_
 refine Rg.wd trivial (w_call Tryz.call143 rfl (D_call hD hp h1b hb)) rfl ?_
 rintro _ w2 ⟨hst,hp1,hb2⟩
 replace hv_b0 := var_bw hv_b0 hb2 hF_b0
 replace hv_b1 := var_bw hv_b1 hb2 hF_b1
 replace hbw := hbw.trans (hb2.sub hsub)
 clear hp
 have hp := hp1
 clear hp1
 refine .done ?_
 exact ⟨[],trivial,hp.sub hsub hbase,hbw⟩
theorem N_binary_2 (hC : Cx w0 tv toks) (hD : ∀ m,m < n → DN w0 tv toks m) (hp : Ps w0 tv toks F w bP below k s) (hr : run body n (body (.binary 2)) s = some r) (hb : r.adds ≤ big) :
  Cl Tryz.prog 143 #[.pointer (some ⟨bP,0,none⟩),.int .i64 2] w (fun u w' => ((Nm.binary 2) = Nm.statement → u = .bool r.flag) ∧ Ps w0 tv toks F w' bP below k r ∧ Bw F w w') := by
 have hbw := Bw.refl F w
 have hsub : ∀ z,F z → F z := fun z h => h
 have hbase := hp.base
 have hr : run body n (.seq (.call (.binary 3)) (.cond (at1 [⟨#[61,61]⟩,⟨#[60]⟩]) (.wrap 39 (.seq .bump (.call (.binary 3)))) .skip)) s = some r := hr
 refine Cl.enter Tryz.func143 rfl Tryz.ntmps143 rfl rfl (.sr (Rg.wd trivial (w_boxed rfl rfl) rfl ?_))
 rintro _ w1 ⟨bx143_2,rfl,qbx143_2,hx1,hv_bx143_2⟩
 replace hbw := hbw.trans (Bw.of hx1 fun z hz => hp.und z (hsub z hz))
 obtain ⟨F_bx143_2,hp1,hF_bx143_2,hs1⟩ := hp.box hx1 qbx143_2 hv_bx143_2.lt
 clear hp
 have hp := hp1
 clear hp1
 replace hsub := fun z hz => hs1 z (hsub z hz)
 refine Rg.wd trivial (w_boxed rfl rfl) rfl ?_
 rintro _ w2 ⟨bx143_3,rfl,qbx143_3,hx2,hv_bx143_3⟩
 replace hbw := hbw.trans (Bw.of hx2 fun z hz => hp.und z (hsub z hz))
 obtain ⟨F_bx143_3,hp1,hF_bx143_3,hs2⟩ := hp.box hx2 qbx143_3 hv_bx143_3.lt
 clear hp
 have hp := hp1
 clear hp1
 replace hsub := fun z hz => hs2 z (hsub z hz)
 replace hv_bx143_2 := hv_bx143_2.ext hx2
 replace hF_bx143_2 := hs2 _ hF_bx143_2
 refine .done (.seq (.sr (.tq (t_load ty3 rfl (Cells.get (i := 0) hv_bx143_3.cells rfl)) rfl ?_)))
 refine .tq (t_eqlF rfl rfl (by decide)) rfl ?_
 refine .done (.condF rfl (Wp.skip (.sr (.tq (t_load ty60 rfl (Cells.get (i := 0) hv_bx143_2.cells rfl)) rfl (.tq (t_load ty3 rfl (Cells.get (i := 0) hv_bx143_3.cells rfl)) rfl ?_)))))
 first | refine .tq (t_addI rfl rfl (by omega)) rfl ?_ | refine .tq (t_add rfl rfl) rfl ?_
 obtain ⟨s1,h1a,h1b⟩ := run_seq' hr
 refine Rg.wd trivial (w_call Tryz.call143 rfl (D_call hD hp h1a (adds_le h1b hb))) rfl ?_
 rintro _ w3 ⟨hst,hp1,hb3⟩
 replace hv_bx143_2 := var_bw hv_bx143_2 hb3 hF_bx143_2
 replace hv_bx143_3 := var_bw hv_bx143_3 hb3 hF_bx143_3
 replace hbw := hbw.trans (hb3.sub hsub)
 clear hp
 have hp := hp1
 clear hp1
 refine .done (Wp.block ?_)
 refine Wp.loop (ι := Unit) (fun _ => [(2,.pointer (some ⟨bx143_2,0,none⟩)),(3,.pointer (some ⟨bx143_3,0,none⟩))]) (fun _ w' => Ps w0 tv toks F_bx143_3 w' bP below k s1 ∧ Bw F_bx143_3 w3 w') (fun _ => 0) () (by repeat (first | exact .nil | refine .cons rfl ?_)) ⟨hp,Bw.refl _ _⟩ ?_
 clear hp
 rintro _ wl ⟨hp,hbl⟩
 replace hbw := hbw.trans (hbl.sub hsub)
 replace hv_bx143_2 := var_bw hv_bx143_2 hbl hF_bx143_2
 replace hv_bx143_3 := var_bw hv_bx143_3 hbl hF_bx143_3
 refine .seq ?_
 cases haq1 : (isAt [⟨#[61,61]⟩,⟨#[60]⟩] (sig1 s1.rem)) with
 | true =>
  have hq2 := run_condT h1b haq1
  refine Wp.seq (Wp.draw [0,1,2,3] [] mixed (by kernel_rfl) (by kernel_rfl) ?_)
  intro w4 hx4 _
  replace hbl := hbl.trans (Bw.of hx4 hp.und)
  replace hbw := hbw.trans (Bw.of hx4 fun z hz => hp.und z (hsub z hz))
  replace hp := hp.extw hx4
  replace hv_bx143_2 := hv_bx143_2.ext hx4
  replace hv_bx143_3 := hv_bx143_3.ext hx4
  refine .tq (t_load ty60 rfl (Cells.get (i := 0) hv_bx143_2.cells rfl)) rfl (.tq (t_load ty3 rfl (Cells.get (i := 0) hv_bx143_3.cells rfl)) rfl (Rg.wdB trivial rfl (w_call Tryz.call162 rfl ops_2) rfl (fun _ _ h => h.2) ?_))
  rintro _ w5 ⟨⟨bt14,rfl,hvt14⟩,hx5⟩
  replace hbl := hbl.trans (Bw.of hx5 hp.und)
  replace hbw := hbw.trans (Bw.of hx5 fun z hz => hp.und z (hsub z hz))
  replace hp := hp.extw hx5
  replace hv_bx143_2 := hv_bx143_2.ext hx5
  replace hv_bx143_3 := hv_bx143_3.ext hx5
  refine Rg.wdB trivial rfl (w_call Tryz.call48 rfl (at_ok hC hp (texts := [⟨#[61,61]⟩,⟨#[60]⟩]) hvt14 (by decide))) rfl (fun _ _ h => h.2) ?_
  rintro _ w6 ⟨rfl,hx6⟩
  replace hbl := hbl.trans (Bw.of hx6 hp.und)
  replace hbw := hbw.trans (Bw.of hx6 fun z hz => hp.und z (hsub z hz))
  replace hp := hp.extw hx6
  replace hv_bx143_2 := hv_bx143_2.ext hx6
  replace hv_bx143_3 := hv_bx143_3.ext hx6
  try replace hvt14 := hvt14.ext hx6
  rw [show (isAt [⟨#[61,61]⟩,⟨#[60]⟩] (sig1 s1.rem)) = true from haq1]
  refine .done (.condT rfl (Wp.skip (Wp.block (.sr (.tq (t_load ty60 rfl (Cells.get (i := 0) hv_bx143_2.cells rfl)) rfl (.tq (t_makeFuncB (us := []) (vs := [.pointer (some ⟨bx143_2,0,none⟩),.pointer (some ⟨bx143_3,0,none⟩)]) rfl rfl) rfl (Rg.wd trivial (w_call Tryz.call163 rfl (D_wrap hp (clo_164_2 hC hD hv_bx143_2 hF_bx143_2 hv_bx143_3 hF_bx143_3) hq2 hb)) rfl ?_)))))))
  rintro _ w7 ⟨hp1,hb7⟩
  replace hbl := hbl.trans hb7
  replace hv_bx143_2 := var_bw hv_bx143_2 hb7 hF_bx143_2
  replace hv_bx143_3 := var_bw hv_bx143_3 hb7 hF_bx143_3
  replace hbw := hbw.trans (hb7.sub hsub)
  clear hp
  have hp := hp1
  clear hp1
  refine .done (.sr (.tq (t_load ty3 rfl (Cells.get (i := 0) hv_bx143_3.cells rfl)) rfl ?_))
  refine .tq (t_eqlT rfl rfl (by decide)) rfl ?_
  refine .done (.condT rfl (Wp.ret ?_))
  exact ⟨[],trivial,(fun h => by cases h),hp.sub hsub hbase,hbw⟩
 | false =>
  have hq2 := run_condF h1b haq1
  obtain rfl := run_skip' hq2
  refine Wp.seq (Wp.draw [0,1,2,3] [] mixed (by kernel_rfl) (by kernel_rfl) ?_)
  intro w4 hx4 _
  replace hbl := hbl.trans (Bw.of hx4 hp.und)
  replace hbw := hbw.trans (Bw.of hx4 fun z hz => hp.und z (hsub z hz))
  replace hp := hp.extw hx4
  replace hv_bx143_2 := hv_bx143_2.ext hx4
  replace hv_bx143_3 := hv_bx143_3.ext hx4
  refine .tq (t_load ty60 rfl (Cells.get (i := 0) hv_bx143_2.cells rfl)) rfl (.tq (t_load ty3 rfl (Cells.get (i := 0) hv_bx143_3.cells rfl)) rfl (Rg.wdB trivial rfl (w_call Tryz.call162 rfl ops_2) rfl (fun _ _ h => h.2) ?_))
  rintro _ w5 ⟨⟨bt14,rfl,hvt14⟩,hx5⟩
  replace hbl := hbl.trans (Bw.of hx5 hp.und)
  replace hbw := hbw.trans (Bw.of hx5 fun z hz => hp.und z (hsub z hz))
  replace hp := hp.extw hx5
  replace hv_bx143_2 := hv_bx143_2.ext hx5
  replace hv_bx143_3 := hv_bx143_3.ext hx5
  refine Rg.wdB trivial rfl (w_call Tryz.call48 rfl (at_ok hC hp (texts := [⟨#[61,61]⟩,⟨#[60]⟩]) hvt14 (by decide))) rfl (fun _ _ h => h.2) ?_
  rintro _ w6 ⟨rfl,hx6⟩
  replace hbl := hbl.trans (Bw.of hx6 hp.und)
  replace hbw := hbw.trans (Bw.of hx6 fun z hz => hp.und z (hsub z hz))
  replace hp := hp.extw hx6
  replace hv_bx143_2 := hv_bx143_2.ext hx6
  replace hv_bx143_3 := hv_bx143_3.ext hx6
  try replace hvt14 := hvt14.ext hx6
  rw [show (isAt [⟨#[61,61]⟩,⟨#[60]⟩] (sig1 r.rem)) = false from haq1]
  refine .done (.condF rfl (Wp.exit ?_))
  exact ⟨[],trivial,(fun h => by cases h),hp.sub hsub hbase,hbw⟩
theorem clo_164_3 (hC : Cx w0 tv toks) (hD : ∀ m,m < n → DN w0 tv toks m) {b0 : Nat} (hv_b0 : Var w b0 [.pointer (some ⟨bP,0,none⟩)] 60) (hF_b0 : F b0) {b1 : Nat} (hv_b1 : Var w b1 [.int .i64 3] 3) (hF_b1 : F b1) : Clo w0 tv toks n F bP 164 [] [.pointer (some ⟨b0,0,none⟩),.pointer (some ⟨b1,0,none⟩)] w (.seq .bump (.call (.binary 4))) := by
 refine ⟨Tryz.call164,fun w1 hw1 below k s r hp hr hb => ?_⟩
 replace hv_b0 := var_bw hv_b0 hw1 hF_b0
 replace hv_b1 := var_bw hv_b1 hw1 hF_b1
 show Cl Tryz.prog 164 #[.pointer (some ⟨b0,0,none⟩),.pointer (some ⟨b1,0,none⟩)] w1 _
 have hbw := Bw.refl F w1
 have hsub : ∀ z,F z → F z := fun z h => h
 have hbase := hp.base
 refine Cl.enter Tryz.func164 rfl Tryz.ntmps164 rfl rfl (.sr (.tq (t_load ty60 rfl (Cells.get (i := 0) hv_b0.cells rfl)) rfl ?_))
 obtain ⟨s1,h1a,h1b⟩ := run_seq' hr
 refine Rg.wd trivial (w_call Tryz.call55 rfl (D_bump hC hp h1a (adds_le h1b hb))) rfl ?_
 rintro _ w1 ⟨hp1,hb1⟩
 replace hv_b0 := var_bw hv_b0 hb1 hF_b0
 replace hv_b1 := var_bw hv_b1 hb1 hF_b1
 replace hbw := hbw.trans (hb1.sub hsub)
 clear hp
 have hp := hp1
 clear hp1
 refine .done (Wp.region (.tq (t_load ty60 rfl (Cells.get (i := 0) hv_b0.cells rfl)) rfl (.tq (t_load ty3 rfl (Cells.get (i := 0) hv_b1.cells rfl)) rfl ?_)))
 first | refine .tq (t_addI rfl rfl (by omega)) rfl ?_ | refine .tq (t_add rfl rfl) rfl ?_
 refine Rg.wd trivial (w_call Tryz.call143 rfl (D_call hD hp h1b hb)) rfl ?_
 rintro _ w2 ⟨hst,hp1,hb2⟩
 replace hv_b0 := var_bw hv_b0 hb2 hF_b0
 replace hv_b1 := var_bw hv_b1 hb2 hF_b1
 replace hbw := hbw.trans (hb2.sub hsub)
 clear hp
 have hp := hp1
 clear hp1
 refine .done ?_
 exact ⟨[],trivial,hp.sub hsub hbase,hbw⟩
theorem N_binary_3 (hC : Cx w0 tv toks) (hD : ∀ m,m < n → DN w0 tv toks m) (hp : Ps w0 tv toks F w bP below k s) (hr : run body n (body (.binary 3)) s = some r) (hb : r.adds ≤ big) :
  Cl Tryz.prog 143 #[.pointer (some ⟨bP,0,none⟩),.int .i64 3] w (fun u w' => ((Nm.binary 3) = Nm.statement → u = .bool r.flag) ∧ Ps w0 tv toks F w' bP below k r ∧ Bw F w w') := by
 have hbw := Bw.refl F w
 have hsub : ∀ z,F z → F z := fun z h => h
 have hbase := hp.base
 have hr : run body n (.seq (.call (.binary 4)) (.loop (at1 [⟨#[43]⟩,⟨#[45]⟩]) (.wrap 39 (.seq .bump (.call (.binary 4)))))) s = some r := hr
 refine Cl.enter Tryz.func143 rfl Tryz.ntmps143 rfl rfl (.sr (Rg.wd trivial (w_boxed rfl rfl) rfl ?_))
 rintro _ w1 ⟨bx143_2,rfl,qbx143_2,hx1,hv_bx143_2⟩
 replace hbw := hbw.trans (Bw.of hx1 fun z hz => hp.und z (hsub z hz))
 obtain ⟨F_bx143_2,hp1,hF_bx143_2,hs1⟩ := hp.box hx1 qbx143_2 hv_bx143_2.lt
 clear hp
 have hp := hp1
 clear hp1
 replace hsub := fun z hz => hs1 z (hsub z hz)
 refine Rg.wd trivial (w_boxed rfl rfl) rfl ?_
 rintro _ w2 ⟨bx143_3,rfl,qbx143_3,hx2,hv_bx143_3⟩
 replace hbw := hbw.trans (Bw.of hx2 fun z hz => hp.und z (hsub z hz))
 obtain ⟨F_bx143_3,hp1,hF_bx143_3,hs2⟩ := hp.box hx2 qbx143_3 hv_bx143_3.lt
 clear hp
 have hp := hp1
 clear hp1
 replace hsub := fun z hz => hs2 z (hsub z hz)
 replace hv_bx143_2 := hv_bx143_2.ext hx2
 replace hF_bx143_2 := hs2 _ hF_bx143_2
 refine .done (.seq (.sr (.tq (t_load ty3 rfl (Cells.get (i := 0) hv_bx143_3.cells rfl)) rfl ?_)))
 refine .tq (t_eqlF rfl rfl (by decide)) rfl ?_
 refine .done (.condF rfl (Wp.skip (.sr (.tq (t_load ty60 rfl (Cells.get (i := 0) hv_bx143_2.cells rfl)) rfl (.tq (t_load ty3 rfl (Cells.get (i := 0) hv_bx143_3.cells rfl)) rfl ?_)))))
 first | refine .tq (t_addI rfl rfl (by omega)) rfl ?_ | refine .tq (t_add rfl rfl) rfl ?_
 obtain ⟨s1,h1a,h1b⟩ := run_seq' hr
 refine Rg.wd trivial (w_call Tryz.call143 rfl (D_call hD hp h1a (adds_le h1b hb))) rfl ?_
 rintro _ w3 ⟨hst,hp1,hb3⟩
 replace hv_bx143_2 := var_bw hv_bx143_2 hb3 hF_bx143_2
 replace hv_bx143_3 := var_bw hv_bx143_3 hb3 hF_bx143_3
 replace hbw := hbw.trans (hb3.sub hsub)
 clear hp
 have hp := hp1
 clear hp1
 refine .done (Wp.block ?_)
 refine Wp.loop (ι := S × Nat) (fun _ => [(2,.pointer (some ⟨bx143_2,0,none⟩)),(3,.pointer (some ⟨bx143_3,0,none⟩)),(0,.pointer (some ⟨bP,0,none⟩)),(1,.int .i64 3)])
  (fun i w' => Ps w0 tv toks F_bx143_3 w' bP below k i.1 ∧ Bw F_bx143_3 w3 w' ∧ run body i.2 (.loop (at1 [⟨#[43]⟩,⟨#[45]⟩]) (.wrap 39 (.seq .bump (.call (.binary 4))))) i.1 = some r ∧ i.2 ≤ n) (fun i => i.2) (s1,n) (by repeat (first | exact .nil | refine .cons rfl ?_)) ⟨hp,Bw.refl _ _,h1b,Nat.le_refl _⟩ ?_
 clear hp
 rintro ⟨s',m⟩ wl ⟨hp,hbl,hrun,hmn⟩
 simp only at hp hrun hmn
 replace hbw := hbw.trans (hbl.sub hsub)
 replace hv_bx143_2 := var_bw hv_bx143_2 hbl hF_bx143_2
 replace hv_bx143_3 := var_bw hv_bx143_3 hbl hF_bx143_3
 refine .seq ?_
 cases haq1 : (isAt [⟨#[43]⟩,⟨#[45]⟩] (sig1 s'.rem)) with
 | true =>
  obtain ⟨m1,s2,rfl,hbody,hrest⟩ := run_loopT hrun haq1
  replace hbody := run_le hmn hbody
  refine Wp.seq (Wp.draw [0,1,2,3] [] mixed (by kernel_rfl) (by kernel_rfl) ?_)
  intro w4 hx4 _
  replace hbl := hbl.trans (Bw.of hx4 hp.und)
  replace hbw := hbw.trans (Bw.of hx4 fun z hz => hp.und z (hsub z hz))
  replace hp := hp.extw hx4
  replace hv_bx143_2 := hv_bx143_2.ext hx4
  replace hv_bx143_3 := hv_bx143_3.ext hx4
  refine .tq (t_load ty60 rfl (Cells.get (i := 0) hv_bx143_2.cells rfl)) rfl (.tq (t_load ty3 rfl (Cells.get (i := 0) hv_bx143_3.cells rfl)) rfl (Rg.wdB trivial rfl (w_call Tryz.call162 rfl ops_3) rfl (fun _ _ h => h.2) ?_))
  rintro _ w5 ⟨⟨bt14,rfl,hvt14⟩,hx5⟩
  replace hbl := hbl.trans (Bw.of hx5 hp.und)
  replace hbw := hbw.trans (Bw.of hx5 fun z hz => hp.und z (hsub z hz))
  replace hp := hp.extw hx5
  replace hv_bx143_2 := hv_bx143_2.ext hx5
  replace hv_bx143_3 := hv_bx143_3.ext hx5
  refine Rg.wdB trivial rfl (w_call Tryz.call48 rfl (at_ok hC hp (texts := [⟨#[43]⟩,⟨#[45]⟩]) hvt14 (by decide))) rfl (fun _ _ h => h.2) ?_
  rintro _ w6 ⟨rfl,hx6⟩
  replace hbl := hbl.trans (Bw.of hx6 hp.und)
  replace hbw := hbw.trans (Bw.of hx6 fun z hz => hp.und z (hsub z hz))
  replace hp := hp.extw hx6
  replace hv_bx143_2 := hv_bx143_2.ext hx6
  replace hv_bx143_3 := hv_bx143_3.ext hx6
  try replace hvt14 := hvt14.ext hx6
  rw [show (isAt [⟨#[43]⟩,⟨#[45]⟩] (sig1 s'.rem)) = true from haq1]
  refine .done (.condT rfl (Wp.skip (Wp.block (.sr (.tq (t_load ty60 rfl (Cells.get (i := 0) hv_bx143_2.cells rfl)) rfl (.tq (t_makeFuncB (us := []) (vs := [.pointer (some ⟨bx143_2,0,none⟩),.pointer (some ⟨bx143_3,0,none⟩)]) rfl rfl) rfl (Rg.wd trivial (w_call Tryz.call163 rfl (D_wrap hp (clo_164_3 hC hD hv_bx143_2 hF_bx143_2 hv_bx143_3 hF_bx143_3) hbody (adds_le hrest hb))) rfl ?_)))))))
  rintro _ w7 ⟨hp1,hb7⟩
  replace hbl := hbl.trans hb7
  replace hv_bx143_2 := var_bw hv_bx143_2 hb7 hF_bx143_2
  replace hv_bx143_3 := var_bw hv_bx143_3 hb7 hF_bx143_3
  replace hbw := hbw.trans (hb7.sub hsub)
  clear hp
  have hp := hp1
  clear hp1
  refine .done (.sr (.tq (t_load ty3 rfl (Cells.get (i := 0) hv_bx143_3.cells rfl)) rfl ?_))
  refine .tq (t_eqlF rfl rfl (by decide)) rfl ?_
  refine .done (.condF rfl (Wp.skip ?_))
  exact ⟨(s2,m1),by repeat (first | exact .nil | refine .cons rfl ?_),⟨hp,hbl,hrest,by simp only; omega⟩,by simp only; omega⟩
 | false =>
  obtain rfl := run_loopF hrun haq1
  refine Wp.seq (Wp.draw [0,1,2,3] [] mixed (by kernel_rfl) (by kernel_rfl) ?_)
  intro w4 hx4 _
  replace hbw := hbw.trans (Bw.of hx4 fun z hz => hp.und z (hsub z hz))
  replace hp := hp.extw hx4
  replace hv_bx143_2 := hv_bx143_2.ext hx4
  replace hv_bx143_3 := hv_bx143_3.ext hx4
  refine .tq (t_load ty60 rfl (Cells.get (i := 0) hv_bx143_2.cells rfl)) rfl (.tq (t_load ty3 rfl (Cells.get (i := 0) hv_bx143_3.cells rfl)) rfl (Rg.wdB trivial rfl (w_call Tryz.call162 rfl ops_3) rfl (fun _ _ h => h.2) ?_))
  rintro _ w5 ⟨⟨bt14,rfl,hvt14⟩,hx5⟩
  replace hbw := hbw.trans (Bw.of hx5 fun z hz => hp.und z (hsub z hz))
  replace hp := hp.extw hx5
  replace hv_bx143_2 := hv_bx143_2.ext hx5
  replace hv_bx143_3 := hv_bx143_3.ext hx5
  refine Rg.wdB trivial rfl (w_call Tryz.call48 rfl (at_ok hC hp (texts := [⟨#[43]⟩,⟨#[45]⟩]) hvt14 (by decide))) rfl (fun _ _ h => h.2) ?_
  rintro _ w6 ⟨rfl,hx6⟩
  replace hbw := hbw.trans (Bw.of hx6 fun z hz => hp.und z (hsub z hz))
  replace hp := hp.extw hx6
  replace hv_bx143_2 := hv_bx143_2.ext hx6
  replace hv_bx143_3 := hv_bx143_3.ext hx6
  try replace hvt14 := hvt14.ext hx6
  rw [show (isAt [⟨#[43]⟩,⟨#[45]⟩] (sig1 r.rem)) = false from haq1]
  refine .done (.condF rfl (Wp.exit ?_))
  exact ⟨[],trivial,(fun h => by cases h),hp.sub hsub hbase,hbw⟩
theorem clo_164_4 (hC : Cx w0 tv toks) (hD : ∀ m,m < n → DN w0 tv toks m) {b0 : Nat} (hv_b0 : Var w b0 [.pointer (some ⟨bP,0,none⟩)] 60) (hF_b0 : F b0) {b1 : Nat} (hv_b1 : Var w b1 [.int .i64 4] 3) (hF_b1 : F b1) : Clo w0 tv toks n F bP 164 [] [.pointer (some ⟨b0,0,none⟩),.pointer (some ⟨b1,0,none⟩)] w (.seq .bump (.call (.binary 5))) := by
 refine ⟨Tryz.call164,fun w1 hw1 below k s r hp hr hb => ?_⟩
 replace hv_b0 := var_bw hv_b0 hw1 hF_b0
 replace hv_b1 := var_bw hv_b1 hw1 hF_b1
 show Cl Tryz.prog 164 #[.pointer (some ⟨b0,0,none⟩),.pointer (some ⟨b1,0,none⟩)] w1 _
 have hbw := Bw.refl F w1
 have hsub : ∀ z,F z → F z := fun z h => h
 have hbase := hp.base
 refine Cl.enter Tryz.func164 rfl Tryz.ntmps164 rfl rfl (.sr (.tq (t_load ty60 rfl (Cells.get (i := 0) hv_b0.cells rfl)) rfl ?_))
 obtain ⟨s1,h1a,h1b⟩ := run_seq' hr
 refine Rg.wd trivial (w_call Tryz.call55 rfl (D_bump hC hp h1a (adds_le h1b hb))) rfl ?_
 rintro _ w1 ⟨hp1,hb1⟩
 replace hv_b0 := var_bw hv_b0 hb1 hF_b0
 replace hv_b1 := var_bw hv_b1 hb1 hF_b1
 replace hbw := hbw.trans (hb1.sub hsub)
 clear hp
 have hp := hp1
 clear hp1
 refine .done (Wp.region (.tq (t_load ty60 rfl (Cells.get (i := 0) hv_b0.cells rfl)) rfl (.tq (t_load ty3 rfl (Cells.get (i := 0) hv_b1.cells rfl)) rfl ?_)))
 first | refine .tq (t_addI rfl rfl (by omega)) rfl ?_ | refine .tq (t_add rfl rfl) rfl ?_
 refine Rg.wd trivial (w_call Tryz.call143 rfl (D_call hD hp h1b hb)) rfl ?_
 rintro _ w2 ⟨hst,hp1,hb2⟩
 replace hv_b0 := var_bw hv_b0 hb2 hF_b0
 replace hv_b1 := var_bw hv_b1 hb2 hF_b1
 replace hbw := hbw.trans (hb2.sub hsub)
 clear hp
 have hp := hp1
 clear hp1
 refine .done ?_
 exact ⟨[],trivial,hp.sub hsub hbase,hbw⟩
theorem N_binary_4 (hC : Cx w0 tv toks) (hD : ∀ m,m < n → DN w0 tv toks m) (hp : Ps w0 tv toks F w bP below k s) (hr : run body n (body (.binary 4)) s = some r) (hb : r.adds ≤ big) :
  Cl Tryz.prog 143 #[.pointer (some ⟨bP,0,none⟩),.int .i64 4] w (fun u w' => ((Nm.binary 4) = Nm.statement → u = .bool r.flag) ∧ Ps w0 tv toks F w' bP below k r ∧ Bw F w w') := by
 have hbw := Bw.refl F w
 have hsub : ∀ z,F z → F z := fun z h => h
 have hbase := hp.base
 have hr : run body n (.seq (.call (.binary 5)) (.loop (at1 [⟨#[42]⟩,⟨#[47]⟩]) (.wrap 39 (.seq .bump (.call (.binary 5)))))) s = some r := hr
 refine Cl.enter Tryz.func143 rfl Tryz.ntmps143 rfl rfl (.sr (Rg.wd trivial (w_boxed rfl rfl) rfl ?_))
 rintro _ w1 ⟨bx143_2,rfl,qbx143_2,hx1,hv_bx143_2⟩
 replace hbw := hbw.trans (Bw.of hx1 fun z hz => hp.und z (hsub z hz))
 obtain ⟨F_bx143_2,hp1,hF_bx143_2,hs1⟩ := hp.box hx1 qbx143_2 hv_bx143_2.lt
 clear hp
 have hp := hp1
 clear hp1
 replace hsub := fun z hz => hs1 z (hsub z hz)
 refine Rg.wd trivial (w_boxed rfl rfl) rfl ?_
 rintro _ w2 ⟨bx143_3,rfl,qbx143_3,hx2,hv_bx143_3⟩
 replace hbw := hbw.trans (Bw.of hx2 fun z hz => hp.und z (hsub z hz))
 obtain ⟨F_bx143_3,hp1,hF_bx143_3,hs2⟩ := hp.box hx2 qbx143_3 hv_bx143_3.lt
 clear hp
 have hp := hp1
 clear hp1
 replace hsub := fun z hz => hs2 z (hsub z hz)
 replace hv_bx143_2 := hv_bx143_2.ext hx2
 replace hF_bx143_2 := hs2 _ hF_bx143_2
 refine .done (.seq (.sr (.tq (t_load ty3 rfl (Cells.get (i := 0) hv_bx143_3.cells rfl)) rfl ?_)))
 refine .tq (t_eqlF rfl rfl (by decide)) rfl ?_
 refine .done (.condF rfl (Wp.skip (.sr (.tq (t_load ty60 rfl (Cells.get (i := 0) hv_bx143_2.cells rfl)) rfl (.tq (t_load ty3 rfl (Cells.get (i := 0) hv_bx143_3.cells rfl)) rfl ?_)))))
 first | refine .tq (t_addI rfl rfl (by omega)) rfl ?_ | refine .tq (t_add rfl rfl) rfl ?_
 obtain ⟨s1,h1a,h1b⟩ := run_seq' hr
 refine Rg.wd trivial (w_call Tryz.call143 rfl (D_call hD hp h1a (adds_le h1b hb))) rfl ?_
 rintro _ w3 ⟨hst,hp1,hb3⟩
 replace hv_bx143_2 := var_bw hv_bx143_2 hb3 hF_bx143_2
 replace hv_bx143_3 := var_bw hv_bx143_3 hb3 hF_bx143_3
 replace hbw := hbw.trans (hb3.sub hsub)
 clear hp
 have hp := hp1
 clear hp1
 refine .done (Wp.block ?_)
 refine Wp.loop (ι := S × Nat) (fun _ => [(2,.pointer (some ⟨bx143_2,0,none⟩)),(3,.pointer (some ⟨bx143_3,0,none⟩)),(0,.pointer (some ⟨bP,0,none⟩)),(1,.int .i64 4)])
  (fun i w' => Ps w0 tv toks F_bx143_3 w' bP below k i.1 ∧ Bw F_bx143_3 w3 w' ∧ run body i.2 (.loop (at1 [⟨#[42]⟩,⟨#[47]⟩]) (.wrap 39 (.seq .bump (.call (.binary 5))))) i.1 = some r ∧ i.2 ≤ n) (fun i => i.2) (s1,n) (by repeat (first | exact .nil | refine .cons rfl ?_)) ⟨hp,Bw.refl _ _,h1b,Nat.le_refl _⟩ ?_
 clear hp
 rintro ⟨s',m⟩ wl ⟨hp,hbl,hrun,hmn⟩
 simp only at hp hrun hmn
 replace hbw := hbw.trans (hbl.sub hsub)
 replace hv_bx143_2 := var_bw hv_bx143_2 hbl hF_bx143_2
 replace hv_bx143_3 := var_bw hv_bx143_3 hbl hF_bx143_3
 refine .seq ?_
 cases haq1 : (isAt [⟨#[42]⟩,⟨#[47]⟩] (sig1 s'.rem)) with
 | true =>
  obtain ⟨m1,s2,rfl,hbody,hrest⟩ := run_loopT hrun haq1
  replace hbody := run_le hmn hbody
  refine Wp.seq (Wp.draw [0,1,2,3] [] mixed (by kernel_rfl) (by kernel_rfl) ?_)
  intro w4 hx4 _
  replace hbl := hbl.trans (Bw.of hx4 hp.und)
  replace hbw := hbw.trans (Bw.of hx4 fun z hz => hp.und z (hsub z hz))
  replace hp := hp.extw hx4
  replace hv_bx143_2 := hv_bx143_2.ext hx4
  replace hv_bx143_3 := hv_bx143_3.ext hx4
  refine .tq (t_load ty60 rfl (Cells.get (i := 0) hv_bx143_2.cells rfl)) rfl (.tq (t_load ty3 rfl (Cells.get (i := 0) hv_bx143_3.cells rfl)) rfl (Rg.wdB trivial rfl (w_call Tryz.call162 rfl ops_4) rfl (fun _ _ h => h.2) ?_))
  rintro _ w5 ⟨⟨bt14,rfl,hvt14⟩,hx5⟩
  replace hbl := hbl.trans (Bw.of hx5 hp.und)
  replace hbw := hbw.trans (Bw.of hx5 fun z hz => hp.und z (hsub z hz))
  replace hp := hp.extw hx5
  replace hv_bx143_2 := hv_bx143_2.ext hx5
  replace hv_bx143_3 := hv_bx143_3.ext hx5
  refine Rg.wdB trivial rfl (w_call Tryz.call48 rfl (at_ok hC hp (texts := [⟨#[42]⟩,⟨#[47]⟩]) hvt14 (by decide))) rfl (fun _ _ h => h.2) ?_
  rintro _ w6 ⟨rfl,hx6⟩
  replace hbl := hbl.trans (Bw.of hx6 hp.und)
  replace hbw := hbw.trans (Bw.of hx6 fun z hz => hp.und z (hsub z hz))
  replace hp := hp.extw hx6
  replace hv_bx143_2 := hv_bx143_2.ext hx6
  replace hv_bx143_3 := hv_bx143_3.ext hx6
  try replace hvt14 := hvt14.ext hx6
  rw [show (isAt [⟨#[42]⟩,⟨#[47]⟩] (sig1 s'.rem)) = true from haq1]
  refine .done (.condT rfl (Wp.skip (Wp.block (.sr (.tq (t_load ty60 rfl (Cells.get (i := 0) hv_bx143_2.cells rfl)) rfl (.tq (t_makeFuncB (us := []) (vs := [.pointer (some ⟨bx143_2,0,none⟩),.pointer (some ⟨bx143_3,0,none⟩)]) rfl rfl) rfl (Rg.wd trivial (w_call Tryz.call163 rfl (D_wrap hp (clo_164_4 hC hD hv_bx143_2 hF_bx143_2 hv_bx143_3 hF_bx143_3) hbody (adds_le hrest hb))) rfl ?_)))))))
  rintro _ w7 ⟨hp1,hb7⟩
  replace hbl := hbl.trans hb7
  replace hv_bx143_2 := var_bw hv_bx143_2 hb7 hF_bx143_2
  replace hv_bx143_3 := var_bw hv_bx143_3 hb7 hF_bx143_3
  replace hbw := hbw.trans (hb7.sub hsub)
  clear hp
  have hp := hp1
  clear hp1
  refine .done (.sr (.tq (t_load ty3 rfl (Cells.get (i := 0) hv_bx143_3.cells rfl)) rfl ?_))
  refine .tq (t_eqlF rfl rfl (by decide)) rfl ?_
  refine .done (.condF rfl (Wp.skip ?_))
  exact ⟨(s2,m1),by repeat (first | exact .nil | refine .cons rfl ?_),⟨hp,hbl,hrest,by simp only; omega⟩,by simp only; omega⟩
 | false =>
  obtain rfl := run_loopF hrun haq1
  refine Wp.seq (Wp.draw [0,1,2,3] [] mixed (by kernel_rfl) (by kernel_rfl) ?_)
  intro w4 hx4 _
  replace hbw := hbw.trans (Bw.of hx4 fun z hz => hp.und z (hsub z hz))
  replace hp := hp.extw hx4
  replace hv_bx143_2 := hv_bx143_2.ext hx4
  replace hv_bx143_3 := hv_bx143_3.ext hx4
  refine .tq (t_load ty60 rfl (Cells.get (i := 0) hv_bx143_2.cells rfl)) rfl (.tq (t_load ty3 rfl (Cells.get (i := 0) hv_bx143_3.cells rfl)) rfl (Rg.wdB trivial rfl (w_call Tryz.call162 rfl ops_4) rfl (fun _ _ h => h.2) ?_))
  rintro _ w5 ⟨⟨bt14,rfl,hvt14⟩,hx5⟩
  replace hbw := hbw.trans (Bw.of hx5 fun z hz => hp.und z (hsub z hz))
  replace hp := hp.extw hx5
  replace hv_bx143_2 := hv_bx143_2.ext hx5
  replace hv_bx143_3 := hv_bx143_3.ext hx5
  refine Rg.wdB trivial rfl (w_call Tryz.call48 rfl (at_ok hC hp (texts := [⟨#[42]⟩,⟨#[47]⟩]) hvt14 (by decide))) rfl (fun _ _ h => h.2) ?_
  rintro _ w6 ⟨rfl,hx6⟩
  replace hbw := hbw.trans (Bw.of hx6 fun z hz => hp.und z (hsub z hz))
  replace hp := hp.extw hx6
  replace hv_bx143_2 := hv_bx143_2.ext hx6
  replace hv_bx143_3 := hv_bx143_3.ext hx6
  try replace hvt14 := hvt14.ext hx6
  rw [show (isAt [⟨#[42]⟩,⟨#[47]⟩] (sig1 r.rem)) = false from haq1]
  refine .done (.condF rfl (Wp.exit ?_))
  exact ⟨[],trivial,(fun h => by cases h),hp.sub hsub hbase,hbw⟩
theorem N_binary_5 (hC : Cx w0 tv toks) (hD : ∀ m,m < n → DN w0 tv toks m) (hp : Ps w0 tv toks F w bP below k s) (hr : run body n (body (.binary 5)) s = some r) (hb : r.adds ≤ big) :
  Cl Tryz.prog 143 #[.pointer (some ⟨bP,0,none⟩),.int .i64 5] w (fun u w' => ((Nm.binary 5) = Nm.statement → u = .bool r.flag) ∧ Ps w0 tv toks F w' bP below k r ∧ Bw F w w') := by
 have hbw := Bw.refl F w
 have hsub : ∀ z,F z → F z := fun z h => h
 have hbase := hp.base
 have hr : run body n (.call .unary) s = some r := hr
 refine Cl.enter Tryz.func143 rfl Tryz.ntmps143 rfl rfl (.sr (Rg.wd trivial (w_boxed rfl rfl) rfl ?_))
 rintro _ w1 ⟨bx143_2,rfl,qbx143_2,hx1,hv_bx143_2⟩
 replace hbw := hbw.trans (Bw.of hx1 fun z hz => hp.und z (hsub z hz))
 obtain ⟨F_bx143_2,hp1,hF_bx143_2,hs1⟩ := hp.box hx1 qbx143_2 hv_bx143_2.lt
 clear hp
 have hp := hp1
 clear hp1
 replace hsub := fun z hz => hs1 z (hsub z hz)
 refine Rg.wd trivial (w_boxed rfl rfl) rfl ?_
 rintro _ w2 ⟨bx143_3,rfl,qbx143_3,hx2,hv_bx143_3⟩
 replace hbw := hbw.trans (Bw.of hx2 fun z hz => hp.und z (hsub z hz))
 obtain ⟨F_bx143_3,hp1,hF_bx143_3,hs2⟩ := hp.box hx2 qbx143_3 hv_bx143_3.lt
 clear hp
 have hp := hp1
 clear hp1
 replace hsub := fun z hz => hs2 z (hsub z hz)
 replace hv_bx143_2 := hv_bx143_2.ext hx2
 replace hF_bx143_2 := hs2 _ hF_bx143_2
 refine .done (.seq (.sr (.tq (t_load ty3 rfl (Cells.get (i := 0) hv_bx143_3.cells rfl)) rfl ?_)))
 refine .tq (t_eqlT rfl rfl (by decide)) rfl ?_
 refine .done (.condT rfl (.sr (.tq (t_load ty60 rfl (Cells.get (i := 0) hv_bx143_2.cells rfl)) rfl (Rg.wd trivial (w_call Tryz.call161 rfl (D_call hD hp hr hb)) rfl ?_))))
 rintro _ w3 ⟨hst,hp1,hb3⟩
 replace hv_bx143_2 := var_bw hv_bx143_2 hb3 hF_bx143_2
 replace hv_bx143_3 := var_bw hv_bx143_3 hb3 hF_bx143_3
 replace hbw := hbw.trans (hb3.sub hsub)
 clear hp
 have hp := hp1
 clear hp1
 refine .done (Wp.ret ?_)
 exact ⟨[],trivial,(fun h => by cases h),hp.sub hsub hbase,hbw⟩
theorem clo_153 (hC : Cx w0 tv toks) (hD : ∀ m,m < n → DN w0 tv toks m) {b0 : Nat} (hv_b0 : Var w b0 [.pointer (some ⟨bP,0,none⟩)] 60) (hF_b0 : F b0) : Clo w0 tv toks n F bP 153 [] [.pointer (some ⟨b0,0,none⟩)] w (.seq (Cmd.exp ⟨#[123]⟩) (.seq (.flag false) (.seq (.loop (fun t _ _ f => !f && !isAt [⟨#[125]⟩] t && t.1 != 100 && !isAt items t) (.call .statement)) (.seq (.cond (fun _ _ _ f => f) .skip (.leaf 0)) (Cmd.exp ⟨#[125]⟩))))) := by
 refine ⟨Tryz.call153,fun w1 hw1 below k s r hp hr hb => ?_⟩
 replace hv_b0 := var_bw hv_b0 hw1 hF_b0
 show Cl Tryz.prog 153 #[.pointer (some ⟨b0,0,none⟩)] w1 _
 have hbw := Bw.refl F w1
 have hsub : ∀ z,F z → F z := fun z h => h
 have hbase := hp.base
 refine Cl.enter Tryz.func153 rfl Tryz.ntmps153 rfl rfl (.sr (.tq (t_load ty60 rfl (Cells.get (i := 0) hv_b0.cells rfl)) rfl ?_))
 obtain ⟨s1,h1a,h1b⟩ := run_seq' hr
 refine Rg.wd trivial (w_call Tryz.call110 rfl (D_exp hC hp h1a (adds_le h1b hb))) rfl ?_
 rintro _ w1 ⟨hp1,hb1⟩
 replace hv_b0 := var_bw hv_b0 hb1 hF_b0
 replace hbw := hbw.trans (hb1.sub hsub)
 clear hp
 have hp := hp1
 clear hp1
 refine .done ?_
 obtain ⟨s2,h2a,h2b⟩ := run_seq' h1b
 have hp1 : Ps w0 tv toks F w1 bP below k s2 := by rw [run_flag' h2a]; exact hp
 clear hp
 have hp := hp1
 clear hp1
 have hfl_s2 : s2.flag = false := by rw [run_flag' h2a]
 refine .sr (.as rfl rfl (.done (.seq (Wp.block ?_))))
 obtain ⟨s3,h3a,h3b⟩ := run_seq' h2b
 refine Wp.loop (ι := S × Nat) (fun i => [(1,.bool i.1.flag),(0,.pointer (some ⟨b0,0,none⟩))])
  (fun i w' => Ps w0 tv toks F w' bP below k i.1 ∧ Bw F w1 w' ∧ run body i.2 (.loop (fun t _ _ f => !f && !isAt [⟨#[125]⟩] t && t.1 != 100 && !isAt items t) (.call .statement)) i.1 = some s3 ∧ i.2 ≤ n) (fun i => i.2) (s2,n) (by simp only [hfl_s2]; repeat (first | exact .nil | refine .cons rfl ?_)) ⟨hp,Bw.refl _ _,h3a,Nat.le_refl _⟩ ?_
 clear hp
 rintro ⟨s',m⟩ wl ⟨hp,hbl,hrun,hmn⟩
 simp only at hp hrun hmn
 replace hbw := hbw.trans (hbl.sub hsub)
 replace hv_b0 := var_bw hv_b0 hbl hF_b0
 refine .seq ?_
 cases haq1 : s'.flag with
 | true =>
  obtain rfl := run_loopF hrun (show S.test _ _ = false by simp only [S.test,at1,ident,bne,haq1]; (try rfl))
  obtain ⟨s4,h4a,h4b⟩ := run_seq' h3b
  have hq2 := run_condT h4a (show S.test _ _ = true by simp only [S.test,at1,ident,bne,haq1]; (try rfl))
  obtain rfl := run_skip' hq2
  refine Wp.seq (Wp.draw [0,1,2,3,4,5,6,7,8,9,10,11,12,13,14,15,16,17,18] [] mixed (by kernel_rfl) (by kernel_rfl) ?_)
  intro w2 hx2 _
  replace hbw := hbw.trans (Bw.of hx2 fun z hz => hp.und z (hsub z hz))
  replace hp := hp.extw hx2
  replace hv_b0 := hv_b0.ext hx2
  refine .mv rfl rfl (.tq (t_notB rfl) rfl (.mv rfl rfl (.so rfl rfl (.so rfl rfl (.so rfl rfl (.so rfl rfl (.tq (t_pickF rfl rfl) rfl (.mv rfl rfl (.so rfl rfl (.so rfl rfl (.so rfl rfl (.tq (t_pickF rfl rfl) rfl ?_))))))))))))
  refine .mv rfl rfl (.so rfl rfl (.so rfl rfl (.so rfl rfl (.so rfl rfl (.tq (t_pickF rfl rfl) rfl (.done (.condF rfl (Wp.exit (.seq (.sr (.mv rfl rfl (.tq (t_notB rfl) rfl ?_))))))))))))
  refine .done (.condF rfl (Wp.skip (Wp.region (.tq (t_load ty60 rfl (Cells.get (i := 0) hv_b0.cells rfl)) rfl (Rg.wd trivial (w_call Tryz.call110 rfl (D_exp hC hp h4b hb)) rfl ?_)))))
  rintro _ w3 ⟨hp1,hb3⟩
  replace hv_b0 := var_bw hv_b0 hb3 hF_b0
  replace hbw := hbw.trans (hb3.sub hsub)
  clear hp
  have hp := hp1
  clear hp1
  refine .done ?_
  exact ⟨[],trivial,hp.sub hsub hbase,hbw⟩
 | false =>
  cases haq2 : (isAt [⟨#[125]⟩] (sig1 s'.rem)) with
  | true =>
   obtain rfl := run_loopF hrun (show S.test _ _ = false by simp only [S.test,at1,ident,bne,haq1,haq2]; (try rfl))
   obtain ⟨s4,h4a,h4b⟩ := run_seq' h3b
   have hq3 := run_condF h4a (show S.test _ _ = false by simp only [S.test,at1,ident,bne,haq1,haq2]; (try rfl))
   refine Wp.seq (Wp.draw [0,1,2,3,4,5,6,7,8,9,10,11,12,13,14,15,16,17,18] [] mixed (by kernel_rfl) (by kernel_rfl) ?_)
   intro w2 hx2 _
   replace hbw := hbw.trans (Bw.of hx2 fun z hz => hp.und z (hsub z hz))
   replace hp := hp.extw hx2
   replace hv_b0 := hv_b0.ext hx2
   refine .mv rfl rfl (.tq (t_notB rfl) rfl (.mv rfl rfl (.gd (t_load ty60 rfl (Cells.get (i := 0) hv_b0.cells rfl)) rfl ?_)))
   refine Rg.wdB ⟨_,rfl,rfl⟩ rfl (w_buildSlice (bs124_1 _) rfl) rfl (fun _ _ h => by obtain ⟨_,_,_,h,_⟩ := h; exact h) ?_
   rintro _ w3 ⟨bt8,rfl,qt8,hx3,hvt8⟩
   replace hbw := hbw.trans (Bw.of hx3 fun z hz => hp.und z (hsub z hz))
   replace hp := hp.extw hx3
   replace hv_b0 := hv_b0.ext hx3
   refine Rg.wdB ⟨_,rfl,rfl⟩ rfl (w_call Tryz.call48 rfl (at_ok hC hp (texts := [⟨#[125]⟩]) hvt8 (by decide))) rfl (fun _ _ h => h.2) ?_
   rintro _ w4 ⟨rfl,hx4⟩
   replace hbw := hbw.trans (Bw.of hx4 fun z hz => hp.und z (hsub z hz))
   replace hp := hp.extw hx4
   replace hv_b0 := hv_b0.ext hx4
   try replace hvt8 := hvt8.ext hx4
   rw [show (isAt [⟨#[125]⟩] (sig1 s3.rem)) = true from haq2]
   refine .gd (t_notB rfl) rfl (.tq (t_pickT rfl rfl) rfl (.mv rfl rfl (.so rfl rfl (.so rfl rfl (.so rfl rfl (.tq (t_pickF rfl rfl) rfl (.mv rfl rfl (.so rfl rfl (.so rfl rfl (.so rfl rfl (.so rfl rfl (.tq (t_pickF rfl rfl) rfl ?_))))))))))))
   refine .done (.condF rfl (Wp.exit (.seq (.sr (.mv rfl rfl (.tq (t_notB rfl) rfl (.done (.condT rfl (Wp.region (.tq (t_load ty60 rfl (Cells.get (i := 0) hv_b0.cells rfl)) rfl (Rg.wd trivial (w_call Tryz.call128 rfl (D_absent hp hq3 (adds_le h4b hb))) rfl ?_)))))))))))
   rintro _ w5 ⟨hp1,hb5⟩
   replace hv_b0 := var_bw hv_b0 hb5 hF_b0
   replace hbw := hbw.trans (hb5.sub hsub)
   clear hp
   have hp := hp1
   clear hp1
   refine .done (Wp.region (.tq (t_load ty60 rfl (Cells.get (i := 0) hv_b0.cells rfl)) rfl (Rg.wd trivial (w_call Tryz.call110 rfl (D_exp hC hp h4b hb)) rfl ?_)))
   rintro _ w6 ⟨hp1,hb6⟩
   replace hv_b0 := var_bw hv_b0 hb6 hF_b0
   replace hbw := hbw.trans (hb6.sub hsub)
   clear hp
   have hp := hp1
   clear hp1
   refine .done ?_
   exact ⟨[],trivial,hp.sub hsub hbase,hbw⟩
  | false =>
   cases haq3 : ((sig1 s'.rem).1 == 100) with
   | true =>
    obtain rfl := run_loopF hrun (show S.test _ _ = false by simp only [S.test,at1,ident,bne,haq1,haq2,haq3]; (try rfl))
    obtain ⟨s4,h4a,h4b⟩ := run_seq' h3b
    have hq4 := run_condF h4a (show S.test _ _ = false by simp only [S.test,at1,ident,bne,haq1,haq2,haq3]; (try rfl))
    refine Wp.seq (Wp.draw [0,1,2,3,4,5,6,7,8,9,10,11,12,13,14,15,16,17,18] [] mixed (by kernel_rfl) (by kernel_rfl) ?_)
    intro w2 hx2 _
    replace hbw := hbw.trans (Bw.of hx2 fun z hz => hp.und z (hsub z hz))
    replace hp := hp.extw hx2
    replace hv_b0 := hv_b0.ext hx2
    refine .mv rfl rfl (.tq (t_notB rfl) rfl (.mv rfl rfl (.gd (t_load ty60 rfl (Cells.get (i := 0) hv_b0.cells rfl)) rfl ?_)))
    refine Rg.wdB ⟨_,rfl,rfl⟩ rfl (w_buildSlice (bs124_1 _) rfl) rfl (fun _ _ h => by obtain ⟨_,_,_,h,_⟩ := h; exact h) ?_
    rintro _ w3 ⟨bt8,rfl,qt8,hx3,hvt8⟩
    replace hbw := hbw.trans (Bw.of hx3 fun z hz => hp.und z (hsub z hz))
    replace hp := hp.extw hx3
    replace hv_b0 := hv_b0.ext hx3
    refine Rg.wdB ⟨_,rfl,rfl⟩ rfl (w_call Tryz.call48 rfl (at_ok hC hp (texts := [⟨#[125]⟩]) hvt8 (by decide))) rfl (fun _ _ h => h.2) ?_
    rintro _ w4 ⟨rfl,hx4⟩
    replace hbw := hbw.trans (Bw.of hx4 fun z hz => hp.und z (hsub z hz))
    replace hp := hp.extw hx4
    replace hv_b0 := hv_b0.ext hx4
    try replace hvt8 := hvt8.ext hx4
    rw [show (isAt [⟨#[125]⟩] (sig1 s3.rem)) = false from haq2]
    refine .gd (t_notB rfl) rfl (.tq (t_pickT rfl rfl) rfl (.mv rfl rfl (.gd (t_load ty60 rfl (Cells.get (i := 0) hv_b0.cells rfl)) rfl (Rg.wdB ⟨_,rfl,rfl⟩ rfl (w_call Tryz.call25 rfl (atEOF_ok hC hp)) rfl (fun _ _ h => h.2) ?_))))
    rintro _ w5 ⟨rfl,hx5⟩
    replace hbw := hbw.trans (Bw.of hx5 fun z hz => hp.und z (hsub z hz))
    replace hp := hp.extw hx5
    replace hv_b0 := hv_b0.ext hx5
    try replace hvt8 := hvt8.ext hx5
    rw [show ((sig1 s3.rem).1 == 100) = true from haq3]
    refine .gd (t_notB rfl) rfl (.tq (t_pickT rfl rfl) rfl (.mv rfl rfl (.so rfl rfl (.so rfl rfl (.so rfl rfl (.so rfl rfl (.tq (t_pickF rfl rfl) rfl (.done (.condF rfl (Wp.exit (.seq (.sr ?_))))))))))))
    refine .mv rfl rfl (.tq (t_notB rfl) rfl (.done (.condT rfl (Wp.region (.tq (t_load ty60 rfl (Cells.get (i := 0) hv_b0.cells rfl)) rfl (Rg.wd trivial (w_call Tryz.call128 rfl (D_absent hp hq4 (adds_le h4b hb))) rfl ?_))))))
    rintro _ w6 ⟨hp1,hb6⟩
    replace hv_b0 := var_bw hv_b0 hb6 hF_b0
    replace hbw := hbw.trans (hb6.sub hsub)
    clear hp
    have hp := hp1
    clear hp1
    refine .done (Wp.region (.tq (t_load ty60 rfl (Cells.get (i := 0) hv_b0.cells rfl)) rfl (Rg.wd trivial (w_call Tryz.call110 rfl (D_exp hC hp h4b hb)) rfl ?_)))
    rintro _ w7 ⟨hp1,hb7⟩
    replace hv_b0 := var_bw hv_b0 hb7 hF_b0
    replace hbw := hbw.trans (hb7.sub hsub)
    clear hp
    have hp := hp1
    clear hp1
    refine .done ?_
    exact ⟨[],trivial,hp.sub hsub hbase,hbw⟩
   | false =>
    cases haq4 : (isAt items (sig1 s'.rem)) with
    | true =>
     obtain rfl := run_loopF hrun (show S.test _ _ = false by simp only [S.test,at1,ident,bne,haq1,haq2,haq3,haq4]; (try rfl))
     obtain ⟨s4,h4a,h4b⟩ := run_seq' h3b
     have hq5 := run_condF h4a (show S.test _ _ = false by simp only [S.test,at1,ident,bne,haq1,haq2,haq3,haq4]; (try rfl))
     refine Wp.seq (Wp.draw [0,1,2,3,4,5,6,7,8,9,10,11,12,13,14,15,16,17,18] [] mixed (by kernel_rfl) (by kernel_rfl) ?_)
     intro w2 hx2 _
     replace hbw := hbw.trans (Bw.of hx2 fun z hz => hp.und z (hsub z hz))
     replace hp := hp.extw hx2
     replace hv_b0 := hv_b0.ext hx2
     refine .mv rfl rfl (.tq (t_notB rfl) rfl (.mv rfl rfl (.gd (t_load ty60 rfl (Cells.get (i := 0) hv_b0.cells rfl)) rfl ?_)))
     refine Rg.wdB ⟨_,rfl,rfl⟩ rfl (w_buildSlice (bs124_1 _) rfl) rfl (fun _ _ h => by obtain ⟨_,_,_,h,_⟩ := h; exact h) ?_
     rintro _ w3 ⟨bt8,rfl,qt8,hx3,hvt8⟩
     replace hbw := hbw.trans (Bw.of hx3 fun z hz => hp.und z (hsub z hz))
     replace hp := hp.extw hx3
     replace hv_b0 := hv_b0.ext hx3
     refine Rg.wdB ⟨_,rfl,rfl⟩ rfl (w_call Tryz.call48 rfl (at_ok hC hp (texts := [⟨#[125]⟩]) hvt8 (by decide))) rfl (fun _ _ h => h.2) ?_
     rintro _ w4 ⟨rfl,hx4⟩
     replace hbw := hbw.trans (Bw.of hx4 fun z hz => hp.und z (hsub z hz))
     replace hp := hp.extw hx4
     replace hv_b0 := hv_b0.ext hx4
     try replace hvt8 := hvt8.ext hx4
     rw [show (isAt [⟨#[125]⟩] (sig1 s3.rem)) = false from haq2]
     refine .gd (t_notB rfl) rfl (.tq (t_pickT rfl rfl) rfl (.mv rfl rfl (.gd (t_load ty60 rfl (Cells.get (i := 0) hv_b0.cells rfl)) rfl (Rg.wdB ⟨_,rfl,rfl⟩ rfl (w_call Tryz.call25 rfl (atEOF_ok hC hp)) rfl (fun _ _ h => h.2) ?_))))
     rintro _ w5 ⟨rfl,hx5⟩
     replace hbw := hbw.trans (Bw.of hx5 fun z hz => hp.und z (hsub z hz))
     replace hp := hp.extw hx5
     replace hv_b0 := hv_b0.ext hx5
     try replace hvt8 := hvt8.ext hx5
     rw [show ((sig1 s3.rem).1 == 100) = false from haq3]
     refine .gd (t_notB rfl) rfl (.tq (t_pickT rfl rfl) rfl (.mv rfl rfl (.gd (t_load ty60 rfl (Cells.get (i := 0) hv_b0.cells rfl)) rfl (Rg.wdB ⟨_,rfl,rfl⟩ rfl (w_call Tryz.call102 rfl (itemKw_ok (hC.asc.ext hp.ext))) rfl (fun _ _ h => h.2) ?_))))
     rintro _ w6 ⟨⟨bt19,rfl,hvt19⟩,hx6⟩
     replace hbw := hbw.trans (Bw.of hx6 fun z hz => hp.und z (hsub z hz))
     replace hp := hp.extw hx6
     replace hv_b0 := hv_b0.ext hx6
     try replace hvt8 := hvt8.ext hx6
     refine Rg.wdB ⟨_,rfl,rfl⟩ rfl (w_call Tryz.call48 rfl (at_ok hC hp (texts := items) hvt19 (by rw [items_len]; decide))) rfl (fun _ _ h => h.2) ?_
     rintro _ w7 ⟨rfl,hx7⟩
     replace hbw := hbw.trans (Bw.of hx7 fun z hz => hp.und z (hsub z hz))
     replace hp := hp.extw hx7
     replace hv_b0 := hv_b0.ext hx7
     try replace hvt8 := hvt8.ext hx7
     try replace hvt19 := hvt19.ext hx7
     rw [show (isAt items (sig1 s3.rem)) = true from haq4]
     refine .gd (t_notB rfl) rfl (.tq (t_pickT rfl rfl) rfl (.done (.condF rfl (Wp.exit (.seq (.sr (.mv rfl rfl (.tq (t_notB rfl) rfl (.done (.condT rfl (Wp.region (.tq (t_load ty60 rfl (Cells.get (i := 0) hv_b0.cells rfl)) rfl ?_))))))))))))
     refine Rg.wd trivial (w_call Tryz.call128 rfl (D_absent hp hq5 (adds_le h4b hb))) rfl ?_
     rintro _ w8 ⟨hp1,hb8⟩
     replace hv_b0 := var_bw hv_b0 hb8 hF_b0
     replace hbw := hbw.trans (hb8.sub hsub)
     clear hp
     have hp := hp1
     clear hp1
     refine .done (Wp.region (.tq (t_load ty60 rfl (Cells.get (i := 0) hv_b0.cells rfl)) rfl (Rg.wd trivial (w_call Tryz.call110 rfl (D_exp hC hp h4b hb)) rfl ?_)))
     rintro _ w9 ⟨hp1,hb9⟩
     replace hv_b0 := var_bw hv_b0 hb9 hF_b0
     replace hbw := hbw.trans (hb9.sub hsub)
     clear hp
     have hp := hp1
     clear hp1
     refine .done ?_
     exact ⟨[],trivial,hp.sub hsub hbase,hbw⟩
    | false =>
     obtain ⟨m1,s2,rfl,hbody,hrest⟩ := run_loopT hrun (show S.test _ _ = true by simp only [S.test,at1,ident,bne,haq1,haq2,haq3,haq4]; (try rfl))
     replace hbody := run_le hmn hbody
     refine Wp.seq (Wp.draw [0,1,2,3,4,5,6,7,8,9,10,11,12,13,14,15,16,17,18] [] mixed (by kernel_rfl) (by kernel_rfl) ?_)
     intro w2 hx2 _
     replace hbl := hbl.trans (Bw.of hx2 hp.und)
     replace hbw := hbw.trans (Bw.of hx2 fun z hz => hp.und z (hsub z hz))
     replace hp := hp.extw hx2
     replace hv_b0 := hv_b0.ext hx2
     refine .mv rfl rfl (.tq (t_notB rfl) rfl (.mv rfl rfl (.gd (t_load ty60 rfl (Cells.get (i := 0) hv_b0.cells rfl)) rfl ?_)))
     refine Rg.wdB ⟨_,rfl,rfl⟩ rfl (w_buildSlice (bs124_1 _) rfl) rfl (fun _ _ h => by obtain ⟨_,_,_,h,_⟩ := h; exact h) ?_
     rintro _ w3 ⟨bt8,rfl,qt8,hx3,hvt8⟩
     replace hbl := hbl.trans (Bw.of hx3 hp.und)
     replace hbw := hbw.trans (Bw.of hx3 fun z hz => hp.und z (hsub z hz))
     replace hp := hp.extw hx3
     replace hv_b0 := hv_b0.ext hx3
     refine Rg.wdB ⟨_,rfl,rfl⟩ rfl (w_call Tryz.call48 rfl (at_ok hC hp (texts := [⟨#[125]⟩]) hvt8 (by decide))) rfl (fun _ _ h => h.2) ?_
     rintro _ w4 ⟨rfl,hx4⟩
     replace hbl := hbl.trans (Bw.of hx4 hp.und)
     replace hbw := hbw.trans (Bw.of hx4 fun z hz => hp.und z (hsub z hz))
     replace hp := hp.extw hx4
     replace hv_b0 := hv_b0.ext hx4
     try replace hvt8 := hvt8.ext hx4
     rw [show (isAt [⟨#[125]⟩] (sig1 s'.rem)) = false from haq2]
     refine .gd (t_notB rfl) rfl (.tq (t_pickT rfl rfl) rfl (.mv rfl rfl (.gd (t_load ty60 rfl (Cells.get (i := 0) hv_b0.cells rfl)) rfl (Rg.wdB ⟨_,rfl,rfl⟩ rfl (w_call Tryz.call25 rfl (atEOF_ok hC hp)) rfl (fun _ _ h => h.2) ?_))))
     rintro _ w5 ⟨rfl,hx5⟩
     replace hbl := hbl.trans (Bw.of hx5 hp.und)
     replace hbw := hbw.trans (Bw.of hx5 fun z hz => hp.und z (hsub z hz))
     replace hp := hp.extw hx5
     replace hv_b0 := hv_b0.ext hx5
     try replace hvt8 := hvt8.ext hx5
     rw [show ((sig1 s'.rem).1 == 100) = false from haq3]
     refine .gd (t_notB rfl) rfl (.tq (t_pickT rfl rfl) rfl (.mv rfl rfl (.gd (t_load ty60 rfl (Cells.get (i := 0) hv_b0.cells rfl)) rfl (Rg.wdB ⟨_,rfl,rfl⟩ rfl (w_call Tryz.call102 rfl (itemKw_ok (hC.asc.ext hp.ext))) rfl (fun _ _ h => h.2) ?_))))
     rintro _ w6 ⟨⟨bt19,rfl,hvt19⟩,hx6⟩
     replace hbl := hbl.trans (Bw.of hx6 hp.und)
     replace hbw := hbw.trans (Bw.of hx6 fun z hz => hp.und z (hsub z hz))
     replace hp := hp.extw hx6
     replace hv_b0 := hv_b0.ext hx6
     try replace hvt8 := hvt8.ext hx6
     refine Rg.wdB ⟨_,rfl,rfl⟩ rfl (w_call Tryz.call48 rfl (at_ok hC hp (texts := items) hvt19 (by rw [items_len]; decide))) rfl (fun _ _ h => h.2) ?_
     rintro _ w7 ⟨rfl,hx7⟩
     replace hbl := hbl.trans (Bw.of hx7 hp.und)
     replace hbw := hbw.trans (Bw.of hx7 fun z hz => hp.und z (hsub z hz))
     replace hp := hp.extw hx7
     replace hv_b0 := hv_b0.ext hx7
     try replace hvt8 := hvt8.ext hx7
     try replace hvt19 := hvt19.ext hx7
     rw [show (isAt items (sig1 s'.rem)) = false from haq4]
     refine .gd (t_notB rfl) rfl (.tq (t_pickT rfl rfl) rfl (.done (.condT rfl (Wp.skip (Wp.block (Wp.region (.tq (t_load ty60 rfl (Cells.get (i := 0) hv_b0.cells rfl)) rfl (Rg.wd trivial (w_call Tryz.call154 rfl (D_call hD hp hbody (adds_le hrest (adds_le h3b hb)))) rfl ?_))))))))
     rintro v154 w8 ⟨hst,hp1,hb8⟩
     replace hbl := hbl.trans hb8
     replace hv_b0 := var_bw hv_b0 hb8 hF_b0
     replace hbw := hbw.trans (hb8.sub hsub)
     clear hp
     have hp := hp1
     clear hp1
     obtain rfl := hst rfl
     refine .as rfl rfl (.done ?_)
     exact ⟨(s2,m1),by repeat (first | exact .nil | refine .cons rfl ?_),⟨hp,hbl,hrest,by simp only; omega⟩,by simp only; omega⟩
theorem N_block (hC : Cx w0 tv toks) (hD : ∀ m,m < n → DN w0 tv toks m) (hp : Ps w0 tv toks F w bP below k s) (hr : run body n (body .block) s = some r) (hb : r.adds ≤ big) :
  Cl Tryz.prog 129 #[.pointer (some ⟨bP,0,none⟩)] w (fun u w' => (Nm.block = Nm.statement → u = .bool r.flag) ∧ Ps w0 tv toks F w' bP below k r ∧ Bw F w w') := by
 have hbw := Bw.refl F w
 have hsub : ∀ z,F z → F z := fun z h => h
 have hbase := hp.base
 have hr : run body n (.node 21 (.seq (Cmd.exp ⟨#[123]⟩) (.seq (.flag false) (.seq (.loop (fun t _ _ f => !f && !isAt [⟨#[125]⟩] t && t.1 != 100 && !isAt items t) (.call .statement)) (.seq (.cond (fun _ _ _ f => f) .skip (.leaf 0)) (Cmd.exp ⟨#[125]⟩)))))) s = some r := hr
 refine Cl.enter Tryz.func129 rfl Tryz.ntmps129 rfl rfl (.sr (Rg.wd trivial (w_boxed rfl rfl) rfl ?_))
 rintro _ w1 ⟨bx129_1,rfl,qbx129_1,hx1,hv_bx129_1⟩
 replace hbw := hbw.trans (Bw.of hx1 fun z hz => hp.und z (hsub z hz))
 obtain ⟨F_bx129_1,hp1,hF_bx129_1,hs1⟩ := hp.box hx1 qbx129_1 hv_bx129_1.lt
 clear hp
 have hp := hp1
 clear hp1
 replace hsub := fun z hz => hs1 z (hsub z hz)
 refine .done (Wp.region (.tq (t_load ty60 rfl (Cells.get (i := 0) hv_bx129_1.cells rfl)) rfl (.tq (t_makeFuncB (us := []) (vs := [.pointer (some ⟨bx129_1,0,none⟩)]) rfl rfl) rfl (Rg.wd trivial (w_call Tryz.call52 rfl (D_node hp (clo_153 hC hD hv_bx129_1 hF_bx129_1) hr hb)) rfl ?_))))
 rintro _ w2 ⟨hp1,hb2⟩
 replace hv_bx129_1 := var_bw hv_bx129_1 hb2 hF_bx129_1
 replace hbw := hbw.trans (hb2.sub hsub)
 clear hp
 have hp := hp1
 clear hp1
 refine .done ?_
 exact ⟨[],trivial,(fun h => by cases h),hp.sub hsub hbase,hbw⟩
end
end Go.Proofs.YtcelfjbajdffkaaGreatDoor.Par
