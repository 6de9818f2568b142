/- Tokens as plain data: white space or a comment put between two tokens. No program. -/
import Derived.Test.YtiogccmfmjhipaaGreatDoorXb
import Derived.Test.YtiogccmfmjhipaaGreatDoorXi
set_option linter.unusedVariables false
set_option linter.unusedSimpArgs false
namespace Go.Proofs.YtiogccmfmjhipaaGreatDoor.Lexi
end Go.Proofs.YtiogccmfmjhipaaGreatDoor.Lexi
namespace Go.Proofs.YtiogccmfmjhipaaGreatDoor.Ast
open Par
open Lexi (toks bt)
variable {src src' : ByteArray} {d : Nat}
def An.kids : An → List An
 | .mk _ l => l
end Go.Proofs.YtiogccmfmjhipaaGreatDoor.Ast
namespace Go.Proofs.YtiogccmfmjhipaaGreatDoor.Par
set_option maxRecDepth 20000
open Go.Gx Go.RowKit Go.Lib
open Lexi (Asc toks)
open Ast
def NoL (w : World) (g : Mn) : Prop := NOk (Lo w) w g
theorem NoL.ext {w w' : World} {g : Mn} (h : NoL w g) (x : Ext w w') : NoL w' g := (NOk.bw h (Bw.of x fun z hz => hz) fun z hz => hz).mono fun z hz => Nat.lt_of_lt_of_le hz x.le
theorem NoL.oneL {w : World} {g : Mn} (h : NoL w g) : (g.cells.all (·.oneCell')) = true := NOk.oneL h
theorem encs_df (ds : List Dg) : encs dgc ds = encs dfc (ds.map Dg.df) := by
 induction ds with
 | nil => rfl
 | cons d l ih => show dgc d ++ encs dgc l = dfc d.df ++ encs dfc (l.map Dg.df); rw [ih]; rfl
structure LvL (w : World) (lv : Value) (ds : List Dg) : Prop where
 sl : SlC w lv 5 ds.length (encs dgc ds)
 one : lv.oneCell' = true
theorem LvL.ext {w w' : World} {lv : Value} {ds : List Dg} (h : LvL w lv ds) (x : Ext w w') : LvL w' lv ds := ⟨h.sl.ext x,h.one⟩
theorem LvL.df {w : World} {lv : Value} {ds : List Dg} (h : LvL w lv ds) : SlC w lv 5 (ds.map Dg.df).length (encs dfc (ds.map Dg.df)) := by
 have := h.sl
 rw [encs_df] at this
 simpa using this
theorem parseA_no {w w' : World} {s : ByteArray} {u lv : Value} {t : Tr} {mn : Mn} {ds : List Dg} {K : Fs} (h : ParseA w s u w' t mn lv ds K) : NoL w' mn ∧ LvL w' lv ds := ⟨h.ok.mono fun z hz => (h.lo z hz).2,h.sl,h.one⟩
theorem er_ext {w w' : World} (h : Er w) (x : Ext w w') : Er w' := by
 obtain ⟨a,b,h⟩ := h
 exact ⟨a,b,x.cell h⟩
def exS : ByteArray := ⟨#[99,111,110,115,116,32,99,58,32,105,110,116,32,61,32,59]⟩
theorem ex_run : ((run body 40 file ⟨toks exS,[],false,0⟩).map fun r => ((cvt exS (.mk 1 nob r.kids) 0 []).2.2,(cvt exS (.mk 1 nob r.kids) 0 []).1.kids.map fun a => a.hd.kind)) = some ([(1,14,14)],[8]) := by decide +kernel
theorem ex_ast {t : Tr} (h : Parsed exS t) : (cvt exS t 0 []).2.2 = [(1,14,14)] ∧ (cvt exS t 0 []).1.kids.map (fun a => a.hd.kind) = [8] := by
 have h1 := ex_run
 rw [Option.map_eq_some_iff] at h1
 obtain ⟨r,h2,h3⟩ := h1
 have h4 := Parsed.unique h ⟨_,r,h2,rfl⟩
 rw [h4]
 exact ⟨congrArg Prod.fst h3,congrArg Prod.snd h3⟩
theorem astOf_kids (s : ByteArray) (t : Tr) : (astOf s t).kids = (cvt s t 0 []).1.kids := by
 unfold astOf
 cases (cvt s t 0 []).1
 rfl
theorem sortD_one (d : Dg) : sortD [d] = [d] := List.length_eq_one_iff.1 (sortD_length [d]) |>.elim fun a h => by
 have hp : (sortD [d]).Perm [d] := List.mergeSort_perm _ _
 exact List.perm_singleton.1 hp
theorem example_ok {w : World} (hA0 : Asc w) (hE0 : Er w) : Cl Tryz.prog 15 #[] w (fun u w' => u = .bool true ∧ Ext w w') := by
 have hx := Ext.refl w
 refine Cl.enter Tryz.func15 rfl Tryz.ntmps15 rfl rfl (.sr (.as rfl rfl (.done (.sr ?_))))
 refine Rg.wd trivial (w_call Tryz.call18 rfl (astParse_ok (s := exS) (by decide) (hA0.ext hx) (er_ext hE0 hx))) rfl ?_
 rintro _ w1 ⟨t,mn,lv,ds,K,A⟩
 have hx1 := A.ext
 obtain ⟨hn,hl⟩ := (parseA_no A)
 have hue := A.ue
 subst hue
 have hdd := A.dse
 have her := A.er
 obtain ⟨ed,ek⟩ := ex_ast A.pt
 rw [ed,sortD_one,cmpL_one] at hdd
 subst hdd
 have hkk : mn.er.kids.map (fun a => a.hd.kind) = [8] := by rw [her,astOf_kids]; exact ek
 have hno := hn.oneL
 clear A
 replace hx := hx.ext hx1
 refine .mv rfl rfl (.tq (t_extract rfl rfl) rfl (.tq (t_extract rfl rfl) rfl (.tq (t_extract rfl rfl) rfl (Rg.wd trivial (w_new Tryz.zeroValue27 rfl) rfl ?_))))
 rintro _ wab1 ⟨b1,rfl,qb1,hxab1,hvab1⟩
 refine Rg.wn trivial (w_put (cs := mn.cells) hvab1 rfl rfl rfl (by rw [Mn.len]; exact ty27) (by rw [Mn.len]; rfl) (hno)) ?_
 rintro _ w2 ⟨hub1,hvb1⟩
 have hx2 := hxab1.upd hub1 (Nat.le_of_eq qb1.symm)
 clear hvab1 hub1 hxab1
 replace hx := hx.ext hx2
 replace hn := hn.ext hx2
 replace hl := hl.ext hx2
 clear qb1
 refine .as rfl rfl (.as rfl rfl (.done ?_))
 obtain ⟨h,cv,kids⟩ := mn
 obtain ⟨hs,hone⟩ : SlC _ cv 7 kids.length (encs Mn.cells kids) ∧ cv.oneCell' = true := by cases hn with | mk a b c d => exact ⟨a,b⟩
 have hkids : ∃ k1,kids = [k1] ∧ k1.hd.kind = 8 := by
  have h0 : (mnL kids).map (fun a => a.hd.kind) = [8] := hkk
  rw [mnL_map] at h0
  rcases kids with _ | ⟨k1,_ | ⟨k2,l⟩⟩
  ·cases h0
  ·refine ⟨k1,rfl,?_⟩
   simp only [List.map_cons,List.map_nil,List.cons.injEq,and_true] at h0
   cases k1
   exact h0
  ·simp at h0
 obtain ⟨k1,rfl,hk8⟩ := hkids
 have hk1l : [k1].length = 1 := rfl
 refine .sr (.mv rfl rfl (.tq (t_eqlT rfl rfl rfl) rfl (.mv rfl rfl ?_)))
 first | refine .gd (t_fieldAddr fa27_6 rfl) rfl ?_ | refine .so rfl rfl ?_
 refine .gd (t_load ty25 rfl (Cells.get (i := 6) hvb1.cells rfl)) rfl ?_
 first | refine .gd (t_lenC hs Tryz.underlying25 rfl) rfl ?_ | refine .so rfl rfl ?_
 refine .gd (t_eqlT rfl rfl (by simp)) rfl ?_
 first | refine .tq (t_pickT rfl rfl) rfl ?_ | refine .tq (t_pickF rfl rfl) rfl ?_
 refine .mv rfl rfl ?_
 first | refine .gd (t_fieldAddr fa27_6 rfl) rfl ?_ | refine .so rfl rfl ?_
 refine .gd (t_load ty25 rfl (Cells.get (i := 6) hvb1.cells rfl)) rfl ?_
 refine Rg.ix hs ⟨_,rfl,rfl⟩ rfl rfl Tryz.underlying25 ty27 (by omega) rfl ?_
 intro bt20 ot20 ht20
 rw [show ((encs Mn.cells [k1]).drop ((0 : Int).toNat * 7)).take 7 = k1.cells from by cases k1; rfl] at ht20
 first | refine .gd (t_fieldAddr fa27_0 rfl) rfl ?_ | refine .so rfl rfl ?_
 refine .gd (t_load ty3 rfl (Cells.get (i := 0) (v := .int .i64 k1.hd.kind) ht20 (by cases k1; rfl))) rfl ?_
 refine .gd (t_eqlT rfl rfl hk8) rfl ?_
 first | refine .tq (t_pickT rfl rfl) rfl ?_ | refine .tq (t_pickF rfl rfl) rfl ?_
 refine .mv rfl rfl ?_
 first | refine .gd (t_move rfl) rfl ?_ | refine .so rfl rfl ?_
 refine .gd (t_build (bd80_0_2_3 _ _ _) rfl) rfl (Rg.wd ⟨_,rfl,rfl⟩ (w_buildSlice (bs28_1 _ _ _ _ _) rfl) rfl ?_)
 rintro _ w3 ⟨bb,rfl,qb,hx3,hvb⟩
 replace hx := hx.ext hx3
 replace hn := hn.ext hx3
 replace hl := hl.ext hx3
 replace hvb1 := hvb1.ext hx3
 replace ht20 := ht20.ext hx3
 refine Rg.wd ⟨_,rfl,rfl⟩ (w_call Tryz.call40 rfl (equalD_ok (xs := [Dg.df (1,14,14)]) (ys := [Dg.df (1,14,14)]) hl.df (slc_var hvb rfl) (by decide))) rfl ?_
 rintro _ w4 ⟨⟨bq,rfl,hbq⟩,hx4⟩
 replace hx := hx.ext hx4
 replace hn := hn.ext hx4
 replace hl := hl.ext hx4
 replace hvb1 := hvb1.ext hx4
 replace ht20 := ht20.ext hx4
 replace hvb := hvb.ext hx4
 obtain rfl := hbq.2 rfl
 first | refine .tq (t_pickT rfl rfl) rfl ?_ | refine .tq (t_pickF rfl rfl) rfl ?_
 refine .as rfl rfl (.done (Wp.ret ?_))
 exact ⟨[_],⟨rfl,trivial⟩,rfl,hx⟩
theorem parse_no {w : World} {s : ByteArray} (hs : 2000 < s.size) : Cl Tryz.prog 23 #[.string s] w (fun u w' => u = .tuple #[.agg #[.int .i64 0,.string nob,.slice none 0 0],.int .i64 2] ∧ Ext w w') := by
 have hx := Ext.refl w
 refine Cl.enter Tryz.func23 rfl Tryz.ntmps23 rfl rfl (.sr (Rg.wd trivial (w_new Tryz.zeroValue43 rfl) rfl ?_))
 rintro _ w1 ⟨b2,rfl,q2,hx1,hv2⟩
 replace hx := hx.ext hx1
 refine .as rfl rfl (.done (.sr (.mv rfl rfl (Rg.wd trivial (w_call Tryz.call20 rfl (Lexi.tokenize_no hs)) rfl ?_))))
 rintro _ _ ⟨rfl,rfl⟩
 refine .mv rfl rfl (.tq (t_extract rfl rfl) rfl (.tq (t_extract rfl rfl) rfl (.as rfl rfl (.as rfl rfl (.done (.seq (.sr (.mv rfl rfl ?_))))))))
 refine .tq (t_neqT rfl rfl (by decide)) rfl ?_
 refine .done (.condT rfl (.sr (.tq (t_build bd43 rfl) rfl (.mv rfl rfl (Rg.wn trivial (w_put (cs := [.int .i64 0,.string nob,.slice none 0 0]) hv2 rfl rfl rfl ty43 rfl rfl) ?_)))))
 rintro _ w9 ⟨hu9,hv9⟩
 have hx9 := hx.upd hu9 (Nat.le_of_eq q2.symm)
 refine .as rfl rfl (.done (Wp.ret ?_))
 exact ⟨[_,_],⟨⟨_,rfl,lv_agg hv9 ty43⟩,rfl,trivial⟩,rfl,hx9⟩
theorem zeroL {w : World} : GoL w (.mk 0 nob (.slice none 0 0) []) := .mk ⟨rfl,none,0,rfl,Nat.le_refl _,.inl rfl⟩ rfl (fun b hb => by cases hb) fun g hg => absurd hg List.not_mem_nil
theorem losslessLaw {w : World} {src : ByteArray} (hA0 : Asc w) (hE0 : Er w) : Cl Tryz.prog 5 #[.string src] w (fun u w' => u = .bool true ∧ Ext w w') := by
 have hx := Ext.refl w
 by_cases hbig : 2000 < src.size
 ·skip
  refine Cl.enter Tryz.func5 rfl Tryz.ntmps5 rfl rfl (.sr (.as rfl rfl (.done (.seq (.sr (Rg.wd trivial (w_call Tryz.call15 rfl (example_ok (hA0.ext hx) (er_ext hE0 hx))) rfl ?_))))))
  rintro _ w1 ⟨rfl,hx1⟩
  replace hx := hx.ext hx1
  refine .tq (t_notB rfl) rfl (.done (.condF rfl (Wp.skip (.sr (.mv rfl rfl (Rg.wd trivial (w_call Tryz.call23 rfl (parse_no hbig)) rfl ?_))))))
  rintro _ w2 ⟨rfl,hx2⟩
  replace hx := hx.ext hx2
  refine .mv rfl rfl (.tq (t_extract rfl rfl) rfl (.tq (t_extract rfl rfl) rfl (Rg.wd trivial (w_new Tryz.zeroValue43 rfl) rfl ?_)))
  rintro _ wab3 ⟨b3,rfl,qb3,hxab3,hvab3⟩
  refine Rg.wn trivial (w_put (cs := [.int .i64 0,.string nob,.slice none 0 0]) hvab3 rfl rfl rfl (ty43) (rfl) (rfl)) ?_
  rintro _ w3 ⟨hub3,hvb3⟩
  have hx3 := hxab3.upd hub3 (Nat.le_of_eq qb3.symm)
  clear hvab3 hub3 hxab3
  replace hx := hx.ext hx3
  clear qb3
  refine .as rfl rfl (.done (.seq (.sr (.mv rfl rfl ?_))))
  refine .tq (t_neqT rfl rfl (by decide)) rfl ?_
  refine .done (.condT rfl (.sr (Rg.wd trivial (w_call Tryz.call15 rfl (example_ok (hA0.ext hx) (er_ext hE0 hx))) rfl ?_)))
  rintro _ w4 ⟨rfl,hx4⟩
  replace hx := hx.ext hx4
  replace hvb3 := hvb3.ext hx4
  refine .mv rfl rfl ?_
  first | refine .gd (t_move rfl) rfl ?_ | refine .so rfl rfl ?_
  first | refine .gd (t_len Tryz.underlying9 rfl) rfl ?_ | refine .so rfl rfl ?_
  refine .gd (t_gtrT rfl rfl (by omega)) rfl ?_
  first | refine .tq (t_pickT rfl rfl) rfl ?_ | refine .tq (t_pickF rfl rfl) rfl ?_
  refine .mv rfl rfl ?_
  refine .gd (t_loadA rfl hvb3.cells (by exact ty43)) rfl ?_
  refine .gd (t_build bd43 rfl) rfl ?_
  refine Rg.wd ⟨_,rfl,rfl⟩ (w_call Tryz.call24 rfl (sameTree_ok _ (.mk 0 nob (.slice none 0 0) []) (.mk 0 nob (.slice none 0 0) []) (Nat.le_refl _) (by decide) _ zeroL zeroL)) rfl ?_
  rintro _ w5 ⟨⟨bb,rfl,hbb⟩,hx5⟩
  replace hx := hx.ext hx5
  replace hvb3 := hvb3.ext hx5
  obtain rfl := hbb.2 rfl
  first | refine .tq (t_pickT rfl rfl) rfl ?_ | refine .tq (t_pickF rfl rfl) rfl ?_
  refine .as rfl rfl (.done (Wp.ret ?_))
  exact ⟨[_],⟨rfl,trivial⟩,rfl,hx⟩
 ·skip
  refine Cl.enter Tryz.func5 rfl Tryz.ntmps5 rfl rfl (.sr (.as rfl rfl (.done (.seq (.sr (Rg.wd trivial (w_call Tryz.call15 rfl (example_ok (hA0.ext hx) (er_ext hE0 hx))) rfl ?_))))))
  rintro _ w1 ⟨rfl,hx1⟩
  replace hx := hx.ext hx1
  refine .tq (t_notB rfl) rfl (.done (.condF rfl (Wp.skip (.sr (.mv rfl rfl ?_)))))
  refine Rg.wd trivial (w_call Tryz.call23 rfl (parse_ok (by omega) (hA0.ext hx))) rfl ?_
  rintro _ w2 ⟨g,rfl,hpp,hgp,hx2⟩
  replace hx := hx.ext hx2
  have hsm := hpp.small
  have hg : GoL w2 g := hgp.mono fun z hz => hz.2
  have hog := hg.oneL
  clear hgp
  refine .mv rfl rfl (.tq (t_extract rfl rfl) rfl (.tq (t_extract rfl rfl) rfl (Rg.wd trivial (w_new Tryz.zeroValue43 rfl) rfl ?_)))
  rintro _ wab3 ⟨b3,rfl,qb3,hxab3,hvab3⟩
  refine Rg.wn trivial (w_put (cs := g.cells) hvab3 rfl rfl rfl (by rw [Gt.len]; exact ty43) (by rw [Gt.len]; rfl) (hog)) ?_
  rintro _ w3 ⟨hub3,hvb3⟩
  have hx3 := hxab3.upd hub3 (Nat.le_of_eq qb3.symm)
  clear hvab3 hub3 hxab3
  replace hx := hx.ext hx3
  replace hg := hg.ext hx3
  clear qb3
  refine .as rfl rfl (.done (.seq (.sr (.mv rfl rfl (.tq (t_neqF rfl rfl rfl) rfl (.done (.condF rfl (Wp.skip ?_))))))))
  have hk1 : g.cells[0]? = some (.int .i64 1) := by
   obtain ⟨ks,e⟩ := hsm.kids
   cases g
   simp only [Gt.er,Tr.mk.injEq] at e
   rw [← e.1]
   rfl
  refine .sr (Rg.wd trivial (w_call Tryz.call15 rfl (example_ok (hA0.ext hx) (er_ext hE0 hx))) rfl ?_)
  rintro _ w4 ⟨rfl,hx4⟩
  replace hx := hx.ext hx4
  replace hg := hg.ext hx4
  replace hvb3 := hvb3.ext hx4
  refine .mv rfl rfl ?_
  first | refine .gd (t_fieldAddr fa43_0 rfl) rfl ?_ | refine .so rfl rfl ?_
  refine .gd (t_load ty3 rfl (Cells.get (i := 0) (v := .int .i64 1) hvb3.cells (hk1))) rfl (.gd (t_eqlT rfl rfl rfl) rfl ?_)
  first | refine .tq (t_pickT rfl rfl) rfl ?_ | refine .tq (t_pickF rfl rfl) rfl ?_
  refine .mv rfl rfl ?_
  refine .gd (t_loadA rfl hvb3.cells (by rw [Gt.len]; exact ty43)) rfl ?_
  refine Rg.wd ⟨_,rfl,rfl⟩ (w_call Tryz.call25 rfl (source_ok _ g (Nat.le_refl _) hsm.wf (by rw [hsm.len]; omega) (by have := hsm.cnt; omega) _ hg)) rfl ?_
  rintro _ w5 ⟨rfl,hx5⟩
  replace hx := hx.ext hx5
  replace hg := hg.ext hx5
  replace hvb3 := hvb3.ext hx5
  rw [hsm.txt,byt_of]
  first | refine .gd (t_move rfl) rfl ?_ | refine .so rfl rfl ?_
  refine .gd (t_seqlT rfl rfl rfl) rfl ?_
  first | refine .tq (t_pickT rfl rfl) rfl ?_ | refine .tq (t_pickF rfl rfl) rfl ?_
  refine .as rfl rfl (.done (Wp.ret ?_))
  exact ⟨[_],⟨rfl,trivial⟩,rfl,hx⟩
end Go.Proofs.YtiogccmfmjhipaaGreatDoor.Par
