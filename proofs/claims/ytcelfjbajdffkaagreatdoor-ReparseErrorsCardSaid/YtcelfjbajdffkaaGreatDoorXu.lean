/- The laws ReparseErrors and ReparseEqualsParse. Printed by r6/Vi.py. -/
import Derived.Test.YtcelfjbajdffkaaGreatDoorXt
set_option linter.unusedVariables false
set_option linter.unusedSimpArgs false
namespace Go.Proofs.YtcelfjbajdffkaaGreatDoor.Par
set_option maxRecDepth 20000
open Go.Gx Go.RowKit Go.Lib
open Lexi (Asc)
open Lexi (tok toks tcs tcs_at tcs_drop tcs_length TE spl spl_size)
def exSrc : ByteArray := ⟨#[99,111,110,115,116,32,97,58,32,105,110,116,32,61,32,49,59,10,99,111,110,115,116,32,98,58,32,105,110,116,32,61,32,50,59,10,99,111,110,115,116,32,99,58,32,105,110,116,32,61,32,51,59,10]⟩
def exNew : ByteArray := ⟨#[99,111,110,115,116,32,97,58,32,105,110,116,32,61,32,49,59,10,99,111,110,115,116,32,98,58,32,105,110,116,32,61,32,50,59,10,99,111,110,115,116,32,99,58,32,105,110,116,32,61,32,52,59,10]⟩
def four : ByteArray := ⟨#[52]⟩
theorem ex_spl : spl exSrc 51 52 four = exNew := by decide +kernel
theorem ex_kept : ((run body 40 file ⟨toks exSrc,[],false,0⟩).map fun r => decide (1 ≤ kept 51 (chs exSrc 0 r.kids))) = some true := by decide +kernel
theorem GoL.none {w : World} {g : Gt} (h : GoL w g) : GoY (fun _ => False) w g := GOk.mono h fun z hz => ⟨hz,fun h => h⟩
theorem Small.same {s : ByteArray} {t u : Tr} (h : Small s t) (h' : Small s u) : t = u := h.parsed.unique h'.parsed
theorem zeroL {w : World} : GoL w zeroG := .mk ⟨rfl,none,0,rfl,Nat.le_refl _,.inl rfl⟩ rfl (fun b hb => by cases hb) fun g hg => absurd hg List.not_mem_nil
theorem ex_one {ks : List Tr} (h : Parsed exSrc (.mk 1 nob ks)) : 1 ≤ kept ((51 : Nat) : Int) (chs exSrc 0 ks) := by
 have h1 := ex_kept
 rw [Option.map_eq_some_iff] at h1
 obtain ⟨r,h2,h3⟩ := h1
 have h4 := Parsed.unique h ⟨_,r,h2,rfl⟩
 injection h4 with _ _ h4
 rw [h4]
 exact of_decide_eq_true h3
theorem example2_ok {w : World} (hA0 : Asc w) : Cl Tryz.prog 18 #[] w (fun u w' => u = .bool true ∧ Ext w w') := by
 have hx := Ext.refl w
 have hsz : exSrc.size = 54 := rfl
 have hsz2 : exNew.size = 54 := rfl
 have h4 : four.size = 1 := rfl
 refine Cl.enter Tryz.func18 rfl Tryz.ntmps18 rfl rfl ?_
 refine .sr ?_
 refine .as rfl rfl ?_
 refine .done ?_
 refine .sr ?_
 refine .tq (t_assign (v := .string exSrc) rfl) rfl ?_
 refine .done ?_
 refine .sr ?_
 refine .mv rfl rfl ?_
 refine Rg.wd trivial (w_call Tryz.call10 rfl (parse_ok (by omega) (hA0.ext hx))) rfl ?_
 rintro _ w1 ⟨g1,rfl,hpp1,hgp1,hx1⟩
 replace hx := hx.ext hx1
 have hsm1 := hpp1.small
 have hg1 : GoL w1 g1 := hgp1.mono fun z hz => hz.2
 have hog1 := hg1.oneL
 clear hgp1 hpp1
 refine .mv rfl rfl ?_
 refine .tq (t_extract rfl rfl) rfl ?_
 refine .tq (t_extract rfl rfl) rfl ?_
 refine Rg.wd trivial (w_new Tryz.zeroValue25 rfl) rfl ?_
 rintro _ wab2 ⟨b2,rfl,qb2,hxab2,hvab2⟩
 refine Rg.wn trivial (w_put (cs := g1.cells) hvab2 rfl rfl rfl (by rw [Gt.len]; exact ty25) (by rw [Gt.len]; rfl) (hog1)) ?_
 rintro _ w2 ⟨hub2,hvb2⟩
 have hx2 := hxab2.upd hub2 (Nat.le_of_eq qb2.symm)
 clear hvab2 hub2 hxab2
 replace hx := hx.ext hx2
 replace hg1 := hg1.ext hx2
 clear qb2
 refine .as rfl rfl ?_
 refine .done ?_
 refine .sr ?_
 refine .mv rfl rfl ?_
 refine .tq (t_loadA rfl hvb2.cells (by rw [Gt.len]; exact ty25)) rfl ?_
 refine .tq (t_build (bd41_0_1_2 _ _ _) rfl) rfl ?_
 obtain ⟨ks1,hks1⟩ := hsm1.kids
 have hk1 := ex_one (hks1 ▸ hsm1.parsed)
 refine Rg.wd trivial (w_call Tryz.call19 rfl (updateT_ok (s := exSrc) (t := four) (a := 51) (b := 52) (hA0.ext hx) (by omega) (by decide) (by omega) (by omega) hg1.none (fun z h => h.elim) hsm1 hks1)) rfl ?_
 rintro _ w3 ⟨⟨g4,re4,rfl,hpp4,hgy4,hke4,lk4,hlk4,hle4⟩,hx3⟩
 replace hx := hx.ext hx3
 replace hg1 := hg1.ext hx3
 replace hvb2 := hvb2.ext hx3
 have hg4 := hgy4.go
 have hog4 := hg4.oneL
 have hsm4 := hpp4.small
 refine .mv rfl rfl ?_
 refine .tq (t_extract rfl rfl) rfl ?_
 refine .tq (t_extract rfl rfl) rfl ?_
 refine .tq (t_extract rfl rfl) rfl ?_
 refine Rg.wd trivial (w_new Tryz.zeroValue25 rfl) rfl ?_
 rintro _ wab4 ⟨b4,rfl,qb4,hxab4,hvab4⟩
 rw [ex_spl] at hpp4 hsm4
 refine Rg.wn trivial (w_put (cs := g4.cells) hvab4 rfl rfl rfl (by rw [Gt.len]; exact ty25) (by rw [Gt.len]; rfl) (hog4)) ?_
 rintro _ w4 ⟨hub4,hvb4⟩
 have hx4 := hxab4.upd hub4 (Nat.le_of_eq qb4.symm)
 clear hvab4 hub4 hxab4
 replace hx := hx.ext hx4
 replace hg1 := hg1.ext hx4
 replace hvb2 := hvb2.ext hx4
 replace hgy4 := hgy4.ext hx4
 replace hg4 := hg4.ext hx4
 clear qb4
 refine .as rfl rfl ?_
 refine .as rfl rfl ?_
 refine .done ?_
 refine .sr ?_
 refine Rg.wd trivial (w_call Tryz.call10 rfl (parse_ok (s := exNew) (by omega) (hA0.ext hx))) rfl ?_
 rintro _ w5 ⟨g7,rfl,hpp7,hgp7,hx5⟩
 replace hx := hx.ext hx5
 replace hg1 := hg1.ext hx5
 replace hvb2 := hvb2.ext hx5
 replace hgy4 := hgy4.ext hx5
 replace hg4 := hg4.ext hx5
 replace hvb4 := hvb4.ext hx5
 have hsm7 := hpp7.small
 have hg7 : GoL w5 g7 := hgp7.mono fun z hz => hz.2
 have hog7 := hg7.oneL
 clear hgp7 hpp7
 refine .mv rfl rfl ?_
 refine .tq (t_extract rfl rfl) rfl ?_
 refine .tq (t_extract rfl rfl) rfl ?_
 refine Rg.wd trivial (w_new Tryz.zeroValue25 rfl) rfl ?_
 rintro _ wab7 ⟨b7,rfl,qb7,hxab7,hvab7⟩
 refine Rg.wn trivial (w_put (cs := g7.cells) hvab7 rfl rfl rfl (by rw [Gt.len]; exact ty25) (by rw [Gt.len]; rfl) (hog7)) ?_
 rintro _ w6 ⟨hub7,hvb7⟩
 have hx6 := hxab7.upd hub7 (Nat.le_of_eq qb7.symm)
 clear hvab7 hub7 hxab7
 replace hx := hx.ext hx6
 replace hg1 := hg1.ext hx6
 replace hvb2 := hvb2.ext hx6
 replace hgy4 := hgy4.ext hx6
 replace hg4 := hg4.ext hx6
 replace hvb4 := hvb4.ext hx6
 replace hg7 := hg7.ext hx6
 clear qb7
 refine .as rfl rfl ?_
 refine .done ?_
 refine .sr ?_
 refine .mv rfl rfl ?_
 first | refine .tq (t_eqlT rfl rfl (by omega)) rfl ?_ | refine .tq (t_eqlF rfl rfl (by omega)) rfl ?_ | refine .tq (t_eql rfl rfl) rfl ?_
 refine .mv rfl rfl ?_
 first | refine .gd (t_move rfl) rfl ?_ | refine .so rfl rfl ?_
 first | refine .gd (t_eqlT rfl rfl (by omega)) rfl ?_ | refine .gd (t_eqlF rfl rfl (by omega)) rfl ?_ | refine .gd (t_eql rfl rfl) rfl ?_ | refine .so rfl rfl ?_
 first | refine .tq (t_pickT rfl rfl) rfl ?_ | refine .tq (t_pickF rfl rfl) rfl ?_
 refine .mv rfl rfl ?_
 first | refine .gd (t_move rfl) rfl ?_ | refine .so rfl rfl ?_
 first | refine .gd (t_eqlT rfl rfl (by omega)) rfl ?_ | refine .gd (t_eqlF rfl rfl (by omega)) rfl ?_ | refine .gd (t_eql rfl rfl) rfl ?_ | refine .so rfl rfl ?_
 first | refine .tq (t_pickT rfl rfl) rfl ?_ | refine .tq (t_pickF rfl rfl) rfl ?_
 refine .mv rfl rfl ?_
 refine .gd (t_loadA rfl hvb4.cells (by rw [Gt.len]; exact ty25)) rfl ?_
 refine .gd (t_loadA rfl hvb7.cells (by rw [Gt.len]; exact ty25)) rfl ?_
 refine Rg.wd ⟨_,rfl,rfl⟩ (w_call Tryz.call14 rfl (sameTree_ok _ g4 g7 (Nat.le_refl _) (by have := hsm4.cnt; omega) _ hg4 hg7)) rfl ?_
 rintro _ w7 ⟨⟨bb,rfl,hbb⟩,hx7⟩
 replace hx := hx.ext hx7
 replace hg1 := hg1.ext hx7
 replace hvb2 := hvb2.ext hx7
 replace hgy4 := hgy4.ext hx7
 replace hg4 := hg4.ext hx7
 replace hvb4 := hvb4.ext hx7
 replace hg7 := hg7.ext hx7
 replace hvb7 := hvb7.ext hx7
 obtain rfl := hbb.2 (hsm4.same hsm7)
 first | refine .tq (t_pickT rfl rfl) rfl ?_ | refine .tq (t_pickF rfl rfl) rfl ?_
 refine .mv rfl rfl ?_
 first | refine .gd (t_move rfl) rfl ?_ | refine .so rfl rfl ?_
 refine .gd (t_geqT rfl rfl (by omega)) rfl ?_
 first | refine .tq (t_pickT rfl rfl) rfl ?_ | refine .tq (t_pickF rfl rfl) rfl ?_
 refine .as rfl rfl ?_
 refine .done ?_
 refine Wp.ret ?_
 exact ⟨[_],⟨rfl,trivial⟩,rfl,hx⟩
theorem errorsLaw {w : World} {src dst es : ByteArray} {ea eb : Int} (hA0 : Asc w) : Cl Tryz.prog 8 #[.string src,.string dst,.agg #[.int .i64 ea,.int .i64 eb,.string es]] w (fun u w' => u = .bool true ∧ Ext w w') := by
 have hx := Ext.refl w
 refine Cl.enter Tryz.func8 rfl Tryz.ntmps8 rfl rfl ?_
 refine .sr ?_
 refine Rg.wd trivial (w_boxed (cs := [.int .i64 ea,.int .i64 eb,.string es]) rfl rfl) rfl ?_
 rintro _ w1 ⟨b3,rfl,q3,hx1,hv3⟩
 replace hx := hx.ext hx1
 have q3b : w.heap.size ≤ b3 := by have := hv3.lt; omega
 refine .as rfl rfl ?_
 refine .done ?_
 refine .seq ?_
 refine .sr ?_
 refine Rg.wd trivial (w_call Tryz.call18 rfl (example2_ok (hA0.ext hx))) rfl ?_
 rintro _ w2 ⟨rfl,hx2⟩
 replace hx := hx.ext hx2
 replace hv3 := hv3.ext hx2
 refine .tq (t_notB rfl) rfl ?_
 refine .done ?_
 refine .condF rfl ?_
 refine Wp.skip ?_
 refine .sr ?_
 refine .mv rfl rfl ?_
 refine Rg.wd trivial (w_call Tryz.call11 rfl (short_ok (n := 200))) rfl ?_
 rintro _ w3 ⟨rfl,hx3⟩
 replace hx := hx.ext hx3
 replace hv3 := hv3.ext hx3
 obtain ⟨s1,hs1⟩ : ∃ z,src.extract 0 (min src.size 200) = z := ⟨_,rfl⟩
 have hsz1 : s1.size ≤ 200 := by rw [← hs1,ByteArray.size_extract]; omega
 rw [hs1]
 refine .mv rfl rfl ?_
 refine Rg.wd trivial (w_call Tryz.call11 rfl (short_ok (n := 200))) rfl ?_
 rintro _ w4 ⟨rfl,hx4⟩
 replace hx := hx.ext hx4
 replace hv3 := hv3.ext hx4
 obtain ⟨s2,hs2⟩ : ∃ z,dst.extract 0 (min dst.size 200) = z := ⟨_,rfl⟩
 have hsz2 : s2.size ≤ 200 := by rw [← hs2,ByteArray.size_extract]; omega
 rw [hs2]
 refine .as rfl rfl ?_
 refine .as rfl rfl ?_
 refine .done ?_
 refine .sr ?_
 refine .tq (t_fieldAddr fa41_2 rfl) rfl ?_
 refine .tq (t_load ty9 rfl (Cells.get (i := 2) hv3.cells rfl)) rfl ?_
 refine Rg.wd trivial (w_call Tryz.call11 rfl (short_ok (n := 40))) rfl ?_
 rintro _ w5 ⟨rfl,hx5⟩
 replace hx := hx.ext hx5
 replace hv3 := hv3.ext hx5
 obtain ⟨s3,hs3⟩ : ∃ z,es.extract 0 (min es.size 40) = z := ⟨_,rfl⟩
 have hsz3 : s3.size ≤ 40 := by rw [← hs3,ByteArray.size_extract]; omega
 rw [hs3]
 refine .tq (t_fieldAddr fa41_0 rfl) rfl ?_
 refine Rg.wn trivial (w_putF hv3 ty3 rfl rfl rfl rfl rfl) ?_
 rintro _ w6 ⟨hu,hv3'⟩
 replace hx := hx.upd hu q3b
 clear hv3 hu
 have hv3 := hv3'
 clear hv3'
 simp only [List.set] at hv3
 refine .tq (t_fieldAddr fa41_1 rfl) rfl ?_
 refine Rg.wn trivial (w_putF hv3 ty3 rfl rfl rfl rfl rfl) ?_
 rintro _ w7 ⟨hu,hv3'⟩
 replace hx := hx.upd hu q3b
 clear hv3 hu
 have hv3 := hv3'
 clear hv3'
 simp only [List.set] at hv3
 refine .tq (t_fieldAddr fa41_2 rfl) rfl ?_
 refine Rg.wn trivial (w_putF hv3 ty9 rfl rfl rfl rfl rfl) ?_
 rintro _ w8 ⟨hu,hv3'⟩
 replace hx := hx.upd hu q3b
 clear hv3 hu
 have hv3 := hv3'
 clear hv3'
 simp only [List.set] at hv3
 refine .done ?_
 refine .sr ?_
 refine .mv rfl rfl ?_
 refine Rg.wd trivial (w_call Tryz.call10 rfl (parse_ok (by omega) (hA0.ext hx))) rfl ?_
 rintro _ w9 ⟨g1,rfl,hpp1,hgp1,hx9⟩
 replace hx := hx.ext hx9
 replace hv3 := hv3.ext hx9
 have hsm1 := hpp1.small
 have hg1 : GoL w9 g1 := hgp1.mono fun z hz => hz.2
 have hog1 := hg1.oneL
 clear hgp1 hpp1
 refine .mv rfl rfl ?_
 refine .tq (t_extract rfl rfl) rfl ?_
 refine .tq (t_extract rfl rfl) rfl ?_
 refine Rg.wd trivial (w_new Tryz.zeroValue25 rfl) rfl ?_
 rintro _ wab7 ⟨b7,rfl,qb7,hxab7,hvab7⟩
 refine Rg.wn trivial (w_put (cs := g1.cells) hvab7 rfl rfl rfl (by rw [Gt.len]; exact ty25) (by rw [Gt.len]; rfl) (hog1)) ?_
 rintro _ w10 ⟨hub7,hvb7⟩
 have hx10 := hxab7.upd hub7 (Nat.le_of_eq qb7.symm)
 clear hvab7 hub7 hxab7
 replace hx := hx.ext hx10
 replace hv3 := hv3.ext hx10
 replace hg1 := hg1.ext hx10
 clear qb7
 refine .as rfl rfl ?_
 refine .done ?_
 refine .sr ?_
 refine .mv rfl rfl ?_
 refine Rg.wd trivial (w_call Tryz.call10 rfl (parse_ok (by omega) (hA0.ext hx))) rfl ?_
 rintro _ w11 ⟨g2,rfl,hpp2,hgp2,hx11⟩
 replace hx := hx.ext hx11
 replace hv3 := hv3.ext hx11
 replace hg1 := hg1.ext hx11
 replace hvb7 := hvb7.ext hx11
 have hsm2 := hpp2.small
 have hg2 : GoL w11 g2 := hgp2.mono fun z hz => hz.2
 have hog2 := hg2.oneL
 clear hgp2 hpp2
 refine .mv rfl rfl ?_
 refine .tq (t_extract rfl rfl) rfl ?_
 refine .tq (t_extract rfl rfl) rfl ?_
 refine Rg.wd trivial (w_new Tryz.zeroValue25 rfl) rfl ?_
 rintro _ wab9 ⟨b9,rfl,qb9,hxab9,hvab9⟩
 refine Rg.wn trivial (w_put (cs := g2.cells) hvab9 rfl rfl rfl (by rw [Gt.len]; exact ty25) (by rw [Gt.len]; rfl) (hog2)) ?_
 rintro _ w12 ⟨hub9,hvb9⟩
 have hx12 := hxab9.upd hub9 (Nat.le_of_eq qb9.symm)
 clear hvab9 hub9 hxab9
 replace hx := hx.ext hx12
 replace hv3 := hv3.ext hx12
 replace hg1 := hg1.ext hx12
 replace hvb7 := hvb7.ext hx12
 replace hg2 := hg2.ext hx12
 clear qb9
 refine .as rfl rfl ?_
 refine .done ?_
 by_cases hP : Parsed s1 g2.er
 ·obtain ⟨ks2,hks2⟩ := hP.small.kids
  refine .sr ?_
  refine .mv rfl rfl ?_
  refine .tq (t_loadA rfl hvb9.cells (by rw [Gt.len]; exact ty25)) rfl ?_
  refine .tq (t_loadA rfl hv3.cells (by exact ty41)) rfl ?_
  refine Rg.wd trivial (w_call Tryz.call19 rfl (updateT_ok (s := s1) (t := s3) (a := 0) (b := 0) (hA0.ext hx) (by omega) (by decide) (by omega) (by omega) hg2.none (fun z h => h.elim) hP.small hks2)) rfl ?_
  rintro _ w13 ⟨⟨g4,re4,rfl,hpp4,hgy4,hke4,lk4,hlk4,hle4⟩,hx13⟩
  replace hx := hx.ext hx13
  replace hv3 := hv3.ext hx13
  replace hg1 := hg1.ext hx13
  replace hvb7 := hvb7.ext hx13
  replace hg2 := hg2.ext hx13
  replace hvb9 := hvb9.ext hx13
  have hg4 := hgy4.go
  have hog4 := hg4.oneL
  have hsm4 := hpp4.small
  refine .mv rfl rfl ?_
  refine .tq (t_extract rfl rfl) rfl ?_
  refine .tq (t_extract rfl rfl) rfl ?_
  refine .tq (t_extract rfl rfl) rfl ?_
  refine Rg.wd trivial (w_new Tryz.zeroValue25 rfl) rfl ?_
  rintro _ wab11 ⟨b11,rfl,qb11,hxab11,hvab11⟩
  refine Rg.wn trivial (w_put (cs := g4.cells) hvab11 rfl rfl rfl (by rw [Gt.len]; exact ty25) (by rw [Gt.len]; rfl) (hog4)) ?_
  rintro _ w14 ⟨hub11,hvb11⟩
  have hx14 := hxab11.upd hub11 (Nat.le_of_eq qb11.symm)
  clear hvab11 hub11 hxab11
  replace hx := hx.ext hx14
  replace hv3 := hv3.ext hx14
  replace hg1 := hg1.ext hx14
  replace hvb7 := hvb7.ext hx14
  replace hg2 := hg2.ext hx14
  replace hvb9 := hvb9.ext hx14
  replace hgy4 := hgy4.ext hx14
  replace hg4 := hg4.ext hx14
  clear qb11
  refine .as rfl rfl ?_
  refine .as rfl rfl ?_
  refine .done ?_
  refine .seq ?_
  refine .sr ?_
  refine Rg.wd trivial (w_call Tryz.call18 rfl (example2_ok (hA0.ext hx))) rfl ?_
  rintro _ w15 ⟨rfl,hx15⟩
  replace hx := hx.ext hx15
  replace hv3 := hv3.ext hx15
  replace hg1 := hg1.ext hx15
  replace hvb7 := hvb7.ext hx15
  replace hg2 := hg2.ext hx15
  replace hvb9 := hvb9.ext hx15
  replace hgy4 := hgy4.ext hx15
  replace hg4 := hg4.ext hx15
  replace hvb11 := hvb11.ext hx15
  refine .tq (t_notB rfl) rfl ?_
  refine .mv rfl rfl ?_
  first | refine .gd (t_move rfl) rfl ?_ | refine .so rfl rfl ?_
  first | refine .gd (t_neqT rfl rfl (by omega)) rfl ?_ | refine .gd (t_neqF rfl rfl (by omega)) rfl ?_ | refine .gd (t_neq rfl rfl) rfl ?_ | refine .so rfl rfl ?_
  first | refine .tq (t_pickT rfl rfl) rfl ?_ | refine .tq (t_pickF rfl rfl) rfl ?_
  refine .mv rfl rfl ?_
  first | refine .gd (t_move rfl) rfl ?_ | refine .so rfl rfl ?_
  first | refine .gd (t_neqT rfl rfl (by omega)) rfl ?_ | refine .gd (t_neqF rfl rfl (by omega)) rfl ?_ | refine .gd (t_neq rfl rfl) rfl ?_ | refine .so rfl rfl ?_
  first | refine .tq (t_pickT rfl rfl) rfl ?_ | refine .tq (t_pickF rfl rfl) rfl ?_
  refine .done ?_
  refine .condF rfl ?_
  refine Wp.skip ?_
  refine .seq ?_
  refine .sr ?_
  refine .tq (t_loadA rfl hvb7.cells (by rw [Gt.len]; exact ty25)) rfl ?_
  refine .tq (t_loadA rfl hvb9.cells (by rw [Gt.len]; exact ty25)) rfl ?_
  refine Rg.wd trivial (w_call Tryz.call14 rfl (sameTree_ok _ g1 g2 (Nat.le_refl _) (by have := hsm1.cnt; omega) _ hg1 hg2)) rfl ?_
  rintro _ w16 ⟨⟨bb,rfl,hbb⟩,hx16⟩
  replace hx := hx.ext hx16
  replace hv3 := hv3.ext hx16
  replace hg1 := hg1.ext hx16
  replace hvb7 := hvb7.ext hx16
  replace hg2 := hg2.ext hx16
  replace hvb9 := hvb9.ext hx16
  replace hgy4 := hgy4.ext hx16
  replace hg4 := hg4.ext hx16
  replace hvb11 := hvb11.ext hx16
  obtain rfl := hbb.2 (hsm1.parsed.unique hP)
  refine .done ?_
  refine .condT rfl ?_
  refine .sr ?_
  refine .mv rfl rfl ?_
  first | refine .tq (t_eqlT rfl rfl (by omega)) rfl ?_ | refine .tq (t_eqlF rfl rfl (by omega)) rfl ?_ | refine .tq (t_eql rfl rfl) rfl ?_
  refine .mv rfl rfl ?_
  first | refine .gd (t_move rfl) rfl ?_ | refine .so rfl rfl ?_
  first | refine .gd (t_move rfl) rfl ?_ | refine .so rfl rfl ?_
  refine .gd (t_seqlT rfl rfl (Lexi.by_list (by rw [← hP.small.txt,hsm2.txt]))) rfl ?_
  first | refine .tq (t_pickT rfl rfl) rfl ?_ | refine .tq (t_pickF rfl rfl) rfl ?_
  refine .as rfl rfl ?_
  refine .done ?_
  refine Wp.ret ?_
  exact ⟨[_],⟨rfl,trivial⟩,rfl,hx⟩
 ·skip
  refine .sr ?_
  refine .mv rfl rfl ?_
  refine .tq (t_loadA rfl hvb9.cells (by rw [Gt.len]; exact ty25)) rfl ?_
  refine .tq (t_loadA rfl hv3.cells (by exact ty41)) rfl ?_
  refine Rg.wd trivial (w_call Tryz.call19 rfl (updateT_no (s := s1) (t := s3) (a := 0) (b := 0) (hA0.ext hx) (by omega) (by decide) (by omega) (by omega) hg2 hP)) rfl ?_
  rintro _ w13 ⟨rfl,hx13⟩
  replace hx := hx.ext hx13
  replace hv3 := hv3.ext hx13
  replace hg1 := hg1.ext hx13
  replace hvb7 := hvb7.ext hx13
  replace hg2 := hg2.ext hx13
  replace hvb9 := hvb9.ext hx13
  refine .mv rfl rfl ?_
  refine .tq (t_extract rfl rfl) rfl ?_
  refine .tq (t_extract rfl rfl) rfl ?_
  refine .tq (t_extract rfl rfl) rfl ?_
  refine Rg.wd trivial (w_new Tryz.zeroValue25 rfl) rfl ?_
  rintro _ wab11 ⟨b11,rfl,qb11,hxab11,hvab11⟩
  refine Rg.wn trivial (w_put (cs := [.int .i64 0,.string ⟨#[]⟩,.slice none 0 0]) hvab11 rfl rfl rfl (ty25) (rfl) (rfl)) ?_
  rintro _ w14 ⟨hub11,hvb11⟩
  have hx14 := hxab11.upd hub11 (Nat.le_of_eq qb11.symm)
  clear hvab11 hub11 hxab11
  replace hx := hx.ext hx14
  replace hv3 := hv3.ext hx14
  replace hg1 := hg1.ext hx14
  replace hvb7 := hvb7.ext hx14
  replace hg2 := hg2.ext hx14
  replace hvb9 := hvb9.ext hx14
  clear qb11
  refine .as rfl rfl ?_
  refine .as rfl rfl ?_
  refine .done ?_
  refine .seq ?_
  refine .sr ?_
  refine Rg.wd trivial (w_call Tryz.call18 rfl (example2_ok (hA0.ext hx))) rfl ?_
  rintro _ w15 ⟨rfl,hx15⟩
  replace hx := hx.ext hx15
  replace hv3 := hv3.ext hx15
  replace hg1 := hg1.ext hx15
  replace hvb7 := hvb7.ext hx15
  replace hg2 := hg2.ext hx15
  replace hvb9 := hvb9.ext hx15
  replace hvb11 := hvb11.ext hx15
  refine .tq (t_notB rfl) rfl ?_
  refine .mv rfl rfl ?_
  first | refine .gd (t_move rfl) rfl ?_ | refine .so rfl rfl ?_
  first | refine .gd (t_neqT rfl rfl (by omega)) rfl ?_ | refine .gd (t_neqF rfl rfl (by omega)) rfl ?_ | refine .gd (t_neq rfl rfl) rfl ?_ | refine .so rfl rfl ?_
  first | refine .tq (t_pickT rfl rfl) rfl ?_ | refine .tq (t_pickF rfl rfl) rfl ?_
  refine .mv rfl rfl ?_
  first | refine .gd (t_move rfl) rfl ?_ | refine .so rfl rfl ?_
  first | refine .gd (t_neqT rfl rfl (by omega)) rfl ?_ | refine .gd (t_neqF rfl rfl (by omega)) rfl ?_ | refine .gd (t_neq rfl rfl) rfl ?_ | refine .so rfl rfl ?_
  first | refine .tq (t_pickT rfl rfl) rfl ?_ | refine .tq (t_pickF rfl rfl) rfl ?_
  refine .done ?_
  refine .condF rfl ?_
  refine Wp.skip ?_
  refine .seq ?_
  refine .sr ?_
  refine .tq (t_loadA rfl hvb7.cells (by rw [Gt.len]; exact ty25)) rfl ?_
  refine .tq (t_loadA rfl hvb9.cells (by rw [Gt.len]; exact ty25)) rfl ?_
  refine Rg.wd trivial (w_call Tryz.call14 rfl (sameTree_ok _ g1 g2 (Nat.le_refl _) (by have := hsm1.cnt; omega) _ hg1 hg2)) rfl ?_
  rintro _ w16 ⟨⟨bb,rfl,hbb⟩,hx16⟩
  replace hx := hx.ext hx16
  replace hv3 := hv3.ext hx16
  replace hg1 := hg1.ext hx16
  replace hvb7 := hvb7.ext hx16
  replace hg2 := hg2.ext hx16
  replace hvb9 := hvb9.ext hx16
  replace hvb11 := hvb11.ext hx16
  obtain rfl : bb = false := by
   cases bb
   ·rfl
   ·exact absurd (hbb.1 rfl ▸ hsm1.parsed) hP
  refine .done ?_
  refine .condF rfl ?_
  refine Wp.skip ?_
  refine .sr ?_
  refine .mv rfl rfl ?_
  first | refine .tq (t_eqlT rfl rfl (by omega)) rfl ?_ | refine .tq (t_eqlF rfl rfl (by omega)) rfl ?_ | refine .tq (t_eql rfl rfl) rfl ?_
  refine .mv rfl rfl ?_
  refine .gd (t_loadA rfl hvb11.cells (by exact ty25)) rfl ?_
  refine .gd (t_build bd25 rfl) rfl ?_
  refine Rg.wd ⟨_,rfl,rfl⟩ (w_call Tryz.call14 rfl (sameTree_ok _ zeroG zeroG (Nat.le_refl _) (by decide +kernel) _ zeroL zeroL)) rfl ?_
  rintro _ w17 ⟨⟨b2,rfl,hb2⟩,hx17⟩
  replace hx := hx.ext hx17
  replace hv3 := hv3.ext hx17
  replace hg1 := hg1.ext hx17
  replace hvb7 := hvb7.ext hx17
  replace hg2 := hg2.ext hx17
  replace hvb9 := hvb9.ext hx17
  replace hvb11 := hvb11.ext hx17
  obtain rfl := hb2.2 rfl
  first | refine .tq (t_pickT rfl rfl) rfl ?_ | refine .tq (t_pickF rfl rfl) rfl ?_
  refine .mv rfl rfl ?_
  first | refine .gd (t_move rfl) rfl ?_ | refine .so rfl rfl ?_
  first | refine .gd (t_eqlT rfl rfl (by omega)) rfl ?_ | refine .gd (t_eqlF rfl rfl (by omega)) rfl ?_ | refine .gd (t_eql rfl rfl) rfl ?_ | refine .so rfl rfl ?_
  first | refine .tq (t_pickT rfl rfl) rfl ?_ | refine .tq (t_pickF rfl rfl) rfl ?_
  refine .as rfl rfl ?_
  refine .done ?_
  refine Wp.ret ?_
  exact ⟨[_],⟨rfl,trivial⟩,rfl,hx⟩
theorem tes_take (es : List TE) (m : Nat) : (Lexi.tes es).take (m * 3) = Lexi.tes (es.take m) := by
 induction es generalizing m with
 | nil => simp [Lexi.tes]
 | cons e es ih =>
  cases m with
  | zero => simp [Lexi.tes]
  | succ m =>
   rw [show (m + 1) * 3 = m * 3 + 1 + 1 + 1 from by omega,List.take_succ_cons]
   show [_,_,_] ++ (Lexi.tes es).take (m * 3) = _
   rw [ih]
   rfl
set_option maxHeartbeats 1000000 in
theorem equalsLaw {w : World} {src : ByteArray} {es : List TE} {v1 : Value} (hA0 : Asc w) (hes : SlC w v1 3 es.length (Lexi.tes es)) (hlen : es.length < 4611686018427387904) : Cl Tryz.prog 6 #[.string src,v1] w (fun u w' => u = .bool true ∧ Ext w w') := by
 have hx := Ext.refl w
 obtain ⟨m,hm⟩ : ∃ m,min es.length 5 = m := ⟨_,rfl⟩
 have e6 : (min (es.length : Int) 5) = (m : Int) := by omega
 refine Cl.enter Tryz.func6 rfl Tryz.ntmps6 rfl rfl ?_
 have hes0 := hes
 refine .sr ?_
 refine .as rfl rfl ?_
 refine .done ?_
 refine .seq ?_
 refine .sr ?_
 refine Rg.wd trivial (w_call Tryz.call18 rfl (example2_ok (hA0.ext hx))) rfl ?_
 rintro _ w1 ⟨rfl,hx1⟩
 replace hx := hx.ext hx1
 refine .tq (t_notB rfl) rfl ?_
 refine .done ?_
 refine .condF rfl ?_
 refine Wp.skip ?_
 refine .sr ?_
 refine .mv rfl rfl ?_
 refine Rg.wd trivial (w_call Tryz.call11 rfl (short_ok (n := 250))) rfl ?_
 rintro _ w2 ⟨rfl,hx2⟩
 replace hx := hx.ext hx2
 obtain ⟨s1,hs1⟩ : ∃ z,src.extract 0 (min src.size 250) = z := ⟨_,rfl⟩
 have hsz1 : s1.size ≤ 250 := by rw [← hs1,ByteArray.size_extract]; omega
 rw [hs1]
 refine .as rfl rfl ?_
 refine .done ?_
 refine .sr ?_
 refine .mv rfl rfl ?_
 refine Rg.wd trivial (w_call Tryz.call10 rfl (parse_ok (by omega) (hA0.ext hx))) rfl ?_
 rintro _ w3 ⟨g1,rfl,hpp1,hgp1,hx3⟩
 replace hx := hx.ext hx3
 have hsm1 := hpp1.small
 have hg1 : GoL w3 g1 := hgp1.mono fun z hz => hz.2
 have hog1 := hg1.oneL
 clear hgp1 hpp1
 refine .mv rfl rfl ?_
 refine .tq (t_extract rfl rfl) rfl ?_
 refine .tq (t_extract rfl rfl) rfl ?_
 refine Rg.wd trivial (w_new Tryz.zeroValue25 rfl) rfl ?_
 rintro _ wab5 ⟨b5,rfl,qb5,hxab5,hvab5⟩
 refine Rg.wn trivial (w_put (cs := g1.cells) hvab5 rfl rfl rfl (by rw [Gt.len]; exact ty25) (by rw [Gt.len]; rfl) (hog1)) ?_
 rintro _ w4 ⟨hub5,hvb5⟩
 have hgy1 : GoY (fun z => z = b5) w3 g1 := GoL.y hg1 (fun z hz => by subst hz; exact Nat.le_of_eq qb5.symm)
 have hb5w : w.heap.size ≤ b5 := by have := hx.le; omega
 have hx4 := hxab5.upd hub5 (Nat.le_of_eq qb5.symm)
 clear hvab5 hub5 hxab5
 replace hx := hx.ext hx4
 replace hg1 := hg1.ext hx4
 replace hgy1 := hgy1.ext hx4
 clear qb5
 refine .as rfl rfl ?_
 refine .done ?_
 refine .seq ?_
 refine .sr ?_
 refine Rg.wd trivial (w_call Tryz.call18 rfl (example2_ok (hA0.ext hx))) rfl ?_
 rintro _ w5 ⟨rfl,hx5⟩
 replace hx := hx.ext hx5
 replace hg1 := hg1.ext hx5
 replace hgy1 := hgy1.ext hx5
 replace hvb5 := hvb5.ext hx5
 refine .tq (t_notB rfl) rfl ?_
 refine .mv rfl rfl ?_
 first | refine .gd (t_move rfl) rfl ?_ | refine .so rfl rfl ?_
 first | refine .gd (t_neqT rfl rfl (by omega)) rfl ?_ | refine .gd (t_neqF rfl rfl (by omega)) rfl ?_ | refine .gd (t_neq rfl rfl) rfl ?_ | refine .so rfl rfl ?_
 first | refine .tq (t_pickT rfl rfl) rfl ?_ | refine .tq (t_pickF rfl rfl) rfl ?_
 refine .done ?_
 refine .condF rfl ?_
 refine Wp.skip ?_
 refine .seq ?_
 refine .sr ?_
 refine .mv rfl rfl ?_
 refine .mv rfl rfl ?_
 refine .tq (t_lenC hes0 Tryz.underlying45 rfl) rfl ?_
 refine .tq (t_minI rfl rfl) rfl ?_
 rw [e6]
 refine Rg.sl hes0 trivial rfl Tryz.underlying45 ty41 rfl rfl (by omega) rfl ?_
 intro vt33 ht330
 have hes33 : SlC w vt33 3 (es.take m).length (Lexi.tes (es.take m)) := by
  have h := ht330
  simp only [Int.toNat_natCast,show (0 : Int).toNat = 0 from rfl,Nat.zero_mul,List.drop_zero,Nat.sub_zero] at h
  rw [tes_take] at h
  rw [List.length_take,Nat.min_eq_left (by omega)]
  exact h
 refine .tq (t_lenC hes33 Tryz.underlying45 rfl) rfl ?_
 refine .mv rfl rfl ?_
 refine .done ?_
 refine Wp.block ?_
 have hml : (es.take m).length = m := by rw [List.length_take]; omega
 refine Wp.loop (ι := Nat × ByteArray) (fun j => [(0,.string j.2),(5,.pointer (some ⟨b5,0,none⟩)),(33,vt33),(34,.int .i64 (es.take m).length),(35,.int .i64 j.1)])
  (fun j w' => j.1 ≤ m ∧ j.2.size ≤ 250 + 40 * j.1 ∧ Ext w w' ∧ ∃ g,Var w' b5 g.cells 25 ∧ GoY (fun z => z = b5) w' g ∧ Small j.2 g.er) (fun j => m - j.1) (0,s1) (by repeat (first | exact .nil | refine .cons rfl ?_)) ⟨Nat.zero_le _,by simp only; omega,hx,g1,hvb5,hgy1,hsm1⟩ ?_
 clear hx hvb5 hgy1 hsm1 hg1
 rintro ⟨k,s⟩ w20 ⟨hk,hsz,hx,g,hvb5,hgy,hsm⟩
 simp only at hk hsz hsm ⊢
 have hm5 : m ≤ 5 := by omega
 by_cases hlt : k < m
 ·obtain ⟨e,he⟩ : ∃ e,(es.take m)[k]'(by omega) = e := ⟨_,rfl⟩
  have hg := hgy.go
  have hy := Ext.refl w20
  have hes20x := hes33.ext hx
  refine .sr ?_
  refine .tq (t_lssT rfl rfl (by omega)) rfl ?_
  refine .done ?_
  refine .seq ?_
  refine .condT rfl ?_
  refine Wp.skip ?_
  refine .seq ?_
  refine Wp.block ?_
  refine .sr ?_
  refine Rg.ix hes20x trivial rfl rfl Tryz.underlying45 ty41 (by omega) rfl ?_
  intro bt37 ot37 ht37
  rw [Int.toNat_natCast,Lexi.tes_at (es.take m) k (by omega),he] at ht37
  unfold TE.cells at ht37
  refine .tq (t_loadA rfl ht37 ty41) rfl ?_
  refine Rg.wd trivial (w_new Tryz.zeroValue41 rfl) rfl ?_
  rintro _ wa8 ⟨b8,rfl,qb8,hxa8,hva8⟩
  refine Rg.wn trivial (w_put (cs := [.int .i64 e.a,.int .i64 e.b,.string e.s]) hva8 rfl rfl rfl ty41 rfl rfl) ?_
  rintro _ w21 ⟨hu,hvb8⟩
  have hx21 := hxa8.upd hu (Nat.le_of_eq qb8.symm)
  have hb8 : w20.heap.size ≤ b8 := by have := hy.le; omega
  replace hy := hy.ext hx21
  clear hva8 hu
  refine .done ?_
  refine .sr ?_
  refine .tq (t_fieldAddr fa41_0 rfl) rfl ?_
  refine .tq (t_load ty3 rfl (Cells.get (i := 0) hvb8.cells rfl)) rfl ?_
  refine .mv rfl rfl ?_
  refine .tq (t_len Tryz.underlying9 rfl) rfl ?_
  first | refine .tq (t_addI rfl rfl (by omega)) rfl ?_ | refine .tq (t_add rfl rfl) rfl ?_
  refine Rg.wd trivial (w_call Tryz.call16 rfl (mod_ok (by omega) (by omega))) rfl ?_
  rintro _ _ ⟨⟨a,rfl,ha,_⟩,rfl⟩
  refine .tq (t_fieldAddr fa41_0 rfl) rfl ?_
  refine Rg.wn trivial (w_putF hvb8 ty3 rfl rfl rfl rfl rfl) ?_
  rintro _ w22 ⟨hu,hv8'⟩
  replace hy := hy.upd hu hb8
  clear hvb8 hu
  have hvb8 := hv8'
  clear hv8'
  simp only [List.set] at hvb8
  refine .done ?_
  refine Wp.seq (Wp.draw [0,1,2,3,4,5,6,7,8,9,10,11,12,13] [0] mixed (by kernel_rfl) (by kernel_rfl) ?_)
  intro w23 hx23 _
  replace hy := hy.ext hx23
  replace hvb8 := hvb8.ext hx23
  refine .tq (t_fieldAddr fa41_0 rfl) rfl ?_
  refine .tq (t_load ty3 rfl (Cells.get (i := 0) hvb8.cells rfl)) rfl ?_
  refine .tq (t_fieldAddr fa41_1 rfl) rfl ?_
  refine .tq (t_load ty3 rfl (Cells.get (i := 1) hvb8.cells rfl)) rfl ?_
  refine .mv rfl rfl ?_
  refine .tq (t_len Tryz.underlying9 rfl) rfl ?_
  refine .tq (t_fieldAddr fa41_0 rfl) rfl ?_
  refine .tq (t_load ty3 rfl (Cells.get (i := 0) hvb8.cells rfl)) rfl ?_
  first | refine .tq (t_subI rfl rfl (by omega)) rfl ?_ | refine .tq (t_sub rfl rfl) rfl ?_
  first | refine .tq (t_addI rfl rfl (by omega)) rfl ?_ | refine .tq (t_add rfl rfl) rfl ?_
  refine Rg.wdB trivial rfl (w_call Tryz.call16 rfl (mod_ok (by omega) (by omega))) rfl (fun _ _ h => h.2 ▸ Below.refl _ _) ?_
  rintro _ _ ⟨⟨c,rfl,hc,_⟩,rfl⟩
  first | refine .tq (t_addI rfl rfl (by omega)) rfl ?_ | refine .tq (t_add rfl rfl) rfl ?_
  rw [show (a : Int) + (c : Nat) = ((a + c : Nat) : Int) from rfl]
  refine .tq (t_fieldAddr fa41_1 rfl) rfl ?_
  refine Rg.wnB trivial rfl (w_putF hvb8 ty3 rfl rfl rfl rfl rfl) (by rfl) ?_
  rintro _ w24 ⟨hu,hv8'⟩
  replace hy := hy.upd hu hb8
  clear hvb8 hu
  have hvb8 := hv8'
  clear hv8'
  simp only [List.set] at hvb8
  refine .done ?_
  refine .sr ?_
  refine .tq (t_fieldAddr fa41_2 rfl) rfl ?_
  refine .tq (t_load ty9 rfl (Cells.get (i := 2) hvb8.cells rfl)) rfl ?_
  refine Rg.wd trivial (w_call Tryz.call11 rfl (short_ok (n := 40))) rfl ?_
  rintro _ w25 ⟨rfl,hx25⟩
  replace hy := hy.ext hx25
  replace hvb8 := hvb8.ext hx25
  obtain ⟨s3,hs3⟩ : ∃ z,e.s.extract 0 (min e.s.size 40) = z := ⟨_,rfl⟩
  have hsz3 : s3.size ≤ 40 := by rw [← hs3,ByteArray.size_extract]; omega
  rw [hs3]
  refine .tq (t_fieldAddr fa41_2 rfl) rfl ?_
  refine Rg.wn trivial (w_putF hvb8 ty9 rfl rfl rfl rfl rfl) ?_
  rintro _ w26 ⟨hu,hv8'⟩
  replace hy := hy.upd hu hb8
  clear hvb8 hu
  have hvb8 := hv8'
  clear hv8'
  simp only [List.set] at hvb8
  replace hx := hx.ext hy
  replace hvb5 := hvb5.ext hy
  replace hgy := hgy.ext hy
  replace hg := hg.ext hy
  have hspl := spl_size (s := s) (t := s3) (a := a) (b := a + c) (by omega) (by omega)
  refine .done ?_
  refine .sr ?_
  refine .mv rfl rfl ?_
  refine .tq (t_loadA rfl hvb5.cells (by rw [Gt.len]; exact ty25)) rfl ?_
  refine .tq (t_loadA rfl hvb8.cells (by exact ty41)) rfl ?_
  obtain ⟨ks0,hks0⟩ := hsm.kids
  refine Rg.wd trivial (w_call Tryz.call19 rfl (updateT_ok (s := s) (t := s3) (a := a) (b := a + c) (hA0.ext hx) (by omega) (Nat.le_add_right a c) (by omega) (by omega) hgy (fun z hz => by subst hz; exact hvb5.lt) hsm hks0)) rfl ?_
  rintro _ w27 ⟨⟨g9,re9,rfl,hpp9,hgy9,hke9,lk9,hlk9,hle9⟩,hx27⟩
  replace hx := hx.ext hx27
  replace hvb5 := hvb5.ext hx27
  replace hgy := hgy.ext hx27
  replace hg := hg.ext hx27
  replace hvb8 := hvb8.ext hx27
  have hg9 := hgy9.go
  have hog9 := hg9.oneL
  have hsm9 := hpp9.small
  refine .mv rfl rfl ?_
  refine .tq (t_extract rfl rfl) rfl ?_
  refine .tq (t_extract rfl rfl) rfl ?_
  refine .tq (t_extract rfl rfl) rfl ?_
  refine Rg.wd trivial (w_new Tryz.zeroValue25 rfl) rfl ?_
  rintro _ wab9 ⟨b9,rfl,qb9,hxab9,hvab9⟩
  refine Rg.wn trivial (w_put (cs := g9.cells) hvab9 rfl rfl rfl (by rw [Gt.len]; exact ty25) (by rw [Gt.len]; rfl) (hog9)) ?_
  rintro _ w28 ⟨hub9,hvb9⟩
  have hx28 := hxab9.upd hub9 (Nat.le_of_eq qb9.symm)
  clear hvab9 hub9 hxab9
  replace hx := hx.ext hx28
  replace hvb5 := hvb5.ext hx28
  replace hgy := hgy.ext hx28
  replace hg := hg.ext hx28
  replace hvb8 := hvb8.ext hx28
  replace hgy9 := hgy9.ext hx28
  replace hg9 := hg9.ext hx28
  clear qb9
  refine .as rfl rfl ?_
  refine .as rfl rfl ?_
  refine .done ?_
  refine .sr ?_
  refine .mv rfl rfl ?_
  refine .tq (t_loadA rfl hvb8.cells (by exact ty41)) rfl ?_
  refine Rg.wd trivial (w_call Tryz.call17 rfl (splice_ok (by omega) (by omega) (Nat.le_add_right a c) (by omega))) rfl ?_
  rintro _ w29 ⟨rfl,hx29⟩
  replace hx := hx.ext hx29
  replace hvb5 := hvb5.ext hx29
  replace hgy := hgy.ext hx29
  replace hg := hg.ext hx29
  replace hvb8 := hvb8.ext hx29
  replace hgy9 := hgy9.ext hx29
  replace hg9 := hg9.ext hx29
  replace hvb9 := hvb9.ext hx29
  refine .as rfl rfl ?_
  refine .done ?_
  refine .sr ?_
  refine .mv rfl rfl ?_
  refine Rg.wd trivial (w_call Tryz.call10 rfl (parse_ok (s := spl s a (a + c) s3) (by omega) (hA0.ext hx))) rfl ?_
  rintro _ w30 ⟨g12,rfl,hpp12,hgp12,hx30⟩
  replace hx := hx.ext hx30
  replace hvb5 := hvb5.ext hx30
  replace hgy := hgy.ext hx30
  replace hg := hg.ext hx30
  replace hvb8 := hvb8.ext hx30
  replace hgy9 := hgy9.ext hx30
  replace hg9 := hg9.ext hx30
  replace hvb9 := hvb9.ext hx30
  have hsm12 := hpp12.small
  have hg12 : GoL w30 g12 := hgp12.mono fun z hz => hz.2
  have hog12 := hg12.oneL
  clear hgp12 hpp12
  refine .mv rfl rfl ?_
  refine .tq (t_extract rfl rfl) rfl ?_
  refine .tq (t_extract rfl rfl) rfl ?_
  refine Rg.wd trivial (w_new Tryz.zeroValue25 rfl) rfl ?_
  rintro _ wab12 ⟨b12,rfl,qb12,hxab12,hvab12⟩
  refine Rg.wn trivial (w_put (cs := g12.cells) hvab12 rfl rfl rfl (by rw [Gt.len]; exact ty25) (by rw [Gt.len]; rfl) (hog12)) ?_
  rintro _ w31 ⟨hub12,hvb12⟩
  have hx31 := hxab12.upd hub12 (Nat.le_of_eq qb12.symm)
  clear hvab12 hub12 hxab12
  replace hx := hx.ext hx31
  replace hvb5 := hvb5.ext hx31
  replace hgy := hgy.ext hx31
  replace hg := hg.ext hx31
  replace hvb8 := hvb8.ext hx31
  replace hgy9 := hgy9.ext hx31
  replace hg9 := hg9.ext hx31
  replace hvb9 := hvb9.ext hx31
  replace hg12 := hg12.ext hx31
  clear qb12
  refine .as rfl rfl ?_
  refine .done ?_
  refine .seq ?_
  refine .sr ?_
  refine .mv rfl rfl ?_
  first | refine .tq (t_neqT rfl rfl (by omega)) rfl ?_ | refine .tq (t_neqF rfl rfl (by omega)) rfl ?_ | refine .tq (t_neq rfl rfl) rfl ?_
  refine .mv rfl rfl ?_
  first | refine .gd (t_move rfl) rfl ?_ | refine .so rfl rfl ?_
  first | refine .gd (t_neqT rfl rfl (by omega)) rfl ?_ | refine .gd (t_neqF rfl rfl (by omega)) rfl ?_ | refine .gd (t_neq rfl rfl) rfl ?_ | refine .so rfl rfl ?_
  first | refine .tq (t_pickT rfl rfl) rfl ?_ | refine .tq (t_pickF rfl rfl) rfl ?_
  refine .mv rfl rfl ?_
  refine .gd (t_loadA rfl hvb9.cells (by rw [Gt.len]; exact ty25)) rfl ?_
  refine .gd (t_loadA rfl hvb12.cells (by rw [Gt.len]; exact ty25)) rfl ?_
  refine Rg.wd ⟨_,rfl,rfl⟩ (w_call Tryz.call14 rfl (sameTree_ok _ g9 g12 (Nat.le_refl _) (by have := hsm9.cnt; omega) _ hg9 hg12)) rfl ?_
  rintro _ w32 ⟨⟨bb,rfl,hbb⟩,hx32⟩
  replace hx := hx.ext hx32
  replace hvb5 := hvb5.ext hx32
  replace hgy := hgy.ext hx32
  replace hg := hg.ext hx32
  replace hvb8 := hvb8.ext hx32
  replace hgy9 := hgy9.ext hx32
  replace hg9 := hg9.ext hx32
  replace hvb9 := hvb9.ext hx32
  replace hg12 := hg12.ext hx32
  replace hvb12 := hvb12.ext hx32
  obtain rfl := hbb.2 (hsm9.same hsm12)
  obtain ⟨cv12,l12,rfl,hl12,_,_,_⟩ := hg12.children hsm12
  have e12 : lk9 = erL l12 := by
   have := hlk9.symm.trans (hsm9.same hsm12)
   injection this
  have e13 : lk9.length = l12.length := by rw [e12,erL_len]
  first | refine .gd (t_notB rfl) rfl ?_ | refine .so rfl rfl ?_
  first | refine .tq (t_pickT rfl rfl) rfl ?_ | refine .tq (t_pickF rfl rfl) rfl ?_
  refine .mv rfl rfl ?_
  first | refine .gd (t_move rfl) rfl ?_ | refine .so rfl rfl ?_
  refine .gd (t_lssF rfl rfl (by omega)) rfl ?_
  first | refine .tq (t_pickT rfl rfl) rfl ?_ | refine .tq (t_pickF rfl rfl) rfl ?_
  refine .mv rfl rfl ?_
  first | refine .gd (t_move rfl) rfl ?_ | refine .so rfl rfl ?_
  first | refine .gd (t_fieldAddr fa25_2 rfl) rfl ?_ | refine .so rfl rfl ?_
  refine .gd (t_load ty23 rfl (Cells.get (i := 2) hvb12.cells rfl)) rfl ?_
  refine .gd (t_lenC hl12 Tryz.underlying23 rfl) rfl ?_
  refine .gd (t_gtrF rfl rfl (by omega)) rfl ?_
  first | refine .tq (t_pickT rfl rfl) rfl ?_ | refine .tq (t_pickF rfl rfl) rfl ?_
  refine .done ?_
  refine .condF rfl ?_
  refine Wp.skip ?_
  refine Wp.region ?_
  refine .tq (t_loadA rfl hvb9.cells (by rw [Gt.len]; exact ty25)) rfl ?_
  refine Rg.wn trivial (w_put (cs := g9.cells) hvb5 rfl rfl rfl (by rw [Gt.len]; exact ty25) (by rw [Gt.len,Gt.len]) (hog9)) ?_
  rintro _ w40 ⟨hu40,hv40⟩
  have hx40 := hx.upd hu40 hb5w
  have hgy40 := hgy9.upd hu40 rfl
  refine .done ?_
  refine Wp.region ?_
  first | refine .tq (t_addI rfl rfl (by omega)) rfl ?_ | refine .tq (t_add rfl rfl) rfl ?_
  refine .mv rfl rfl ?_
  refine .done ?_
  exact ⟨(k + 1,spl s a (a + c) s3),by repeat (first | exact .nil | refine .cons rfl ?_),⟨hlt,by simp only; omega,hx40,g9,hv40,hgy40,hsm9⟩,by simp only; omega⟩
 ·skip
  refine .sr ?_
  refine .tq (t_lssF rfl rfl (by omega)) rfl ?_
  refine .done ?_
  refine .seq ?_
  refine .condF rfl ?_
  refine Wp.exit ?_
  refine .sr ?_
  refine .as rfl rfl ?_
  refine .done ?_
  refine Wp.ret ?_
  exact ⟨[_],⟨rfl,trivial⟩,rfl,hx⟩
end Go.Proofs.YtcelfjbajdffkaaGreatDoor.Par
