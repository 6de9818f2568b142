/- The laws ReparseErrors and ReparseEqualsParse. Printed by r6/Vi.py. -/
import Derived.Test.YtcelfjbajdffkaaGreatDoorXt
import Derived.Test.YtcelfjbajdffkaaGreatDoorXv
import Derived.Test.YtcelfjbajdffkaaGreatDoorXq
set_option linter.unusedVariables false
set_option linter.unusedSimpArgs false
namespace Go.Proofs.YtcelfjbajdffkaaGreatDoor.Par
set_option maxRecDepth 20000
open Go.Gx Go.RowKit Go.Lib
open Lexi (Asc)
open Lexi (tok toks tcs tcs_at tcs_drop tcs_length TE spl spl_size)
def exSrc : ByteArray := ⟨#[99,111,110,115,116,32,97,58,32,105,110,116,32,61,32,49,59,10,99,111,110,115,116,32,98,58,32,105,110,116,32,61,32,50,59,10,99,111,110,115,116,32,99,58,32,105,110,116,32,61,32,51,59,10]⟩
def exNew : ByteArray := ⟨#[99,111,110,115,116,32,97,58,32,105,110,116,32,61,32,49,59,10,99,111,110,115,116,32,98,58,32,105,110,116,32,61,32,50,59,10,99,111,110,115,116,32,99,58,32,105,110,116,32,61,32,52,59,10]⟩
def four : ByteArray := ⟨#[52]⟩
theorem ex_spl : spl exSrc 51 52 four = exNew := by decide +kernel
theorem ex_kept : ((run body 40 file ⟨toks exSrc,[],false,0⟩).map fun r => decide (1 ≤ kept 51 (chs exSrc 0 r.kids))) = some true := by decide +kernel
theorem GoL.none {w : World} {g : Gt} (h : GoL w g) : GoY (fun _ => False) w g := GOk.mono h fun z hz => ⟨hz,fun h => h⟩
theorem Small.same {s : ByteArray} {t u : Tr} (h : Small s t) (h' : Small s u) : t = u := h.parsed.unique h'.parsed
theorem ex_one {ks : List Tr} (h : Parsed exSrc (.mk 1 nob ks)) : 1 ≤ kept ((51 : Nat) : Int) (chs exSrc 0 ks) := by
 have h1 := ex_kept
 rw [Option.map_eq_some_iff] at h1
 obtain ⟨r,h2,h3⟩ := h1
 have h4 := Parsed.unique h ⟨_,r,h2,rfl⟩
 injection h4 with _ _ h4
 rw [h4]
 exact of_decide_eq_true h3
theorem example2_ok {w : World} (hA0 : Asc w) : Cl Tryz.prog 18 #[] w (fun u w' => u = .bool true ∧ Ext w w') := by
 have hx := Ext.refl w
 have hsz : exSrc.size = 54 := rfl
 have hsz2 : exNew.size = 54 := rfl
 have h4 : four.size = 1 := rfl
 refine Cl.enter Tryz.func18 rfl Tryz.ntmps18 rfl rfl (.sr (.as rfl rfl (.done (.sr (.tq (t_assign (v := .string exSrc) rfl) rfl (.done (.sr (.mv rfl rfl ?_))))))))
 refine Rg.wd trivial (w_call Tryz.call10 rfl (parse_ok (by omega) (hA0.ext hx))) rfl ?_
 rintro _ w1 ⟨g1,rfl,hpp1,hgp1,hx1⟩
 replace hx := hx.ext hx1
 have hsm1 := hpp1.small
 have hg1 : GoL w1 g1 := hgp1.mono fun z hz => hz.2
 have hog1 := hg1.oneL
 clear hgp1 hpp1
 refine .mv rfl rfl (.tq (t_extract rfl rfl) rfl (.tq (t_extract rfl rfl) rfl (Rg.wd trivial (w_new Tryz.zeroValue25 rfl) rfl ?_)))
 rintro _ wab2 ⟨b2,rfl,qb2,hxab2,hvab2⟩
 refine Rg.wn trivial (w_put (cs := g1.cells) hvab2 rfl rfl rfl (by rw [Gt.len]; exact ty25) (by rw [Gt.len]; rfl) (hog1)) ?_
 rintro _ w2 ⟨hub2,hvb2⟩
 have hx2 := hxab2.upd hub2 (Nat.le_of_eq qb2.symm)
 clear hvab2 hub2 hxab2
 replace hx := hx.ext hx2
 replace hg1 := hg1.ext hx2
 clear qb2
 refine .as rfl rfl (.done (.sr (.mv rfl rfl ?_)))
 refine .tq (t_loadA rfl hvb2.cells (by rw [Gt.len]; exact ty25)) rfl ?_
 refine .tq (t_build (bd41_0_1_2 _ _ _) rfl) rfl ?_
 obtain ⟨ks1,hks1⟩ := hsm1.kids
 have hk1 := ex_one (hks1 ▸ hsm1.parsed)
 refine Rg.wd trivial (w_call Tryz.call19 rfl (updateT_ok (s := exSrc) (t := four) (a := 51) (b := 52) (hA0.ext hx) (by omega) (by decide) (by omega) (by omega) hg1.none (fun z h => h.elim) hsm1 hks1)) rfl ?_
 rintro _ w3 ⟨⟨g4,re4,rfl,hpp4,hgy4,hke4,lk4,hlk4,hle4⟩,hx3⟩
 replace hx := hx.ext hx3
 replace hg1 := hg1.ext hx3
 replace hvb2 := hvb2.ext hx3
 have hg4 := hgy4.go
 have hog4 := hg4.oneL
 have hsm4 := hpp4.small
 refine .mv rfl rfl (.tq (t_extract rfl rfl) rfl (.tq (t_extract rfl rfl) rfl (.tq (t_extract rfl rfl) rfl (Rg.wd trivial (w_new Tryz.zeroValue25 rfl) rfl ?_))))
 rintro _ wab4 ⟨b4,rfl,qb4,hxab4,hvab4⟩
 rw [ex_spl] at hpp4 hsm4
 refine Rg.wn trivial (w_put (cs := g4.cells) hvab4 rfl rfl rfl (by rw [Gt.len]; exact ty25) (by rw [Gt.len]; rfl) (hog4)) ?_
 rintro _ w4 ⟨hub4,hvb4⟩
 have hx4 := hxab4.upd hub4 (Nat.le_of_eq qb4.symm)
 clear hvab4 hub4 hxab4
 replace hx := hx.ext hx4
 replace hg1 := hg1.ext hx4
 replace hvb2 := hvb2.ext hx4
 replace hgy4 := hgy4.ext hx4
 replace hg4 := hg4.ext hx4
 clear qb4
 refine .as rfl rfl (.as rfl rfl (.done (.sr ?_)))
 refine Rg.wd trivial (w_call Tryz.call10 rfl (parse_ok (s := exNew) (by omega) (hA0.ext hx))) rfl ?_
 rintro _ w5 ⟨g7,rfl,hpp7,hgp7,hx5⟩
 replace hx := hx.ext hx5
 replace hg1 := hg1.ext hx5
 replace hvb2 := hvb2.ext hx5
 replace hgy4 := hgy4.ext hx5
 replace hg4 := hg4.ext hx5
 replace hvb4 := hvb4.ext hx5
 have hsm7 := hpp7.small
 have hg7 : GoL w5 g7 := hgp7.mono fun z hz => hz.2
 have hog7 := hg7.oneL
 clear hgp7 hpp7
 refine .mv rfl rfl (.tq (t_extract rfl rfl) rfl (.tq (t_extract rfl rfl) rfl (Rg.wd trivial (w_new Tryz.zeroValue25 rfl) rfl ?_)))
 rintro _ wab7 ⟨b7,rfl,qb7,hxab7,hvab7⟩
 refine Rg.wn trivial (w_put (cs := g7.cells) hvab7 rfl rfl rfl (by rw [Gt.len]; exact ty25) (by rw [Gt.len]; rfl) (hog7)) ?_
 rintro _ w6 ⟨hub7,hvb7⟩
 have hx6 := hxab7.upd hub7 (Nat.le_of_eq qb7.symm)
 clear hvab7 hub7 hxab7
 replace hx := hx.ext hx6
 replace hg1 := hg1.ext hx6
 replace hvb2 := hvb2.ext hx6
 replace hgy4 := hgy4.ext hx6
 replace hg4 := hg4.ext hx6
 replace hvb4 := hvb4.ext hx6
 replace hg7 := hg7.ext hx6
 clear qb7
 refine .as rfl rfl (.done (.sr (.mv rfl rfl ?_)))
 first | refine .tq (t_eqlT rfl rfl (by omega)) rfl ?_ | refine .tq (t_eqlF rfl rfl (by omega)) rfl ?_ | refine .tq (t_eql rfl rfl) rfl ?_
 refine .mv rfl rfl ?_
 first | refine .gd (t_move rfl) rfl ?_ | refine .so rfl rfl ?_
 first | refine .gd (t_eqlT rfl rfl (by omega)) rfl ?_ | refine .gd (t_eqlF rfl rfl (by omega)) rfl ?_ | refine .gd (t_eql rfl rfl) rfl ?_ | refine .so rfl rfl ?_
 first | refine .tq (t_pickT rfl rfl) rfl ?_ | refine .tq (t_pickF rfl rfl) rfl ?_
 refine .mv rfl rfl ?_
 first | refine .gd (t_move rfl) rfl ?_ | refine .so rfl rfl ?_
 first | refine .gd (t_eqlT rfl rfl (by omega)) rfl ?_ | refine .gd (t_eqlF rfl rfl (by omega)) rfl ?_ | refine .gd (t_eql rfl rfl) rfl ?_ | refine .so rfl rfl ?_
 first | refine .tq (t_pickT rfl rfl) rfl ?_ | refine .tq (t_pickF rfl rfl) rfl ?_
 refine .mv rfl rfl ?_
 refine .gd (t_loadA rfl hvb4.cells (by rw [Gt.len]; exact ty25)) rfl ?_
 refine .gd (t_loadA rfl hvb7.cells (by rw [Gt.len]; exact ty25)) rfl ?_
 refine Rg.wd ⟨_,rfl,rfl⟩ (w_call Tryz.call14 rfl (sameTree_ok _ g4 g7 (Nat.le_refl _) (by have := hsm4.cnt; omega) _ hg4 hg7)) rfl ?_
 rintro _ w7 ⟨⟨bb,rfl,hbb⟩,hx7⟩
 replace hx := hx.ext hx7
 replace hg1 := hg1.ext hx7
 replace hvb2 := hvb2.ext hx7
 replace hgy4 := hgy4.ext hx7
 replace hg4 := hg4.ext hx7
 replace hvb4 := hvb4.ext hx7
 replace hg7 := hg7.ext hx7
 replace hvb7 := hvb7.ext hx7
 obtain rfl := hbb.2 (hsm4.same hsm7)
 first | refine .tq (t_pickT rfl rfl) rfl ?_ | refine .tq (t_pickF rfl rfl) rfl ?_
 refine .mv rfl rfl ?_
 first | refine .gd (t_move rfl) rfl ?_ | refine .so rfl rfl ?_
 refine .gd (t_geqT rfl rfl (by omega)) rfl ?_
 first | refine .tq (t_pickT rfl rfl) rfl ?_ | refine .tq (t_pickF rfl rfl) rfl ?_
 refine .as rfl rfl (.done (Wp.ret ?_))
 exact ⟨[_],⟨rfl,trivial⟩,rfl,hx⟩
end Go.Proofs.YtcelfjbajdffkaaGreatDoor.Par
namespace Go.Proofs.YtcelfjbajdffkaaGreatDoor.Par
set_option maxRecDepth 20000
open Go.Gx Go.RowKit Go.Lib
open Lexi (Asc)
open Lexi (toks tcs tcs_at tcs_length off startsZ startsZ_at startsZ_length rtokens_ok rstarts_ok toks_length off_le)
theorem aft_cases {s : ByteArray} {e a : Int} {i : Nat} (hi : i < (toks s).length) {b : Bool} (hb : aft s e a i = b) :
  ((off s i : Int) < e ∧ b = false) ∨ (e ≤ off s i ∧ a ≤ (off s i : Int) + (toks s)[i].2.size ∧ b = false) ∨ (e ≤ off s i ∧ (off s i : Int) + (toks s)[i].2.size < a ∧ (toks s)[i].1 = 101 ∧ b = false) ∨
  (e ≤ off s i ∧ (off s i : Int) + (toks s)[i].2.size < a ∧ (toks s)[i].1 ≠ 101 ∧ (toks s)[i].1 = 102 ∧ b = false) ∨ (e ≤ off s i ∧ (off s i : Int) + (toks s)[i].2.size < a ∧ (toks s)[i].1 ≠ 101 ∧ (toks s)[i].1 ≠ 102 ∧ b = true) := by
 subst hb
 unfold aft
 rw [List.getElem?_eq_getElem hi]
 simp only [isTriv]
 by_cases c1 : e ≤ (off s i : Int)
 ·by_cases c2 : (off s i : Int) + (toks s)[i].2.size < a
  ·by_cases c3 : (toks s)[i].1 = 101
   ·exact .inr (.inr (.inl ⟨c1,c2,c3,by simp [c3]⟩))
   ·by_cases c4 : (toks s)[i].1 = 102
    ·exact .inr (.inr (.inr (.inl ⟨c1,c2,c3,c4,by simp [c4]⟩)))
    ·exact .inr (.inr (.inr (.inr ⟨c1,c2,c3,c4,by simp [c1,c2,c3,c4]⟩)))
  ·exact .inr (.inl ⟨c1,by omega,by simp [c2]⟩)
 ·exact .inl ⟨by omega,by simp [c1]⟩
set_option maxHeartbeats 1000000 in
theorem reusesLaw {w : World} {src es : ByteArray} {ea eb : Int} (hA0 : Asc w) : Cl Tryz.prog 7 #[.string src,.agg #[.int .i64 ea,.int .i64 eb,.string es]] w (fun u w' => u = .bool true ∧ Ext w w') := by
 have hx := Ext.refl w
 refine Cl.enter Tryz.func7 rfl Tryz.ntmps7 rfl rfl (.sr (Rg.wd trivial (w_boxed (cs := [.int .i64 ea,.int .i64 eb,.string es]) rfl rfl) rfl ?_))
 rintro _ w1 ⟨b3,rfl,q3,hx1,hv3⟩
 replace hx := hx.ext hx1
 have hl3 := hx.le
 have q3b : w.heap.size ≤ b3 := by have := hv3.lt; omega
 refine .as rfl rfl (.done (.seq (.sr (Rg.wd trivial (w_call Tryz.call18 rfl (example2_ok (hA0.ext hx))) rfl ?_))))
 rintro _ w2 ⟨rfl,hx2⟩
 replace hx := hx.ext hx2
 replace hv3 := hv3.ext hx2
 refine .tq (t_notB rfl) rfl (.done (.condF rfl (Wp.skip (.sr (.mv rfl rfl (Rg.wd trivial (w_call Tryz.call11 rfl (short_ok (n := 400))) rfl ?_))))))
 rintro _ w3 ⟨rfl,hx3⟩
 replace hx := hx.ext hx3
 replace hv3 := hv3.ext hx3
 obtain ⟨s1,hs1⟩ : ∃ z,src.extract 0 (min src.size 400) = z := ⟨_,rfl⟩
 have hsz1 : s1.size ≤ 400 := by rw [← hs1,ByteArray.size_extract]; omega
 rw [hs1]
 refine .as rfl rfl (.done (.sr (.tq (t_fieldAddr fa41_0 rfl) rfl (.tq (t_load ty3 rfl (Cells.get (i := 0) hv3.cells rfl)) rfl (.mv rfl rfl (.tq (t_len Tryz.underlying9 rfl) rfl ?_))))))
 first | refine .tq (t_addI rfl rfl (by omega)) rfl ?_ | refine .tq (t_add rfl rfl) rfl ?_
 refine Rg.wd trivial (w_call Tryz.call16 rfl (mod_ok (by omega) (by omega))) rfl ?_
 rintro _ _ ⟨⟨a,rfl,ha,_⟩,rfl⟩
 refine .tq (t_fieldAddr fa41_0 rfl) rfl (Rg.wn trivial (w_putF hv3 ty3 rfl rfl rfl rfl rfl) ?_)
 rintro _ w4 ⟨hu,hv3'⟩
 replace hx := hx.upd hu q3b
 clear hv3 hu
 have hv3 := hv3'
 clear hv3'
 simp only [List.set] at hv3
 refine .done ?_
 refine Wp.seq (Wp.draw [0,1,2,3,4,5,6,7,8,9,10,11,12,13] [0] mixed (by kernel_rfl) (by kernel_rfl) ?_)
 intro w5 hx5 _
 replace hx := hx.ext hx5
 replace hv3 := hv3.ext hx5
 refine .tq (t_fieldAddr fa41_0 rfl) rfl (.tq (t_load ty3 rfl (Cells.get (i := 0) hv3.cells rfl)) rfl (.tq (t_fieldAddr fa41_1 rfl) rfl (.tq (t_load ty3 rfl (Cells.get (i := 1) hv3.cells rfl)) rfl (.mv rfl rfl (.tq (t_len Tryz.underlying9 rfl) rfl (.tq (t_fieldAddr fa41_0 rfl) rfl (.tq (t_load ty3 rfl (Cells.get (i := 0) hv3.cells rfl)) rfl ?_)))))))
 first | refine .tq (t_subI rfl rfl (by omega)) rfl ?_ | refine .tq (t_sub rfl rfl) rfl ?_
 first | refine .tq (t_addI rfl rfl (by omega)) rfl ?_ | refine .tq (t_add rfl rfl) rfl ?_
 refine Rg.wdB trivial rfl (w_call Tryz.call16 rfl (mod_ok (by omega) (by omega))) rfl (fun _ _ h => h.2 ▸ Below.refl _ _) ?_
 rintro _ _ ⟨⟨c,rfl,hc,_⟩,rfl⟩
 first | refine .tq (t_addI rfl rfl (by omega)) rfl ?_ | refine .tq (t_add rfl rfl) rfl ?_
 rw [show (a : Int) + (c : Nat) = ((a + c : Nat) : Int) from rfl]
 refine .tq (t_fieldAddr fa41_1 rfl) rfl ?_
 refine Rg.wnB trivial rfl (w_putF hv3 ty3 rfl rfl rfl rfl rfl) (by rfl) ?_
 rintro _ w6 ⟨hu,hv3'⟩
 replace hx := hx.upd hu q3b
 clear hv3 hu
 have hv3 := hv3'
 clear hv3'
 simp only [List.set] at hv3
 refine .done (.sr (.tq (t_fieldAddr fa41_2 rfl) rfl (.tq (t_load ty9 rfl (Cells.get (i := 2) hv3.cells rfl)) rfl (Rg.wd trivial (w_call Tryz.call11 rfl (short_ok (n := 40))) rfl ?_))))
 rintro _ w7 ⟨rfl,hx7⟩
 replace hx := hx.ext hx7
 replace hv3 := hv3.ext hx7
 obtain ⟨s2,hs2⟩ : ∃ z,es.extract 0 (min es.size 40) = z := ⟨_,rfl⟩
 have hsz2 : s2.size ≤ 40 := by rw [← hs2,ByteArray.size_extract]; omega
 rw [hs2]
 refine .tq (t_fieldAddr fa41_2 rfl) rfl (Rg.wn trivial (w_putF hv3 ty9 rfl rfl rfl rfl rfl) ?_)
 rintro _ w8 ⟨hu,hv3'⟩
 replace hx := hx.upd hu q3b
 clear hv3 hu
 have hv3 := hv3'
 clear hv3'
 simp only [List.set] at hv3
 refine .done (.sr (.mv rfl rfl ?_))
 refine Rg.wd trivial (w_call Tryz.call10 rfl (parse_ok (by omega) (hA0.ext hx))) rfl ?_
 rintro _ w9 ⟨g1,rfl,hpp1,hgp1,hx9⟩
 replace hx := hx.ext hx9
 replace hv3 := hv3.ext hx9
 have hsm1 := hpp1.small
 have hg1 : GoL w9 g1 := hgp1.mono fun z hz => hz.2
 have hog1 := hg1.oneL
 clear hgp1 hpp1
 refine .mv rfl rfl (.tq (t_extract rfl rfl) rfl (.tq (t_extract rfl rfl) rfl (Rg.wd trivial (w_new Tryz.zeroValue25 rfl) rfl ?_)))
 rintro _ wab5 ⟨b5,rfl,qb5,hxab5,hvab5⟩
 refine Rg.wn trivial (w_put (cs := g1.cells) hvab5 rfl rfl rfl (by rw [Gt.len]; exact ty25) (by rw [Gt.len]; rfl) (hog1)) ?_
 rintro _ w10 ⟨hub5,hvb5⟩
 have hx10 := hxab5.upd hub5 (Nat.le_of_eq qb5.symm)
 clear hvab5 hub5 hxab5
 replace hx := hx.ext hx10
 replace hv3 := hv3.ext hx10
 replace hg1 := hg1.ext hx10
 clear qb5
 refine .as rfl rfl (.done ?_)
 obtain ⟨ks,hks⟩ := hsm1.kids
 refine .sr (.mv rfl rfl ?_)
 refine .tq (t_loadA rfl hvb5.cells (by rw [Gt.len]; exact ty25)) rfl ?_
 refine .tq (t_loadA rfl hv3.cells (by exact ty41)) rfl ?_
 refine Rg.wd trivial (w_call Tryz.call19 rfl (updateT_ok (s := s1) (t := s2) (a := a) (b := a + c) (hA0.ext hx) (by omega) (Nat.le_add_right a c) (by omega) (by omega) hg1.none (fun z h => h.elim) hsm1 hks)) rfl ?_
 rintro _ w11 ⟨⟨g4,re,rfl,hpp4,hgy4,hke,lk4,hlk4,hle4⟩,hx11⟩
 replace hx := hx.ext hx11
 replace hv3 := hv3.ext hx11
 replace hg1 := hg1.ext hx11
 replace hvb5 := hvb5.ext hx11
 have hg4 := hgy4.go
 have hog4 := hg4.oneL
 refine .mv rfl rfl (.tq (t_extract rfl rfl) rfl (.tq (t_extract rfl rfl) rfl (.tq (t_extract rfl rfl) rfl (Rg.wd trivial (w_new Tryz.zeroValue25 rfl) rfl ?_))))
 rintro _ wab7 ⟨b7,rfl,qb7,hxab7,hvab7⟩
 refine Rg.wn trivial (w_put (cs := g4.cells) hvab7 rfl rfl rfl (by rw [Gt.len]; exact ty25) (by rw [Gt.len]; rfl) (hog4)) ?_
 rintro _ w12 ⟨hub7,hvb7⟩
 have hx12 := hxab7.upd hub7 (Nat.le_of_eq qb7.symm)
 clear hvab7 hub7 hxab7
 replace hx := hx.ext hx12
 replace hv3 := hv3.ext hx12
 replace hg1 := hg1.ext hx12
 replace hvb5 := hvb5.ext hx12
 replace hg4 := hg4.ext hx12
 clear qb7
 refine .as rfl rfl (.as rfl rfl (.done (.seq (.sr (Rg.wd trivial (w_call Tryz.call18 rfl (example2_ok (hA0.ext hx))) rfl ?_)))))
 rintro _ w13 ⟨rfl,hx13⟩
 replace hx := hx.ext hx13
 replace hv3 := hv3.ext hx13
 replace hg1 := hg1.ext hx13
 replace hvb5 := hvb5.ext hx13
 replace hg4 := hg4.ext hx13
 replace hvb7 := hvb7.ext hx13
 refine .tq (t_notB rfl) rfl (.mv rfl rfl ?_)
 first | refine .gd (t_move rfl) rfl ?_ | refine .so rfl rfl ?_
 first | refine .gd (t_neqT rfl rfl (by omega)) rfl ?_ | refine .gd (t_neqF rfl rfl (by omega)) rfl ?_ | refine .gd (t_neq rfl rfl) rfl ?_ | refine .so rfl rfl ?_
 first | refine .tq (t_pickT rfl rfl) rfl ?_ | refine .tq (t_pickF rfl rfl) rfl ?_
 refine .mv rfl rfl ?_
 first | refine .gd (t_move rfl) rfl ?_ | refine .so rfl rfl ?_
 first | refine .gd (t_neqT rfl rfl (by omega)) rfl ?_ | refine .gd (t_neqF rfl rfl (by omega)) rfl ?_ | refine .gd (t_neq rfl rfl) rfl ?_ | refine .so rfl rfl ?_
 first | refine .tq (t_pickT rfl rfl) rfl ?_ | refine .tq (t_pickF rfl rfl) rfl ?_
 refine .done (.condF rfl (Wp.skip (.sr (.mv rfl rfl ?_))))
 refine Rg.wd trivial (w_call Tryz.call20 rfl (rtokens_ok (by omega))) rfl ?_
 rintro v71 w14 ⟨hs71,hx14⟩
 replace hx := hx.ext hx14
 replace hv3 := hv3.ext hx14
 replace hg1 := hg1.ext hx14
 replace hvb5 := hvb5.ext hx14
 replace hg4 := hg4.ext hx14
 replace hvb7 := hvb7.ext hx14
 refine .as rfl rfl (.done (.sr (.mv rfl rfl ?_)))
 refine Rg.wd trivial (w_call Tryz.call21 rfl (rstarts_ok hs71 (by omega))) rfl ?_
 rintro v73 w15 ⟨hs73,hx15⟩
 replace hx := hx.ext hx15
 replace hv3 := hv3.ext hx15
 replace hg1 := hg1.ext hx15
 replace hvb5 := hvb5.ext hx15
 replace hg4 := hg4.ext hx15
 replace hvb7 := hvb7.ext hx15
 replace hs71 := hs71.ext hx15
 refine .as rfl rfl (.done (.sr (.as rfl rfl (.as rfl rfl (.done (.seq ?_))))))
 obtain ⟨cv,l,rfl,hl,hch,hpl,hn⟩ := hg1.children hsm1
 have hks2 : erL l = ks := by injection hks
 have hf : FileK (toks s1) ks := by
  obtain ⟨ks2,e1,e2⟩ := hsm1.parsed.fileK
  rw [hks] at e1
  injection e1 with _ _ e1
  rw [e1]
  exact e2
 have hkl : ks.length = l.length := by rw [← hks2,erL_len]
 have htl : (txtL ks).length = s1.size := by
  have := hsm1.len
  rw [hks] at this
  simpa [Tr.txt,nob] using this
 obtain ⟨K,hK⟩ : ∃ K,kept (a : Int) (chs s1 0 ks) = K := ⟨_,rfl⟩
 rw [hK] at hke
 have htk := toks_length s1
 clear hsm1 hks
 refine .sr (.tq (t_fieldAddr fa25_2 rfl) rfl (.tq (t_load ty23 rfl (Cells.get (i := 2) hvb5.cells rfl)) rfl (.tq (t_lenC hl Tryz.underlying23 rfl) rfl (.mv rfl rfl (.done (Wp.block ?_))))))
 refine Wp.loop (ι := Nat × Nat) (fun i => [(3,.pointer (some ⟨b3,0,none⟩)),(8,.int .i64 re),(10,v71),(11,v73),(12,.int .i64 i.2),(13,.int .i64 ((txtL (ks.take i.1)).length : Nat)),(75,cv),(76,.int .i64 l.length),(77,.int .i64 i.1)])
  (fun i w' => i.1 ≤ l.length ∧ i.2 ≤ i.1 ∧ i.2 ≤ K ∧ (∀ m (h : m < ks.length),m < i.1 → ks[m].kd < 100) ∧ Ext w15 w') (fun i => l.length - i.1) (0,0) (by repeat (first | exact .nil | refine .cons rfl ?_)) ⟨Nat.zero_le _,Nat.le_refl _,Nat.zero_le _,fun m _ h => absurd h (Nat.not_lt_zero _),Ext.refl _⟩ ?_
 rintro ⟨j,lst⟩ w16 ⟨hj,hlj,hlK,hkd,hy⟩
 simp only at hj hlj hlK hkd ⊢
 replace hx := hx.ext hy
 replace hv3 := hv3.ext hy
 replace hg1 := hg1.ext hy
 replace hs71 := hs71.ext hy
 replace hs73 := hs73.ext hy
 replace hl := hl.ext hy
 replace hch := hch.ext hy
 by_cases hlt : j < l.length
 ·skip
  obtain ⟨q,hqm,hqe⟩ : ∃ q,q ∈ l ∧ q = l[j] := ⟨_,List.getElem_mem hlt,rfl⟩
  have hgq := hch q hqm
  have hoq := hgq.oneL
  obtain ⟨hqw,hqc,hqd,hqt⟩ := hpl q hqm
  have hqk : ks[j]'(by omega) = q.er := by
   simp only [← hks2,erL_map,List.getElem_map]
   rw [hqe]
  have hst : (txtL (ks.take (j + 1))).length = (txtL (ks.take j)).length + q.er.txt.length := by rw [txtL_take ks j (by omega),hqk]
  have hle1 := txtL_le ks (j + 1)
  obtain ⟨e,he⟩ : ∃ e,(txtL (ks.take (j + 1))).length = e := ⟨_,rfl⟩
  refine .sr ?_
  first | refine .tq (t_lssT rfl rfl (by omega)) rfl ?_ | refine .tq (t_lssF rfl rfl (by omega)) rfl ?_ | refine .tq (t_lss rfl rfl) rfl ?_
  refine .done (.seq (.condT rfl (Wp.skip (.seq (Wp.block (.sr ?_))))))
  refine Rg.ix hl trivial rfl rfl Tryz.underlying23 ty25 (by omega) rfl ?_
  intro bt79 ot79 ht79
  rw [Int.toNat_natCast,encs_at Gt.len l j hlt,← hqe] at ht79
  refine .tq (t_loadA rfl ht79 (by rw [Gt.len]; exact ty25)) rfl ?_
  refine Rg.wd trivial (w_new Tryz.zeroValue25 rfl) rfl ?_
  rintro _ wab15 ⟨b15,rfl,qb15,hxab15,hvab15⟩
  refine Rg.wn trivial (w_put (cs := q.cells) hvab15 rfl rfl rfl (by rw [Gt.len]; exact ty25) (by rw [Gt.len]; rfl) (hoq)) ?_
  rintro _ w17 ⟨hub15,hvb15⟩
  have hx17 := hxab15.upd hub15 (Nat.le_of_eq qb15.symm)
  clear hvab15 hub15 hxab15
  replace hx := hx.ext hx17
  replace hv3 := hv3.ext hx17
  replace hg1 := hg1.ext hx17
  replace hs71 := hs71.ext hx17
  replace hs73 := hs73.ext hx17
  replace hl := hl.ext hx17
  replace hch := hch.ext hx17
  replace hy := hy.ext hx17
  replace hgq := hgq.ext hx17
  replace ht79 := ht79.ext hx17
  clear qb15
  refine .done (.sr (.mv rfl rfl ?_))
  refine .tq (t_loadA rfl hvb15.cells (by rw [Gt.len]; exact ty25)) rfl ?_
  refine Rg.wd trivial (w_call Tryz.call22 rfl (source_ok _ q (Nat.le_refl _) hqw (by omega) (by omega) _ hgq)) rfl ?_
  rintro _ w18 ⟨rfl,hx18⟩
  replace hx := hx.ext hx18
  replace hv3 := hv3.ext hx18
  replace hg1 := hg1.ext hx18
  replace hs71 := hs71.ext hx18
  replace hs73 := hs73.ext hx18
  replace hl := hl.ext hx18
  replace hch := hch.ext hx18
  replace hy := hy.ext hx18
  replace hgq := hgq.ext hx18
  replace ht79 := ht79.ext hx18
  replace hvb15 := hvb15.ext hx18
  have hbs := byt_size q.er.txt
  refine .tq (t_len Tryz.underlying9 rfl) rfl ?_
  first | refine .tq (t_addI rfl rfl (by omega)) rfl ?_ | refine .tq (t_add rfl rfl) rfl ?_
  rw [show (((txtL (ks.take j)).length : Nat) : Int) + ((byt q.er.txt).size : Nat) = (e : Int) from by omega]
  refine .as rfl rfl (.done (.seq ?_))
  obtain ⟨qk,qt,qv,ql⟩ := q
  have hqkd : (ks[j]'(by omega)).kd = qk := by rw [hqk]; rfl
  by_cases hbr : 100 ≤ qk
  ·skip
   refine .sr (.tq (t_fieldAddr fa25_0 rfl) rfl (.tq (t_load ty3 rfl (Cells.get (i := 0) hvb15.cells rfl)) rfl ?_))
   refine .tq (t_geqT rfl rfl (by omega)) rfl ?_
   refine .done (.condT rfl (Wp.exit (.sr (.mv rfl rfl (.mv rfl rfl ?_)))))
   first | refine .tq (t_geqT rfl rfl (by omega)) rfl ?_ | refine .tq (t_geqF rfl rfl (by omega)) rfl ?_ | refine .tq (t_geq rfl rfl) rfl ?_
   refine .as rfl rfl (.done (Wp.ret ?_))
   exact ⟨[_],⟨rfl,trivial⟩,rfl,hx⟩
  ·skip
   refine .sr (.tq (t_fieldAddr fa25_0 rfl) rfl (.tq (t_load ty3 rfl (Cells.get (i := 0) hvb15.cells rfl)) rfl ?_))
   refine .tq (t_geqF rfl rfl (by omega)) rfl ?_
   refine .done (.condF rfl (Wp.skip (.sr (.as rfl rfl (.done (.seq (.sr (.mv rfl rfl (.tq (t_lenC hs71 Tryz.underlying49 rfl) rfl (.mv rfl rfl (.done (Wp.block ?_))))))))))))
   refine Wp.loop (ι := Nat) (fun i => [(3,.pointer (some ⟨b3,0,none⟩)),(8,.int .i64 re),(10,v71),(11,v73),(12,.int .i64 lst),(13,.int .i64 (e : Nat)),(75,cv),(76,.int .i64 l.length),(77,.int .i64 j),(16,.int .i64 (aftN s1 e a i)),(89,v71),(90,.int .i64 (toks s1).length),(91,.int .i64 i)])
    (fun i w' => i ≤ (toks s1).length ∧ Ext w18 w') (fun i => (toks s1).length - i) 0 (by repeat (first | exact .nil | refine .cons rfl ?_)) ⟨Nat.zero_le _,Ext.refl _⟩ ?_
   rintro i w19 ⟨hi,hz⟩
   replace hx := hx.ext hz
   replace hv3 := hv3.ext hz
   replace hg1 := hg1.ext hz
   replace hs71 := hs71.ext hz
   replace hs73 := hs73.ext hz
   replace hl := hl.ext hz
   replace hch := hch.ext hz
   replace hy := hy.ext hz
   replace hgq := hgq.ext hz
   replace hvb15 := hvb15.ext hz
   have hale := aftN_le s1 e a i
   by_cases hil : i < (toks s1).length
   ·skip
    have eo := (Lexi.off_step hil).1
    have ol := off_le s1 (i + 1)
    obtain ⟨ab,hab⟩ : ∃ z,aft s1 e a i = z := ⟨_,rfl⟩
    have hcs := aft_cases hil hab
    obtain ⟨tk,htk2⟩ : ∃ tk,(toks s1)[i] = tk := ⟨_,rfl⟩
    rw [htk2] at hcs eo
    refine .sr ?_
    first | refine .tq (t_lssT rfl rfl (by omega)) rfl ?_ | refine .tq (t_lssF rfl rfl (by omega)) rfl ?_ | refine .tq (t_lss rfl rfl) rfl ?_
    refine .done (.seq (.condT rfl (Wp.skip (.seq (Wp.block (.sr (.mv rfl rfl ?_)))))))
    refine Rg.ix hs71 trivial rfl rfl Tryz.underlying49 ty55 (by omega) rfl ?_
    intro bt94 ot94 ht94
    rw [Int.toNat_natCast,tcs_at _ i hil,htk2] at ht94
    refine .tq (t_loadA rfl ht94 ty55) rfl (Rg.wd trivial (w_new Tryz.zeroValue55 rfl) rfl ?_)
    rintro _ wab18 ⟨b18,rfl,qb18,hxab18,hvab18⟩
    refine .as rfl rfl (Rg.wn trivial (w_put (cs := [.int .i64 tk.1,.string tk.2]) hvab18 rfl rfl rfl (ty55) (rfl) (rfl)) ?_)
    rintro _ w20 ⟨hub18,hvb18⟩
    have hx20 := hxab18.upd hub18 (Nat.le_of_eq qb18.symm)
    clear hvab18 hub18 hxab18
    replace hx := hx.ext hx20
    replace hv3 := hv3.ext hx20
    replace hg1 := hg1.ext hx20
    replace hs71 := hs71.ext hx20
    replace hs73 := hs73.ext hx20
    replace hl := hl.ext hx20
    replace hch := hch.ext hx20
    replace hy := hy.ext hx20
    replace hgq := hgq.ext hx20
    replace hvb15 := hvb15.ext hx20
    replace hz := hz.ext hx20
    replace ht94 := ht94.ext hx20
    clear qb18
    refine .done ?_
    refine Wp.seq (Wp.cut (fun L w' => Gx.Sub [(3,.pointer (some ⟨b3,0,none⟩)),(8,.int .i64 re),(10,v71),(11,v73),(12,.int .i64 lst),(13,.int .i64 (e : Nat)),(75,cv),(76,.int .i64 l.length),(77,.int .i64 j),(16,.int .i64 (aftN s1 e a i)),(89,v71),(90,.int .i64 (toks s1).length),(91,.int .i64 i),(124,.bool ab)] L ∧ Ext w20 w') ?_ ?_)
    ·have hq := Ext.refl w20
     rcases hcs with ⟨k1,rfl⟩ | ⟨k1,k2,rfl⟩ | ⟨k1,k2,k3,rfl⟩ | ⟨k1,k2,k3,k4,rfl⟩ | ⟨k1,k2,k3,k4,rfl⟩
     ·skip
      refine Wp.draw [0,1,2,3,4,5,6,7,8,9,10,11,12,13,14,15,16,17,18,19,20,21,22,23,24,25,26,27,28] [] mixed (by kernel_rfl) (by kernel_rfl) ?_
      intro w21 hx21 _
      replace hx := hx.ext hx21
      replace hv3 := hv3.ext hx21
      replace hg1 := hg1.ext hx21
      replace hs71 := hs71.ext hx21
      replace hs73 := hs73.ext hx21
      replace hl := hl.ext hx21
      replace hch := hch.ext hx21
      replace hy := hy.ext hx21
      replace hgq := hgq.ext hx21
      replace hvb15 := hvb15.ext hx21
      replace hz := hz.ext hx21
      replace hvb18 := hvb18.ext hx21
      replace hq := hq.ext hx21
      refine .mv rfl rfl (.mv rfl rfl ?_)
      refine Rg.ix hs73 trivial rfl rfl Tryz.underlying51 ty3 (by omega) rfl ?_
      intro bt98 ot98 ht98
      rw [Int.toNat_natCast,Nat.mul_one,show (((startsZ s1 (toks s1).length).map (Value.int .i64)).drop i).take 1 = [.int .i64 (off s1 i)] from by rw [List.drop_eq_getElem_cons (by simp [startsZ_length,hil])]; simp [startsZ_at hil]] at ht98
      refine .tq (t_load ty3 rfl (Cells.get (i := 0) ht98 rfl)) rfl (.mv rfl rfl ?_)
      refine .tq (t_geqF rfl rfl (by omega)) rfl ?_
      refine .mv rfl rfl (.so rfl rfl (.so rfl rfl (.so rfl rfl ?_)))
      (try rw [Int.toNat_natCast,Nat.mul_one,show (((startsZ s1 (toks s1).length).map (Value.int .i64)).drop i).take 1 = [.int .i64 (off s1 i)] from by rw [List.drop_eq_getElem_cons (by simp [startsZ_length,hil])]; simp [startsZ_at hil]] at ht105)
      refine .so rfl rfl (.so rfl rfl (.so rfl rfl (.so rfl rfl (.so rfl rfl (.so rfl rfl (.so rfl rfl (.so rfl rfl ?_)))))))
      first | refine .tq (t_pickT rfl rfl) rfl ?_ | refine .tq (t_pickF rfl rfl) rfl ?_
      refine .mv rfl rfl (.so rfl rfl (.so rfl rfl (.so rfl rfl ?_)))
      first | refine .tq (t_pickT rfl rfl) rfl ?_ | refine .tq (t_pickF rfl rfl) rfl ?_
      refine .mv rfl rfl (.so rfl rfl (.so rfl rfl (.so rfl rfl ?_)))
      first | refine .tq (t_pickT rfl rfl) rfl ?_ | refine .tq (t_pickF rfl rfl) rfl ?_
      refine .done ?_
      exact ⟨by repeat (first | exact .nil | refine .cons rfl ?_),hq⟩
     ·skip
      refine Wp.draw [0,1,2,3,4,5,6,7,8,9,10,11,12,13,14,15,16,17,18,19,20,21,22,23,24,25,26,27,28] [] mixed (by kernel_rfl) (by kernel_rfl) ?_
      intro w21 hx21 _
      replace hx := hx.ext hx21
      replace hv3 := hv3.ext hx21
      replace hg1 := hg1.ext hx21
      replace hs71 := hs71.ext hx21
      replace hs73 := hs73.ext hx21
      replace hl := hl.ext hx21
      replace hch := hch.ext hx21
      replace hy := hy.ext hx21
      replace hgq := hgq.ext hx21
      replace hvb15 := hvb15.ext hx21
      replace hz := hz.ext hx21
      replace hvb18 := hvb18.ext hx21
      replace hq := hq.ext hx21
      refine .mv rfl rfl (.mv rfl rfl ?_)
      refine Rg.ix hs73 trivial rfl rfl Tryz.underlying51 ty3 (by omega) rfl ?_
      intro bt98 ot98 ht98
      rw [Int.toNat_natCast,Nat.mul_one,show (((startsZ s1 (toks s1).length).map (Value.int .i64)).drop i).take 1 = [.int .i64 (off s1 i)] from by rw [List.drop_eq_getElem_cons (by simp [startsZ_length,hil])]; simp [startsZ_at hil]] at ht98
      refine .tq (t_load ty3 rfl (Cells.get (i := 0) ht98 rfl)) rfl (.mv rfl rfl ?_)
      refine .tq (t_geqT rfl rfl (by omega)) rfl ?_
      refine .mv rfl rfl ?_
      first | refine .gd (t_move rfl) rfl ?_ | refine .so rfl rfl ?_
      first | refine .gd (t_move rfl) rfl ?_ | refine .so rfl rfl ?_
      refine Rg.ix hs73 ⟨_,rfl,rfl⟩ rfl rfl Tryz.underlying51 ty3 (by omega) rfl ?_
      intro bt105 ot105 ht105
      (try rw [Int.toNat_natCast,Nat.mul_one,show (((startsZ s1 (toks s1).length).map (Value.int .i64)).drop i).take 1 = [.int .i64 (off s1 i)] from by rw [List.drop_eq_getElem_cons (by simp [startsZ_length,hil])]; simp [startsZ_at hil]] at ht105)
      refine .gd (t_load ty3 rfl (Cells.get (i := 0) ht105 rfl)) rfl ?_
      first | refine .gd (t_fieldAddr fa55_1 rfl) rfl ?_ | refine .so rfl rfl ?_
      refine .gd (t_load ty9 rfl (Cells.get (i := 1) hvb18.cells rfl)) rfl ?_
      first | refine .gd (t_len Tryz.underlying9 rfl) rfl ?_ | refine .so rfl rfl ?_
      first | refine .gd (t_addI rfl rfl (by omega)) rfl ?_ | refine .gd (t_add rfl rfl) rfl ?_ | refine .so rfl rfl ?_
      first | refine .gd (t_fieldAddr fa41_0 rfl) rfl ?_ | refine .so rfl rfl ?_
      refine .gd (t_load ty3 rfl (Cells.get (i := 0) hv3.cells rfl)) rfl ?_
      refine .gd (t_lssF rfl rfl (by omega)) rfl ?_
      first | refine .tq (t_pickT rfl rfl) rfl ?_ | refine .tq (t_pickF rfl rfl) rfl ?_
      refine .mv rfl rfl (.so rfl rfl (.so rfl rfl (.so rfl rfl ?_)))
      first | refine .tq (t_pickT rfl rfl) rfl ?_ | refine .tq (t_pickF rfl rfl) rfl ?_
      refine .mv rfl rfl (.so rfl rfl (.so rfl rfl (.so rfl rfl ?_)))
      first | refine .tq (t_pickT rfl rfl) rfl ?_ | refine .tq (t_pickF rfl rfl) rfl ?_
      refine .done ?_
      exact ⟨by repeat (first | exact .nil | refine .cons rfl ?_),hq⟩
     ·skip
      refine Wp.draw [0,1,2,3,4,5,6,7,8,9,10,11,12,13,14,15,16,17,18,19,20,21,22,23,24,25,26,27,28] [] mixed (by kernel_rfl) (by kernel_rfl) ?_
      intro w21 hx21 _
      replace hx := hx.ext hx21
      replace hv3 := hv3.ext hx21
      replace hg1 := hg1.ext hx21
      replace hs71 := hs71.ext hx21
      replace hs73 := hs73.ext hx21
      replace hl := hl.ext hx21
      replace hch := hch.ext hx21
      replace hy := hy.ext hx21
      replace hgq := hgq.ext hx21
      replace hvb15 := hvb15.ext hx21
      replace hz := hz.ext hx21
      replace hvb18 := hvb18.ext hx21
      replace hq := hq.ext hx21
      refine .mv rfl rfl (.mv rfl rfl ?_)
      refine Rg.ix hs73 trivial rfl rfl Tryz.underlying51 ty3 (by omega) rfl ?_
      intro bt98 ot98 ht98
      rw [Int.toNat_natCast,Nat.mul_one,show (((startsZ s1 (toks s1).length).map (Value.int .i64)).drop i).take 1 = [.int .i64 (off s1 i)] from by rw [List.drop_eq_getElem_cons (by simp [startsZ_length,hil])]; simp [startsZ_at hil]] at ht98
      refine .tq (t_load ty3 rfl (Cells.get (i := 0) ht98 rfl)) rfl (.mv rfl rfl ?_)
      refine .tq (t_geqT rfl rfl (by omega)) rfl ?_
      refine .mv rfl rfl ?_
      first | refine .gd (t_move rfl) rfl ?_ | refine .so rfl rfl ?_
      first | refine .gd (t_move rfl) rfl ?_ | refine .so rfl rfl ?_
      refine Rg.ix hs73 ⟨_,rfl,rfl⟩ rfl rfl Tryz.underlying51 ty3 (by omega) rfl ?_
      intro bt105 ot105 ht105
      (try rw [Int.toNat_natCast,Nat.mul_one,show (((startsZ s1 (toks s1).length).map (Value.int .i64)).drop i).take 1 = [.int .i64 (off s1 i)] from by rw [List.drop_eq_getElem_cons (by simp [startsZ_length,hil])]; simp [startsZ_at hil]] at ht105)
      refine .gd (t_load ty3 rfl (Cells.get (i := 0) ht105 rfl)) rfl ?_
      first | refine .gd (t_fieldAddr fa55_1 rfl) rfl ?_ | refine .so rfl rfl ?_
      refine .gd (t_load ty9 rfl (Cells.get (i := 1) hvb18.cells rfl)) rfl ?_
      first | refine .gd (t_len Tryz.underlying9 rfl) rfl ?_ | refine .so rfl rfl ?_
      first | refine .gd (t_addI rfl rfl (by omega)) rfl ?_ | refine .gd (t_add rfl rfl) rfl ?_ | refine .so rfl rfl ?_
      first | refine .gd (t_fieldAddr fa41_0 rfl) rfl ?_ | refine .so rfl rfl ?_
      refine .gd (t_load ty3 rfl (Cells.get (i := 0) hv3.cells rfl)) rfl ?_
      refine .gd (t_lssT rfl rfl (by omega)) rfl ?_
      first | refine .tq (t_pickT rfl rfl) rfl ?_ | refine .tq (t_pickF rfl rfl) rfl ?_
      refine .mv rfl rfl ?_
      first | refine .gd (t_fieldAddr fa55_0 rfl) rfl ?_ | refine .so rfl rfl ?_
      refine .gd (t_load ty3 rfl (Cells.get (i := 0) hvb18.cells rfl)) rfl ?_
      refine .gd (t_neqF rfl rfl (by omega)) rfl ?_
      first | refine .tq (t_pickT rfl rfl) rfl ?_ | refine .tq (t_pickF rfl rfl) rfl ?_
      refine .mv rfl rfl (.so rfl rfl (.so rfl rfl (.so rfl rfl ?_)))
      first | refine .tq (t_pickT rfl rfl) rfl ?_ | refine .tq (t_pickF rfl rfl) rfl ?_
      refine .done ?_
      exact ⟨by repeat (first | exact .nil | refine .cons rfl ?_),hq⟩
     ·skip
      refine Wp.draw [0,1,2,3,4,5,6,7,8,9,10,11,12,13,14,15,16,17,18,19,20,21,22,23,24,25,26,27,28] [] mixed (by kernel_rfl) (by kernel_rfl) ?_
      intro w21 hx21 _
      replace hx := hx.ext hx21
      replace hv3 := hv3.ext hx21
      replace hg1 := hg1.ext hx21
      replace hs71 := hs71.ext hx21
      replace hs73 := hs73.ext hx21
      replace hl := hl.ext hx21
      replace hch := hch.ext hx21
      replace hy := hy.ext hx21
      replace hgq := hgq.ext hx21
      replace hvb15 := hvb15.ext hx21
      replace hz := hz.ext hx21
      replace hvb18 := hvb18.ext hx21
      replace hq := hq.ext hx21
      refine .mv rfl rfl (.mv rfl rfl ?_)
      refine Rg.ix hs73 trivial rfl rfl Tryz.underlying51 ty3 (by omega) rfl ?_
      intro bt98 ot98 ht98
      rw [Int.toNat_natCast,Nat.mul_one,show (((startsZ s1 (toks s1).length).map (Value.int .i64)).drop i).take 1 = [.int .i64 (off s1 i)] from by rw [List.drop_eq_getElem_cons (by simp [startsZ_length,hil])]; simp [startsZ_at hil]] at ht98
      refine .tq (t_load ty3 rfl (Cells.get (i := 0) ht98 rfl)) rfl (.mv rfl rfl ?_)
      refine .tq (t_geqT rfl rfl (by omega)) rfl ?_
      refine .mv rfl rfl ?_
      first | refine .gd (t_move rfl) rfl ?_ | refine .so rfl rfl ?_
      first | refine .gd (t_move rfl) rfl ?_ | refine .so rfl rfl ?_
      refine Rg.ix hs73 ⟨_,rfl,rfl⟩ rfl rfl Tryz.underlying51 ty3 (by omega) rfl ?_
      intro bt105 ot105 ht105
      (try rw [Int.toNat_natCast,Nat.mul_one,show (((startsZ s1 (toks s1).length).map (Value.int .i64)).drop i).take 1 = [.int .i64 (off s1 i)] from by rw [List.drop_eq_getElem_cons (by simp [startsZ_length,hil])]; simp [startsZ_at hil]] at ht105)
      refine .gd (t_load ty3 rfl (Cells.get (i := 0) ht105 rfl)) rfl ?_
      first | refine .gd (t_fieldAddr fa55_1 rfl) rfl ?_ | refine .so rfl rfl ?_
      refine .gd (t_load ty9 rfl (Cells.get (i := 1) hvb18.cells rfl)) rfl ?_
      first | refine .gd (t_len Tryz.underlying9 rfl) rfl ?_ | refine .so rfl rfl ?_
      first | refine .gd (t_addI rfl rfl (by omega)) rfl ?_ | refine .gd (t_add rfl rfl) rfl ?_ | refine .so rfl rfl ?_
      first | refine .gd (t_fieldAddr fa41_0 rfl) rfl ?_ | refine .so rfl rfl ?_
      refine .gd (t_load ty3 rfl (Cells.get (i := 0) hv3.cells rfl)) rfl ?_
      refine .gd (t_lssT rfl rfl (by omega)) rfl ?_
      first | refine .tq (t_pickT rfl rfl) rfl ?_ | refine .tq (t_pickF rfl rfl) rfl ?_
      refine .mv rfl rfl ?_
      first | refine .gd (t_fieldAddr fa55_0 rfl) rfl ?_ | refine .so rfl rfl ?_
      refine .gd (t_load ty3 rfl (Cells.get (i := 0) hvb18.cells rfl)) rfl ?_
      refine .gd (t_neqT rfl rfl (by omega)) rfl ?_
      first | refine .tq (t_pickT rfl rfl) rfl ?_ | refine .tq (t_pickF rfl rfl) rfl ?_
      refine .mv rfl rfl ?_
      first | refine .gd (t_fieldAddr fa55_0 rfl) rfl ?_ | refine .so rfl rfl ?_
      refine .gd (t_load ty3 rfl (Cells.get (i := 0) hvb18.cells rfl)) rfl ?_
      refine .gd (t_neqF rfl rfl (by omega)) rfl ?_
      first | refine .tq (t_pickT rfl rfl) rfl ?_ | refine .tq (t_pickF rfl rfl) rfl ?_
      refine .done ?_
      exact ⟨by repeat (first | exact .nil | refine .cons rfl ?_),hq⟩
     ·skip
      refine Wp.draw [0,1,2,3,4,5,6,7,8,9,10,11,12,13,14,15,16,17,18,19,20,21,22,23,24,25,26,27,28] [] mixed (by kernel_rfl) (by kernel_rfl) ?_
      intro w21 hx21 _
      replace hx := hx.ext hx21
      replace hv3 := hv3.ext hx21
      replace hg1 := hg1.ext hx21
      replace hs71 := hs71.ext hx21
      replace hs73 := hs73.ext hx21
      replace hl := hl.ext hx21
      replace hch := hch.ext hx21
      replace hy := hy.ext hx21
      replace hgq := hgq.ext hx21
      replace hvb15 := hvb15.ext hx21
      replace hz := hz.ext hx21
      replace hvb18 := hvb18.ext hx21
      replace hq := hq.ext hx21
      refine .mv rfl rfl (.mv rfl rfl ?_)
      refine Rg.ix hs73 trivial rfl rfl Tryz.underlying51 ty3 (by omega) rfl ?_
      intro bt98 ot98 ht98
      rw [Int.toNat_natCast,Nat.mul_one,show (((startsZ s1 (toks s1).length).map (Value.int .i64)).drop i).take 1 = [.int .i64 (off s1 i)] from by rw [List.drop_eq_getElem_cons (by simp [startsZ_length,hil])]; simp [startsZ_at hil]] at ht98
      refine .tq (t_load ty3 rfl (Cells.get (i := 0) ht98 rfl)) rfl (.mv rfl rfl ?_)
      refine .tq (t_geqT rfl rfl (by omega)) rfl ?_
      refine .mv rfl rfl ?_
      first | refine .gd (t_move rfl) rfl ?_ | refine .so rfl rfl ?_
      first | refine .gd (t_move rfl) rfl ?_ | refine .so rfl rfl ?_
      refine Rg.ix hs73 ⟨_,rfl,rfl⟩ rfl rfl Tryz.underlying51 ty3 (by omega) rfl ?_
      intro bt105 ot105 ht105
      (try rw [Int.toNat_natCast,Nat.mul_one,show (((startsZ s1 (toks s1).length).map (Value.int .i64)).drop i).take 1 = [.int .i64 (off s1 i)] from by rw [List.drop_eq_getElem_cons (by simp [startsZ_length,hil])]; simp [startsZ_at hil]] at ht105)
      refine .gd (t_load ty3 rfl (Cells.get (i := 0) ht105 rfl)) rfl ?_
      first | refine .gd (t_fieldAddr fa55_1 rfl) rfl ?_ | refine .so rfl rfl ?_
      refine .gd (t_load ty9 rfl (Cells.get (i := 1) hvb18.cells rfl)) rfl ?_
      first | refine .gd (t_len Tryz.underlying9 rfl) rfl ?_ | refine .so rfl rfl ?_
      first | refine .gd (t_addI rfl rfl (by omega)) rfl ?_ | refine .gd (t_add rfl rfl) rfl ?_ | refine .so rfl rfl ?_
      first | refine .gd (t_fieldAddr fa41_0 rfl) rfl ?_ | refine .so rfl rfl ?_
      refine .gd (t_load ty3 rfl (Cells.get (i := 0) hv3.cells rfl)) rfl ?_
      refine .gd (t_lssT rfl rfl (by omega)) rfl ?_
      first | refine .tq (t_pickT rfl rfl) rfl ?_ | refine .tq (t_pickF rfl rfl) rfl ?_
      refine .mv rfl rfl ?_
      first | refine .gd (t_fieldAddr fa55_0 rfl) rfl ?_ | refine .so rfl rfl ?_
      refine .gd (t_load ty3 rfl (Cells.get (i := 0) hvb18.cells rfl)) rfl ?_
      refine .gd (t_neqT rfl rfl (by omega)) rfl ?_
      first | refine .tq (t_pickT rfl rfl) rfl ?_ | refine .tq (t_pickF rfl rfl) rfl ?_
      refine .mv rfl rfl ?_
      first | refine .gd (t_fieldAddr fa55_0 rfl) rfl ?_ | refine .so rfl rfl ?_
      refine .gd (t_load ty3 rfl (Cells.get (i := 0) hvb18.cells rfl)) rfl ?_
      refine .gd (t_neqT rfl rfl (by omega)) rfl ?_
      first | refine .tq (t_pickT rfl rfl) rfl ?_ | refine .tq (t_pickF rfl rfl) rfl ?_
      refine .done ?_
      exact ⟨by repeat (first | exact .nil | refine .cons rfl ?_),hq⟩
    ·rintro L' w21 ⟨hs',hx21⟩
     refine Wp.sub hs' ?_
     replace hx := hx.ext hx21
     replace hv3 := hv3.ext hx21
     replace hg1 := hg1.ext hx21
     replace hs71 := hs71.ext hx21
     replace hs73 := hs73.ext hx21
     replace hl := hl.ext hx21
     replace hch := hch.ext hx21
     replace hy := hy.ext hx21
     replace hgq := hgq.ext hx21
     replace hvb15 := hvb15.ext hx21
     replace hz := hz.ext hx21
     replace hvb18 := hvb18.ext hx21
     clear hcs
     cases ab with
     | true =>
      refine .condT rfl (Wp.region (.mv rfl rfl ?_))
      first | refine .tq (t_addI rfl rfl (by omega)) rfl ?_ | refine .tq (t_add rfl rfl) rfl ?_
      refine .as rfl rfl (.done (Wp.region ?_))
      first | refine .tq (t_addI rfl rfl (by omega)) rfl ?_ | refine .tq (t_add rfl rfl) rfl ?_
      refine .mv rfl rfl (.done ?_)
      have hn1 : aftN s1 e a (i + 1) = aftN s1 e a i + 1 := by simp [aftN,hab]
      exact ⟨i + 1,by rw [hn1]; repeat (first | exact .nil | refine .cons rfl ?_),⟨hil,hz⟩,by omega⟩
     | false =>
      refine .condF rfl (Wp.skip (Wp.region ?_))
      first | refine .tq (t_addI rfl rfl (by omega)) rfl ?_ | refine .tq (t_add rfl rfl) rfl ?_
      refine .mv rfl rfl (.done ?_)
      have hn1 : aftN s1 e a (i + 1) = aftN s1 e a i := by simp [aftN,hab]
      exact ⟨i + 1,by rw [hn1]; repeat (first | exact .nil | refine .cons rfl ?_),⟨hil,hz⟩,by omega⟩
   ·obtain rfl : i = (toks s1).length := by omega
    refine .sr ?_
    first | refine .tq (t_lssT rfl rfl (by omega)) rfl ?_ | refine .tq (t_lssF rfl rfl (by omega)) rfl ?_ | refine .tq (t_lss rfl rfl) rfl ?_
    refine .done (.seq (.condF rfl (Wp.exit ?_)))
    have hkd2 : ∀ m (h : m < ks.length),m < j + 1 → ks[m].kd < 100 := fun m h hm => by
     rcases Nat.lt_succ_iff_lt_or_eq.1 hm with c | c
     ·exact hkd m h c
     ·subst c
      rw [hqkd]
      omega
    by_cases h2 : 2 ≤ aftN s1 e a (toks s1).length
    ·have hmk := must_keep hf (show j < ks.length by omega) (fun m h hm => hkd2 m h (by omega)) (by rw [he]; exact h2)
     rw [hK] at hmk
     refine .sr (.mv rfl rfl ?_)
     refine .tq (t_geqT rfl rfl (by omega)) rfl ?_
     refine .done (.condT rfl (Wp.region (.mv rfl rfl ?_)))
     first | refine .tq (t_addI rfl rfl (by omega)) rfl ?_ | refine .tq (t_add rfl rfl) rfl ?_
     refine .as rfl rfl (.done (Wp.region ?_))
     first | refine .tq (t_addI rfl rfl (by omega)) rfl ?_ | refine .tq (t_add rfl rfl) rfl ?_
     refine .mv rfl rfl (.done ?_)
     exact ⟨(j + 1,lst + 1),by simp only [he]; repeat (first | exact .nil | refine .cons rfl ?_),⟨hlt,by simp only; omega,by simp only; omega,hkd2,hy⟩,by simp only; omega⟩
    ·skip
     refine .sr (.mv rfl rfl ?_)
     refine .tq (t_geqF rfl rfl (by omega)) rfl ?_
     refine .done (.condF rfl (Wp.skip (Wp.region ?_)))
     first | refine .tq (t_addI rfl rfl (by omega)) rfl ?_ | refine .tq (t_add rfl rfl) rfl ?_
     refine .mv rfl rfl (.done ?_)
     exact ⟨(j + 1,lst),by simp only [he]; repeat (first | exact .nil | refine .cons rfl ?_),⟨hlt,by simp only; omega,by simp only; omega,hkd2,hy⟩,by simp only; omega⟩
 ·skip
  refine .sr ?_
  first | refine .tq (t_lssT rfl rfl (by omega)) rfl ?_ | refine .tq (t_lssF rfl rfl (by omega)) rfl ?_ | refine .tq (t_lss rfl rfl) rfl ?_
  refine .done (.seq (.condF rfl (Wp.exit (.sr (.mv rfl rfl (.mv rfl rfl ?_))))))
  first | refine .tq (t_geqT rfl rfl (by omega)) rfl ?_ | refine .tq (t_geqF rfl rfl (by omega)) rfl ?_ | refine .tq (t_geq rfl rfl) rfl ?_
  refine .as rfl rfl (.done (Wp.ret ?_))
  exact ⟨[_],⟨rfl,trivial⟩,rfl,hx⟩
end Go.Proofs.YtcelfjbajdffkaaGreatDoor.Par
