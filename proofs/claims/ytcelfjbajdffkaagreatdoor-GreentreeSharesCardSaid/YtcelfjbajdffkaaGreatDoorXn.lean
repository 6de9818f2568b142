/- Relexing as plain data: what stays ahead of an edit, what stays behind it. No program. -/
import Derived.Test.YtcelfjbajdffkaaGreatDoorXc
import Derived.Test.YtcelfjbajdffkaaGreatDoorXm
set_option linter.unusedVariables false
set_option linter.unusedSimpArgs false
namespace Go.Proofs.YtcelfjbajdffkaaGreatDoor.Lexi
def off (s : ByteArray) (k : Nat) : Nat := (catT ((toks s).take k)).size
def spl (s : ByteArray) (a b : Nat) (t : ByteArray) : ByteArray := s.extract 0 a ++ t ++ s.extract b s.size
theorem spl_size {s : ByteArray} {a b : Nat} {t : ByteArray} (h1 : a ≤ b) (h2 : b ≤ s.size) : (spl s a b t).size + b = s.size + a + t.size := by
 unfold spl
 rw [ByteArray.size_append,ByteArray.size_append,ByteArray.size_extract,ByteArray.size_extract]
 omega
end Go.Proofs.YtcelfjbajdffkaaGreatDoor.Lexi
namespace Go.Proofs.YtcelfjbajdffkaaGreatDoor.Par
set_option maxRecDepth 20000
open Go.Gx Go.RowKit Go.Lib
open Lexi (Asc)
open Lexi (spl spl_size)
theorem mod_ok {w : World} {a m : Int} (hm : 0 < m) (hm2 : m < 4611686018427387904) : Cl Tryz.prog 16 #[.int .i64 a,.int .i64 m] w (fun u w' => (∃ r : Nat,u = .int .i64 r ∧ (r : Int) < m ∧ (r : Int) = a % m) ∧ w = w') := by
 have e1 : a.tmod m = if 0 ≤ a ∨ a % m = 0 then a % m else a % m - m := by
  rw [Int.tmod_eq_emod]
  have hd : m ∣ a ↔ a % m = 0 := Int.dvd_iff_emod_eq_zero
  have habs : m.natAbs = m := by omega
  split <;> rename_i h <;> split <;> rename_i h' <;> simp_all <;> omega
 have e2 := Int.emod_nonneg a (by omega : m ≠ 0)
 have e3 := Int.emod_lt_of_pos a hm
 obtain ⟨r,hr⟩ : ∃ r : Nat,a % m = r := ⟨(a % m).toNat,by omega⟩
 by_cases hneg : a.tmod m < 0
 ·skip
  have e4 : a.tmod m + m = r := by split at e1 <;> omega
  refine Cl.enter Tryz.func16 rfl Tryz.ntmps16 rfl rfl ?_
  refine .sr ?_
  refine .as rfl rfl ?_
  refine .done ?_
  refine .sr ?_
  refine .mv rfl rfl ?_
  refine .mv rfl rfl ?_
  refine .tq (t_remI rfl rfl (by omega)) rfl ?_
  refine .as rfl rfl ?_
  refine .done ?_
  refine .seq ?_
  refine .sr ?_
  refine .mv rfl rfl ?_
  first | refine .tq (t_lssT rfl rfl (by omega)) rfl ?_ | refine .tq (t_lssF rfl rfl (by omega)) rfl ?_ | refine .tq (t_lss rfl rfl) rfl ?_
  refine .done ?_
  refine .condT rfl ?_
  refine Wp.region ?_
  refine .mv rfl rfl ?_
  refine .mv rfl rfl ?_
  first | refine .tq (t_addI rfl rfl (by omega)) rfl ?_ | refine .tq (t_add rfl rfl) rfl ?_
  refine .as rfl rfl ?_
  refine .done ?_
  refine .sr ?_
  refine .mv rfl rfl ?_
  refine .as rfl rfl ?_
  refine .done ?_
  refine Wp.ret ?_
  exact ⟨[_],⟨rfl,trivial⟩,⟨r,by simp only [tup]; congr 1,by omega,hr.symm⟩,rfl⟩
 ·skip
  have e4 : a.tmod m = r := by split at e1 <;> omega
  refine Cl.enter Tryz.func16 rfl Tryz.ntmps16 rfl rfl ?_
  refine .sr ?_
  refine .as rfl rfl ?_
  refine .done ?_
  refine .sr ?_
  refine .mv rfl rfl ?_
  refine .mv rfl rfl ?_
  refine .tq (t_remI rfl rfl (by omega)) rfl ?_
  refine .as rfl rfl ?_
  refine .done ?_
  refine .seq ?_
  refine .sr ?_
  refine .mv rfl rfl ?_
  first | refine .tq (t_lssT rfl rfl (by omega)) rfl ?_ | refine .tq (t_lssF rfl rfl (by omega)) rfl ?_ | refine .tq (t_lss rfl rfl) rfl ?_
  refine .done ?_
  refine .condF rfl ?_
  refine Wp.skip ?_
  refine .sr ?_
  refine .mv rfl rfl ?_
  refine .as rfl rfl ?_
  refine .done ?_
  refine Wp.ret ?_
  exact ⟨[_],⟨rfl,trivial⟩,⟨r,by simp only [tup]; congr 1,by omega,hr.symm⟩,rfl⟩
theorem splice_ok {w : World} {s t : ByteArray} {a b : Nat} (hs : s.size ≤ 2000) (ht : t.size ≤ 2000) (hab : a ≤ b) (hb : b ≤ s.size) :
  Cl Tryz.prog 17 #[.string s,.agg #[.int .i64 a,.int .i64 b,.string t]] w (fun u w' => u = .string (spl s a b t) ∧ Ext w w') := by
 have hx := Ext.refl w
 have hz := spl_size (s := s) (t := t) hab hb
 have z1 : (s.extract (0 : Int).toNat (a : Int).toNat).size ≤ 2000 := by rw [ByteArray.size_extract]; omega
 have z2 : (s.extract (b : Int).toNat s.size).size ≤ 2000 := by rw [ByteArray.size_extract]; omega
 have z3 : (s.extract (0 : Int).toNat (a : Int).toNat ++ t).size ≤ 4000 := by rw [ByteArray.size_append]; omega
 refine Cl.enter Tryz.func17 rfl Tryz.ntmps17 rfl rfl ?_
 refine .sr ?_
 refine Rg.wd trivial (w_boxed rfl rfl) rfl ?_
 rintro _ w1 ⟨b3,rfl,qb3,hx1,hv3⟩
 replace hx := hx.ext hx1
 have hc3 := hv3.cells
 refine .as rfl rfl ?_
 refine .done ?_
 refine Wp.seq (Wp.draw [0,1,2,3,4,5,6,7,8,9,10,11,12] [] mixed (by kernel_rfl) (by kernel_rfl) ?_)
 intro w2 hx2 _
 replace hx := hx.ext hx2
 replace hv3 := hv3.ext hx2
 replace hc3 := hc3.ext hx2
 refine .mv rfl rfl ?_
 refine .tq (t_fieldAddr fa41_0 rfl) rfl ?_
 refine .tq (t_load ty3 rfl (by apply Cells.get (i := 0); (case h => assumption); rfl)) rfl ?_
 refine .tq (t_sliceS Tryz.underlying9 rfl rfl rfl (by omega)) rfl ?_
 refine .tq (t_fieldAddr fa41_2 rfl) rfl ?_
 refine .tq (t_load ty9 rfl (by apply Cells.get (i := 2); (case h => assumption); rfl)) rfl ?_
 refine .tq (t_sadd rfl rfl (by omega)) rfl ?_
 refine .mv rfl rfl ?_
 refine .tq (t_fieldAddr fa41_1 rfl) rfl ?_
 refine .tq (t_load ty3 rfl (by apply Cells.get (i := 1); (case h => assumption); rfl)) rfl ?_
 refine .tq (t_sliceS Tryz.underlying9 rfl rfl rfl (by omega)) rfl ?_
 refine .tq (t_sadd rfl rfl (by simp only [Int.toNat_natCast] at z2 z3 ⊢; omega)) rfl ?_
 refine .as rfl rfl ?_
 refine .done ?_
 refine Wp.ret ?_
 exact ⟨[_],⟨rfl,trivial⟩,rfl,hx⟩
def GsL (w : World) (l : List Gt) : Prop := ∀ c ∈ l,GoL w c
theorem GsL.ext {w w' : World} {l : List Gt} (h : GsL w l) (x : Ext w w') : GsL w' l := fun c hc => (h c hc).ext x
theorem Rd.child {a : List Gn} {ks : List Tr} {i : Nat} (h : Rd a (.mk 1 nob ks) i) {c : Tr} (hc : c ∈ ks) : ∃ j,j < a.length ∧ Rd a c j := by
 obtain ⟨w,is,_,h2⟩ := h
 obtain ⟨k,hk,rfl⟩ := List.getElem_of_mem hc
 have hl := RdL.len h2
 have := RdL.at h2 k hk (by omega)
 exact ⟨_,this.lt,this⟩
theorem GoL.children {w : World} {s : ByteArray} {g : Gt} (h : GoL w g) (hp : Small s g.er) : ∃ cv l,g = .mk 1 nob cv l ∧ SlC w cv 3 l.length (encs Gt.cells l) ∧ GsL w l ∧ (∀ c ∈ l,c.er.wf ∧ c.er.cnt ≤ 24 * s.size ∧ c.er.dep ≤ 2 * s.size + 7 ∧ c.er.txt.length ≤ s.size) ∧ l.length ≤ 24 * s.size := by
 obtain ⟨k,t,cv,l⟩ := g
 obtain ⟨ks,e⟩ := hp.kids
 simp only [Gt.er] at e
 injection e with e1 e2 e3
 subst e1 e2
 have hc := hp.cnt
 have hd := hp.dep
 have hl := hp.len
 have hw := hp.wf
 simp only [Gt.er,Tr.cnt,Tr.dep,Tr.txt,Tr.wf,nob] at hc hd hl hw
 cases h with
 | mk h1 h2 h3 h4 =>
  refine ⟨cv,l,rfl,h1,h4,fun c hc' => ?_,?_⟩
  ·have hm : c.er ∈ erL l := by rw [erL_map]; exact List.mem_map_of_mem hc'
   have m1 := cntL_mem hm
   have m2 := depL_mem hm
   have m3 := txtL_mem hm
   rcases hw with ⟨hw,_⟩ | hw
   ·omega
   ·simp at hl
    exact ⟨wfL_mem hw.2.2.2 _ hm,by omega,by omega,by omega⟩
  ·have := len_cntL (erL l)
   rw [erL_len] at this
   omega
theorem sharesLaw {w : World} {src es : ByteArray} {ea eb : Int} (hA0 : Asc w) : Cl Tryz.prog 5 #[.string src,.agg #[.int .i64 ea,.int .i64 eb,.string es]] w (fun u w' => u = .bool true ∧ Ext w w') := by
 have hx := Ext.refl w
 refine Cl.enter Tryz.func5 rfl Tryz.ntmps5 rfl rfl ?_
 refine .sr ?_
 refine Rg.wd trivial (w_boxed (cs := [.int .i64 ea,.int .i64 eb,.string es]) rfl rfl) rfl ?_
 rintro _ w1 ⟨b3,rfl,q3,hx1,hv3⟩
 replace hx := hx.ext hx1
 have hl3 := hx.le
 have q3b : w.heap.size ≤ b3 := by have := hv3.lt; omega
 refine .as rfl rfl ?_
 refine .done ?_
 refine .seq ?_
 refine .sr ?_
 refine Rg.wd trivial (w_call Tryz.call9 rfl example_ok) rfl ?_
 rintro _ w2 ⟨rfl,hx2⟩
 replace hx := hx.ext hx2
 replace hv3 := hv3.ext hx2
 refine .tq (t_notB rfl) rfl ?_
 refine .done ?_
 refine .condF rfl ?_
 refine Wp.skip ?_
 refine .sr ?_
 refine .mv rfl rfl ?_
 refine Rg.wd trivial (w_call Tryz.call11 rfl (short_ok (n := 60))) rfl ?_
 rintro _ w3 ⟨rfl,hx3⟩
 replace hx := hx.ext hx3
 replace hv3 := hv3.ext hx3
 obtain ⟨s1,hs1⟩ : ∃ z,src.extract 0 (min src.size 60) = z := ⟨_,rfl⟩
 have hsz1 : s1.size ≤ 60 := by rw [← hs1,ByteArray.size_extract]; omega
 rw [hs1]
 refine .as rfl rfl ?_
 refine .done ?_
 refine .sr ?_
 refine .tq (t_fieldAddr fa41_0 rfl) rfl ?_
 refine .tq (t_load ty3 rfl (Cells.get (i := 0) hv3.cells rfl)) rfl ?_
 refine .mv rfl rfl ?_
 refine .tq (t_len Tryz.underlying9 rfl) rfl ?_
 first | refine .tq (t_addI rfl rfl (by omega)) rfl ?_ | refine .tq (t_add rfl rfl) rfl ?_
 refine Rg.wd trivial (w_call Tryz.call16 rfl (mod_ok (by omega) (by omega))) rfl ?_
 rintro _ _ ⟨⟨a,rfl,ha,_⟩,rfl⟩
 refine .tq (t_fieldAddr fa41_0 rfl) rfl ?_
 refine Rg.wn trivial (w_putF hv3 ty3 rfl rfl rfl rfl rfl) ?_
 rintro _ w4 ⟨hu,hv3'⟩
 replace hx := hx.upd hu q3b
 clear hv3 hu
 have hv3 := hv3'
 clear hv3'
 simp only [List.set] at hv3
 refine .done ?_
 refine Wp.seq (Wp.draw [0,1,2,3,4,5,6,7,8,9,10,11,12,13] [0] mixed (by kernel_rfl) (by kernel_rfl) ?_)
 intro w5 hx5 _
 replace hx := hx.ext hx5
 replace hv3 := hv3.ext hx5
 refine .tq (t_fieldAddr fa41_0 rfl) rfl ?_
 refine .tq (t_load ty3 rfl (Cells.get (i := 0) hv3.cells rfl)) rfl ?_
 refine .tq (t_fieldAddr fa41_1 rfl) rfl ?_
 refine .tq (t_load ty3 rfl (Cells.get (i := 1) hv3.cells rfl)) rfl ?_
 refine .mv rfl rfl ?_
 refine .tq (t_len Tryz.underlying9 rfl) rfl ?_
 refine .tq (t_fieldAddr fa41_0 rfl) rfl ?_
 refine .tq (t_load ty3 rfl (Cells.get (i := 0) hv3.cells rfl)) rfl ?_
 first | refine .tq (t_subI rfl rfl (by omega)) rfl ?_ | refine .tq (t_sub rfl rfl) rfl ?_
 first | refine .tq (t_addI rfl rfl (by omega)) rfl ?_ | refine .tq (t_add rfl rfl) rfl ?_
 refine Rg.wdB trivial rfl (w_call Tryz.call16 rfl (mod_ok (by omega) (by omega))) rfl (fun _ _ h => h.2 ▸ Below.refl _ _) ?_
 rintro _ _ ⟨⟨c,rfl,hc,_⟩,rfl⟩
 first | refine .tq (t_addI rfl rfl (by omega)) rfl ?_ | refine .tq (t_add rfl rfl) rfl ?_
 rw [show (a : Int) + (c : Nat) = ((a + c : Nat) : Int) from rfl]
 refine .tq (t_fieldAddr fa41_1 rfl) rfl ?_
 refine Rg.wnB trivial rfl (w_putF hv3 ty3 rfl rfl rfl rfl rfl) (by rfl) ?_
 rintro _ w6 ⟨hu,hv3'⟩
 replace hx := hx.upd hu q3b
 clear hv3 hu
 have hv3 := hv3'
 clear hv3'
 simp only [List.set] at hv3
 refine .done ?_
 refine .sr ?_
 refine .tq (t_fieldAddr fa41_2 rfl) rfl ?_
 refine .tq (t_load ty9 rfl (Cells.get (i := 2) hv3.cells rfl)) rfl ?_
 refine Rg.wd trivial (w_call Tryz.call11 rfl (short_ok (n := 20))) rfl ?_
 rintro _ w7 ⟨rfl,hx7⟩
 replace hx := hx.ext hx7
 replace hv3 := hv3.ext hx7
 obtain ⟨s2,hs2⟩ : ∃ z,es.extract 0 (min es.size 20) = z := ⟨_,rfl⟩
 have hsz2 : s2.size ≤ 20 := by rw [← hs2,ByteArray.size_extract]; omega
 rw [hs2]
 refine .tq (t_fieldAddr fa41_2 rfl) rfl ?_
 refine Rg.wn trivial (w_putF hv3 ty9 rfl rfl rfl rfl rfl) ?_
 rintro _ w8 ⟨hu,hv3'⟩
 replace hx := hx.upd hu q3b
 clear hv3 hu
 have hv3 := hv3'
 clear hv3'
 simp only [List.set] at hv3
 refine .done ?_
 refine .sr ?_
 refine .mv rfl rfl ?_
 refine Rg.wd trivial (w_call Tryz.call10 rfl (parse_ok (by omega) (hA0.ext hx))) rfl ?_
 rintro _ w9 ⟨g1,rfl,hpp1,hgp1,hx9⟩
 replace hx := hx.ext hx9
 replace hv3 := hv3.ext hx9
 have hsm1 := hpp1.small
 have hg1 : GoL w9 g1 := hgp1.mono fun z hz => hz.2
 have hog1 := hg1.oneL
 clear hgp1 hpp1
 refine .mv rfl rfl ?_
 refine .tq (t_extract rfl rfl) rfl ?_
 refine .tq (t_extract rfl rfl) rfl ?_
 refine Rg.wd trivial (w_new Tryz.zeroValue25 rfl) rfl ?_
 rintro _ wab5 ⟨b5,rfl,qb5,hxab5,hvab5⟩
 refine Rg.wn trivial (w_put (cs := g1.cells) hvab5 rfl rfl rfl (by rw [Gt.len]; exact ty25) (by rw [Gt.len]; rfl) (hog1)) ?_
 rintro _ w10 ⟨hub5,hvb5⟩
 have hx10 := hxab5.upd hub5 (Nat.le_of_eq qb5.symm)
 clear hvab5 hub5 hxab5
 replace hx := hx.ext hx10
 replace hv3 := hv3.ext hx10
 replace hg1 := hg1.ext hx10
 clear qb5
 refine .as rfl rfl ?_
 refine .done ?_
 refine .sr ?_
 refine .mv rfl rfl ?_
 refine .tq (t_loadA rfl hv3.cells (by exact ty41)) rfl ?_
 refine Rg.wd trivial (w_call Tryz.call17 rfl (splice_ok (by omega) (by omega) (Nat.le_add_right a c) (by omega))) rfl ?_
 rintro _ w11 ⟨rfl,hx11⟩
 replace hx := hx.ext hx11
 replace hv3 := hv3.ext hx11
 replace hg1 := hg1.ext hx11
 replace hvb5 := hvb5.ext hx11
 have hspl := spl_size (s := s1) (t := s2) (a := a) (b := a + c) (by omega) (by omega)
 obtain ⟨s3,hs3⟩ : ∃ z,spl s1 a (a + c) s2 = z := ⟨_,rfl⟩
 rw [hs3] at hspl ⊢
 refine Rg.wd trivial (w_call Tryz.call10 rfl (parse_ok (by omega) (hA0.ext hx))) rfl ?_
 rintro _ w12 ⟨g2,rfl,hpp2,hgp2,hx12⟩
 replace hx := hx.ext hx12
 replace hv3 := hv3.ext hx12
 replace hg1 := hg1.ext hx12
 replace hvb5 := hvb5.ext hx12
 have hsm2 := hpp2.small
 have hg2 : GoL w12 g2 := hgp2.mono fun z hz => hz.2
 have hog2 := hg2.oneL
 clear hgp2 hpp2
 refine .mv rfl rfl ?_
 refine .tq (t_extract rfl rfl) rfl ?_
 refine .tq (t_extract rfl rfl) rfl ?_
 refine Rg.wd trivial (w_new Tryz.zeroValue25 rfl) rfl ?_
 rintro _ wab7 ⟨b7,rfl,qb7,hxab7,hvab7⟩
 refine Rg.wn trivial (w_put (cs := g2.cells) hvab7 rfl rfl rfl (by rw [Gt.len]; exact ty25) (by rw [Gt.len]; rfl) (hog2)) ?_
 rintro _ w13 ⟨hub7,hvb7⟩
 have hx13 := hxab7.upd hub7 (Nat.le_of_eq qb7.symm)
 clear hvab7 hub7 hxab7
 replace hx := hx.ext hx13
 replace hv3 := hv3.ext hx13
 replace hg1 := hg1.ext hx13
 replace hvb5 := hvb5.ext hx13
 replace hg2 := hg2.ext hx13
 clear qb7
 refine .as rfl rfl ?_
 refine .done ?_
 refine .sr ?_
 refine .tq (t_build (bd32) rfl) rfl ?_
 refine .tq (t_loadA rfl hvb5.cells (by rw [Gt.len]; exact ty25)) rfl ?_
 refine Rg.wd trivial (w_call Tryz.call12 rfl (insert_small (ArOk.empty _) hg1 Valid.nil hsm1 (by omega) (by simp only [List.length_nil]; omega))) rfl ?_
 rintro _ w14 ⟨v3,a3,rfl,hA3,he3,hx14⟩
 replace hx := hx.ext hx14
 replace hv3 := hv3.ext hx14
 replace hg1 := hg1.ext hx14
 replace hvb5 := hvb5.ext hx14
 replace hg2 := hg2.ext hx14
 replace hvb7 := hvb7.ext hx14
 have hoA3 := hA3.oneL
 obtain ⟨hval,_,hrd,hlen⟩ := ins_small hsm1 (by omega) Valid.nil (by simp)
 rw [show ers [] = [] from rfl] at he3 ⊢
 rw [← he3] at hval hrd hlen
 rw [ers_len] at hlen
 simp only [List.length_nil] at hlen
 refine .mv rfl rfl ?_
 refine .tq (t_extract rfl rfl) rfl ?_
 refine .tq (t_extract rfl rfl) rfl ?_
 refine .tq (t_extract rfl rfl) rfl ?_
 refine Rg.wd trivial (w_new Tryz.zeroValue32 rfl) rfl ?_
 rintro _ wab9 ⟨b9,rfl,qb9,hxab9,hvab9⟩
 refine Rg.wn trivial (w_put (cs := [v3]) hvab9 rfl rfl rfl (ty32) (rfl) (hoA3)) ?_
 rintro _ w15 ⟨hub9,hvb9⟩
 have hx15 := hxab9.upd hub9 (Nat.le_of_eq qb9.symm)
 clear hvab9 hub9 hxab9
 replace hx := hx.ext hx15
 replace hv3 := hv3.ext hx15
 replace hg1 := hg1.ext hx15
 replace hvb5 := hvb5.ext hx15
 replace hg2 := hg2.ext hx15
 replace hvb7 := hvb7.ext hx15
 replace hA3 := hA3.ext hx15
 clear qb9
 refine .as rfl rfl ?_
 refine .as rfl rfl ?_
 refine .done ?_
 refine .sr ?_
 refine .tq (t_loadA rfl hvb9.cells (by exact ty32)) rfl ?_
 refine .tq (t_loadA rfl hvb7.cells (by rw [Gt.len]; exact ty25)) rfl ?_
 refine Rg.wd trivial (w_call Tryz.call12 rfl (insert_small hA3 hg2 hval hsm2 (by omega) (by omega))) rfl ?_
 rintro _ w16 ⟨v4,a4,rfl,hA4,he4,hx16⟩
 replace hx := hx.ext hx16
 replace hv3 := hv3.ext hx16
 replace hg1 := hg1.ext hx16
 replace hvb5 := hvb5.ext hx16
 replace hg2 := hg2.ext hx16
 replace hvb7 := hvb7.ext hx16
 replace hA3 := hA3.ext hx16
 replace hvb9 := hvb9.ext hx16
 have hoA4 := hA4.oneL
 obtain ⟨hval2,⟨more,hmore⟩,hrd2,hlen2⟩ := ins_small hsm2 (by omega) hval (by rw [ers_len]; omega)
 have hrd1 := hrd.mono (b := more)
 rw [← hmore] at hrd1
 rw [← he4] at hval2 hrd1 hrd2 hlen2 hmore
 rw [ers_len,ers_len] at hlen2
 refine .mv rfl rfl ?_
 refine .tq (t_extract rfl rfl) rfl ?_
 refine .tq (t_extract rfl rfl) rfl ?_
 refine .tq (t_extract rfl rfl) rfl ?_
 refine Rg.wd trivial (w_new Tryz.zeroValue32 rfl) rfl ?_
 rintro _ wab12 ⟨b12,rfl,qb12,hxab12,hvab12⟩
 refine Rg.wn trivial (w_put (cs := [v4]) hvab12 rfl rfl rfl (ty32) (rfl) (hoA4)) ?_
 rintro _ w17 ⟨hub12,hvb12⟩
 have hx17 := hxab12.upd hub12 (Nat.le_of_eq qb12.symm)
 clear hvab12 hub12 hxab12
 replace hx := hx.ext hx17
 replace hv3 := hv3.ext hx17
 replace hg1 := hg1.ext hx17
 replace hvb5 := hvb5.ext hx17
 replace hg2 := hg2.ext hx17
 replace hvb7 := hvb7.ext hx17
 replace hA3 := hA3.ext hx17
 replace hvb9 := hvb9.ext hx17
 replace hA4 := hA4.ext hx17
 clear qb12
 refine .as rfl rfl ?_
 refine .as rfl rfl ?_
 refine .done ?_
 refine .seq ?_
 refine .sr ?_
 refine Rg.wd trivial (w_call Tryz.call9 rfl example_ok) rfl ?_
 rintro _ w18 ⟨rfl,hx18⟩
 replace hx := hx.ext hx18
 replace hv3 := hv3.ext hx18
 replace hg1 := hg1.ext hx18
 replace hvb5 := hvb5.ext hx18
 replace hg2 := hg2.ext hx18
 replace hvb7 := hvb7.ext hx18
 replace hA3 := hA3.ext hx18
 replace hvb9 := hvb9.ext hx18
 replace hA4 := hA4.ext hx18
 replace hvb12 := hvb12.ext hx18
 refine .tq (t_notB rfl) rfl ?_
 refine .mv rfl rfl ?_
 first | refine .gd (t_move rfl) rfl ?_ | refine .so rfl rfl ?_
 first | refine .gd (t_neqT rfl rfl (by omega)) rfl ?_ | refine .gd (t_neqF rfl rfl (by omega)) rfl ?_ | refine .gd (t_neq rfl rfl) rfl ?_ | refine .so rfl rfl ?_
 first | refine .tq (t_pickT rfl rfl) rfl ?_ | refine .tq (t_pickF rfl rfl) rfl ?_
 refine .mv rfl rfl ?_
 first | refine .gd (t_move rfl) rfl ?_ | refine .so rfl rfl ?_
 first | refine .gd (t_neqT rfl rfl (by omega)) rfl ?_ | refine .gd (t_neqF rfl rfl (by omega)) rfl ?_ | refine .gd (t_neq rfl rfl) rfl ?_ | refine .so rfl rfl ?_
 first | refine .tq (t_pickT rfl rfl) rfl ?_ | refine .tq (t_pickF rfl rfl) rfl ?_
 refine .done ?_
 refine .condF rfl ?_
 refine Wp.skip ?_
 refine .seq ?_
 obtain ⟨cv2,l2,rfl,hl2,hch2,hpl2,hn2⟩ := hg2.children hsm2
 obtain ⟨cv1,l1,rfl,hl1,hch1,hpl1,hn1⟩ := hg1.children hsm1
 refine .sr ?_
 refine .tq (t_fieldAddr fa25_2 rfl) rfl ?_
 refine .tq (t_load ty23 rfl (Cells.get (i := 2) hvb7.cells rfl)) rfl ?_
 refine .tq (t_lenC hl2 Tryz.underlying23 rfl) rfl ?_
 refine .mv rfl rfl ?_
 refine .done ?_
 refine Wp.block ?_
 obtain ⟨i1,hi1⟩ : ∃ z,(ins (Gt.er (.mk 1 nob cv1 l1)) []).1 = z := ⟨_,rfl⟩
 obtain ⟨i2,hi2⟩ : ∃ z,(ins (Gt.er (.mk 1 nob cv2 l2)) (ers a3)).1 = z := ⟨_,rfl⟩
 rw [hi1] at hrd hrd1 ⊢
 rw [hi2] at hrd2 ⊢
 clear hv3
 refine Wp.loop (ι := Nat) (fun k => [(5,.pointer (some ⟨b5,0,none⟩)),(7,.pointer (some ⟨b7,0,none⟩)),(9,.pointer (some ⟨b9,0,none⟩)),(12,.pointer (some ⟨b12,0,none⟩)),(10,.int .i64 i1),(13,.int .i64 i2),(91,cv2),(92,.int .i64 l2.length),(93,.int .i64 k)])
  (fun k w' => k ≤ l2.length ∧ Ext w18 w') (fun k => l2.length - k) 0 (by repeat (first | exact .nil | refine .cons rfl ?_)) ⟨Nat.zero_le _,Ext.refl _⟩ ?_
 rintro k w19 ⟨hk,hy⟩
 replace hx := hx.ext hy
 replace hg1 := hg1.ext hy
 replace hvb5 := hvb5.ext hy
 replace hg2 := hg2.ext hy
 replace hvb7 := hvb7.ext hy
 replace hA3 := hA3.ext hy
 replace hvb9 := hvb9.ext hy
 replace hA4 := hA4.ext hy
 replace hvb12 := hvb12.ext hy
 replace hl1 := hl1.ext hy
 replace hl2 := hl2.ext hy
 replace hch1 := hch1.ext hy
 replace hch2 := hch2.ext hy
 by_cases hlt : k < l2.length
 ·skip
  obtain ⟨c,hcm,hce⟩ : ∃ c,c ∈ l2 ∧ c = l2[k] := ⟨_,List.getElem_mem hlt,rfl⟩
  have hgc := hch2 c hcm
  have hoc := hgc.oneL
  obtain ⟨hcw,hcc,hcd,hct⟩ := hpl2 c hcm
  refine .sr ?_
  first | refine .tq (t_lssT rfl rfl (by omega)) rfl ?_ | refine .tq (t_lssF rfl rfl (by omega)) rfl ?_ | refine .tq (t_lss rfl rfl) rfl ?_
  refine .done ?_
  refine .seq ?_
  refine .condT rfl ?_
  refine Wp.skip ?_
  refine .seq ?_
  refine Wp.block ?_
  refine .sr ?_
  refine Rg.ix hl2 trivial rfl rfl Tryz.underlying23 ty25 (by omega) rfl ?_
  intro bt95 ot95 ht95
  rw [Int.toNat_natCast,encs_at Gt.len l2 k hlt,← hce] at ht95
  refine .tq (t_loadA rfl ht95 (by rw [Gt.len]; exact ty25)) rfl ?_
  refine Rg.wd trivial (w_new Tryz.zeroValue25 rfl) rfl ?_
  rintro _ wab16 ⟨b16,rfl,qb16,hxab16,hvab16⟩
  refine Rg.wn trivial (w_put (cs := c.cells) hvab16 rfl rfl rfl (by rw [Gt.len]; exact ty25) (by rw [Gt.len]; rfl) (hoc)) ?_
  rintro _ w20 ⟨hub16,hvb16⟩
  have hx20 := hxab16.upd hub16 (Nat.le_of_eq qb16.symm)
  clear hvab16 hub16 hxab16
  replace hx := hx.ext hx20
  replace hg1 := hg1.ext hx20
  replace hvb5 := hvb5.ext hx20
  replace hg2 := hg2.ext hx20
  replace hvb7 := hvb7.ext hx20
  replace hA3 := hA3.ext hx20
  replace hvb9 := hvb9.ext hx20
  replace hA4 := hA4.ext hx20
  replace hvb12 := hvb12.ext hx20
  replace hl1 := hl1.ext hx20
  replace hl2 := hl2.ext hx20
  replace hch1 := hch1.ext hx20
  replace hch2 := hch2.ext hx20
  replace hy := hy.ext hx20
  replace hgc := hgc.ext hx20
  replace ht95 := ht95.ext hx20
  clear qb16
  refine .done ?_
  refine .sr ?_
  refine .tq (t_fieldAddr fa25_2 rfl) rfl ?_
  refine .tq (t_load ty23 rfl (Cells.get (i := 2) hvb5.cells rfl)) rfl ?_
  refine .tq (t_lenC hl1 Tryz.underlying23 rfl) rfl ?_
  refine .mv rfl rfl ?_
  refine .done ?_
  refine Wp.block ?_
  refine Wp.loop (ι := Nat) (fun j => [(5,.pointer (some ⟨b5,0,none⟩)),(7,.pointer (some ⟨b7,0,none⟩)),(9,.pointer (some ⟨b9,0,none⟩)),(12,.pointer (some ⟨b12,0,none⟩)),(10,.int .i64 i1),(13,.int .i64 i2),(91,cv2),(92,.int .i64 l2.length),(93,.int .i64 k),(16,.pointer (some ⟨b16,0,none⟩)),(98,cv1),(99,.int .i64 l1.length),(100,.int .i64 j)])
   (fun j w' => j ≤ l1.length ∧ Ext w20 w') (fun j => l1.length - j) 0 (by repeat (first | exact .nil | refine .cons rfl ?_)) ⟨Nat.zero_le _,Ext.refl _⟩ ?_
  rintro j w21 ⟨hj,hz⟩
  replace hx := hx.ext hz
  replace hg1 := hg1.ext hz
  replace hvb5 := hvb5.ext hz
  replace hg2 := hg2.ext hz
  replace hvb7 := hvb7.ext hz
  replace hA3 := hA3.ext hz
  replace hvb9 := hvb9.ext hz
  replace hA4 := hA4.ext hz
  replace hvb12 := hvb12.ext hz
  replace hl1 := hl1.ext hz
  replace hl2 := hl2.ext hz
  replace hch1 := hch1.ext hz
  replace hch2 := hch2.ext hz
  replace hy := hy.ext hz
  replace hgc := hgc.ext hz
  replace hvb16 := hvb16.ext hz
  by_cases hlj : j < l1.length
  ·skip
   obtain ⟨f,hfm,hfe⟩ : ∃ f,f ∈ l1 ∧ f = l1[j] := ⟨_,List.getElem_mem hlj,rfl⟩
   have hgf := hch1 f hfm
   have hof := hgf.oneL
   refine .sr ?_
   first | refine .tq (t_lssT rfl rfl (by omega)) rfl ?_ | refine .tq (t_lssF rfl rfl (by omega)) rfl ?_ | refine .tq (t_lss rfl rfl) rfl ?_
   refine .done ?_
   refine .seq ?_
   refine .condT rfl ?_
   refine Wp.skip ?_
   refine .seq ?_
   refine Wp.block ?_
   refine .sr ?_
   refine Rg.ix hl1 trivial rfl rfl Tryz.underlying23 ty25 (by omega) rfl ?_
   intro bt102 ot102 ht102
   rw [Int.toNat_natCast,encs_at Gt.len l1 j hlj,← hfe] at ht102
   refine .tq (t_loadA rfl ht102 (by rw [Gt.len]; exact ty25)) rfl ?_
   refine Rg.wd trivial (w_new Tryz.zeroValue25 rfl) rfl ?_
   rintro _ wab18 ⟨b18,rfl,qb18,hxab18,hvab18⟩
   refine Rg.wn trivial (w_put (cs := f.cells) hvab18 rfl rfl rfl (by rw [Gt.len]; exact ty25) (by rw [Gt.len]; rfl) (hof)) ?_
   rintro _ w22 ⟨hub18,hvb18⟩
   have hx22 := hxab18.upd hub18 (Nat.le_of_eq qb18.symm)
   clear hvab18 hub18 hxab18
   replace hx := hx.ext hx22
   replace hg1 := hg1.ext hx22
   replace hvb5 := hvb5.ext hx22
   replace hg2 := hg2.ext hx22
   replace hvb7 := hvb7.ext hx22
   replace hA3 := hA3.ext hx22
   replace hvb9 := hvb9.ext hx22
   replace hA4 := hA4.ext hx22
   replace hvb12 := hvb12.ext hx22
   replace hl1 := hl1.ext hx22
   replace hl2 := hl2.ext hx22
   replace hch1 := hch1.ext hx22
   replace hch2 := hch2.ext hx22
   replace hy := hy.ext hx22
   replace hgc := hgc.ext hx22
   replace hvb16 := hvb16.ext hx22
   replace hz := hz.ext hx22
   replace hgf := hgf.ext hx22
   replace ht102 := ht102.ext hx22
   clear qb18
   refine .done ?_
   refine .sr ?_
   refine .tq (t_loadA rfl hvb16.cells (by rw [Gt.len]; exact ty25)) rfl ?_
   refine .tq (t_loadA rfl hvb18.cells (by rw [Gt.len]; exact ty25)) rfl ?_
   refine Rg.wd trivial (w_call Tryz.call14 rfl (sameTree_ok _ c f (Nat.le_refl _) (by omega) _ hgc hgf)) rfl ?_
   rintro _ w23 ⟨⟨bb,rfl,hbb⟩,hx23⟩
   replace hx := hx.ext hx23
   replace hg1 := hg1.ext hx23
   replace hvb5 := hvb5.ext hx23
   replace hg2 := hg2.ext hx23
   replace hvb7 := hvb7.ext hx23
   replace hA3 := hA3.ext hx23
   replace hvb9 := hvb9.ext hx23
   replace hA4 := hA4.ext hx23
   replace hvb12 := hvb12.ext hx23
   replace hl1 := hl1.ext hx23
   replace hl2 := hl2.ext hx23
   replace hch1 := hch1.ext hx23
   replace hch2 := hch2.ext hx23
   replace hy := hy.ext hx23
   replace hgc := hgc.ext hx23
   replace hvb16 := hvb16.ext hx23
   replace hz := hz.ext hx23
   replace hgf := hgf.ext hx23
   replace ht102 := ht102.ext hx23
   replace hvb18 := hvb18.ext hx23
   refine .done ?_
   cases bb with
   | true =>
    have hcf : c.er = f.er := hbb.1 rfl
    obtain ⟨q,hq1,hq2⟩ := hrd.child (show f.er ∈ erL l1 from by rw [erL_map]; exact List.mem_map_of_mem hfm)
    rw [ers_len] at hq1
    replace hq2 := hq2.mono (b := more)
    rw [← hmore,← hcf] at hq2
    have hins := ins_same hval2 hq2
    refine .condT rfl ?_
    refine .sr ?_
    refine .tq (t_loadA rfl hvb12.cells (by exact ty32)) rfl ?_
    refine .tq (t_loadA rfl hvb16.cells (by rw [Gt.len]; exact ty25)) rfl ?_
    refine Rg.wd trivial (w_call Tryz.call12 rfl (insertG_ok hA4 hgc hval2 (by omega) hcw (by omega) (by omega) (by omega) (by rw [hins,ers_len]; omega))) rfl ?_
    rintro _ w24 ⟨v9,a9,rfl,hA9,he9,hx24⟩
    replace hx := hx.ext hx24
    replace hg1 := hg1.ext hx24
    replace hvb5 := hvb5.ext hx24
    replace hg2 := hg2.ext hx24
    replace hvb7 := hvb7.ext hx24
    replace hA3 := hA3.ext hx24
    replace hvb9 := hvb9.ext hx24
    replace hA4 := hA4.ext hx24
    replace hvb12 := hvb12.ext hx24
    replace hl1 := hl1.ext hx24
    replace hl2 := hl2.ext hx24
    replace hch1 := hch1.ext hx24
    replace hch2 := hch2.ext hx24
    replace hy := hy.ext hx24
    replace hgc := hgc.ext hx24
    replace hvb16 := hvb16.ext hx24
    replace hz := hz.ext hx24
    replace hgf := hgf.ext hx24
    replace ht102 := ht102.ext hx24
    replace hvb18 := hvb18.ext hx24
    rw [hins]
    replace hA9 : ArL w24 v9 a9 := hA9
    have hoA9 := hA9.oneL
    refine .mv rfl rfl ?_
    refine .tq (t_extract rfl rfl) rfl ?_
    refine .tq (t_extract rfl rfl) rfl ?_
    refine .tq (t_extract rfl rfl) rfl ?_
    refine Rg.wd trivial (w_new Tryz.zeroValue32 rfl) rfl ?_
    rintro _ wab19 ⟨b19,rfl,qb19,hxab19,hvab19⟩
    refine Rg.wn trivial (w_put (cs := [v9]) hvab19 rfl rfl rfl (ty32) (rfl) (hoA9)) ?_
    rintro _ w25 ⟨hub19,hvb19⟩
    have hx25 := hxab19.upd hub19 (Nat.le_of_eq qb19.symm)
    clear hvab19 hub19 hxab19
    replace hx := hx.ext hx25
    replace hg1 := hg1.ext hx25
    replace hvb5 := hvb5.ext hx25
    replace hg2 := hg2.ext hx25
    replace hvb7 := hvb7.ext hx25
    replace hA3 := hA3.ext hx25
    replace hvb9 := hvb9.ext hx25
    replace hA4 := hA4.ext hx25
    replace hvb12 := hvb12.ext hx25
    replace hl1 := hl1.ext hx25
    replace hl2 := hl2.ext hx25
    replace hch1 := hch1.ext hx25
    replace hch2 := hch2.ext hx25
    replace hy := hy.ext hx25
    replace hgc := hgc.ext hx25
    replace hvb16 := hvb16.ext hx25
    replace hz := hz.ext hx25
    replace hgf := hgf.ext hx25
    replace ht102 := ht102.ext hx25
    replace hvb18 := hvb18.ext hx25
    replace hA9 := hA9.ext hx25
    clear qb19
    refine .as rfl rfl ?_
    refine .as rfl rfl ?_
    refine .done ?_
    refine .sr ?_
    refine .mv rfl rfl ?_
    first | refine .tq (t_neqT rfl rfl (by omega)) rfl ?_ | refine .tq (t_neqF rfl rfl (by omega)) rfl ?_ | refine .tq (t_neq rfl rfl) rfl ?_
    refine .mv rfl rfl ?_
    first | refine .gd (t_move rfl) rfl ?_ | refine .so rfl rfl ?_
    first | refine .gd (t_fieldAddr fa32_0 rfl) rfl ?_ | refine .so rfl rfl ?_
    refine .gd (t_load ty30 rfl (Cells.get (i := 0) hvb9.cells rfl)) rfl ?_
    refine .gd (t_lenC hA3.slc Tryz.underlying30 rfl) rfl ?_
    refine .gd (t_geqF rfl rfl (by omega)) rfl ?_
    first | refine .tq (t_pickT rfl rfl) rfl ?_ | refine .tq (t_pickF rfl rfl) rfl ?_
    refine .done ?_
    refine .condF rfl ?_
    refine Wp.skip ?_
    refine Wp.region ?_
    first | refine .tq (t_addI rfl rfl (by omega)) rfl ?_ | refine .tq (t_add rfl rfl) rfl ?_
    refine .mv rfl rfl ?_
    refine .done ?_
    exact ⟨j + 1,by repeat (first | exact .nil | refine .cons rfl ?_),⟨hlj,hz⟩,by omega⟩
   | false =>
    refine .condF rfl ?_
    refine Wp.skip ?_
    refine Wp.region ?_
    first | refine .tq (t_addI rfl rfl (by omega)) rfl ?_ | refine .tq (t_add rfl rfl) rfl ?_
    refine .mv rfl rfl ?_
    refine .done ?_
    exact ⟨j + 1,by repeat (first | exact .nil | refine .cons rfl ?_),⟨hlj,hz⟩,by omega⟩
  ·skip
   refine .sr ?_
   first | refine .tq (t_lssT rfl rfl (by omega)) rfl ?_ | refine .tq (t_lssF rfl rfl (by omega)) rfl ?_ | refine .tq (t_lss rfl rfl) rfl ?_
   refine .done ?_
   refine .seq ?_
   refine .condF rfl ?_
   refine Wp.exit ?_
   refine Wp.region ?_
   first | refine .tq (t_addI rfl rfl (by omega)) rfl ?_ | refine .tq (t_add rfl rfl) rfl ?_
   refine .mv rfl rfl ?_
   refine .done ?_
   exact ⟨k + 1,by repeat (first | exact .nil | refine .cons rfl ?_),⟨hlt,hy⟩,by omega⟩
 ·skip
  refine .sr ?_
  first | refine .tq (t_lssT rfl rfl (by omega)) rfl ?_ | refine .tq (t_lssF rfl rfl (by omega)) rfl ?_ | refine .tq (t_lss rfl rfl) rfl ?_
  refine .done ?_
  refine .seq ?_
  refine .condF rfl ?_
  refine Wp.exit ?_
  refine .sr ?_
  refine .tq (t_loadA rfl hvb12.cells (by exact ty32)) rfl ?_
  refine .mv rfl rfl ?_
  refine Rg.wd trivial (w_call Tryz.call13 rfl (treeG_ok hA4 hval2 (by omega) hrd1 (by have := hsm1.cnt; omega))) rfl ?_
  rintro _ w20 ⟨g5,rfl,hge5,hgk5,hx20⟩
  replace hx := hx.ext hx20
  replace hg1 := hg1.ext hx20
  replace hvb5 := hvb5.ext hx20
  replace hg2 := hg2.ext hx20
  replace hvb7 := hvb7.ext hx20
  replace hA3 := hA3.ext hx20
  replace hvb9 := hvb9.ext hx20
  replace hA4 := hA4.ext hx20
  replace hvb12 := hvb12.ext hx20
  replace hl1 := hl1.ext hx20
  replace hl2 := hl2.ext hx20
  replace hch1 := hch1.ext hx20
  replace hch2 := hch2.ext hx20
  replace hy := hy.ext hx20
  have hg5 : GoL w20 g5 := hgk5
  have hog5 := hg5.oneL
  clear hgk5
  refine .mv rfl rfl ?_
  refine .tq (t_extract rfl rfl) rfl ?_
  refine .tq (t_extract rfl rfl) rfl ?_
  refine Rg.wd trivial (w_new Tryz.zeroValue25 rfl) rfl ?_
  rintro _ wab22 ⟨b22,rfl,qb22,hxab22,hvab22⟩
  refine Rg.wn trivial (w_put (cs := g5.cells) hvab22 rfl rfl rfl (by rw [Gt.len]; exact ty25) (by rw [Gt.len]; rfl) (hog5)) ?_
  rintro _ w21 ⟨hub22,hvb22⟩
  have hx21 := hxab22.upd hub22 (Nat.le_of_eq qb22.symm)
  clear hvab22 hub22 hxab22
  replace hx := hx.ext hx21
  replace hg1 := hg1.ext hx21
  replace hvb5 := hvb5.ext hx21
  replace hg2 := hg2.ext hx21
  replace hvb7 := hvb7.ext hx21
  replace hA3 := hA3.ext hx21
  replace hvb9 := hvb9.ext hx21
  replace hA4 := hA4.ext hx21
  replace hvb12 := hvb12.ext hx21
  replace hl1 := hl1.ext hx21
  replace hl2 := hl2.ext hx21
  replace hch1 := hch1.ext hx21
  replace hch2 := hch2.ext hx21
  replace hy := hy.ext hx21
  replace hg5 := hg5.ext hx21
  clear qb22
  refine .as rfl rfl ?_
  refine .done ?_
  refine .sr ?_
  refine .tq (t_loadA rfl hvb12.cells (by exact ty32)) rfl ?_
  refine .mv rfl rfl ?_
  refine Rg.wd trivial (w_call Tryz.call13 rfl (treeG_ok hA4 hval2 (by omega) hrd2 (by have := hsm2.cnt; omega))) rfl ?_
  rintro _ w22 ⟨g6,rfl,hge6,hgk6,hx22⟩
  replace hx := hx.ext hx22
  replace hg1 := hg1.ext hx22
  replace hvb5 := hvb5.ext hx22
  replace hg2 := hg2.ext hx22
  replace hvb7 := hvb7.ext hx22
  replace hA3 := hA3.ext hx22
  replace hvb9 := hvb9.ext hx22
  replace hA4 := hA4.ext hx22
  replace hvb12 := hvb12.ext hx22
  replace hl1 := hl1.ext hx22
  replace hl2 := hl2.ext hx22
  replace hch1 := hch1.ext hx22
  replace hch2 := hch2.ext hx22
  replace hy := hy.ext hx22
  replace hg5 := hg5.ext hx22
  replace hvb22 := hvb22.ext hx22
  have hg6 : GoL w22 g6 := hgk6
  have hog6 := hg6.oneL
  clear hgk6
  refine .mv rfl rfl ?_
  refine .tq (t_extract rfl rfl) rfl ?_
  refine .tq (t_extract rfl rfl) rfl ?_
  refine Rg.wd trivial (w_new Tryz.zeroValue25 rfl) rfl ?_
  rintro _ wab24 ⟨b24,rfl,qb24,hxab24,hvab24⟩
  refine Rg.wn trivial (w_put (cs := g6.cells) hvab24 rfl rfl rfl (by rw [Gt.len]; exact ty25) (by rw [Gt.len]; rfl) (hog6)) ?_
  rintro _ w23 ⟨hub24,hvb24⟩
  have hx23 := hxab24.upd hub24 (Nat.le_of_eq qb24.symm)
  clear hvab24 hub24 hxab24
  replace hx := hx.ext hx23
  replace hg1 := hg1.ext hx23
  replace hvb5 := hvb5.ext hx23
  replace hg2 := hg2.ext hx23
  replace hvb7 := hvb7.ext hx23
  replace hA3 := hA3.ext hx23
  replace hvb9 := hvb9.ext hx23
  replace hA4 := hA4.ext hx23
  replace hvb12 := hvb12.ext hx23
  replace hl1 := hl1.ext hx23
  replace hl2 := hl2.ext hx23
  replace hch1 := hch1.ext hx23
  replace hch2 := hch2.ext hx23
  replace hy := hy.ext hx23
  replace hg5 := hg5.ext hx23
  replace hvb22 := hvb22.ext hx23
  replace hg6 := hg6.ext hx23
  clear qb24
  refine .as rfl rfl ?_
  refine .done ?_
  refine .sr ?_
  refine .mv rfl rfl ?_
  first | refine .tq (t_eqlT rfl rfl (by omega)) rfl ?_ | refine .tq (t_eqlF rfl rfl (by omega)) rfl ?_ | refine .tq (t_eql rfl rfl) rfl ?_
  refine .mv rfl rfl ?_
  first | refine .gd (t_move rfl) rfl ?_ | refine .so rfl rfl ?_
  first | refine .gd (t_eqlT rfl rfl (by omega)) rfl ?_ | refine .gd (t_eqlF rfl rfl (by omega)) rfl ?_ | refine .gd (t_eql rfl rfl) rfl ?_ | refine .so rfl rfl ?_
  first | refine .tq (t_pickT rfl rfl) rfl ?_ | refine .tq (t_pickF rfl rfl) rfl ?_
  refine .mv rfl rfl ?_
  refine .gd (t_loadA rfl hvb22.cells (by rw [Gt.len]; exact ty25)) rfl ?_
  refine .gd (t_loadA rfl hvb5.cells (by rw [Gt.len]; exact ty25)) rfl ?_
  refine Rg.wd ⟨_,rfl,rfl⟩ (w_call Tryz.call14 rfl (sameTree_ok _ g5 (.mk 1 nob cv1 l1) (Nat.le_refl _) (by rw [hge5]; have := hsm1.cnt; omega) _ hg5 hg1)) rfl ?_
  rintro _ w24 ⟨⟨bb5,rfl,hbb5⟩,hx24⟩
  replace hx := hx.ext hx24
  replace hg1 := hg1.ext hx24
  replace hvb5 := hvb5.ext hx24
  replace hg2 := hg2.ext hx24
  replace hvb7 := hvb7.ext hx24
  replace hA3 := hA3.ext hx24
  replace hvb9 := hvb9.ext hx24
  replace hA4 := hA4.ext hx24
  replace hvb12 := hvb12.ext hx24
  replace hl1 := hl1.ext hx24
  replace hl2 := hl2.ext hx24
  replace hch1 := hch1.ext hx24
  replace hch2 := hch2.ext hx24
  replace hy := hy.ext hx24
  replace hg5 := hg5.ext hx24
  replace hvb22 := hvb22.ext hx24
  replace hg6 := hg6.ext hx24
  replace hvb24 := hvb24.ext hx24
  obtain rfl := hbb5.2 hge5
  first | refine .tq (t_pickT rfl rfl) rfl ?_ | refine .tq (t_pickF rfl rfl) rfl ?_
  refine .mv rfl rfl ?_
  refine .gd (t_loadA rfl hvb24.cells (by rw [Gt.len]; exact ty25)) rfl ?_
  refine .gd (t_loadA rfl hvb7.cells (by rw [Gt.len]; exact ty25)) rfl ?_
  refine Rg.wd ⟨_,rfl,rfl⟩ (w_call Tryz.call14 rfl (sameTree_ok _ g6 (.mk 1 nob cv2 l2) (Nat.le_refl _) (by rw [hge6]; have := hsm2.cnt; omega) _ hg6 hg2)) rfl ?_
  rintro _ w25 ⟨⟨bb6,rfl,hbb6⟩,hx25⟩
  replace hx := hx.ext hx25
  replace hg1 := hg1.ext hx25
  replace hvb5 := hvb5.ext hx25
  replace hg2 := hg2.ext hx25
  replace hvb7 := hvb7.ext hx25
  replace hA3 := hA3.ext hx25
  replace hvb9 := hvb9.ext hx25
  replace hA4 := hA4.ext hx25
  replace hvb12 := hvb12.ext hx25
  replace hl1 := hl1.ext hx25
  replace hl2 := hl2.ext hx25
  replace hch1 := hch1.ext hx25
  replace hch2 := hch2.ext hx25
  replace hy := hy.ext hx25
  replace hg5 := hg5.ext hx25
  replace hvb22 := hvb22.ext hx25
  replace hg6 := hg6.ext hx25
  replace hvb24 := hvb24.ext hx25
  obtain rfl := hbb6.2 hge6
  first | refine .tq (t_pickT rfl rfl) rfl ?_ | refine .tq (t_pickF rfl rfl) rfl ?_
  refine .as rfl rfl ?_
  refine .done ?_
  refine Wp.ret ?_
  exact ⟨[_],⟨rfl,trivial⟩,rfl,hx⟩
end Go.Proofs.YtcelfjbajdffkaaGreatDoor.Par
