/- The laws of the greentree package: RoundTrip, Identity. Printed by r6/Tj.py. -/
import Derived.Test.YtcelfjbajdffkaaGreatDoorXl
set_option linter.unusedVariables false
set_option linter.unusedSimpArgs false
namespace Go.Proofs.YtcelfjbajdffkaaGreatDoor.Par
set_option maxRecDepth 20000
open Go.Gx Go.RowKit Go.Lib
open Lexi (Asc)
theorem t_beql {P : Program} {n : Nat} {L : Env} {w : World} {d : Option Tmp} {ty : TypeId} {pos : String} {af : Array Edge} {g : Option (Nat × Bool)} {t t' : TypeId} {x y : Operand} {a b : Bool} (hu : P.underlying t = some .bool) (hx : evO L x = some (.bool a)) (hy : evO L y = some (.bool b)) : Tm P n ⟨d,.binOp .eql t x y t',ty,pos,af,g⟩ L w (.bool (a == b)) := fun q ha w' _ => by
 simp [execOp,eqGuard,run_eql_bool (w := w') t a b hu,ha.eval hx,ha.eval hy]
def ArL (w : World) (v : Value) (a : List Gc) : Prop := ArOk (Lo w) w v a
theorem ArL.ext {w w' : World} {v : Value} {a : List Gc} (h : ArL w v a) (x : Ext w w') : ArL w' v a := ArOk.up h x
def GoL (w : World) (g : Gt) : Prop := GOk (Lo w) w g
theorem GoL.ext {w w' : World} {g : Gt} (h : GoL w g) (x : Ext w w') : GoL w' g := GOk.up h x
theorem ArL.oneL {w : World} {v : Value} {a : List Gc} (h : ArL w v a) : ([v].all (·.oneCell')) = true := by
 have := ArOk.one h
 simp [this]
theorem GoL.oneL {w : World} {g : Gt} (h : GoL w g) : (g.cells.all (·.oneCell')) = true := List.all_eq_true.2 (GOk.one h)
structure Small (s : ByteArray) (t : Tr) : Prop where
 parsed : Parsed s t
 wf : t.wf
 cnt : t.cnt ≤ 24 * s.size + 1
 dep : t.dep ≤ 2 * s.size + 8
 txt : t.txt = s.data.toList
 kids : ∃ ks,t = .mk 1 nob ks
theorem Parsed.small {s : ByteArray} {t : Tr} (h : Parsed s t) : Small s t := by
 obtain ⟨r,h1,h2,h3,h4,h5⟩ := parsed s
 obtain rfl := h.unique h1
 refine ⟨h,.inr ⟨by decide,by decide,rfl,h3⟩,by simp only [Tr.cnt]; omega,by simp only [Tr.dep]; omega,?_,r,rfl⟩
 show nob.data.toList ++ txtL r = _
 rw [h2]
 rfl
theorem Small.len {s : ByteArray} {t : Tr} (h : Small s t) : t.txt.length = s.size := by rw [h.txt]; simp
theorem ins_small {s : ByteArray} {t : Tr} {a : List Gn} (h : Small s t) (hs : s.size ≤ 80) (ha : Valid a) (hl : a.length ≤ 2000) : Valid (ins t a).2 ∧ (∃ b,(ins t a).2 = a ++ b) ∧ Rd (ins t a).2 t (ins t a).1 ∧ (ins t a).2.length ≤ a.length + (24 * s.size + 1) := by
 have hc := h.cnt
 have hle := h.len
 obtain ⟨h1,h2,h3,h4⟩ := ins_ok t a ha h.wf (by omega)
 exact ⟨h1,h2,h3,by omega⟩
theorem insert_small {w : World} {s : ByteArray} {v : Value} {a : List Gc} {g : Gt} (hA : ArL w v a) (hg : GoL w g) (hv : Valid (ers a)) (h : Small s g.er) (hs : s.size ≤ 80) (hl : a.length ≤ 1930) :
  Cl Tryz.prog 12 #[.agg #[v],.agg g.cells.toArray] w (fun u w' => ∃ v' a',u = .tuple #[.agg #[v'],.int .i64 (ins g.er (ers a)).1,.int .i64 0] ∧ ArL w' v' a' ∧ ers a' = (ins g.er (ers a)).2 ∧ Ext w w') := by
 have hc := h.cnt
 have hd := h.dep
 have hle := h.len
 obtain ⟨h1,h2,h3,h4⟩ := ins_small h hs hv (by rw [ers_len]; omega)
 rw [ers_len] at h4
 exact insertG_ok hA hg hv (by omega) h.wf (by omega) (by omega) (by omega) (by omega)
theorem pair_idx : (ins pairT []).1 = 1 := by decide +kernel
theorem pair_two : (ins pairT []).2.length = 2 := by decide +kernel
theorem pair_wf : pairT.wf := .inr ⟨by decide,by decide,rfl,.inl ⟨by decide,rfl⟩,.inl ⟨by decide,rfl⟩,trivial⟩
theorem pair_cnt : pairT.cnt = 3 := by decide +kernel
theorem pair_dep : pairT.dep = 2 := by decide +kernel
theorem pair_txt : pairT.txt.length = 2 := by decide +kernel
theorem example_ok {w : World} : Cl Tryz.prog 9 #[] w (fun u w' => u = .bool true ∧ Ext w w') := by
 have hx := Ext.refl w
 obtain ⟨hpv,_,hpr,_⟩ := ins_ok pairT [] Valid.nil pair_wf (by rw [pair_txt]; decide)
 refine Cl.enter Tryz.func9 rfl Tryz.ntmps9 rfl rfl ?_
 refine .sr ?_
 refine .as rfl rfl ?_
 refine .done ?_
 refine .sr ?_
 refine .tq (t_build (bd32) rfl) rfl ?_
 refine Rg.wd trivial (w_call Tryz.call23 rfl pair_ok) rfl ?_
 rintro _ w1 ⟨g,rfl,hge,hg0,hx1⟩
 replace hx := hx.ext hx1
 replace hg0 : GoL w1 g := hg0
 refine Rg.wd trivial (w_call Tryz.call12 rfl (insertG_ok (ArOk.empty _) hg0 Valid.nil (by decide) (by rw [hge]; exact pair_wf) (by rw [hge,pair_cnt]; decide) (by rw [hge,pair_dep]; decide) (by rw [hge,pair_txt]; decide) (by rw [hge]; show (ins pairT []).2.length ≤ _; rw [pair_two]; decide))) rfl ?_
 rintro _ w2 ⟨v,a,rfl,hA,hea,hx2⟩
 replace hx := hx.ext hx2
 replace hg0 := hg0.ext hx2
 replace hA : ArL w2 v a := hA
 rw [hge] at hea ⊢
 replace hea : ers a = (ins pairT []).2 := hea
 rw [show (ins pairT (ers [])).1 = 1 from pair_idx]
 have hone := hA.oneL
 have hal : a.length = 2 := by rw [← ers_len,hea,pair_two]
 rw [← hea,pair_idx] at hpr
 rw [← hea] at hpv
 refine .mv rfl rfl ?_
 refine .tq (t_extract rfl rfl) rfl ?_
 refine .tq (t_extract rfl rfl) rfl ?_
 refine .tq (t_extract rfl rfl) rfl ?_
 refine Rg.wd trivial (w_new Tryz.zeroValue32 rfl) rfl ?_
 rintro _ wab1 ⟨b1,rfl,qb1,hxab1,hvab1⟩
 refine Rg.wn trivial (w_put (cs := [v]) hvab1 rfl rfl rfl (ty32) (rfl) (hone)) ?_
 rintro _ w3 ⟨hub1,hvb1⟩
 have hx3 := hxab1.upd hub1 (Nat.le_of_eq qb1.symm)
 clear hvab1 hub1 hxab1
 replace hx := hx.ext hx3
 replace hg0 := hg0.ext hx3
 replace hA := hA.ext hx3
 clear qb1
 refine .as rfl rfl ?_
 refine .as rfl rfl ?_
 refine .done ?_
 refine .sr ?_
 refine .tq (t_loadA rfl hvb1.cells (by exact ty32)) rfl ?_
 refine .mv rfl rfl ?_
 refine Rg.wd trivial (w_call Tryz.call13 rfl (treeG_ok (i := 1) hA hpv (by omega) hpr (by rw [pair_cnt]; decide))) rfl ?_
 rintro _ w4 ⟨g2,rfl,hge2,hg2,hx4⟩
 replace hx := hx.ext hx4
 replace hg0 := hg0.ext hx4
 replace hA := hA.ext hx4
 replace hvb1 := hvb1.ext hx4
 replace hg2 : GoL w4 g2 := hg2
 have hone2 := hg2.oneL
 refine .mv rfl rfl ?_
 refine .tq (t_extract rfl rfl) rfl ?_
 refine .tq (t_extract rfl rfl) rfl ?_
 refine Rg.wd trivial (w_new Tryz.zeroValue25 rfl) rfl ?_
 rintro _ wab4 ⟨b4,rfl,qb4,hxab4,hvab4⟩
 refine Rg.wn trivial (w_put (cs := g2.cells) hvab4 rfl rfl rfl (by rw [Gt.len]; exact ty25) (by rw [Gt.len]; rfl) (hone2)) ?_
 rintro _ w5 ⟨hub4,hvb4⟩
 have hx5 := hxab4.upd hub4 (Nat.le_of_eq qb4.symm)
 clear hvab4 hub4 hxab4
 replace hx := hx.ext hx5
 replace hg0 := hg0.ext hx5
 replace hA := hA.ext hx5
 replace hvb1 := hvb1.ext hx5
 replace hg2 := hg2.ext hx5
 clear qb4
 refine .as rfl rfl ?_
 refine .done ?_
 refine Wp.seq (Wp.draw [0,1,2,3,4,5,6,7,8,9,10,11,12,13,14,15,16,17,18,19,20,21] [] mixed (by kernel_rfl) (by kernel_rfl) ?_)
 intro w6 hx6 _
 replace hx := hx.ext hx6
 replace hg0 := hg0.ext hx6
 replace hA := hA.ext hx6
 replace hvb1 := hvb1.ext hx6
 replace hg2 := hg2.ext hx6
 replace hvb4 := hvb4.ext hx6
 refine .mv rfl rfl ?_
 first | refine .tq (t_eqlT rfl rfl (by omega)) rfl ?_ | refine .tq (t_eqlF rfl rfl (by omega)) rfl ?_ | refine .tq (t_eql rfl rfl) rfl ?_
 refine .mv rfl rfl ?_
 first | refine .gd (t_fieldAddr fa32_0 rfl) rfl ?_ | refine .so rfl rfl ?_
 refine .gd (t_load ty30 rfl (Cells.get (i := 0) hvb1.cells rfl)) rfl ?_
 refine .gd (t_lenC hA.slc Tryz.underlying30 rfl) rfl ?_
 rw [hal]
 first | refine .gd (t_eqlT rfl rfl (by omega)) rfl ?_ | refine .gd (t_eqlF rfl rfl (by omega)) rfl ?_ | refine .gd (t_eql rfl rfl) rfl ?_ | refine .so rfl rfl ?_
 first | refine .tq (t_pickT rfl rfl) rfl ?_ | refine .tq (t_pickF rfl rfl) rfl ?_
 refine .mv rfl rfl ?_
 first | refine .gd (t_move rfl) rfl ?_ | refine .so rfl rfl ?_
 first | refine .gd (t_eqlT rfl rfl (by omega)) rfl ?_ | refine .gd (t_eqlF rfl rfl (by omega)) rfl ?_ | refine .gd (t_eql rfl rfl) rfl ?_ | refine .so rfl rfl ?_
 first | refine .tq (t_pickT rfl rfl) rfl ?_ | refine .tq (t_pickF rfl rfl) rfl ?_
 refine .mv rfl rfl ?_
 first | refine .gd (t_move rfl) rfl ?_ | refine .so rfl rfl ?_
 first | refine .gd (t_eqlT rfl rfl (by omega)) rfl ?_ | refine .gd (t_eqlF rfl rfl (by omega)) rfl ?_ | refine .gd (t_eql rfl rfl) rfl ?_ | refine .so rfl rfl ?_
 first | refine .tq (t_pickT rfl rfl) rfl ?_ | refine .tq (t_pickF rfl rfl) rfl ?_
 refine .mv rfl rfl ?_
 refine .gd (t_loadA rfl hvb4.cells (by rw [Gt.len]; exact ty25)) rfl ?_
 refine Rg.wdB ⟨_,rfl,rfl⟩ rfl (w_call Tryz.call23 rfl pair_ok) rfl (fun _ _ ⟨_,_,_,_,h⟩ => h) ?_
 rintro _ w7 ⟨g3,rfl,hge3,hg3,hx7⟩
 replace hx := hx.ext hx7
 replace hg0 := hg0.ext hx7
 replace hA := hA.ext hx7
 replace hvb1 := hvb1.ext hx7
 replace hg2 := hg2.ext hx7
 replace hvb4 := hvb4.ext hx7
 replace hg3 : GoL w7 g3 := hg3
 refine Rg.wdB ⟨_,rfl,rfl⟩ rfl (w_call Tryz.call14 rfl (sameTree_ok _ _ _ (Nat.le_refl _) (by rw [hge2,pair_cnt]; decide) _ hg2 hg3)) rfl (fun _ _ h => h.2) ?_
 rintro _ w8 ⟨⟨bb,rfl,hbb⟩,hx8⟩
 replace hx := hx.ext hx8
 replace hg0 := hg0.ext hx8
 replace hA := hA.ext hx8
 replace hvb1 := hvb1.ext hx8
 replace hg2 := hg2.ext hx8
 replace hvb4 := hvb4.ext hx8
 replace hg3 := hg3.ext hx8
 obtain rfl := hbb.2 (hge2.trans hge3.symm)
 first | refine .tq (t_pickT rfl rfl) rfl ?_ | refine .tq (t_pickF rfl rfl) rfl ?_
 refine .as rfl rfl ?_
 refine .done ?_
 refine Wp.ret ?_
 exact ⟨[_],⟨rfl,trivial⟩,rfl,hx⟩
theorem roundTripLaw {w : World} {src : ByteArray} (hA0 : Asc w) : Cl Tryz.prog 3 #[.string src] w (fun u w' => u = .bool true ∧ Ext w w') := by
 have hx := Ext.refl w
 refine Cl.enter Tryz.func3 rfl Tryz.ntmps3 rfl rfl ?_
 refine .sr ?_
 refine .as rfl rfl ?_
 refine .done ?_
 refine .seq ?_
 refine .sr ?_
 refine Rg.wd trivial (w_call Tryz.call9 rfl example_ok) rfl ?_
 rintro _ w1 ⟨rfl,hx1⟩
 replace hx := hx.ext hx1
 refine .tq (t_notB rfl) rfl ?_
 refine .done ?_
 refine .condF rfl ?_
 refine Wp.skip ?_
 refine .sr ?_
 refine .mv rfl rfl ?_
 refine Rg.wd trivial (w_call Tryz.call11 rfl (short_ok (n := 80))) rfl ?_
 rintro _ w2 ⟨rfl,hx2⟩
 replace hx := hx.ext hx2
 obtain ⟨s1,hs1⟩ : ∃ z,src.extract 0 (min src.size 80) = z := ⟨_,rfl⟩
 have hsz1 : s1.size ≤ 80 := by rw [← hs1,ByteArray.size_extract]; omega
 rw [hs1]
 refine Rg.wd trivial (w_call Tryz.call10 rfl (parse_ok (by omega) (hA0.ext hx))) rfl ?_
 rintro _ w3 ⟨g1,rfl,hpp1,hgp1,hx3⟩
 replace hx := hx.ext hx3
 have hsm1 := hpp1.small
 have hg1 : GoL w3 g1 := hgp1.mono fun z hz => hz.2
 have hog1 := hg1.oneL
 clear hgp1 hpp1
 refine .mv rfl rfl ?_
 refine .tq (t_extract rfl rfl) rfl ?_
 refine .tq (t_extract rfl rfl) rfl ?_
 refine Rg.wd trivial (w_new Tryz.zeroValue25 rfl) rfl ?_
 rintro _ wab3 ⟨b3,rfl,qb3,hxab3,hvab3⟩
 refine Rg.wn trivial (w_put (cs := g1.cells) hvab3 rfl rfl rfl (by rw [Gt.len]; exact ty25) (by rw [Gt.len]; rfl) (hog1)) ?_
 rintro _ w4 ⟨hub3,hvb3⟩
 have hx4 := hxab3.upd hub3 (Nat.le_of_eq qb3.symm)
 clear hvab3 hub3 hxab3
 replace hx := hx.ext hx4
 replace hg1 := hg1.ext hx4
 clear qb3
 refine .as rfl rfl ?_
 refine .done ?_
 refine .sr ?_
 refine .tq (t_build (bd32) rfl) rfl ?_
 refine .tq (t_loadA rfl hvb3.cells (by rw [Gt.len]; exact ty25)) rfl ?_
 refine Rg.wd trivial (w_call Tryz.call12 rfl (insert_small (ArOk.empty _) hg1 Valid.nil hsm1 (by omega) (by simp only [List.length_nil]; omega))) rfl ?_
 rintro _ w5 ⟨v2,a2,rfl,hA2,he2,hx5⟩
 replace hx := hx.ext hx5
 replace hg1 := hg1.ext hx5
 replace hvb3 := hvb3.ext hx5
 have hoA2 := hA2.oneL
 obtain ⟨hval,_,hrd,hlen⟩ := ins_small hsm1 (by omega) Valid.nil (by simp)
 rw [show ers [] = [] from rfl] at he2 ⊢
 rw [← he2] at hval hrd hlen
 rw [ers_len] at hlen
 simp only [List.length_nil] at hlen
 refine .mv rfl rfl ?_
 refine .tq (t_extract rfl rfl) rfl ?_
 refine .tq (t_extract rfl rfl) rfl ?_
 refine .tq (t_extract rfl rfl) rfl ?_
 refine Rg.wd trivial (w_new Tryz.zeroValue32 rfl) rfl ?_
 rintro _ wab5 ⟨b5,rfl,qb5,hxab5,hvab5⟩
 refine Rg.wn trivial (w_put (cs := [v2]) hvab5 rfl rfl rfl (ty32) (rfl) (hoA2)) ?_
 rintro _ w6 ⟨hub5,hvb5⟩
 have hx6 := hxab5.upd hub5 (Nat.le_of_eq qb5.symm)
 clear hvab5 hub5 hxab5
 replace hx := hx.ext hx6
 replace hg1 := hg1.ext hx6
 replace hvb3 := hvb3.ext hx6
 replace hA2 := hA2.ext hx6
 clear qb5
 refine .as rfl rfl ?_
 refine .as rfl rfl ?_
 refine .done ?_
 refine .sr ?_
 refine .tq (t_loadA rfl hvb5.cells (by exact ty32)) rfl ?_
 refine .mv rfl rfl ?_
 refine Rg.wd trivial (w_call Tryz.call13 rfl (treeG_ok hA2 hval (by omega) hrd (by have := hsm1.cnt; omega))) rfl ?_
 rintro _ w7 ⟨g4,rfl,hge4,hgk4,hx7⟩
 replace hx := hx.ext hx7
 replace hg1 := hg1.ext hx7
 replace hvb3 := hvb3.ext hx7
 replace hA2 := hA2.ext hx7
 replace hvb5 := hvb5.ext hx7
 have hg4 : GoL w7 g4 := hgk4
 have hog4 := hg4.oneL
 clear hgk4
 refine .mv rfl rfl ?_
 refine .tq (t_extract rfl rfl) rfl ?_
 refine .tq (t_extract rfl rfl) rfl ?_
 refine Rg.wd trivial (w_new Tryz.zeroValue25 rfl) rfl ?_
 rintro _ wab8 ⟨b8,rfl,qb8,hxab8,hvab8⟩
 refine Rg.wn trivial (w_put (cs := g4.cells) hvab8 rfl rfl rfl (by rw [Gt.len]; exact ty25) (by rw [Gt.len]; rfl) (hog4)) ?_
 rintro _ w8 ⟨hub8,hvb8⟩
 have hx8 := hxab8.upd hub8 (Nat.le_of_eq qb8.symm)
 clear hvab8 hub8 hxab8
 replace hx := hx.ext hx8
 replace hg1 := hg1.ext hx8
 replace hvb3 := hvb3.ext hx8
 replace hA2 := hA2.ext hx8
 replace hvb5 := hvb5.ext hx8
 replace hg4 := hg4.ext hx8
 clear qb8
 refine .as rfl rfl ?_
 refine .done ?_
 refine .sr ?_
 refine .tq (t_loadA rfl hvb5.cells (by exact ty32)) rfl ?_
 refine .tq (t_loadA rfl hvb3.cells (by rw [Gt.len]; exact ty25)) rfl ?_
 refine Rg.wd trivial (w_call Tryz.call12 rfl (insert_small hA2 hg1 hval hsm1 (by omega) (by omega))) rfl ?_
 rintro _ w9 ⟨v5,a5,rfl,hA5,he5,hx9⟩
 replace hx := hx.ext hx9
 replace hg1 := hg1.ext hx9
 replace hvb3 := hvb3.ext hx9
 replace hA2 := hA2.ext hx9
 replace hvb5 := hvb5.ext hx9
 replace hg4 := hg4.ext hx9
 replace hvb8 := hvb8.ext hx9
 have hoA5 := hA5.oneL
 have hsame := ins_same hval hrd
 rw [hsame] at he5 ⊢
 refine .mv rfl rfl ?_
 refine .tq (t_extract rfl rfl) rfl ?_
 refine .tq (t_extract rfl rfl) rfl ?_
 refine .tq (t_extract rfl rfl) rfl ?_
 refine Rg.wd trivial (w_new Tryz.zeroValue32 rfl) rfl ?_
 rintro _ wab10 ⟨b10,rfl,qb10,hxab10,hvab10⟩
 refine Rg.wn trivial (w_put (cs := [v5]) hvab10 rfl rfl rfl (ty32) (rfl) (hoA5)) ?_
 rintro _ w10 ⟨hub10,hvb10⟩
 have hx10 := hxab10.upd hub10 (Nat.le_of_eq qb10.symm)
 clear hvab10 hub10 hxab10
 replace hx := hx.ext hx10
 replace hg1 := hg1.ext hx10
 replace hvb3 := hvb3.ext hx10
 replace hA2 := hA2.ext hx10
 replace hvb5 := hvb5.ext hx10
 replace hg4 := hg4.ext hx10
 replace hvb8 := hvb8.ext hx10
 replace hA5 := hA5.ext hx10
 clear qb10
 refine .as rfl rfl ?_
 refine .as rfl rfl ?_
 refine .done ?_
 refine .sr ?_
 refine Rg.wd trivial (w_call Tryz.call9 rfl example_ok) rfl ?_
 rintro _ w11 ⟨rfl,hx11⟩
 replace hx := hx.ext hx11
 replace hg1 := hg1.ext hx11
 replace hvb3 := hvb3.ext hx11
 replace hA2 := hA2.ext hx11
 replace hvb5 := hvb5.ext hx11
 replace hg4 := hg4.ext hx11
 replace hvb8 := hvb8.ext hx11
 replace hA5 := hA5.ext hx11
 replace hvb10 := hvb10.ext hx11
 refine .mv rfl rfl ?_
 first | refine .gd (t_move rfl) rfl ?_ | refine .so rfl rfl ?_
 first | refine .gd (t_eqlT rfl rfl (by omega)) rfl ?_ | refine .gd (t_eqlF rfl rfl (by omega)) rfl ?_ | refine .gd (t_eql rfl rfl) rfl ?_ | refine .so rfl rfl ?_
 first | refine .tq (t_pickT rfl rfl) rfl ?_ | refine .tq (t_pickF rfl rfl) rfl ?_
 refine .mv rfl rfl ?_
 first | refine .gd (t_move rfl) rfl ?_ | refine .so rfl rfl ?_
 first | refine .gd (t_eqlT rfl rfl (by omega)) rfl ?_ | refine .gd (t_eqlF rfl rfl (by omega)) rfl ?_ | refine .gd (t_eql rfl rfl) rfl ?_ | refine .so rfl rfl ?_
 first | refine .tq (t_pickT rfl rfl) rfl ?_ | refine .tq (t_pickF rfl rfl) rfl ?_
 refine .mv rfl rfl ?_
 first | refine .gd (t_move rfl) rfl ?_ | refine .so rfl rfl ?_
 first | refine .gd (t_eqlT rfl rfl (by omega)) rfl ?_ | refine .gd (t_eqlF rfl rfl (by omega)) rfl ?_ | refine .gd (t_eql rfl rfl) rfl ?_ | refine .so rfl rfl ?_
 first | refine .tq (t_pickT rfl rfl) rfl ?_ | refine .tq (t_pickF rfl rfl) rfl ?_
 refine .mv rfl rfl ?_
 first | refine .gd (t_move rfl) rfl ?_ | refine .so rfl rfl ?_
 first | refine .gd (t_eqlT rfl rfl (by omega)) rfl ?_ | refine .gd (t_eqlF rfl rfl (by omega)) rfl ?_ | refine .gd (t_eql rfl rfl) rfl ?_ | refine .so rfl rfl ?_
 first | refine .tq (t_pickT rfl rfl) rfl ?_ | refine .tq (t_pickF rfl rfl) rfl ?_
 refine .mv rfl rfl ?_
 refine .gd (t_loadA rfl hvb8.cells (by rw [Gt.len]; exact ty25)) rfl ?_
 refine .gd (t_loadA rfl hvb3.cells (by rw [Gt.len]; exact ty25)) rfl ?_
 refine Rg.wd ⟨_,rfl,rfl⟩ (w_call Tryz.call14 rfl (sameTree_ok _ g4 g1 (Nat.le_refl _) (by rw [hge4]; have := hsm1.cnt; omega) _ hg4 hg1)) rfl ?_
 rintro _ w12 ⟨⟨bb,rfl,hbb⟩,hx12⟩
 replace hx := hx.ext hx12
 replace hg1 := hg1.ext hx12
 replace hvb3 := hvb3.ext hx12
 replace hA2 := hA2.ext hx12
 replace hvb5 := hvb5.ext hx12
 replace hg4 := hg4.ext hx12
 replace hvb8 := hvb8.ext hx12
 replace hA5 := hA5.ext hx12
 replace hvb10 := hvb10.ext hx12
 obtain rfl := hbb.2 hge4
 first | refine .tq (t_pickT rfl rfl) rfl ?_ | refine .tq (t_pickF rfl rfl) rfl ?_
 refine .mv rfl rfl ?_
 first | refine .gd (t_move rfl) rfl ?_ | refine .so rfl rfl ?_
 first | refine .gd (t_move rfl) rfl ?_ | refine .so rfl rfl ?_
 first | refine .gd (t_eqlT rfl rfl (by omega)) rfl ?_ | refine .gd (t_eqlF rfl rfl (by omega)) rfl ?_ | refine .gd (t_eql rfl rfl) rfl ?_ | refine .so rfl rfl ?_
 first | refine .tq (t_pickT rfl rfl) rfl ?_ | refine .tq (t_pickF rfl rfl) rfl ?_
 refine .mv rfl rfl ?_
 first | refine .gd (t_fieldAddr fa32_0 rfl) rfl ?_ | refine .so rfl rfl ?_
 refine .gd (t_load ty30 rfl (Cells.get (i := 0) hvb10.cells rfl)) rfl ?_
 refine .gd (t_lenC hA5.slc Tryz.underlying30 rfl) rfl ?_
 have hl5 : a5.length = a2.length := by rw [← ers_len,he5,ers_len]
 rw [hl5]
 first | refine .gd (t_fieldAddr fa32_0 rfl) rfl ?_ | refine .so rfl rfl ?_
 refine .gd (t_load ty30 rfl (Cells.get (i := 0) hvb5.cells rfl)) rfl ?_
 refine .gd (t_lenC hA2.slc Tryz.underlying30 rfl) rfl ?_
 first | refine .gd (t_eqlT rfl rfl (by omega)) rfl ?_ | refine .gd (t_eqlF rfl rfl (by omega)) rfl ?_ | refine .gd (t_eql rfl rfl) rfl ?_ | refine .so rfl rfl ?_
 first | refine .tq (t_pickT rfl rfl) rfl ?_ | refine .tq (t_pickF rfl rfl) rfl ?_
 refine .mv rfl rfl ?_
 refine .gd (t_loadA rfl hvb5.cells (by exact ty32)) rfl ?_
 refine Rg.wd ⟨_,rfl,rfl⟩ (w_call Tryz.call15 rfl (validateA_ok hA2 hval (by omega))) rfl ?_
 rintro _ w13 ⟨rfl,hx13⟩
 replace hx := hx.ext hx13
 replace hg1 := hg1.ext hx13
 replace hvb3 := hvb3.ext hx13
 replace hA2 := hA2.ext hx13
 replace hvb5 := hvb5.ext hx13
 replace hg4 := hg4.ext hx13
 replace hvb8 := hvb8.ext hx13
 replace hA5 := hA5.ext hx13
 replace hvb10 := hvb10.ext hx13
 first | refine .gd (t_eqlT rfl rfl (by omega)) rfl ?_ | refine .gd (t_eqlF rfl rfl (by omega)) rfl ?_ | refine .gd (t_eql rfl rfl) rfl ?_ | refine .so rfl rfl ?_
 first | refine .tq (t_pickT rfl rfl) rfl ?_ | refine .tq (t_pickF rfl rfl) rfl ?_
 refine .as rfl rfl ?_
 refine .done ?_
 refine Wp.ret ?_
 exact ⟨[_],⟨rfl,trivial⟩,rfl,hx⟩
theorem identityLaw {w : World} {src dst : ByteArray} (hA0 : Asc w) : Cl Tryz.prog 4 #[.string src,.string dst] w (fun u w' => u = .bool true ∧ Ext w w') := by
 have hx := Ext.refl w
 refine Cl.enter Tryz.func4 rfl Tryz.ntmps4 rfl rfl ?_
 refine .sr ?_
 refine .as rfl rfl ?_
 refine .done ?_
 refine .seq ?_
 refine .sr ?_
 refine Rg.wd trivial (w_call Tryz.call9 rfl example_ok) rfl ?_
 rintro _ w1 ⟨rfl,hx1⟩
 replace hx := hx.ext hx1
 refine .tq (t_notB rfl) rfl ?_
 refine .done ?_
 refine .condF rfl ?_
 refine Wp.skip ?_
 refine .sr ?_
 refine .mv rfl rfl ?_
 refine Rg.wd trivial (w_call Tryz.call11 rfl (short_ok (n := 80))) rfl ?_
 rintro _ w2 ⟨rfl,hx2⟩
 replace hx := hx.ext hx2
 obtain ⟨s1,hs1⟩ : ∃ z,src.extract 0 (min src.size 80) = z := ⟨_,rfl⟩
 have hsz1 : s1.size ≤ 80 := by rw [← hs1,ByteArray.size_extract]; omega
 rw [hs1]
 refine Rg.wd trivial (w_call Tryz.call10 rfl (parse_ok (by omega) (hA0.ext hx))) rfl ?_
 rintro _ w3 ⟨g1,rfl,hpp1,hgp1,hx3⟩
 replace hx := hx.ext hx3
 have hsm1 := hpp1.small
 have hg1 : GoL w3 g1 := hgp1.mono fun z hz => hz.2
 have hog1 := hg1.oneL
 clear hgp1 hpp1
 refine .mv rfl rfl ?_
 refine .tq (t_extract rfl rfl) rfl ?_
 refine .tq (t_extract rfl rfl) rfl ?_
 refine Rg.wd trivial (w_new Tryz.zeroValue25 rfl) rfl ?_
 rintro _ wab5 ⟨b5,rfl,qb5,hxab5,hvab5⟩
 refine Rg.wn trivial (w_put (cs := g1.cells) hvab5 rfl rfl rfl (by rw [Gt.len]; exact ty25) (by rw [Gt.len]; rfl) (hog1)) ?_
 rintro _ w4 ⟨hub5,hvb5⟩
 have hx4 := hxab5.upd hub5 (Nat.le_of_eq qb5.symm)
 clear hvab5 hub5 hxab5
 replace hx := hx.ext hx4
 replace hg1 := hg1.ext hx4
 clear qb5
 refine .as rfl rfl ?_
 refine .done ?_
 refine .sr ?_
 refine .mv rfl rfl ?_
 refine Rg.wd trivial (w_call Tryz.call11 rfl (short_ok (n := 80))) rfl ?_
 rintro _ w5 ⟨rfl,hx5⟩
 replace hx := hx.ext hx5
 replace hg1 := hg1.ext hx5
 replace hvb5 := hvb5.ext hx5
 obtain ⟨s2,hs2⟩ : ∃ z,dst.extract 0 (min dst.size 80) = z := ⟨_,rfl⟩
 have hsz2 : s2.size ≤ 80 := by rw [← hs2,ByteArray.size_extract]; omega
 rw [hs2]
 refine Rg.wd trivial (w_call Tryz.call10 rfl (parse_ok (by omega) (hA0.ext hx))) rfl ?_
 rintro _ w6 ⟨g2,rfl,hpp2,hgp2,hx6⟩
 replace hx := hx.ext hx6
 replace hg1 := hg1.ext hx6
 replace hvb5 := hvb5.ext hx6
 have hsm2 := hpp2.small
 have hg2 : GoL w6 g2 := hgp2.mono fun z hz => hz.2
 have hog2 := hg2.oneL
 clear hgp2 hpp2
 refine .mv rfl rfl ?_
 refine .tq (t_extract rfl rfl) rfl ?_
 refine .tq (t_extract rfl rfl) rfl ?_
 refine Rg.wd trivial (w_new Tryz.zeroValue25 rfl) rfl ?_
 rintro _ wab7 ⟨b7,rfl,qb7,hxab7,hvab7⟩
 refine Rg.wn trivial (w_put (cs := g2.cells) hvab7 rfl rfl rfl (by rw [Gt.len]; exact ty25) (by rw [Gt.len]; rfl) (hog2)) ?_
 rintro _ w7 ⟨hub7,hvb7⟩
 have hx7 := hxab7.upd hub7 (Nat.le_of_eq qb7.symm)
 clear hvab7 hub7 hxab7
 replace hx := hx.ext hx7
 replace hg1 := hg1.ext hx7
 replace hvb5 := hvb5.ext hx7
 replace hg2 := hg2.ext hx7
 clear qb7
 refine .as rfl rfl ?_
 refine .done ?_
 refine .sr ?_
 refine .tq (t_build (bd32) rfl) rfl ?_
 refine .tq (t_loadA rfl hvb5.cells (by rw [Gt.len]; exact ty25)) rfl ?_
 refine Rg.wd trivial (w_call Tryz.call12 rfl (insert_small (ArOk.empty _) hg1 Valid.nil hsm1 (by omega) (by simp only [List.length_nil]; omega))) rfl ?_
 rintro _ w8 ⟨v3,a3,rfl,hA3,he3,hx8⟩
 replace hx := hx.ext hx8
 replace hg1 := hg1.ext hx8
 replace hvb5 := hvb5.ext hx8
 replace hg2 := hg2.ext hx8
 replace hvb7 := hvb7.ext hx8
 have hoA3 := hA3.oneL
 obtain ⟨hval,_,hrd,hlen⟩ := ins_small hsm1 (by omega) Valid.nil (by simp)
 rw [show ers [] = [] from rfl] at he3 ⊢
 rw [← he3] at hval hrd hlen
 rw [ers_len] at hlen
 simp only [List.length_nil] at hlen
 refine .mv rfl rfl ?_
 refine .tq (t_extract rfl rfl) rfl ?_
 refine .tq (t_extract rfl rfl) rfl ?_
 refine .tq (t_extract rfl rfl) rfl ?_
 refine Rg.wd trivial (w_new Tryz.zeroValue32 rfl) rfl ?_
 rintro _ wab9 ⟨b9,rfl,qb9,hxab9,hvab9⟩
 refine Rg.wn trivial (w_put (cs := [v3]) hvab9 rfl rfl rfl (ty32) (rfl) (hoA3)) ?_
 rintro _ w9 ⟨hub9,hvb9⟩
 have hx9 := hxab9.upd hub9 (Nat.le_of_eq qb9.symm)
 clear hvab9 hub9 hxab9
 replace hx := hx.ext hx9
 replace hg1 := hg1.ext hx9
 replace hvb5 := hvb5.ext hx9
 replace hg2 := hg2.ext hx9
 replace hvb7 := hvb7.ext hx9
 replace hA3 := hA3.ext hx9
 clear qb9
 refine .as rfl rfl ?_
 refine .as rfl rfl ?_
 refine .done ?_
 refine .sr ?_
 refine .tq (t_loadA rfl hvb9.cells (by exact ty32)) rfl ?_
 refine .tq (t_loadA rfl hvb7.cells (by rw [Gt.len]; exact ty25)) rfl ?_
 refine Rg.wd trivial (w_call Tryz.call12 rfl (insert_small hA3 hg2 hval hsm2 (by omega) (by omega))) rfl ?_
 rintro _ w10 ⟨v4,a4,rfl,hA4,he4,hx10⟩
 replace hx := hx.ext hx10
 replace hg1 := hg1.ext hx10
 replace hvb5 := hvb5.ext hx10
 replace hg2 := hg2.ext hx10
 replace hvb7 := hvb7.ext hx10
 replace hA3 := hA3.ext hx10
 replace hvb9 := hvb9.ext hx10
 have hoA4 := hA4.oneL
 obtain ⟨hval2,⟨more,hmore⟩,hrd2,hlen2⟩ := ins_small hsm2 (by omega) hval (by rw [ers_len]; omega)
 refine .mv rfl rfl ?_
 refine .tq (t_extract rfl rfl) rfl ?_
 refine .tq (t_extract rfl rfl) rfl ?_
 refine .tq (t_extract rfl rfl) rfl ?_
 refine Rg.wd trivial (w_new Tryz.zeroValue32 rfl) rfl ?_
 rintro _ wab12 ⟨b12,rfl,qb12,hxab12,hvab12⟩
 refine Rg.wn trivial (w_put (cs := [v4]) hvab12 rfl rfl rfl (ty32) (rfl) (hoA4)) ?_
 rintro _ w11 ⟨hub12,hvb12⟩
 have hx11 := hxab12.upd hub12 (Nat.le_of_eq qb12.symm)
 clear hvab12 hub12 hxab12
 replace hx := hx.ext hx11
 replace hg1 := hg1.ext hx11
 replace hvb5 := hvb5.ext hx11
 replace hg2 := hg2.ext hx11
 replace hvb7 := hvb7.ext hx11
 replace hA3 := hA3.ext hx11
 replace hvb9 := hvb9.ext hx11
 replace hA4 := hA4.ext hx11
 clear qb12
 refine .as rfl rfl ?_
 refine .as rfl rfl ?_
 refine .done ?_
 refine .sr ?_
 refine Rg.wd trivial (w_call Tryz.call9 rfl example_ok) rfl ?_
 rintro _ w12 ⟨rfl,hx12⟩
 replace hx := hx.ext hx12
 replace hg1 := hg1.ext hx12
 replace hvb5 := hvb5.ext hx12
 replace hg2 := hg2.ext hx12
 replace hvb7 := hvb7.ext hx12
 replace hA3 := hA3.ext hx12
 replace hvb9 := hvb9.ext hx12
 replace hA4 := hA4.ext hx12
 replace hvb12 := hvb12.ext hx12
 refine .mv rfl rfl ?_
 first | refine .gd (t_move rfl) rfl ?_ | refine .so rfl rfl ?_
 first | refine .gd (t_eqlT rfl rfl (by omega)) rfl ?_ | refine .gd (t_eqlF rfl rfl (by omega)) rfl ?_ | refine .gd (t_eql rfl rfl) rfl ?_ | refine .so rfl rfl ?_
 first | refine .tq (t_pickT rfl rfl) rfl ?_ | refine .tq (t_pickF rfl rfl) rfl ?_
 refine .mv rfl rfl ?_
 first | refine .gd (t_move rfl) rfl ?_ | refine .so rfl rfl ?_
 first | refine .gd (t_eqlT rfl rfl (by omega)) rfl ?_ | refine .gd (t_eqlF rfl rfl (by omega)) rfl ?_ | refine .gd (t_eql rfl rfl) rfl ?_ | refine .so rfl rfl ?_
 first | refine .tq (t_pickT rfl rfl) rfl ?_ | refine .tq (t_pickF rfl rfl) rfl ?_
 refine .mv rfl rfl ?_
 first | refine .gd (t_move rfl) rfl ?_ | refine .so rfl rfl ?_
 first | refine .gd (t_eqlT rfl rfl (by omega)) rfl ?_ | refine .gd (t_eqlF rfl rfl (by omega)) rfl ?_ | refine .gd (t_eql rfl rfl) rfl ?_ | refine .so rfl rfl ?_
 first | refine .tq (t_pickT rfl rfl) rfl ?_ | refine .tq (t_pickF rfl rfl) rfl ?_
 refine .mv rfl rfl ?_
 first | refine .gd (t_move rfl) rfl ?_ | refine .so rfl rfl ?_
 first | refine .gd (t_eqlT rfl rfl (by omega)) rfl ?_ | refine .gd (t_eqlF rfl rfl (by omega)) rfl ?_ | refine .gd (t_eql rfl rfl) rfl ?_ | refine .so rfl rfl ?_
 first | refine .tq (t_pickT rfl rfl) rfl ?_ | refine .tq (t_pickF rfl rfl) rfl ?_
 refine .mv rfl rfl ?_
 first | refine .gd (t_move rfl) rfl ?_ | refine .so rfl rfl ?_
 first | refine .gd (t_move rfl) rfl ?_ | refine .so rfl rfl ?_
 refine .gd (t_eql rfl rfl) rfl ?_
 refine .gd (t_loadA rfl hvb5.cells (by rw [Gt.len]; exact ty25)) rfl ?_
 refine .gd (t_loadA rfl hvb7.cells (by rw [Gt.len]; exact ty25)) rfl ?_
 refine Rg.wd ⟨_,rfl,rfl⟩ (w_call Tryz.call14 rfl (sameTree_ok _ g1 g2 (Nat.le_refl _) (by have := hsm1.cnt; omega) _ hg1 hg2)) rfl ?_
 rintro _ w13 ⟨⟨bb,rfl,hbb⟩,hx13⟩
 replace hx := hx.ext hx13
 replace hg1 := hg1.ext hx13
 replace hvb5 := hvb5.ext hx13
 replace hg2 := hg2.ext hx13
 replace hvb7 := hvb7.ext hx13
 replace hA3 := hA3.ext hx13
 replace hvb9 := hvb9.ext hx13
 replace hA4 := hA4.ext hx13
 replace hvb12 := hvb12.ext hx13
 have hiff : decide (((ins g1.er []).1 : Int) = ((ins g2.er (ers a3)).1 : Int)) = bb := by
  have hiff2 : ((ins g1.er []).1 : Int) = ((ins g2.er (ers a3)).1 : Int) ↔ g1.er = g2.er := by
   constructor
   ·intro e
    have e : (ins g1.er []).1 = (ins g2.er (ers a3)).1 := by omega
    have hr1 := hrd.mono (b := more)
    rw [← hmore,e] at hr1
    exact hr1.unique hrd2
   ·intro e
    rw [← e,ins_same hval hrd]
  cases bb with
  | true => exact decide_eq_true (hiff2.2 (hbb.1 rfl))
  | false => exact decide_eq_false fun e => nomatch hbb.2 (hiff2.1 e)
 refine .gd (t_beql Tryz.underlying4 rfl rfl) rfl ?_
 rw [hiff,show (bb == bb) = true from by simp]
 first | refine .tq (t_pickT rfl rfl) rfl ?_ | refine .tq (t_pickF rfl rfl) rfl ?_
 refine .as rfl rfl ?_
 refine .done ?_
 refine Wp.ret ?_
 exact ⟨[_],⟨rfl,trivial⟩,rfl,hx⟩
end Go.Proofs.YtcelfjbajdffkaaGreatDoor.Par
