/- The walk of the law ServerEvictions. Printed by r5/srvB.py. -/
import Derived.Test.YtliofpegbcegiaaGreatDoorJa
set_option linter.unusedVariables false
set_option linter.unusedSimpArgs false
namespace Go.Proofs.YtliofpegbcegiaaGreatDoor
set_option maxRecDepth 20000
open Go.Gx Go.RowKit Go.Lib
open Lexi (Asc)
theorem fix_kind (p : Ev TE × Value) : (fixP p).1.kind = p.1.kind := fixE_kind p.1
theorem evc_fix (p : Ev TE × Value) (h : p.1.kind = 6) : (evp p).set 1 (.int .i64 20) = evp (fixP p) := by
 simp only [fixP,fixE,if_pos h]
 rfl
theorem fix_not (p : Ev TE × Value) (h : p.1.kind ≠ 6) : fixP p = p := by
 simp only [fixP,fixE,if_neg h]
theorem fix_fix (p : Ev TE × Value) : fixP (fixP p) = fixP p := by
 by_cases h : p.1.kind = 6
 ·obtain ⟨⟨a,b,c,d,e,f,g⟩,v⟩ := p
  simp only at h
  simp [fixP,fixE,h]
 ·rw [fix_not p h,fix_not p h]
theorem encs_set11 : ∀ (l : List (Ev TE × Value)) (i : Nat) (h : i < l.length),l[i].1.kind = 6 → (encs evp l).set (i * 11 + 1) (.int .i64 20) = encs evp (l.set i (fixP l[i]))
 | a :: l,0,h,hk => by
  simp only [List.getElem_cons_zero] at hk ⊢
  rw [show encs evp (a :: l) = evp a ++ encs evp l from List.flatMap_cons,List.set_cons_zero,show encs evp (fixP a :: l) = evp (fixP a) ++ encs evp l from List.flatMap_cons,List.set_append_left _ _ (by show 0 * 11 + 1 < 11; decide)]
  congr 1
  exact evc_fix a hk
 | a :: l,i + 1,h,hk => by
  have ih := encs_set11 l i (by simpa using h) (by simpa using hk)
  rw [show encs evp (a :: l) = evp a ++ encs evp l from List.flatMap_cons,List.set_append_right _ _ (by rw [evp_len]; omega),evp_len,show (i + 1) * 11 + 1 - 11 = i * 11 + 1 from by omega,ih]
  rfl
theorem evictLaw {w : World} {l : List (Ev TE × Value)} {v : Value} (hA : Asc w) (hs : SlC w v 11 l.length (encs evp l)) (hE : ∀ p ∈ l,EvOk w p) (hl : l.length ≤ 9223372036854775807) :
  Cl Tryz.prog 3 #[v] w (fun u w' => u = .bool true ∧ Ext w w') := by
 have hx := Ext.refl w
 obtain ⟨F,hFd⟩ : ∃ F : Fs,F = fun z => z < w.heap.size := ⟨_,rfl⟩
 have hF : Und F w.heap.size := fun z hz => by rw [hFd] at hz; exact hz
 have hF0 : ∀ z,z < w.heap.size → F z := fun z hz => by rw [hFd]; exact hz
 refine Cl.enter Tryz.func3 rfl Tryz.ntmps3 rfl rfl ?_
 refine Wp.seq (Wp.region ?_)
 refine Rg.tm trivial rfl (t_assign rfl) rfl ?_
 refine Rg.done ?_
 refine Wp.seq ?_
 refine Wp.seq (Wp.region ?_)
 refine Rg.wd trivial (w_call Tryz.call8 rfl (serverExample_ok (hA.ext hx))) rfl ?_
 rintro _ w1 ⟨rfl,hx1⟩
 replace hx := hx.ext hx1
 refine Rg.tm trivial rfl (t_notB rfl) rfl ?_
 refine Rg.done ?_
 refine Wp.condF rfl ?_
 refine Wp.skip ?_
 refine Wp.seq (Wp.region ?_)
 refine Rg.tm trivial rfl (t_move rfl) rfl ?_
 refine Rg.wd trivial (w_call Tryz.call9 rfl (shortEvents_ok (n := 15) (hs.ext hx) (fun p hp => (hE p hp).ext hx) hl (by omega))) rfl ?_
 have hle7 := hx.le
 rintro v9 w2 ⟨ho9,hx2⟩
 replace ho9 := own_mono ho9 hle7
 replace hx := hx.ext hx2
 obtain ⟨es,hes⟩ : ∃ es,(l.take 15).map shortP = es := ⟨_,rfl⟩
 have hesl : (l.take 15).length = es.length := by rw [← hes,List.length_map]
 have hes15 : es.length ≤ 15 := by rw [← hesl]; exact takes 15
 have hesE : ∀ p ∈ es,EvOk w p := by rw [← hes]; exact short_ev hE 15
 rw [hes,hesl] at ho9
 refine Rg.tm trivial rfl (t_assign rfl) rfl ?_
 refine Rg.done ?_
 refine Wp.seq ?_
 refine Wp.seq (Wp.region ?_)
 refine Rg.tm trivial rfl (t_move rfl) rfl ?_
 have hs9 := own_slice ho9
 refine Rg.tm trivial rfl (t_lenC hs9 Tryz.underlying22 rfl) rfl ?_
 refine Rg.tm trivial rfl (t_move rfl) rfl ?_
 refine Rg.done ?_
 refine Wp.block ?_
 obtain ⟨g9,c9,rfl⟩ | h0 : (∃ g c,v9 = .slice (some ⟨g,0,none⟩) es.length c) ∨ (es.length = 0 ∧ v9 = .slice none 0 0) := by
  rcases own_wholeG ho9 with ⟨e,h0⟩ | ⟨g,cap,sp,e,_⟩
  ·exact .inr ⟨h0,e⟩
  ·exact .inl ⟨g,cap,e⟩
 rotate_left
 ·obtain ⟨hz,rfl⟩ := h0
  refine Wp.loop (ι := Nat) (fun k => [(0,.slice none 0 0),(9,.int .i64 es.length),(10,.int .i64 k)])
   (fun k w' => k ≤ es.length ∧ (∃ es',es'.length = es.length ∧ es' = (es.take k).map fixP ++ es.drop k ∧ w'.ownsRow w.heap.size 29 11 (.slice none 0 0) es.length (encs evp es')) ∧ Ext w w') (fun k => es.length - k) 0 (by repeat (first | exact .nil | refine .cons rfl ?_)) ⟨Nat.zero_le _,⟨es,rfl,by simp,ho9⟩,hx⟩ ?_
  clear hx ho9 hs9
  rintro k w3 ⟨hk,⟨es',hel,hee,ho9⟩,hx⟩
  have hee2 : es' = es.map fixP := by rw [hee,show es = [] from List.eq_nil_of_length_eq_zero hz]; simp
  rw [hee2] at ho9
  have hk0 : k = 0 := by omega
  subst hk0
  refine Wp.seq (Wp.region ?_)
  refine Rg.tm trivial rfl (t_lssF rfl rfl (by omega)) rfl ?_
  refine Rg.done ?_
  refine Wp.seq ?_
  refine Wp.condF rfl ?_
  refine Wp.exit ?_
  obtain ⟨fs,hfs⟩ : ∃ fs,es.map fixP = fs := ⟨_,rfl⟩
  have hfl : fs.length = es.length := by rw [← hfs,List.length_map]
  rw [hfs] at ho9
  have hfE : ∀ p ∈ fs,EvOk w p := fun p hp => by
   rw [← hfs] at hp
   obtain ⟨q,hq,rfl⟩ := List.mem_map.1 hp
   exact (hesE q hq).fixP
  have hf6 : ∀ e ∈ fs.map (·.1),e.kind = 6 → e.n = 20 := fun e he h6 => by
   obtain ⟨p,hp,rfl⟩ := List.mem_map.1 he
   rw [← hfs] at hp
   obtain ⟨q,hq,rfl⟩ := List.mem_map.1 hp
   rw [fix_kind] at h6
   show (fixE q.1).n = 20
   unfold fixE
   rw [if_pos h6]
  have hwo : (woP fs).map (·.1) = (fs.map (·.1)).filter fun e => decide (e.kind ≠ 7) := by
   unfold woP
   rw [← hfs,List.map_map,show (fixP ∘ fixP : Ev TE × Value → Ev TE × Value) = fixP from funext fix_fix,List.filter_map,List.map_map,List.map_map,List.filter_map]
   rfl
  have hlaw : (playS Cx new0 (fs.map (·.1))).2 = (playS Cx new0 ((woP fs).map (·.1))).2 := by
   rw [hwo]
   exact evict_law cxOk (fs.map (·.1)) ⟨rfl,rfl,rfl,rfl⟩ (inv_new Cx) (inv_new Cx) hf6
  have hwl : (woP fs).length ≤ 15 := by
   have := List.length_filter_le (fun p : Ev TE × Value => decide (p.1.kind ≠ 7)) (fs.map fixP)
   rw [List.length_map] at this
   unfold woP
   omega
  have hwE : ∀ p ∈ woP fs,EvOk w p := fun p hp => by
   unfold woP at hp
   obtain ⟨q,hq,rfl⟩ := List.mem_map.1 (List.mem_filter.1 hp).1
   exact (hfE q hq).fixP
  have hrow : Row w3 29 11 (.slice none 0 0) fs.length (encs evp fs) := by rw [hfl]; exact Row.ofOwn ho9
  refine Wp.seq (Wp.region ?_)
  refine Rg.wd trivial (w_call Tryz.call8 rfl (serverExample_ok (hA.ext hx))) rfl ?_
  rintro _ w3 ⟨rfl,hx3⟩
  replace hx := hx.ext hx3
  replace hrow := hrow.ext hx3
  refine Rg.tm trivial rfl (t_move rfl) rfl ?_
  refine Rg.wd ⟨_,rfl,rfl⟩ (w_call Tryz.call12 rfl (new_ok (hx.ks hF).le')) rfl ?_
  rintro _ w4 ⟨⟨sa,rfl,hsa⟩,hx4⟩
  replace hx := hx.ext hx4
  replace hrow := hrow.ext hx4
  first | refine Rg.tm ⟨_,rfl,rfl⟩ rfl (t_move rfl) rfl ?_ | refine Rg.so rfl rfl ?_
  refine Rg.wd ⟨_,rfl,rfl⟩ (w_call Tryz.call11 rfl (play_ok (k := 0) (l := fs) (w0 := w) hsa (hx.ks hF).le' hx hF0 hA good_new (by omega) (by omega) hrow hfE (.inr (by omega)) (by have := play_len (l := fs.map (·.1)) good_new; rw [List.length_map] at this; omega))) rfl ?_
  rintro v28 wP ⟨hr28,⟨s2,hs2,hbs⟩,ksP⟩
  replace hr28 := hr28.mono (Nat.zero_le _)
  have hrowP := hrow.vk ksP.var (by decide)
  have hxP := Ks.ext0 ksP hx hF0
  clear hsa hx hrow hs2
  have hx := hxP
  have hrow := hrowP
  clear hxP hrowP
  refine Rg.wd ⟨_,rfl,rfl⟩ (w_call Tryz.call12 rfl (new_ok (hx.ks hF).le')) rfl ?_
  rintro _ w5 ⟨⟨sb,rfl,hsb⟩,hx5⟩
  replace hx := hx.ext hx5
  replace hrow := hrow.ext hx5
  replace hr28 := hr28.ext hx5
  first | refine Rg.tm ⟨_,rfl,rfl⟩ rfl (t_move rfl) rfl ?_ | refine Rg.so rfl rfl ?_
  refine Rg.wd ⟨_,rfl,rfl⟩ (w_call Tryz.call14 rfl (without_ok hrow.slc (fun p hp => (hfE p hp).ext hx) (by omega))) rfl ?_
  rintro v31 w6 ⟨ho31,hx6⟩
  replace hx := hx.ext hx6
  replace hrow := hrow.ext hx6
  replace hr28 := hr28.ext hx6
  replace hsb := hsb.ext hx6
  have hrow31 := Row.ofOwn ho31
  refine Rg.wd ⟨_,rfl,rfl⟩ (w_call Tryz.call11 rfl (play_ok (k := 0) (l := woP fs) (w0 := w) hsb (hx.ks hF).le' hx hF0 hA good_new (by omega) (by omega) hrow31 hwE (.inr (by omega)) (by have := play_len (l := (woP fs).map (·.1)) good_new; rw [List.length_map] at this; omega))) rfl ?_
  rintro v32 wR ⟨hr32,⟨s3,hs3,hbs3⟩,ksR⟩
  have hr28R := hr28.vk ksR.var (by decide) (by decide)
  have hxR := Ks.ext0 ksR hx hF0
  clear hx
  have hx := hxR
  clear hxR
  obtain ⟨ps,eps,hoP,hnP⟩ := hr28R
  obtain ⟨qs,eqs,hoQ,hnQ⟩ := hr32
  have hpl : ps.length ≤ 1000 := by
   have h1 := congrArg List.length eps
   rw [List.length_map] at h1
   have := play_len (l := fs.map (·.1)) good_new
   rw [List.length_map] at this
   omega
  refine Rg.wd ⟨_,rfl,rfl⟩ (w_call Tryz.call10 rfl (same_ok (ps := ps) (qs := qs) (own_slice hoP) (own_slice hoQ) hnP hnQ hpl)) rfl ?_
  rintro _ wE ⟨⟨bE,rfl,hbE⟩,hxE⟩
  obtain rfl : bE = true := hbE.2 (by rw [eps,eqs,hlaw])
  replace hx := hx.ext hxE
  first | refine Rg.tm trivial rfl (t_pickT rfl rfl) rfl ?_ | refine Rg.tm trivial rfl (t_pickF rfl rfl) rfl ?_
  refine Rg.tm trivial rfl (t_assign rfl) rfl ?_
  refine Rg.done ?_
  refine Wp.ret ?_
  exact ⟨[_],⟨rfl,trivial⟩,rfl,hx⟩
 ·skip
  refine Wp.loop (ι := Nat) (fun k => [(0,.slice (some ⟨g9,0,none⟩) es.length c9),(9,.int .i64 es.length),(10,.int .i64 k)])
   (fun k w' => k ≤ es.length ∧ (∃ es',es'.length = es.length ∧ es' = (es.take k).map fixP ++ es.drop k ∧ w'.ownsRow w.heap.size 29 11 (.slice (some ⟨g9,0,none⟩) es.length c9) es.length (encs evp es')) ∧ Ext w w') (fun k => es.length - k) 0 (by repeat (first | exact .nil | refine .cons rfl ?_)) ⟨Nat.zero_le _,⟨es,rfl,by simp,ho9⟩,hx⟩ ?_
  clear hx ho9 hs9
  rintro k w3 ⟨hk,⟨es',hel,hee,ho9⟩,hx⟩
  by_cases hlt : k < es.length
  ·have hlt' : k < es'.length := by omega
   have hgk : es'[k] = es[k] := by
    have : es'[k]? = es[k]? := by rw [hee,List.getElem?_append_right (by simp; omega)]; simp; congr 1; omega
    rw [List.getElem?_eq_getElem hlt',List.getElem?_eq_getElem hlt] at this
    exact Option.some.inj this
   have hnext : (es.take (k + 1)).map fixP ++ es.drop (k + 1) = es'.set k (fixP es[k]) := by
    rw [hee,List.take_succ_eq_append_getElem hlt,List.map_append,List.drop_eq_getElem_cons hlt,List.set_append_right _ _ (by simp; omega),show k - ((es.take k).map fixP).length = 0 from by simp; omega,List.set_cons_zero,List.append_assoc]
    rfl
   have hs9 := own_slice ho9
   have hcell : w3.cell? ⟨g9,0 + ((k : Nat) : Int).toNat * 11 + 0,none⟩ = some (.int .i64 es[k].1.kind) := by
    have h := ho9.cellAt (k * 11) (by omega)
    rw [show 0 + ((k : Nat) : Int).toNat * 11 + 0 = k * 11 from by omega,h]
    have h2 := encs_at evp_len es' k hlt'
    rw [List.getElem?_eq_some_iff]
    have h3 : ((encs evp es').drop (k * 11)).take 11 = evp es[k] := by rw [h2,hgk]
    have h4 := congrArg (fun l => l[0]?) h3
    simp only [List.getElem?_take,List.getElem?_drop] at h4
    rw [← List.getElem?_eq_some_iff]
    simpa [evp,evc] using h4
   refine Wp.seq (Wp.region ?_)
   first | refine Rg.tm trivial rfl (t_lssT rfl rfl (by omega)) rfl ?_ | refine Rg.tm trivial rfl (t_lssF rfl rfl (by omega)) rfl ?_ | refine Rg.tm trivial rfl (t_lss rfl rfl) rfl ?_
   refine Rg.done ?_
   refine Wp.seq ?_
   refine Wp.condT rfl ?_
   refine Wp.skip ?_
   refine Wp.seq ?_
   refine Wp.block ?_
   refine Wp.seq (Wp.region ?_)
   refine Rg.tm trivial rfl (t_move rfl) rfl ?_
   refine Rg.tm trivial rfl (t_assign rfl) rfl ?_
   refine Rg.done ?_
   by_cases h6 : es[k].1.kind = 6
   ·skip
    refine Wp.seq (Wp.region ?_)
    refine Rg.tm trivial rfl (t_move rfl) rfl ?_
    refine Rg.tm trivial rfl (t_move rfl) rfl ?_
    refine Rg.tm trivial rfl (t_indexAddrL Tryz.underlying22 ty29 rfl rfl (by omega)) rfl ?_
    refine Rg.tm trivial rfl (t_fieldAddr fa29_0 rfl) rfl ?_
    refine Rg.tm trivial rfl (t_load ty3 rfl hcell) rfl ?_
    refine Rg.tm trivial rfl (t_eqlT rfl rfl h6) rfl ?_
    refine Rg.done ?_
    refine Wp.condT rfl ?_
    refine Wp.region ?_
    refine Rg.tm trivial rfl (t_move rfl) rfl ?_
    refine Rg.tm trivial rfl (t_move rfl) rfl ?_
    refine Rg.tm trivial rfl (t_indexAddrL Tryz.underlying22 ty29 rfl rfl (by omega)) rfl ?_
    refine Rg.tm trivial rfl (t_fieldAddr fa29_1 rfl) rfl ?_
    refine Rg.wn trivial (w_setOwn ho9 ty3 rfl rfl (by rw [show 0 + ((k : Nat) : Int).toNat * 11 + 1 = k * 11 + 1 from by omega]; exact List.getElem?_eq_getElem (by rw [encs_len evp_len]; omega)) rfl rfl) ?_
    rintro _ wS ⟨ho10,huS⟩
    rw [show 0 + ((k : Nat) : Int).toNat * 11 + 1 = k * 11 + 1 from by omega,encs_set11 es' k hlt' (by rw [hgk]; exact h6),hgk] at ho10
    have hB9 : w.heap.size ≤ g9 := (ho9.lt g9 rfl).1
    have hxS := hx.upd huS (by omega)
    refine Rg.done ?_
    refine Wp.region ?_
    first | refine Rg.tm trivial rfl (t_addI rfl rfl (by omega)) rfl ?_ | refine Rg.tm trivial rfl (t_add rfl rfl) rfl ?_
    refine Rg.tm trivial rfl (t_move rfl) rfl ?_
    refine Rg.done ?_
    exact ⟨k + 1,by repeat (first | exact .nil | refine .cons rfl ?_),⟨hlt,⟨es'.set k (fixP es[k]),by rw [List.length_set,hel],hnext.symm,ho10⟩,hxS⟩,by omega⟩
   ·skip
    refine Wp.seq (Wp.region ?_)
    refine Rg.tm trivial rfl (t_move rfl) rfl ?_
    refine Rg.tm trivial rfl (t_move rfl) rfl ?_
    refine Rg.tm trivial rfl (t_indexAddrL Tryz.underlying22 ty29 rfl rfl (by omega)) rfl ?_
    refine Rg.tm trivial rfl (t_fieldAddr fa29_0 rfl) rfl ?_
    refine Rg.tm trivial rfl (t_load ty3 rfl hcell) rfl ?_
    refine Rg.tm trivial rfl (t_eqlF rfl rfl h6) rfl ?_
    refine Rg.done ?_
    refine Wp.condF rfl ?_
    refine Wp.skip ?_
    refine Wp.region ?_
    first | refine Rg.tm trivial rfl (t_addI rfl rfl (by omega)) rfl ?_ | refine Rg.tm trivial rfl (t_add rfl rfl) rfl ?_
    refine Rg.tm trivial rfl (t_move rfl) rfl ?_
    refine Rg.done ?_
    rw [fix_not _ h6,← hgk,List.set_getElem_self] at hnext
    exact ⟨k + 1,by repeat (first | exact .nil | refine .cons rfl ?_),⟨hlt,⟨es',hel,hnext.symm,ho9⟩,hx⟩,by omega⟩
  ·have hk0 : k = es.length := by omega
   subst hk0
   have hee2 : es' = es.map fixP := by rw [hee]; simp
   rw [hee2] at ho9
   refine Wp.seq (Wp.region ?_)
   refine Rg.tm trivial rfl (t_lssF rfl rfl (by omega)) rfl ?_
   refine Rg.done ?_
   refine Wp.seq ?_
   refine Wp.condF rfl ?_
   refine Wp.exit ?_
   obtain ⟨fs,hfs⟩ : ∃ fs,es.map fixP = fs := ⟨_,rfl⟩
   have hfl : fs.length = es.length := by rw [← hfs,List.length_map]
   rw [hfs] at ho9
   have hfE : ∀ p ∈ fs,EvOk w p := fun p hp => by
    rw [← hfs] at hp
    obtain ⟨q,hq,rfl⟩ := List.mem_map.1 hp
    exact (hesE q hq).fixP
   have hf6 : ∀ e ∈ fs.map (·.1),e.kind = 6 → e.n = 20 := fun e he h6 => by
    obtain ⟨p,hp,rfl⟩ := List.mem_map.1 he
    rw [← hfs] at hp
    obtain ⟨q,hq,rfl⟩ := List.mem_map.1 hp
    rw [fix_kind] at h6
    show (fixE q.1).n = 20
    unfold fixE
    rw [if_pos h6]
   have hwo : (woP fs).map (·.1) = (fs.map (·.1)).filter fun e => decide (e.kind ≠ 7) := by
    unfold woP
    rw [← hfs,List.map_map,show (fixP ∘ fixP : Ev TE × Value → Ev TE × Value) = fixP from funext fix_fix,List.filter_map,List.map_map,List.map_map,List.filter_map]
    rfl
   have hlaw : (playS Cx new0 (fs.map (·.1))).2 = (playS Cx new0 ((woP fs).map (·.1))).2 := by
    rw [hwo]
    exact evict_law cxOk (fs.map (·.1)) ⟨rfl,rfl,rfl,rfl⟩ (inv_new Cx) (inv_new Cx) hf6
   have hwl : (woP fs).length ≤ 15 := by
    have := List.length_filter_le (fun p : Ev TE × Value => decide (p.1.kind ≠ 7)) (fs.map fixP)
    rw [List.length_map] at this
    unfold woP
    omega
   have hwE : ∀ p ∈ woP fs,EvOk w p := fun p hp => by
    unfold woP at hp
    obtain ⟨q,hq,rfl⟩ := List.mem_map.1 (List.mem_filter.1 hp).1
    exact (hfE q hq).fixP
   have hrow : Row w3 29 11 (.slice (some ⟨g9,0,none⟩) es.length c9) fs.length (encs evp fs) := by rw [hfl]; exact Row.ofOwn ho9
   refine Wp.seq (Wp.region ?_)
   refine Rg.wd trivial (w_call Tryz.call8 rfl (serverExample_ok (hA.ext hx))) rfl ?_
   rintro _ w3 ⟨rfl,hx3⟩
   replace hx := hx.ext hx3
   replace hrow := hrow.ext hx3
   refine Rg.tm trivial rfl (t_move rfl) rfl ?_
   refine Rg.wd ⟨_,rfl,rfl⟩ (w_call Tryz.call12 rfl (new_ok (hx.ks hF).le')) rfl ?_
   rintro _ w4 ⟨⟨sa,rfl,hsa⟩,hx4⟩
   replace hx := hx.ext hx4
   replace hrow := hrow.ext hx4
   first | refine Rg.tm ⟨_,rfl,rfl⟩ rfl (t_move rfl) rfl ?_ | refine Rg.so rfl rfl ?_
   refine Rg.wd ⟨_,rfl,rfl⟩ (w_call Tryz.call11 rfl (play_ok (k := 0) (l := fs) (w0 := w) hsa (hx.ks hF).le' hx hF0 hA good_new (by omega) (by omega) hrow hfE (.inr (by omega)) (by have := play_len (l := fs.map (·.1)) good_new; rw [List.length_map] at this; omega))) rfl ?_
   rintro v28 wP ⟨hr28,⟨s2,hs2,hbs⟩,ksP⟩
   replace hr28 := hr28.mono (Nat.zero_le _)
   have hrowP := hrow.vk ksP.var (by decide)
   have hxP := Ks.ext0 ksP hx hF0
   clear hsa hx hrow hs2
   have hx := hxP
   have hrow := hrowP
   clear hxP hrowP
   refine Rg.wd ⟨_,rfl,rfl⟩ (w_call Tryz.call12 rfl (new_ok (hx.ks hF).le')) rfl ?_
   rintro _ w5 ⟨⟨sb,rfl,hsb⟩,hx5⟩
   replace hx := hx.ext hx5
   replace hrow := hrow.ext hx5
   replace hr28 := hr28.ext hx5
   first | refine Rg.tm ⟨_,rfl,rfl⟩ rfl (t_move rfl) rfl ?_ | refine Rg.so rfl rfl ?_
   refine Rg.wd ⟨_,rfl,rfl⟩ (w_call Tryz.call14 rfl (without_ok hrow.slc (fun p hp => (hfE p hp).ext hx) (by omega))) rfl ?_
   rintro v31 w6 ⟨ho31,hx6⟩
   replace hx := hx.ext hx6
   replace hrow := hrow.ext hx6
   replace hr28 := hr28.ext hx6
   replace hsb := hsb.ext hx6
   have hrow31 := Row.ofOwn ho31
   refine Rg.wd ⟨_,rfl,rfl⟩ (w_call Tryz.call11 rfl (play_ok (k := 0) (l := woP fs) (w0 := w) hsb (hx.ks hF).le' hx hF0 hA good_new (by omega) (by omega) hrow31 hwE (.inr (by omega)) (by have := play_len (l := (woP fs).map (·.1)) good_new; rw [List.length_map] at this; omega))) rfl ?_
   rintro v32 wR ⟨hr32,⟨s3,hs3,hbs3⟩,ksR⟩
   have hr28R := hr28.vk ksR.var (by decide) (by decide)
   have hxR := Ks.ext0 ksR hx hF0
   clear hx
   have hx := hxR
   clear hxR
   obtain ⟨ps,eps,hoP,hnP⟩ := hr28R
   obtain ⟨qs,eqs,hoQ,hnQ⟩ := hr32
   have hpl : ps.length ≤ 1000 := by
    have h1 := congrArg List.length eps
    rw [List.length_map] at h1
    have := play_len (l := fs.map (·.1)) good_new
    rw [List.length_map] at this
    omega
   refine Rg.wd ⟨_,rfl,rfl⟩ (w_call Tryz.call10 rfl (same_ok (ps := ps) (qs := qs) (own_slice hoP) (own_slice hoQ) hnP hnQ hpl)) rfl ?_
   rintro _ wE ⟨⟨bE,rfl,hbE⟩,hxE⟩
   obtain rfl : bE = true := hbE.2 (by rw [eps,eqs,hlaw])
   replace hx := hx.ext hxE
   first | refine Rg.tm trivial rfl (t_pickT rfl rfl) rfl ?_ | refine Rg.tm trivial rfl (t_pickF rfl rfl) rfl ?_
   refine Rg.tm trivial rfl (t_assign rfl) rfl ?_
   refine Rg.done ?_
   refine Wp.ret ?_
   exact ⟨[_],⟨rfl,trivial⟩,rfl,hx⟩
end Go.Proofs.YtliofpegbcegiaaGreatDoor
