/- What the law ServerHistory wants besides its walk: cancels, writes, asked as plays; stores beside the servers. -/
import Derived.Test.YtliofpegbcegiaaGreatDoorJd
set_option linter.unusedVariables false
set_option linter.unusedSimpArgs false
namespace Go.Proofs.YtliofpegbcegiaaGreatDoor
open Go.Gx Go.RowKit Go.Lib
theorem cancels_snoc : ∀ (l : List Rq) (r : Rq) (st : St),cancels (l ++ [r]) st = (cancelS (cancels l st) r.client r.id).1
 | [],r,st => rfl
 | a :: l,r,st => by
  rw [List.cons_append]
  exact cancels_snoc l r _
theorem good_cancels : ∀ (l : List Rq) {m : Nat} {st : St},Good m st → Good (m + l.length) (cancels l st)
 | [],m,st,h => h
 | r :: l,m,st,h => by
  have := good_cancels l (h.cancel r.client r.id)
  rw [List.length_cons,show m + (l.length + 1) = m + 1 + l.length from by omega]
  exact this
theorem handle_can (st : St) (r : Rq) : handleS Cx st (evCan r) = cancelS st r.client r.id := rfl
def evW (m : MD) : Ev TE := ⟨1,0,0,m.1,m.2,[],⟨0,0,0,0,noB⟩⟩
theorem writes_snoc : ∀ (l : List MD) (m : MD) (st : St),writes (C := Cx) (l ++ [m]) st = (writeS Cx (writes (C := Cx) l st) m.1 m.2).1
 | [],m,st => rfl
 | a :: l,m,st => by
  rw [List.cons_append]
  exact writes_snoc l m _
theorem good_writes : ∀ (l : List MD) {k : Nat} {st : St},Good k st → Good (k + l.length) (writes (C := Cx) l st)
 | [],k,st,h => h
 | m :: l,k,st,h => by
  have := good_writes l (h.write m.1 m.2)
  rw [List.length_cons,show k + (l.length + 1) = k + 1 + l.length from by omega]
  exact this
def evReq (r : Rq) : Ev TE × Value := (⟨4,0,0,noB,noB,[],r⟩,.slice none 0 0)
theorem play_ask (st : St) (r : Rq) : playS Cx st [(evReq r).1,(evRun 1).1] = ((runS (requestS st r).1 1).1,asked st r) := by
 simp only [playS]
 rw [show handleS Cx st (evReq r).1 = ((requestS st r).1,[],(requestS st r).2) from rfl]
 simp only
 rw [show handleS Cx (requestS st r).1 (evRun 1).1 = runS (requestS st r).1 1 from rfl]
 simp [asked]
theorem ask_mods {st : St} (h : Inv Cx st) (r : Rq) : (runS (requestS st r).1 1).1.mods = st.mods := by
 obtain ⟨j,_,_,_,a3,_⟩ := run_spec (h.request r) (n := 1) (by omega)
 rw [a3]
 unfold requestS
 repeat' split
 all_goals rfl
def zrev (r : Rs) : Rs := { r with rev := 0 }
theorem zrev_answer (ms : List MD) (rev : Int) (r : Rq) : zrev (answer ms rev r) = answer ms 0 r := by
 unfold answer zrev
 split
 ·rfl
 ·split <;> rfl
theorem asked_same {a b : St} (ha : Inv Cx a) (hb : Inv Cx b) (pa : a.pend = []) (pb : b.pend = []) (hm : a.mods = b.mods) (r : Rq) : (asked a r).map zrev = (asked b r).map zrev := by
 rw [asked_ok ha pa,asked_ok hb pb]
 split
 ·rfl
 ·simp only [List.map_cons,List.map_nil,zrev_answer,hm]
theorem SvW.updV {F : Fs} {w w' : World} {s : SvQ} {st : St} {b t : Nat} {cs : List Value} (h : SvW F w s st) (hv : Var w b cs t) (hu : Upd b w w') (ht : t ≠ 3 ∧ t ≠ 63 ∧ t ≠ 87 ∧ t ≠ 35 ∧ t ≠ 112 ∧ t ≠ 139 ∧ t ≠ 70 ∧ t ≠ 52 ∧ t ≠ 27) : SvW F w' s st := by
 obtain ⟨h1,h2,h3,h4,h5,h6,h7,h8,h9⟩ := ht
 exact ⟨h.var.upd hu (h.var.ne hv (Ne.symm h7)),h.mods.upd hv hu h8,h.vers.upd hv hu h1,h.pend.upd hv hu h9,⟨h.db.D.upd hv hu h1 h2 h3 h4 h5 h6,h.db.fl,h.db.rel,h.db.act,h.db.stop⟩,h.fS,h.fp⟩
theorem SvW.upd27 {F : Fs} {w w' : World} {s : SvQ} {st : St} {b : Nat} {cs : List Value} (h : SvW F w s st) (hv : Var w b cs 27) (hu : Upd b w w') (hb : ¬ Foot s b) : SvW F w' s st :=
 ⟨h.var.upd hu (h.var.ne hv (by decide)),h.mods.upd hv hu (by decide),h.vers.upd hv hu (by decide),h.pend.vkB fun g hg => hu.block g fun e => hb (by rw [← e]; exact .inr (.inl hg)),⟨h.db.D.upd hv hu (by decide) (by decide) (by decide) (by decide) (by decide) (by decide),h.db.fl,h.db.rel,h.db.act,h.db.stop⟩,h.fS,h.fp⟩
theorem RsW.updB {B : Nat} {w w' : World} {v : Value} {l : List Rs} {g : Nat} {cs : List Value} (h : RsW B w v l) (hv : Var w g cs 43) (hu : Upd g w w') (hne : v.ownBlock ≠ some g) : RsW B w' v l := by
 obtain ⟨ps,h1,⟨h2,h3⟩,h4⟩ := h
 refine ⟨ps,h1,⟨h2,h3.imp id ?_⟩,fun p hp => Row.upd (h4 p hp) hv hu (by decide)⟩
 rintro ⟨g',cap,cur,rfl,hb,hg,k2,k3,k4,k5⟩
 exact ⟨g',cap,cur,rfl,hb,by rw [hu.block g' (fun e => hne (by rw [← e]; rfl))]; exact hg,k2,k3,k4,k5⟩
theorem rsc_set3 : ∀ (ps : List (Rs × Value)) (i : Nat) (h : i < ps.length),(encs rsc ps).set (i * 6 + 3) (.int .i64 0) = encs rsc (ps.set i (zrev ps[i].1,ps[i].2))
 | a :: l,0,h => by
  simp only [List.getElem_cons_zero]
  rw [show encs rsc (a :: l) = rsc a ++ encs rsc l from List.flatMap_cons,List.set_cons_zero,show encs rsc ((zrev a.1,a.2) :: l) = rsc (zrev a.1,a.2) ++ encs rsc l from List.flatMap_cons,List.set_append_left _ _ (by show 0 * 6 + 3 < 6; decide)]
  rfl
 | a :: l,i + 1,h => by
  have ih := rsc_set3 l i (by simpa using h)
  rw [show encs rsc (a :: l) = rsc a ++ encs rsc l from List.flatMap_cons,List.set_append_right _ _ (by rw [rsc_len]; omega),rsc_len,show (i + 1) * 6 + 3 - 6 = i * 6 + 3 from by omega,ih]
  rfl
def zp (p : Rs × Value) : Rs × Value := (zrev p.1,p.2)
theorem zp_next {ps qs : List (Rs × Value)} {k : Nat} (h : k < ps.length) (he : qs = (ps.take k).map zp ++ ps.drop k) (hk : k < qs.length) : (ps.take (k + 1)).map zp ++ ps.drop (k + 1) = qs.set k (zrev qs[k].1,qs[k].2) := by
 have hgk : qs[k] = ps[k] := by
  have : qs[k]? = ps[k]? := by rw [he,List.getElem?_append_right (by simp; omega)]; simp; congr 1; omega
  rw [List.getElem?_eq_getElem hk,List.getElem?_eq_getElem h] at this
  exact Option.some.inj this
 rw [hgk,he,List.take_succ_eq_append_getElem h,List.map_append,List.drop_eq_getElem_cons h,List.set_append_right _ _ (by simp; omega),show k - ((ps.take k).map zp).length = 0 from by simp; omega,List.set_cons_zero,List.append_assoc]
 rfl
theorem zp_map (ps : List (Rs × Value)) : (ps.map zp).map (·.1) = (ps.map (·.1)).map zrev := by
 rw [List.map_map,List.map_map]; rfl
end Go.Proofs.YtliofpegbcegiaaGreatDoor
namespace Go.Proofs.YtliofpegbcegiaaGreatDoor
set_option maxRecDepth 20000
open Go.Gx Go.RowKit Go.Lib
open Lexi (Asc)
theorem RsW.blk {B : Nat} {w : World} {v : Value} {l : List Rs} (h : RsW B w v l) : ∀ g,v.ownBlock = some g → B ≤ g ∧ g < w.heap.size := fun g hg => by
 obtain ⟨ps,_,ho,_⟩ := h
 exact ho.lt g hg
theorem historyLaw {w : World} {l : List (Ev TE × Value)} {v : Value} {r : Rq} (hA : Asc w) (hs : SlC w v 11 l.length (encs evp l)) (hE : ∀ p ∈ l,EvOk w p) (hl : l.length ≤ 9223372036854775807) :
  Cl Tryz.prog 6 #[v,.agg (rc r).toArray] w (fun u w' => u = .bool true ∧ Ext w w') := by
 obtain ⟨rcl,rid,rq,ra,rn⟩ := r
 simp only [rc]
 obtain ⟨i43,hi43,hz43,hsi43,hby43⟩ := inf43
 refine Cl.enter Tryz.func6 rfl Tryz.ntmps6 rfl rfl ?_
 refine Wp.seq (Wp.region ?_)
 refine Rg.wd trivial (w_boxed rfl rfl) rfl ?_
 rintro _ wB ⟨b3,rfl,qb3,hxB,hv3⟩
 have hA1 := hA.ext hxB
 have hs1 := hs.ext hxB
 have hE1 : ∀ p ∈ l,EvOk wB p := fun p hp => (hE p hp).ext hxB
 have hb3 : w.heap.size ≤ b3 ∧ b3 < wB.heap.size := ⟨by omega,hv3.lt⟩
 have hy := Ext.refl wB
 refine Rg.tm trivial rfl (t_assign rfl) rfl ?_
 refine Rg.done ?_
 refine Wp.seq ?_
 refine Wp.seq (Wp.region ?_)
 refine Rg.wd trivial (w_call Tryz.call8 rfl (serverExample_ok (hA1.ext hy))) rfl ?_
 rintro _ w2 ⟨rfl,hx2⟩
 replace hy := hy.ext hx2
 refine Rg.tm trivial rfl (t_notB rfl) rfl ?_
 refine Rg.done ?_
 refine Wp.condF rfl ?_
 refine Wp.skip ?_
 refine Wp.seq (Wp.region ?_)
 refine Rg.wd trivial (w_call Tryz.call12 rfl (new_ok (blw_und hy))) rfl ?_
 rintro _ w3 ⟨⟨a,rfl,ha⟩,hx3⟩
 replace hy := hy.ext hx3
 refine Rg.tm trivial rfl (t_assign rfl) rfl ?_
 refine Rg.done ?_
 refine Wp.seq (Wp.region ?_)
 refine Rg.tm trivial rfl (t_move rfl) rfl ?_
 refine Rg.tm trivial rfl (t_move rfl) rfl ?_
 refine Rg.wd trivial (w_call Tryz.call9 rfl (shortEvents_ok (n := 12) (hs1.ext hy) (fun p hp => (hE1 p hp).ext hy) hl (by omega))) rfl ?_
 rintro v9 w4 ⟨ho9,hx4⟩
 replace hy := hy.ext hx4
 replace ha := ha.ext hx4
 obtain ⟨es,hes⟩ : ∃ es,(l.take 12).map shortP = es := ⟨_,rfl⟩
 have hesl : (l.take 12).length = es.length := by rw [← hes,List.length_map]
 have hes12 : es.length ≤ 12 := by rw [← hesl]; exact takes 12
 have hesE : ∀ p ∈ es,EvOk wB p := by rw [← hes]; exact short_ev hE1 12
 rw [hes,hesl] at ho9
 have hrow := Row.ofOwn ho9
 obtain ⟨st,hst⟩ : ∃ st,(playS Cx new0 (es.map (·.1))).1 = st := ⟨_,rfl⟩
 have hG : Good 12 st := by rw [← hst]; exact (good_new.play (l := es.map (·.1))).mono (k' := 12) (by rw [List.length_map]; omega)
 have hf := hG.fine (by omega)
 have hpl := hf.plen
 have hml := hf.mlen
 refine Rg.wd trivial (w_call Tryz.call11 rfl (play_ok (k := 0) (l := es) (w0 := wB) ha.rest (rest_und _ _) hy (ha.rest_of hy (fun _ h => h)) hA1 good_new (by omega) (by omega) hrow hesE (.inr (by omega)) (by have := play_len (l := es.map (·.1)) good_new; rw [List.length_map] at this; omega))) rfl ?_
 rintro v22 wP ⟨_,⟨a2,ha2,hba⟩,ksP⟩
 rw [hst] at ha2
 have hy2 := Ks.ext0 ksP hy (ha.rest_of hy (fun _ h => h))
 have ha3 := ha.blw hy ha2
 rw [← hba]
 clear ha ha2 hy hrow
 have hy := hy2
 have ha := ha3
 clear hy2 ha3
 refine Rg.done ?_
 refine Wp.seq ?_
 refine Wp.seq (Wp.region ?_)
 refine Rg.tm trivial rfl (t_move rfl) rfl ?_
 refine Rg.wd trivial (w_call Tryz.call15 rfl (pending_ok ha (by omega))) rfl ?_
 rintro v24 wQ ⟨hp24,hxQ⟩
 have haP := ha
 replace ha := ha.ext hxQ
 replace hy := hy.ext hxQ
 have hps := own_slice hp24
 have haR := ha.rest
 have hR0 := ha.rest_of hy (fun _ h => h)
 refine Rg.tm trivial rfl (t_lenC hps Tryz.underlying38 rfl) rfl ?_
 refine Rg.tm trivial rfl (t_move rfl) rfl ?_
 refine Rg.done ?_
 refine Wp.block ?_
 refine Wp.loop (ι := Nat) (fun i => [(3,.pointer (some ⟨b3,0,none⟩)),(5,.pointer (some ⟨a2.bS,0,none⟩)),(24,v24),(25,.int .i64 st.pend.length),(26,.int .i64 i)])
  (fun i w' => i ≤ st.pend.length ∧ (∃ s',SvW (Rest wQ a2) w' s' (cancels (st.pend.take i) st) ∧ s'.bS = a2.bS) ∧ Ks (Rest wQ a2) wQ w') (fun i => st.pend.length - i) 0 (by repeat (first | exact .nil | refine .cons rfl ?_)) ⟨Nat.zero_le _,⟨a2,haR,rfl⟩,Ks.refl (rest_und _ _)⟩ ?_
 rintro i w3 ⟨hil,⟨s3,hs3,hbs3⟩,ks⟩
 rw [← hbs3]
 have hGi := good_cancels (st.pend.take i) hG
 rw [List.length_take,Nat.min_eq_left hil] at hGi
 have hyy := Ext.refl w3
 by_cases hlt : i < st.pend.length
 ·have hsn : cancels (st.pend.take (i + 1)) st = (cancelS (cancels (st.pend.take i) st) st.pend[i].client st.pend[i].id).1 := by
   rw [List.take_succ_eq_append_getElem hlt,cancels_snoc]
  obtain ⟨sti,hsti⟩ : ∃ x,cancels (st.pend.take i) st = x := ⟨_,rfl⟩
  rw [hsti] at hs3 hsn hGi
  have hfi := hGi.fine (by omega)
  have hp3 := own_slice (own_rest (B := 0) haP hp24 ks)
  obtain ⟨r,hr⟩ : ∃ r,st.pend[i] = r := ⟨_,rfl⟩
  rw [hr] at hsn
  rw [← handle_can] at hsn
  obtain ⟨r1,r2,r3,r4,r5⟩ := r
  have heC : EvOk wB (evCan ⟨r1,r2,r3,r4,r5⟩,.slice none 0 0) := evOk_nil (by decide)
  refine Wp.seq (Wp.region ?_)
  first | refine Rg.tm trivial rfl (t_lssT rfl rfl (by omega)) rfl ?_ | refine Rg.tm trivial rfl (t_lssF rfl rfl (by omega)) rfl ?_ | refine Rg.tm trivial rfl (t_lss rfl rfl) rfl ?_
  refine Rg.done ?_
  refine Wp.seq ?_
  refine Wp.condT rfl ?_
  refine Wp.skip ?_
  refine Wp.seq ?_
  refine Wp.block ?_
  refine Wp.seq (Wp.region ?_)
  refine Rg.ix hp3 trivial rfl rfl Tryz.underlying38 ty27 (by omega) rfl ?_
  intro bt28 ot28 ht28
  rw [Int.toNat_natCast,encs_at rc_len st.pend i hlt,hr] at ht28
  simp only [rc] at ht28
  refine Rg.tm trivial rfl (t_loadA rfl ht28 ty27) rfl ?_
  refine Rg.wd trivial (w_new Tryz.zeroValue27 rfl) rfl ?_
  rintro _ wa ⟨b7,rfl,qb7,hxa,hva⟩
  refine Rg.wn trivial (w_put hva rfl rfl rfl ty27 rfl rfl) ?_
  rintro _ w5 ⟨hu,hv7⟩
  have hx5 := hxa.upd hu (Nat.le_of_eq qb7.symm)
  replace hyy := hyy.ext hx5
  replace hp3 := hp3.ext hx5
  replace ht28 := ht28.ext hx5
  have hc7 := hv7.cells
  clear hva hu ht28 hp3
  refine Rg.done ?_
  refine Wp.region ?_
  refine Rg.tm trivial rfl (t_move rfl) rfl ?_
  refine Rg.tm trivial rfl (t_loadA rfl hc7 ty27) rfl ?_
  refine Rg.tm trivial rfl (t_build (bd29_0_6 _ _ _ _ _ _) rfl) rfl ?_
  refine Rg.wd trivial (w_call Tryz.call17 rfl (handle_ok (e := evCan ⟨r1,r2,r3,r4,r5⟩) (ve := .slice none 0 0) (hs3.ext hyy) (ks.ext hyy).le' (hA1.ext (Ks.ext0 (ks.ext hyy) hy hR0)) hfi hGi.dbi (heC.ext (Ks.ext0 (ks.ext hyy) hy hR0)).edits heC.few heC.short (fun e => absurd e (by show (5 : Int) ≠ 7; decide)) heC.max)) rfl ?_
  rintro _ wH ⟨_,⟨s4,hs4,hbs4⟩,ksH⟩
  rw [← hsn] at hs4
  have ks2 := (ks.ext hyy).trans ksH
  refine Rg.done ?_
  refine Wp.region ?_
  first | refine Rg.tm trivial rfl (t_addI rfl rfl (by omega)) rfl ?_ | refine Rg.tm trivial rfl (t_add rfl rfl) rfl ?_
  refine Rg.tm trivial rfl (t_move rfl) rfl ?_
  refine Rg.done ?_
  exact ⟨i + 1,by repeat (first | exact .nil | refine .cons rfl ?_),⟨hlt,⟨s4,hs4,hbs4⟩,ks2⟩,by omega⟩
 ·obtain rfl : i = st.pend.length := by omega
  rw [List.take_length] at hs3 hGi
  obtain ⟨z1,z2,z3⟩ := cancels_pend (C := Cx) st.pend hG.inv rfl
  obtain ⟨sa,hsa⟩ : ∃ sa,cancels st.pend st = sa := ⟨_,rfl⟩
  rw [hsa] at hs3 hGi z1 z2 z3
  have hyW := Ks.ext0 ks hy hR0
  have ha4 : SvW (Blw wB) w3 s3 sa := hs3.reF fun z hz hb => hs3.not z hz (hR0 z hb)
  clear hy hyy ha haR hs3 ks hps hp24 haP
  have hy := hyW
  have ha := ha4
  clear hyW ha4
  refine Wp.seq (Wp.region ?_)
  first | refine Rg.tm trivial rfl (t_lssT rfl rfl (by omega)) rfl ?_ | refine Rg.tm trivial rfl (t_lssF rfl rfl (by omega)) rfl ?_ | refine Rg.tm trivial rfl (t_lss rfl rfl) rfl ?_
  refine Rg.done ?_
  refine Wp.seq ?_
  refine Wp.condF rfl ?_
  refine Wp.exit ?_
  refine Wp.seq (Wp.region ?_)
  refine Rg.wd trivial (w_call Tryz.call12 rfl (new_ok (blw_und (Ext.refl _)))) rfl ?_
  have hlta := ha.lt
  rintro _ w5 ⟨⟨b,rfl,hb⟩,hx5⟩
  have hT : Two wB w5 s3 b sa new0 := ⟨ha.ext hx5,hb.reF fun z hz hw => hb.not z hz (Nat.lt_of_lt_of_le hw hy.le),fun z h1 h2 => hb.not z h2 (hlta z h1)⟩
  clear ha hb hlta
  replace hy := hy.ext hx5
  refine Rg.tm trivial rfl (t_assign rfl) rfl ?_
  refine Rg.done ?_
  refine Wp.seq ?_
  refine Wp.seq (Wp.region ?_)
  refine Rg.tm trivial rfl (t_move rfl) rfl ?_
  refine Rg.wd trivial (w_call Tryz.call19 rfl (modules_ok hT.a (by rw [z2]; omega))) rfl ?_
  rintro v37 wM ⟨hm37,hxM⟩
  replace hy := hy.ext hxM
  replace hT := hT.ext hxM
  rw [z2] at hm37
  have hbR := hT.b.rest
  have hS0 := hT.b.rest_of hy (fun _ h => h)
  have hms37 := own_slice hm37
  refine Rg.tm trivial rfl (t_lenC hms37 Tryz.underlying49 rfl) rfl ?_
  refine Rg.tm trivial rfl (t_move rfl) rfl ?_
  refine Rg.done ?_
  refine Wp.block ?_
  refine Wp.loop (ι := Nat) (fun i => [(3,.pointer (some ⟨b3,0,none⟩)),(5,.pointer (some ⟨s3.bS,0,none⟩)),(8,.pointer (some ⟨b.bS,0,none⟩)),(37,v37),(38,.int .i64 st.mods.length),(39,.int .i64 i)])
   (fun i w' => i ≤ st.mods.length ∧ (∃ s',SvW (Rest wM b) w' s' (writes (C := Cx) (st.mods.take i) new0) ∧ s'.bS = b.bS) ∧ Ks (Rest wM b) wM w') (fun i => st.mods.length - i) 0 (by repeat (first | exact .nil | refine .cons rfl ?_)) ⟨Nat.zero_le _,⟨b,hbR,rfl⟩,Ks.refl (rest_und _ _)⟩ ?_
  rintro i w4 ⟨hil,⟨s4,hs4,hbs4⟩,ks⟩
  rw [← hbs4]
  have hGj := good_writes (st.mods.take i) good_new
  rw [List.length_take,Nat.min_eq_left hil,Nat.zero_add] at hGj
  have hyy := Ext.refl w4
  by_cases hlt : i < st.mods.length
  ·have hsn : writes (C := Cx) (st.mods.take (i + 1)) new0 = (writeS Cx (writes (C := Cx) (st.mods.take i) new0) st.mods[i].1 st.mods[i].2).1 := by
    rw [List.take_succ_eq_append_getElem hlt,writes_snoc]
   obtain ⟨sti,hsti⟩ : ∃ x,writes (C := Cx) (st.mods.take i) new0 = x := ⟨_,rfl⟩
   rw [hsti] at hs4 hsn hGj
   have hfi := hGj.fine (by omega)
   have hm4 := own_slice (own_ks (F := Blw w) hm37 ks.var (by decide))
   obtain ⟨m,hm⟩ : ∃ m,st.mods[i] = m := ⟨_,rfl⟩
   rw [hm] at hsn
   obtain ⟨nm,tx⟩ := m
   have hsn' : writes (C := Cx) (st.mods.take (i + 1)) new0 = (handleS Cx sti (evW (nm,tx))).1 := hsn
   have heC : EvOk wB (evW (nm,tx),.slice none 0 0) := evOk_nil (by decide)
   refine Wp.seq (Wp.region ?_)
   first | refine Rg.tm trivial rfl (t_lssT rfl rfl (by omega)) rfl ?_ | refine Rg.tm trivial rfl (t_lssF rfl rfl (by omega)) rfl ?_ | refine Rg.tm trivial rfl (t_lss rfl rfl) rfl ?_
   refine Rg.done ?_
   refine Wp.seq ?_
   refine Wp.condT rfl ?_
   refine Wp.skip ?_
   refine Wp.seq ?_
   refine Wp.block ?_
   refine Wp.seq (Wp.region ?_)
   refine Rg.ix hm4 trivial rfl rfl Tryz.underlying49 ty52 (by omega) rfl ?_
   intro bt41 ot41 ht41
   rw [Int.toNat_natCast,encs_at mc_len st.mods i hlt,hm] at ht41
   simp only [mc] at ht41
   refine Rg.tm trivial rfl (t_loadA rfl ht41 ty52) rfl ?_
   refine Rg.wd trivial (w_new Tryz.zeroValue52 rfl) rfl ?_
   rintro _ wa ⟨b10,rfl,qb10,hxa,hva⟩
   refine Rg.wn trivial (w_put hva rfl rfl rfl ty52 rfl rfl) ?_
   rintro _ w7 ⟨hu,hv10⟩
   have hx7 := hxa.upd hu (Nat.le_of_eq qb10.symm)
   replace hyy := hyy.ext hx7
   replace hm4 := hm4.ext hx7
   replace ht41 := ht41.ext hx7
   have hc10 := hv10.cells
   clear hva hu ht41 hm4
   refine Rg.done ?_
   refine Wp.region ?_
   refine Rg.tm trivial rfl (t_move rfl) rfl ?_
   refine Rg.tm trivial rfl (t_fieldAddr fa52_0 rfl) rfl ?_
   refine Rg.tm trivial rfl (t_load ty9 rfl (Cells.get (i := 0) hc10 rfl)) rfl ?_
   refine Rg.tm trivial rfl (t_fieldAddr fa52_1 rfl) rfl ?_
   refine Rg.tm trivial rfl (t_load ty9 rfl (Cells.get (i := 1) hc10 rfl)) rfl ?_
   refine Rg.tm trivial rfl (t_build (bd29_0_3_4 _ _ _) rfl) rfl ?_
   refine Rg.wd trivial (w_call Tryz.call17 rfl (handle_ok (e := evW (nm,tx)) (ve := .slice none 0 0) (hs4.ext hyy) (ks.ext hyy).le' (hA1.ext (Ks.ext0 (ks.ext hyy) hy hS0)) hfi hGj.dbi (heC.ext (Ks.ext0 (ks.ext hyy) hy hS0)).edits heC.few heC.short (fun e => absurd e (by show (1 : Int) ≠ 7; decide)) heC.max)) rfl ?_
   rintro _ wH ⟨_,⟨s5,hs5,hbs5⟩,ksH⟩
   rw [← hsn'] at hs5
   have ks2 := (ks.ext hyy).trans ksH
   refine Rg.done ?_
   refine Wp.region ?_
   first | refine Rg.tm trivial rfl (t_addI rfl rfl (by omega)) rfl ?_ | refine Rg.tm trivial rfl (t_add rfl rfl) rfl ?_
   refine Rg.tm trivial rfl (t_move rfl) rfl ?_
   refine Rg.done ?_
   exact ⟨i + 1,by repeat (first | exact .nil | refine .cons rfl ?_),⟨hlt,⟨s5,hs5,hbs5⟩,ks2⟩,by omega⟩
  ·obtain rfl : i = st.mods.length := by omega
   rw [List.take_length] at hs4 hGj
   obtain ⟨y1,y2,y3⟩ := writes_ok cxOk (all := st.mods) hG.inv.sorted hG.inv.ok st.mods [] (inv_new Cx) rfl rfl rfl
   obtain ⟨sb,hsb⟩ : ∃ sb,writes (C := Cx) st.mods new0 = sb := ⟨_,rfl⟩
   rw [hsb] at hs4 hGj y1 y2 y3
   have hT4 := (hT.swap.step hy hs4 ks).swap
   have hyW := hT.swap.ks0 hy ks
   have hasked := asked_same z3 y3 z1 y2 (z2.trans y1.symm)
   have hv34 := hv3.ext hyW
   have hc3 := hv34.cells
   clear hy hT hbR hs4 ks hyy
   have hy := hyW
   have hT := hT4
   clear hyW hT4
   have hGa : Good 40 sa := hGi.mono (k' := 40) (by omega)
   have hGb : Good 40 sb := hGj.mono (k' := 40) (by omega)
   refine Wp.seq (Wp.region ?_)
   first | refine Rg.tm trivial rfl (t_lssT rfl rfl (by omega)) rfl ?_ | refine Rg.tm trivial rfl (t_lssF rfl rfl (by omega)) rfl ?_ | refine Rg.tm trivial rfl (t_lss rfl rfl) rfl ?_
   refine Rg.done ?_
   refine Wp.seq ?_
   refine Wp.condF rfl ?_
   refine Wp.exit ?_
   refine Wp.seq ?_
   by_cases h8 : rq = 8
   ·skip
    refine Wp.seq (Wp.region ?_)
    refine Rg.tm trivial rfl (t_fieldAddr fa27_2 rfl) rfl ?_
    refine Rg.tm trivial rfl (t_load ty3 rfl (Cells.get (i := 2) hc3 rfl)) rfl ?_
    refine Rg.tm trivial rfl (t_eqlT rfl rfl h8) rfl ?_
    refine Rg.done ?_
    refine Wp.condT rfl ?_
    refine Wp.region ?_
    refine Rg.tm trivial rfl (t_fieldAddr fa27_3 rfl) rfl ?_
    refine Rg.tm trivial rfl (t_load ty3 rfl (Cells.get (i := 3) hc3 rfl)) rfl ?_
    refine Rg.wd trivial (w_call Tryz.call16 rfl (mod_ok (n := 300) (by omega) (by omega))) rfl ?_
    rintro _ w7 ⟨⟨kk,rfl,hkk,_⟩,hx7⟩
    replace hy := hy.ext hx7
    replace hT := hT.ext hx7
    replace hv34 := hv34.ext hx7
    clear hc3
    refine Rg.tm trivial rfl (t_fieldAddr fa27_3 rfl) rfl ?_
    refine Rg.wn trivial (w_putF hv34 ty3 rfl rfl rfl rfl rfl) ?_
    rintro _ wS ⟨huS,hvS⟩
    simp only [List.set] at hvS
    have hna : ∀ {w9 : World} {x : SvQ} {sx : St},SvW (Blw wB) w9 x sx → ¬ Foot x b3 := fun h hf => h.not b3 hf hb3.2
    have hxw : Ext w wS := (hxB.ext hy).upd huS hb3.1
    have hT5 : Two w wS s3 s4 sa sb := ⟨(hT.a.upd27 hv34 huS (hna hT.a)).reF (fun z hz hw => (hT.a.not z hz) (Nat.lt_of_lt_of_le hw hxB.le)),(hT.b.upd27 hv34 huS (hna hT.b)).reF (fun z hz hw => (hT.b.not z hz) (Nat.lt_of_lt_of_le hw hxB.le)),hT.dis⟩
    clear hT hy hv34
    have hT := hT5
    have hv34 := hvS
    clear hT5 hvS
    refine Rg.done ?_
    have hc35 := hv34.cells
    have hsame := hasked ⟨rcl,rid,rq,(kk : Int),rn⟩
    refine Wp.seq (Wp.region ?_)
    refine Rg.tm trivial rfl (t_loadA rfl hc35 ty27) rfl ?_
    refine Rg.tm trivial rfl (t_build (bd29_0_6 _ _ _ _ _ _) rfl) rfl ?_
    refine Rg.tm trivial rfl (t_build (bd29_0_1 _ _) rfl) rfl ?_
    refine Rg.wd trivial (w_buildSlice (bs22_2 _ _ _ _ _ _ _ _ _ _ _ _ _ _ _ _ _ _ _ _ _ _ _ _ _ _) rfl) rfl ?_
    rintro _ w8 ⟨bb,rfl,qb,hx8,hvbb⟩
    replace hxw := hxw.ext hx8
    replace hT := hT.ext hx8
    have hrow : Row w8 29 11 (.slice (some ⟨bb,0,none⟩) 2 2) ([evReq (⟨rcl,rid,rq,(kk : Int),rn⟩ : Rq),evRun 1] : List (Ev TE × Value)).length (encs evp [evReq (⟨rcl,rid,rq,(kk : Int),rn⟩ : Rq),evRun 1]) := Row.ofOwn (own_of_varS hvbb (Nat.zero_le _) rfl (by unfold maxLen; decide))
    clear hvbb
    have hpE : ∀ p ∈ ([evReq (⟨rcl,rid,rq,(kk : Int),rn⟩ : Rq),evRun 1] : List (Ev TE × Value)),EvOk w p := fun p hp => by
     simp only [List.mem_cons,List.not_mem_nil,or_false] at hp
     rcases hp with rfl | rfl
     ·exact evOk_nil (by decide)
     ·exact evOk_nil (by decide)
    have hpK : Early 40 ([evReq (⟨rcl,rid,rq,(kk : Int),rn⟩ : Rq),evRun 1] : List (Ev TE × Value)) := .inl fun p hp => by
     simp only [List.mem_cons,List.not_mem_nil,or_false] at hp
     rcases hp with rfl | rfl
     ·show (4 : Int) ≠ 7; decide
     ·show (6 : Int) ≠ 7; decide
    have hpp : ∀ x : St,playS Cx x (([evReq (⟨rcl,rid,rq,(kk : Int),rn⟩ : Rq),evRun 1] : List (Ev TE × Value)).map (·.1)) = ((runS (requestS x (⟨rcl,rid,rq,(kk : Int),rn⟩ : Rq)).1 1).1,asked x (⟨rcl,rid,rq,(kk : Int),rn⟩ : Rq)) := fun x => play_ask x _
    have hLa : (asked sa (⟨rcl,rid,rq,(kk : Int),rn⟩ : Rq)).length ≤ 40 := by have h9 := play_len (l := ([evReq (⟨rcl,rid,rq,(kk : Int),rn⟩ : Rq),evRun 1] : List (Ev TE × Value)).map (·.1)) hGa; rw [hpp] at h9; simpa using h9
    have hLb : (asked sb (⟨rcl,rid,rq,(kk : Int),rn⟩ : Rq)).length ≤ 40 := by have h9 := play_len (l := ([evReq (⟨rcl,rid,rq,(kk : Int),rn⟩ : Rq),evRun 1] : List (Ev TE × Value)).map (·.1)) hGb; rw [hpp] at h9; simpa using h9
    refine Rg.tm trivial rfl (t_assign rfl) rfl ?_
    refine Rg.done ?_
    refine Wp.seq (Wp.region ?_)
    refine Rg.tm trivial rfl (t_move rfl) rfl ?_
    refine Rg.tm trivial rfl (t_move rfl) rfl ?_
    refine Rg.wd trivial (w_call Tryz.call11 rfl (play_ok (k := 40) (w0 := w) hT.a.rest (rest_und _ _) hxw (hT.a.rest_of hxw (fun _ h => h)) hA hGa (by simp) (by simp) hrow hpE hpK (by rw [hpp]; simp only; omega))) rfl ?_
    rintro v64 wX ⟨hr64,⟨a5,ha5,hba5⟩,ksX⟩
    rw [hpp] at hr64 ha5
    simp only at hr64 ha5
    replace hr64 := hr64.mono hxw.le
    have hT2 := hT.step hxw ha5 ksX
    have hx2 := hT.ks0 hxw ksX
    replace hrow := hrow.vk ksX.var (by decide)
    rw [← hba5]
    clear hT hxw
    have hxw := hx2
    have hT := hT2
    clear hx2 hT2
    refine Rg.tm trivial rfl (t_move rfl) rfl ?_
    refine Rg.tm trivial rfl (t_move rfl) rfl ?_
    have o64x := hr64.blk
    refine Rg.wd trivial (w_call Tryz.call11 rfl (play_ok (k := 40) (w0 := w) hT.swap.a.rest (rest_und _ _) hxw (hT.swap.a.rest_of hxw (fun _ h => h)) hA hGb (by simp) (by simp) hrow hpE hpK (by rw [hpp]; simp only; omega))) rfl ?_
    rintro v67 wY ⟨hr67,⟨b5,hb5,hbb5⟩,ksY⟩
    rw [hpp] at hr67 hb5
    simp only at hr67 hb5
    have hT2 := (hT.swap.step hxw hb5 ksY).swap
    have hx2 := hT.swap.ks0 hxw ksY
    replace hr64 := hr64.vk ksY.var (by decide) (by decide)
    rw [← hbb5]
    clear hT hrow
    have hT := hT2
    obtain ⟨p64,e64,o64,n64⟩ := hr64
    have l64 : p64.length ≤ 40 := by have := congrArg List.length e64; rw [List.length_map] at this; omega
    have hlt64 : ∀ g,v64.ownBlock = some g → g < wX.heap.size := fun g hg => (o64x g hg).2
    have hs64 := own_slice o64
    refine Rg.tm trivial rfl (t_assign rfl) rfl ?_
    refine Rg.tm trivial rfl (t_assign rfl) rfl ?_
    refine Rg.done ?_
    refine Wp.seq ?_
    refine Wp.seq (Wp.region ?_)
    refine Rg.tm trivial rfl (t_move rfl) rfl ?_
    refine Rg.tm trivial rfl (t_lenC hs64 Tryz.underlying31 rfl) rfl ?_
    refine Rg.tm trivial rfl (t_move rfl) rfl ?_
    refine Rg.done ?_
    refine Wp.block ?_
    have hxX : w.heap.size ≤ wX.heap.size := hxw.le
    replace hxw := hx2
    refine Wp.loop (ι := Nat) (fun i => [(5,.pointer (some ⟨a5.bS,0,none⟩)),(8,.pointer (some ⟨b5.bS,0,none⟩)),(12,v64),(13,v67),(69,.int .i64 p64.length),(70,.int .i64 i)])
     (fun i w' => i ≤ p64.length ∧ (∃ qs,qs.length = p64.length ∧ qs = (p64.take i).map zp ++ p64.drop i ∧ w'.ownsRow w.heap.size 43 6 v64 p64.length (encs rsc qs) ∧ NumsW w' qs) ∧ Two w w' a5 b5 ((runS (requestS sa (⟨rcl,rid,rq,(kk : Int),rn⟩ : Rq)).1 1).1) ((runS (requestS sb (⟨rcl,rid,rq,(kk : Int),rn⟩ : Rq)).1 1).1) ∧ RsW wX.heap.size w' v67 (asked sb (⟨rcl,rid,rq,(kk : Int),rn⟩ : Rq)) ∧ Ext w w') (fun i => p64.length - i) 0 (by repeat (first | exact .nil | refine .cons rfl ?_)) ⟨Nat.zero_le _,⟨p64,rfl,by simp,o64,n64⟩,hT,hr67,hxw⟩ ?_
    clear hT hxw
    rintro i w9 ⟨hil,⟨qs,hql,hqe,hqo,hqn⟩,hT,hoth,hxw⟩
    by_cases hlt : i < p64.length
    ·have hlt2 : i < qs.length := by omega
     have hnx := zp_next hlt hqe hlt2
     obtain ⟨g,cap,ev⟩ : ∃ g cap,v64 = .slice (some ⟨g,0,none⟩) p64.length cap := by
      rcases own_wholeG hqo with ⟨_,h0⟩ | ⟨g,cap,sp,e,_⟩
      ·omega
      ·exact ⟨g,cap,e⟩
     subst ev
     have hgB := (hqo.lt g rfl).1
     have hgx := hlt64 g rfl
     refine Wp.seq (Wp.region ?_)
     first | refine Rg.tm trivial rfl (t_lssT rfl rfl (by omega)) rfl ?_ | refine Rg.tm trivial rfl (t_lssF rfl rfl (by omega)) rfl ?_ | refine Rg.tm trivial rfl (t_lss rfl rfl) rfl ?_
     refine Rg.done ?_
     refine Wp.seq ?_
     refine Wp.condT rfl ?_
     refine Wp.skip ?_
     refine Wp.seq ?_
     refine Wp.block ?_
     refine Wp.seq (Wp.region ?_)
     refine Rg.tm trivial rfl (t_move rfl) rfl ?_
     refine Rg.tm trivial rfl (t_assign rfl) rfl ?_
     refine Rg.done ?_
     refine Wp.region ?_
     refine Rg.tm trivial rfl (t_move rfl) rfl ?_
     refine Rg.tm trivial rfl (t_move rfl) rfl ?_
     refine Rg.tm trivial rfl (t_indexAddrL Tryz.underlying31 ty43 rfl rfl (by omega)) rfl ?_
     refine Rg.tm trivial rfl (t_fieldAddr fa43_3 rfl) rfl ?_
     refine Rg.wn trivial (w_setOwn hqo ty3 rfl rfl (by rw [show 0 + ((i : Nat) : Int).toNat * 6 + 3 = i * 6 + 3 from by omega]; exact List.getElem?_eq_getElem (by rw [encs_len rsc_len]; omega)) rfl rfl) ?_
     rintro _ wS ⟨ho10,huS⟩
     rw [show 0 + ((i : Nat) : Int).toNat * 6 + 3 = i * 6 + 3 from by omega,rsc_set3 qs i hlt2] at ho10
     obtain ⟨cg,hcg⟩ := own_block hqo rfl
     have hvg : Var w9 g cg.toList 43 := hcg
     have hT9 : Two w wS a5 b5 _ _ := ⟨hT.a.updV hvg huS (by decide),hT.b.updV hvg huS (by decide),hT.dis⟩
     have hoth9 := hoth.updB hvg huS (fun e => by have := (RsW.blk hoth g e).1; omega)
     have hxS := hxw.upd huS (by omega)
     have hnS : NumsW wS (qs.set i (zrev qs[i].1,qs[i].2)) := fun p hp => by
      rcases List.mem_or_eq_of_mem_set hp with hp | rfl
      ·exact Row.upd (hqn p hp) hvg huS (by decide)
      ·have h9 : RowI w9 qs[i].2 qs[i].1.nums := hqn _ (List.getElem_mem hlt2)
       exact Row.upd h9 hvg huS (by decide)
     refine Rg.done ?_
     refine Wp.region ?_
     first | refine Rg.tm trivial rfl (t_addI rfl rfl (by omega)) rfl ?_ | refine Rg.tm trivial rfl (t_add rfl rfl) rfl ?_
     refine Rg.tm trivial rfl (t_move rfl) rfl ?_
     refine Rg.done ?_
     exact ⟨i + 1,by repeat (first | exact .nil | refine .cons rfl ?_),⟨hlt,⟨_,by rw [List.length_set,hql],hnx.symm,ho10,hnS⟩,hT9,hoth9,hxS⟩,by omega⟩
    ·obtain rfl : i = p64.length := by omega
     have hq2 : qs = p64.map zp := by rw [hqe]; simp
     subst hq2
     have hz64 : RsW w.heap.size w9 v64 ((asked sa (⟨rcl,rid,rq,(kk : Int),rn⟩ : Rq)).map zrev) := ⟨p64.map zp,by rw [zp_map,e64],by rw [List.length_map]; exact hqo,hqn⟩
     obtain ⟨p67,e67,o67,n67⟩ := hoth
     have hlt67 : ∀ g,v67.ownBlock = some g → True := fun _ _ => trivial
     have l67 : p67.length ≤ 40 := by have := congrArg List.length e67; rw [List.length_map] at this; omega
     have hs67 := own_slice o67
     clear hqo hqn hql hqe
     refine Wp.seq (Wp.region ?_)
     first | refine Rg.tm trivial rfl (t_lssT rfl rfl (by omega)) rfl ?_ | refine Rg.tm trivial rfl (t_lssF rfl rfl (by omega)) rfl ?_ | refine Rg.tm trivial rfl (t_lss rfl rfl) rfl ?_
     refine Rg.done ?_
     refine Wp.seq ?_
     refine Wp.condF rfl ?_
     refine Wp.exit ?_
     refine Wp.seq ?_
     refine Wp.seq (Wp.region ?_)
     refine Rg.tm trivial rfl (t_move rfl) rfl ?_
     refine Rg.tm trivial rfl (t_lenC hs67 Tryz.underlying31 rfl) rfl ?_
     refine Rg.tm trivial rfl (t_move rfl) rfl ?_
     refine Rg.done ?_
     refine Wp.block ?_
     refine Wp.loop (ι := Nat) (fun i => [(5,.pointer (some ⟨a5.bS,0,none⟩)),(8,.pointer (some ⟨b5.bS,0,none⟩)),(12,v64),(13,v67),(79,.int .i64 p67.length),(80,.int .i64 i)])
      (fun i w' => i ≤ p67.length ∧ (∃ qs,qs.length = p67.length ∧ qs = (p67.take i).map zp ++ p67.drop i ∧ w'.ownsRow wX.heap.size 43 6 v67 p67.length (encs rsc qs) ∧ NumsW w' qs) ∧ Two w w' a5 b5 ((runS (requestS sa (⟨rcl,rid,rq,(kk : Int),rn⟩ : Rq)).1 1).1) ((runS (requestS sb (⟨rcl,rid,rq,(kk : Int),rn⟩ : Rq)).1 1).1) ∧ RsW w.heap.size w' v64 ((asked sa (⟨rcl,rid,rq,(kk : Int),rn⟩ : Rq)).map zrev) ∧ Ext w w') (fun i => p67.length - i) 0 (by repeat (first | exact .nil | refine .cons rfl ?_)) ⟨Nat.zero_le _,⟨p67,rfl,by simp,o67,n67⟩,hT,hz64,hxw⟩ ?_
     clear hT hxw
     rintro i w9 ⟨hil,⟨qs,hql,hqe,hqo,hqn⟩,hT,hoth,hxw⟩
     by_cases hlt : i < p67.length
     ·have hlt2 : i < qs.length := by omega
      have hnx := zp_next hlt hqe hlt2
      obtain ⟨g,cap,ev⟩ : ∃ g cap,v67 = .slice (some ⟨g,0,none⟩) p67.length cap := by
       rcases own_wholeG hqo with ⟨_,h0⟩ | ⟨g,cap,sp,e,_⟩
       ·omega
       ·exact ⟨g,cap,e⟩
      subst ev
      have hgB := (hqo.lt g rfl).1
      have hgx := hlt67 g rfl
      refine Wp.seq (Wp.region ?_)
      first | refine Rg.tm trivial rfl (t_lssT rfl rfl (by omega)) rfl ?_ | refine Rg.tm trivial rfl (t_lssF rfl rfl (by omega)) rfl ?_ | refine Rg.tm trivial rfl (t_lss rfl rfl) rfl ?_
      refine Rg.done ?_
      refine Wp.seq ?_
      refine Wp.condT rfl ?_
      refine Wp.skip ?_
      refine Wp.seq ?_
      refine Wp.block ?_
      refine Wp.seq (Wp.region ?_)
      refine Rg.tm trivial rfl (t_move rfl) rfl ?_
      refine Rg.tm trivial rfl (t_assign rfl) rfl ?_
      refine Rg.done ?_
      refine Wp.region ?_
      refine Rg.tm trivial rfl (t_move rfl) rfl ?_
      refine Rg.tm trivial rfl (t_move rfl) rfl ?_
      refine Rg.tm trivial rfl (t_indexAddrL Tryz.underlying31 ty43 rfl rfl (by omega)) rfl ?_
      refine Rg.tm trivial rfl (t_fieldAddr fa43_3 rfl) rfl ?_
      refine Rg.wn trivial (w_setOwn hqo ty3 rfl rfl (by rw [show 0 + ((i : Nat) : Int).toNat * 6 + 3 = i * 6 + 3 from by omega]; exact List.getElem?_eq_getElem (by rw [encs_len rsc_len]; omega)) rfl rfl) ?_
      rintro _ wS ⟨ho10,huS⟩
      rw [show 0 + ((i : Nat) : Int).toNat * 6 + 3 = i * 6 + 3 from by omega,rsc_set3 qs i hlt2] at ho10
      obtain ⟨cg,hcg⟩ := own_block hqo rfl
      have hvg : Var w9 g cg.toList 43 := hcg
      have hT9 : Two w wS a5 b5 _ _ := ⟨hT.a.updV hvg huS (by decide),hT.b.updV hvg huS (by decide),hT.dis⟩
      have hoth9 := hoth.updB hvg huS (fun e => by have := hlt64 g e; omega)
      have hxS := hxw.upd huS (by have := hxX; omega)
      have hnS : NumsW wS (qs.set i (zrev qs[i].1,qs[i].2)) := fun p hp => by
       rcases List.mem_or_eq_of_mem_set hp with hp | rfl
       ·exact Row.upd (hqn p hp) hvg huS (by decide)
       ·have h9 : RowI w9 qs[i].2 qs[i].1.nums := hqn _ (List.getElem_mem hlt2)
        exact Row.upd h9 hvg huS (by decide)
      refine Rg.done ?_
      refine Wp.region ?_
      first | refine Rg.tm trivial rfl (t_addI rfl rfl (by omega)) rfl ?_ | refine Rg.tm trivial rfl (t_add rfl rfl) rfl ?_
      refine Rg.tm trivial rfl (t_move rfl) rfl ?_
      refine Rg.done ?_
      exact ⟨i + 1,by repeat (first | exact .nil | refine .cons rfl ?_),⟨hlt,⟨_,by rw [List.length_set,hql],hnx.symm,ho10,hnS⟩,hT9,hoth9,hxS⟩,by omega⟩
     ·obtain rfl : i = p67.length := by omega
      have hq2 : qs = p67.map zp := by rw [hqe]; simp
      subst hq2
      obtain ⟨p8,e8,o8,n8⟩ := hoth
      have l8 : p8.length ≤ 40 := by have := congrArg List.length e8; rw [List.length_map,List.length_map] at this; omega
      have ma := ask_mods z3 (⟨rcl,rid,rq,(kk : Int),rn⟩ : Rq)
      have mb := ask_mods y3 (⟨rcl,rid,rq,(kk : Int),rn⟩ : Rq)
      have hyy := Ext.refl w9
      refine Wp.seq (Wp.region ?_)
      first | refine Rg.tm trivial rfl (t_lssT rfl rfl (by omega)) rfl ?_ | refine Rg.tm trivial rfl (t_lssF rfl rfl (by omega)) rfl ?_ | refine Rg.tm trivial rfl (t_lss rfl rfl) rfl ?_
      refine Rg.done ?_
      refine Wp.seq ?_
      refine Wp.condF rfl ?_
      refine Wp.exit ?_
      refine Wp.seq (Wp.region ?_)
      refine Rg.wd trivial (w_call Tryz.call8 rfl (serverExample_ok (hA.ext hxw))) rfl ?_
      rintro _ w9 ⟨rfl,hx9⟩
      replace hxw := hxw.ext hx9
      replace hyy := hyy.ext hx9
      refine Rg.tm trivial rfl (t_move rfl) rfl ?_
      first | refine Rg.tm ⟨_,rfl,rfl⟩ rfl (t_move rfl) rfl ?_ | refine Rg.so rfl rfl ?_
      first | refine Rg.tm ⟨_,rfl,rfl⟩ rfl (t_move rfl) rfl ?_ | refine Rg.so rfl rfl ?_
      refine Rg.wd ⟨_,rfl,rfl⟩ (w_call Tryz.call10 rfl (same_ok (ps := p8) (qs := p67.map zp) ((own_slice o8).ext hyy) (by rw [List.length_map]; exact (own_slice hqo).ext hyy) (n8.ext hyy) (hqn.ext hyy) (by omega))) rfl ?_
      rintro _ w10 ⟨⟨bE,rfl,hbE⟩,hx10⟩
      obtain rfl : bE = true := hbE.2 (by rw [e8,zp_map,e67]; exact hsame)
      replace hxw := hxw.ext hx10
      replace hyy := hyy.ext hx10
      first | refine Rg.tm trivial rfl (t_pickT rfl rfl) rfl ?_ | refine Rg.tm trivial rfl (t_pickF rfl rfl) rfl ?_
      refine Rg.tm trivial rfl (t_move rfl) rfl ?_
      first | refine Rg.tm ⟨_,rfl,rfl⟩ rfl (t_move rfl) rfl ?_ | refine Rg.so rfl rfl ?_
      refine Rg.wd ⟨_,rfl,rfl⟩ (w_call Tryz.call19 rfl (modules_ok (hT.a.ext hyy) (by rw [ma,z2]; omega))) rfl ?_
      rintro v96 w11 ⟨ho96,hx11⟩
      replace hxw := hxw.ext hx11
      replace hyy := hyy.ext hx11
      rw [ma,z2] at ho96
      first | refine Rg.tm ⟨_,rfl,rfl⟩ rfl (t_move rfl) rfl ?_ | refine Rg.so rfl rfl ?_
      refine Rg.wd ⟨_,rfl,rfl⟩ (w_call Tryz.call19 rfl (modules_ok (hT.b.ext hyy) (by rw [mb,y1]; omega))) rfl ?_
      rintro v98 w12 ⟨ho98,hx12⟩
      replace hxw := hxw.ext hx12
      replace hyy := hyy.ext hx12
      rw [mb,y1] at ho98
      replace ho96 := own_ext ho96 hx12
      refine Rg.wd ⟨_,rfl,rfl⟩ (w_call Tryz.call20 rfl (equalM_ok (xs := st.mods) (ys := st.mods) (own_slice ho96) (own_slice ho98) (by omega))) rfl ?_
      rintro _ w13 ⟨⟨bF,rfl,hbF⟩,hx13⟩
      obtain rfl : bF = true := hbF.2 rfl
      replace hxw := hxw.ext hx13
      replace hyy := hyy.ext hx13
      first | refine Rg.tm trivial rfl (t_pickT rfl rfl) rfl ?_ | refine Rg.tm trivial rfl (t_pickF rfl rfl) rfl ?_
      refine Rg.tm trivial rfl (t_assign rfl) rfl ?_
      refine Rg.done ?_
      refine Wp.ret ?_
      exact ⟨[_],⟨rfl,trivial⟩,rfl,hxw⟩
   ·skip
    refine Wp.seq (Wp.region ?_)
    refine Rg.tm trivial rfl (t_fieldAddr fa27_2 rfl) rfl ?_
    refine Rg.tm trivial rfl (t_load ty3 rfl (Cells.get (i := 2) hc3 rfl)) rfl ?_
    refine Rg.tm trivial rfl (t_eqlF rfl rfl h8) rfl ?_
    refine Rg.done ?_
    refine Wp.condF rfl ?_
    refine Wp.skip ?_
    have hxw := hxB.ext hy
    have hT5 : Two w _ s3 s4 sa sb := ⟨hT.a.reF (fun z hz hw => (hT.a.not z hz) (Nat.lt_of_lt_of_le hw hxB.le)),hT.b.reF (fun z hz hw => (hT.b.not z hz) (Nat.lt_of_lt_of_le hw hxB.le)),hT.dis⟩
    clear hT hy hc3
    have hT := hT5
    clear hT5
    have hc35 := hv34.cells
    have hsame := hasked ⟨rcl,rid,rq,ra,rn⟩
    refine Wp.seq (Wp.region ?_)
    refine Rg.tm trivial rfl (t_loadA rfl hc35 ty27) rfl ?_
    refine Rg.tm trivial rfl (t_build (bd29_0_6 _ _ _ _ _ _) rfl) rfl ?_
    refine Rg.tm trivial rfl (t_build (bd29_0_1 _ _) rfl) rfl ?_
    refine Rg.wd trivial (w_buildSlice (bs22_2 _ _ _ _ _ _ _ _ _ _ _ _ _ _ _ _ _ _ _ _ _ _ _ _ _ _) rfl) rfl ?_
    rintro _ w7 ⟨bb,rfl,qb,hx7,hvbb⟩
    replace hxw := hxw.ext hx7
    replace hT := hT.ext hx7
    have hrow : Row w7 29 11 (.slice (some ⟨bb,0,none⟩) 2 2) ([evReq (⟨rcl,rid,rq,ra,rn⟩ : Rq),evRun 1] : List (Ev TE × Value)).length (encs evp [evReq (⟨rcl,rid,rq,ra,rn⟩ : Rq),evRun 1]) := Row.ofOwn (own_of_varS hvbb (Nat.zero_le _) rfl (by unfold maxLen; decide))
    clear hvbb
    have hpE : ∀ p ∈ ([evReq (⟨rcl,rid,rq,ra,rn⟩ : Rq),evRun 1] : List (Ev TE × Value)),EvOk w p := fun p hp => by
     simp only [List.mem_cons,List.not_mem_nil,or_false] at hp
     rcases hp with rfl | rfl
     ·exact evOk_nil (by decide)
     ·exact evOk_nil (by decide)
    have hpK : Early 40 ([evReq (⟨rcl,rid,rq,ra,rn⟩ : Rq),evRun 1] : List (Ev TE × Value)) := .inl fun p hp => by
     simp only [List.mem_cons,List.not_mem_nil,or_false] at hp
     rcases hp with rfl | rfl
     ·show (4 : Int) ≠ 7; decide
     ·show (6 : Int) ≠ 7; decide
    have hpp : ∀ x : St,playS Cx x (([evReq (⟨rcl,rid,rq,ra,rn⟩ : Rq),evRun 1] : List (Ev TE × Value)).map (·.1)) = ((runS (requestS x (⟨rcl,rid,rq,ra,rn⟩ : Rq)).1 1).1,asked x (⟨rcl,rid,rq,ra,rn⟩ : Rq)) := fun x => play_ask x _
    have hLa : (asked sa (⟨rcl,rid,rq,ra,rn⟩ : Rq)).length ≤ 40 := by have h9 := play_len (l := ([evReq (⟨rcl,rid,rq,ra,rn⟩ : Rq),evRun 1] : List (Ev TE × Value)).map (·.1)) hGa; rw [hpp] at h9; simpa using h9
    have hLb : (asked sb (⟨rcl,rid,rq,ra,rn⟩ : Rq)).length ≤ 40 := by have h9 := play_len (l := ([evReq (⟨rcl,rid,rq,ra,rn⟩ : Rq),evRun 1] : List (Ev TE × Value)).map (·.1)) hGb; rw [hpp] at h9; simpa using h9
    refine Rg.tm trivial rfl (t_assign rfl) rfl ?_
    refine Rg.done ?_
    refine Wp.seq (Wp.region ?_)
    refine Rg.tm trivial rfl (t_move rfl) rfl ?_
    refine Rg.tm trivial rfl (t_move rfl) rfl ?_
    refine Rg.wd trivial (w_call Tryz.call11 rfl (play_ok (k := 40) (w0 := w) hT.a.rest (rest_und _ _) hxw (hT.a.rest_of hxw (fun _ h => h)) hA hGa (by simp) (by simp) hrow hpE hpK (by rw [hpp]; simp only; omega))) rfl ?_
    rintro v64 wX ⟨hr64,⟨a5,ha5,hba5⟩,ksX⟩
    rw [hpp] at hr64 ha5
    simp only at hr64 ha5
    replace hr64 := hr64.mono hxw.le
    have hT2 := hT.step hxw ha5 ksX
    have hx2 := hT.ks0 hxw ksX
    replace hrow := hrow.vk ksX.var (by decide)
    rw [← hba5]
    clear hT hxw
    have hxw := hx2
    have hT := hT2
    clear hx2 hT2
    refine Rg.tm trivial rfl (t_move rfl) rfl ?_
    refine Rg.tm trivial rfl (t_move rfl) rfl ?_
    have o64x := hr64.blk
    refine Rg.wd trivial (w_call Tryz.call11 rfl (play_ok (k := 40) (w0 := w) hT.swap.a.rest (rest_und _ _) hxw (hT.swap.a.rest_of hxw (fun _ h => h)) hA hGb (by simp) (by simp) hrow hpE hpK (by rw [hpp]; simp only; omega))) rfl ?_
    rintro v67 wY ⟨hr67,⟨b5,hb5,hbb5⟩,ksY⟩
    rw [hpp] at hr67 hb5
    simp only at hr67 hb5
    have hT2 := (hT.swap.step hxw hb5 ksY).swap
    have hx2 := hT.swap.ks0 hxw ksY
    replace hr64 := hr64.vk ksY.var (by decide) (by decide)
    rw [← hbb5]
    clear hT hrow
    have hT := hT2
    obtain ⟨p64,e64,o64,n64⟩ := hr64
    have l64 : p64.length ≤ 40 := by have := congrArg List.length e64; rw [List.length_map] at this; omega
    have hlt64 : ∀ g,v64.ownBlock = some g → g < wX.heap.size := fun g hg => (o64x g hg).2
    have hs64 := own_slice o64
    refine Rg.tm trivial rfl (t_assign rfl) rfl ?_
    refine Rg.tm trivial rfl (t_assign rfl) rfl ?_
    refine Rg.done ?_
    refine Wp.seq ?_
    refine Wp.seq (Wp.region ?_)
    refine Rg.tm trivial rfl (t_move rfl) rfl ?_
    refine Rg.tm trivial rfl (t_lenC hs64 Tryz.underlying31 rfl) rfl ?_
    refine Rg.tm trivial rfl (t_move rfl) rfl ?_
    refine Rg.done ?_
    refine Wp.block ?_
    have hxX : w.heap.size ≤ wX.heap.size := hxw.le
    replace hxw := hx2
    refine Wp.loop (ι := Nat) (fun i => [(5,.pointer (some ⟨a5.bS,0,none⟩)),(8,.pointer (some ⟨b5.bS,0,none⟩)),(12,v64),(13,v67),(69,.int .i64 p64.length),(70,.int .i64 i)])
     (fun i w' => i ≤ p64.length ∧ (∃ qs,qs.length = p64.length ∧ qs = (p64.take i).map zp ++ p64.drop i ∧ w'.ownsRow w.heap.size 43 6 v64 p64.length (encs rsc qs) ∧ NumsW w' qs) ∧ Two w w' a5 b5 ((runS (requestS sa (⟨rcl,rid,rq,ra,rn⟩ : Rq)).1 1).1) ((runS (requestS sb (⟨rcl,rid,rq,ra,rn⟩ : Rq)).1 1).1) ∧ RsW wX.heap.size w' v67 (asked sb (⟨rcl,rid,rq,ra,rn⟩ : Rq)) ∧ Ext w w') (fun i => p64.length - i) 0 (by repeat (first | exact .nil | refine .cons rfl ?_)) ⟨Nat.zero_le _,⟨p64,rfl,by simp,o64,n64⟩,hT,hr67,hxw⟩ ?_
    clear hT hxw
    rintro i w9 ⟨hil,⟨qs,hql,hqe,hqo,hqn⟩,hT,hoth,hxw⟩
    by_cases hlt : i < p64.length
    ·have hlt2 : i < qs.length := by omega
     have hnx := zp_next hlt hqe hlt2
     obtain ⟨g,cap,ev⟩ : ∃ g cap,v64 = .slice (some ⟨g,0,none⟩) p64.length cap := by
      rcases own_wholeG hqo with ⟨_,h0⟩ | ⟨g,cap,sp,e,_⟩
      ·omega
      ·exact ⟨g,cap,e⟩
     subst ev
     have hgB := (hqo.lt g rfl).1
     have hgx := hlt64 g rfl
     refine Wp.seq (Wp.region ?_)
     first | refine Rg.tm trivial rfl (t_lssT rfl rfl (by omega)) rfl ?_ | refine Rg.tm trivial rfl (t_lssF rfl rfl (by omega)) rfl ?_ | refine Rg.tm trivial rfl (t_lss rfl rfl) rfl ?_
     refine Rg.done ?_
     refine Wp.seq ?_
     refine Wp.condT rfl ?_
     refine Wp.skip ?_
     refine Wp.seq ?_
     refine Wp.block ?_
     refine Wp.seq (Wp.region ?_)
     refine Rg.tm trivial rfl (t_move rfl) rfl ?_
     refine Rg.tm trivial rfl (t_assign rfl) rfl ?_
     refine Rg.done ?_
     refine Wp.region ?_
     refine Rg.tm trivial rfl (t_move rfl) rfl ?_
     refine Rg.tm trivial rfl (t_move rfl) rfl ?_
     refine Rg.tm trivial rfl (t_indexAddrL Tryz.underlying31 ty43 rfl rfl (by omega)) rfl ?_
     refine Rg.tm trivial rfl (t_fieldAddr fa43_3 rfl) rfl ?_
     refine Rg.wn trivial (w_setOwn hqo ty3 rfl rfl (by rw [show 0 + ((i : Nat) : Int).toNat * 6 + 3 = i * 6 + 3 from by omega]; exact List.getElem?_eq_getElem (by rw [encs_len rsc_len]; omega)) rfl rfl) ?_
     rintro _ wS ⟨ho10,huS⟩
     rw [show 0 + ((i : Nat) : Int).toNat * 6 + 3 = i * 6 + 3 from by omega,rsc_set3 qs i hlt2] at ho10
     obtain ⟨cg,hcg⟩ := own_block hqo rfl
     have hvg : Var w9 g cg.toList 43 := hcg
     have hT9 : Two w wS a5 b5 _ _ := ⟨hT.a.updV hvg huS (by decide),hT.b.updV hvg huS (by decide),hT.dis⟩
     have hoth9 := hoth.updB hvg huS (fun e => by have := (RsW.blk hoth g e).1; omega)
     have hxS := hxw.upd huS (by omega)
     have hnS : NumsW wS (qs.set i (zrev qs[i].1,qs[i].2)) := fun p hp => by
      rcases List.mem_or_eq_of_mem_set hp with hp | rfl
      ·exact Row.upd (hqn p hp) hvg huS (by decide)
      ·have h9 : RowI w9 qs[i].2 qs[i].1.nums := hqn _ (List.getElem_mem hlt2)
       exact Row.upd h9 hvg huS (by decide)
     refine Rg.done ?_
     refine Wp.region ?_
     first | refine Rg.tm trivial rfl (t_addI rfl rfl (by omega)) rfl ?_ | refine Rg.tm trivial rfl (t_add rfl rfl) rfl ?_
     refine Rg.tm trivial rfl (t_move rfl) rfl ?_
     refine Rg.done ?_
     exact ⟨i + 1,by repeat (first | exact .nil | refine .cons rfl ?_),⟨hlt,⟨_,by rw [List.length_set,hql],hnx.symm,ho10,hnS⟩,hT9,hoth9,hxS⟩,by omega⟩
    ·obtain rfl : i = p64.length := by omega
     have hq2 : qs = p64.map zp := by rw [hqe]; simp
     subst hq2
     have hz64 : RsW w.heap.size w9 v64 ((asked sa (⟨rcl,rid,rq,ra,rn⟩ : Rq)).map zrev) := ⟨p64.map zp,by rw [zp_map,e64],by rw [List.length_map]; exact hqo,hqn⟩
     obtain ⟨p67,e67,o67,n67⟩ := hoth
     have hlt67 : ∀ g,v67.ownBlock = some g → True := fun _ _ => trivial
     have l67 : p67.length ≤ 40 := by have := congrArg List.length e67; rw [List.length_map] at this; omega
     have hs67 := own_slice o67
     clear hqo hqn hql hqe
     refine Wp.seq (Wp.region ?_)
     first | refine Rg.tm trivial rfl (t_lssT rfl rfl (by omega)) rfl ?_ | refine Rg.tm trivial rfl (t_lssF rfl rfl (by omega)) rfl ?_ | refine Rg.tm trivial rfl (t_lss rfl rfl) rfl ?_
     refine Rg.done ?_
     refine Wp.seq ?_
     refine Wp.condF rfl ?_
     refine Wp.exit ?_
     refine Wp.seq ?_
     refine Wp.seq (Wp.region ?_)
     refine Rg.tm trivial rfl (t_move rfl) rfl ?_
     refine Rg.tm trivial rfl (t_lenC hs67 Tryz.underlying31 rfl) rfl ?_
     refine Rg.tm trivial rfl (t_move rfl) rfl ?_
     refine Rg.done ?_
     refine Wp.block ?_
     refine Wp.loop (ι := Nat) (fun i => [(5,.pointer (some ⟨a5.bS,0,none⟩)),(8,.pointer (some ⟨b5.bS,0,none⟩)),(12,v64),(13,v67),(79,.int .i64 p67.length),(80,.int .i64 i)])
      (fun i w' => i ≤ p67.length ∧ (∃ qs,qs.length = p67.length ∧ qs = (p67.take i).map zp ++ p67.drop i ∧ w'.ownsRow wX.heap.size 43 6 v67 p67.length (encs rsc qs) ∧ NumsW w' qs) ∧ Two w w' a5 b5 ((runS (requestS sa (⟨rcl,rid,rq,ra,rn⟩ : Rq)).1 1).1) ((runS (requestS sb (⟨rcl,rid,rq,ra,rn⟩ : Rq)).1 1).1) ∧ RsW w.heap.size w' v64 ((asked sa (⟨rcl,rid,rq,ra,rn⟩ : Rq)).map zrev) ∧ Ext w w') (fun i => p67.length - i) 0 (by repeat (first | exact .nil | refine .cons rfl ?_)) ⟨Nat.zero_le _,⟨p67,rfl,by simp,o67,n67⟩,hT,hz64,hxw⟩ ?_
     clear hT hxw
     rintro i w9 ⟨hil,⟨qs,hql,hqe,hqo,hqn⟩,hT,hoth,hxw⟩
     by_cases hlt : i < p67.length
     ·have hlt2 : i < qs.length := by omega
      have hnx := zp_next hlt hqe hlt2
      obtain ⟨g,cap,ev⟩ : ∃ g cap,v67 = .slice (some ⟨g,0,none⟩) p67.length cap := by
       rcases own_wholeG hqo with ⟨_,h0⟩ | ⟨g,cap,sp,e,_⟩
       ·omega
       ·exact ⟨g,cap,e⟩
      subst ev
      have hgB := (hqo.lt g rfl).1
      have hgx := hlt67 g rfl
      refine Wp.seq (Wp.region ?_)
      first | refine Rg.tm trivial rfl (t_lssT rfl rfl (by omega)) rfl ?_ | refine Rg.tm trivial rfl (t_lssF rfl rfl (by omega)) rfl ?_ | refine Rg.tm trivial rfl (t_lss rfl rfl) rfl ?_
      refine Rg.done ?_
      refine Wp.seq ?_
      refine Wp.condT rfl ?_
      refine Wp.skip ?_
      refine Wp.seq ?_
      refine Wp.block ?_
      refine Wp.seq (Wp.region ?_)
      refine Rg.tm trivial rfl (t_move rfl) rfl ?_
      refine Rg.tm trivial rfl (t_assign rfl) rfl ?_
      refine Rg.done ?_
      refine Wp.region ?_
      refine Rg.tm trivial rfl (t_move rfl) rfl ?_
      refine Rg.tm trivial rfl (t_move rfl) rfl ?_
      refine Rg.tm trivial rfl (t_indexAddrL Tryz.underlying31 ty43 rfl rfl (by omega)) rfl ?_
      refine Rg.tm trivial rfl (t_fieldAddr fa43_3 rfl) rfl ?_
      refine Rg.wn trivial (w_setOwn hqo ty3 rfl rfl (by rw [show 0 + ((i : Nat) : Int).toNat * 6 + 3 = i * 6 + 3 from by omega]; exact List.getElem?_eq_getElem (by rw [encs_len rsc_len]; omega)) rfl rfl) ?_
      rintro _ wS ⟨ho10,huS⟩
      rw [show 0 + ((i : Nat) : Int).toNat * 6 + 3 = i * 6 + 3 from by omega,rsc_set3 qs i hlt2] at ho10
      obtain ⟨cg,hcg⟩ := own_block hqo rfl
      have hvg : Var w9 g cg.toList 43 := hcg
      have hT9 : Two w wS a5 b5 _ _ := ⟨hT.a.updV hvg huS (by decide),hT.b.updV hvg huS (by decide),hT.dis⟩
      have hoth9 := hoth.updB hvg huS (fun e => by have := hlt64 g e; omega)
      have hxS := hxw.upd huS (by have := hxX; omega)
      have hnS : NumsW wS (qs.set i (zrev qs[i].1,qs[i].2)) := fun p hp => by
       rcases List.mem_or_eq_of_mem_set hp with hp | rfl
       ·exact Row.upd (hqn p hp) hvg huS (by decide)
       ·have h9 : RowI w9 qs[i].2 qs[i].1.nums := hqn _ (List.getElem_mem hlt2)
        exact Row.upd h9 hvg huS (by decide)
      refine Rg.done ?_
      refine Wp.region ?_
      first | refine Rg.tm trivial rfl (t_addI rfl rfl (by omega)) rfl ?_ | refine Rg.tm trivial rfl (t_add rfl rfl) rfl ?_
      refine Rg.tm trivial rfl (t_move rfl) rfl ?_
      refine Rg.done ?_
      exact ⟨i + 1,by repeat (first | exact .nil | refine .cons rfl ?_),⟨hlt,⟨_,by rw [List.length_set,hql],hnx.symm,ho10,hnS⟩,hT9,hoth9,hxS⟩,by omega⟩
     ·obtain rfl : i = p67.length := by omega
      have hq2 : qs = p67.map zp := by rw [hqe]; simp
      subst hq2
      obtain ⟨p8,e8,o8,n8⟩ := hoth
      have l8 : p8.length ≤ 40 := by have := congrArg List.length e8; rw [List.length_map,List.length_map] at this; omega
      have ma := ask_mods z3 (⟨rcl,rid,rq,ra,rn⟩ : Rq)
      have mb := ask_mods y3 (⟨rcl,rid,rq,ra,rn⟩ : Rq)
      have hyy := Ext.refl w9
      refine Wp.seq (Wp.region ?_)
      first | refine Rg.tm trivial rfl (t_lssT rfl rfl (by omega)) rfl ?_ | refine Rg.tm trivial rfl (t_lssF rfl rfl (by omega)) rfl ?_ | refine Rg.tm trivial rfl (t_lss rfl rfl) rfl ?_
      refine Rg.done ?_
      refine Wp.seq ?_
      refine Wp.condF rfl ?_
      refine Wp.exit ?_
      refine Wp.seq (Wp.region ?_)
      refine Rg.wd trivial (w_call Tryz.call8 rfl (serverExample_ok (hA.ext hxw))) rfl ?_
      rintro _ w8 ⟨rfl,hx8⟩
      replace hxw := hxw.ext hx8
      replace hyy := hyy.ext hx8
      refine Rg.tm trivial rfl (t_move rfl) rfl ?_
      first | refine Rg.tm ⟨_,rfl,rfl⟩ rfl (t_move rfl) rfl ?_ | refine Rg.so rfl rfl ?_
      first | refine Rg.tm ⟨_,rfl,rfl⟩ rfl (t_move rfl) rfl ?_ | refine Rg.so rfl rfl ?_
      refine Rg.wd ⟨_,rfl,rfl⟩ (w_call Tryz.call10 rfl (same_ok (ps := p8) (qs := p67.map zp) ((own_slice o8).ext hyy) (by rw [List.length_map]; exact (own_slice hqo).ext hyy) (n8.ext hyy) (hqn.ext hyy) (by omega))) rfl ?_
      rintro _ w9 ⟨⟨bE,rfl,hbE⟩,hx9⟩
      obtain rfl : bE = true := hbE.2 (by rw [e8,zp_map,e67]; exact hsame)
      replace hxw := hxw.ext hx9
      replace hyy := hyy.ext hx9
      first | refine Rg.tm trivial rfl (t_pickT rfl rfl) rfl ?_ | refine Rg.tm trivial rfl (t_pickF rfl rfl) rfl ?_
      refine Rg.tm trivial rfl (t_move rfl) rfl ?_
      first | refine Rg.tm ⟨_,rfl,rfl⟩ rfl (t_move rfl) rfl ?_ | refine Rg.so rfl rfl ?_
      refine Rg.wd ⟨_,rfl,rfl⟩ (w_call Tryz.call19 rfl (modules_ok (hT.a.ext hyy) (by rw [ma,z2]; omega))) rfl ?_
      rintro v96 w10 ⟨ho96,hx10⟩
      replace hxw := hxw.ext hx10
      replace hyy := hyy.ext hx10
      rw [ma,z2] at ho96
      first | refine Rg.tm ⟨_,rfl,rfl⟩ rfl (t_move rfl) rfl ?_ | refine Rg.so rfl rfl ?_
      refine Rg.wd ⟨_,rfl,rfl⟩ (w_call Tryz.call19 rfl (modules_ok (hT.b.ext hyy) (by rw [mb,y1]; omega))) rfl ?_
      rintro v98 w11 ⟨ho98,hx11⟩
      replace hxw := hxw.ext hx11
      replace hyy := hyy.ext hx11
      rw [mb,y1] at ho98
      replace ho96 := own_ext ho96 hx11
      refine Rg.wd ⟨_,rfl,rfl⟩ (w_call Tryz.call20 rfl (equalM_ok (xs := st.mods) (ys := st.mods) (own_slice ho96) (own_slice ho98) (by omega))) rfl ?_
      rintro _ w12 ⟨⟨bF,rfl,hbF⟩,hx12⟩
      obtain rfl : bF = true := hbF.2 rfl
      replace hxw := hxw.ext hx12
      replace hyy := hyy.ext hx12
      first | refine Rg.tm trivial rfl (t_pickT rfl rfl) rfl ?_ | refine Rg.tm trivial rfl (t_pickF rfl rfl) rfl ?_
      refine Rg.tm trivial rfl (t_assign rfl) rfl ?_
      refine Rg.done ?_
      refine Wp.ret ?_
      exact ⟨[_],⟨rfl,trivial⟩,rfl,hxw⟩
end Go.Proofs.YtliofpegbcegiaaGreatDoor
