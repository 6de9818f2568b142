/- The walk of the law ServerErrors. Printed by r5/srvA.py. -/
import Derived.Test.YtliofpegbcegiaaGreatDoorIz
set_option linter.unusedVariables false
set_option linter.unusedSimpArgs false
namespace Go.Proofs.YtliofpegbcegiaaGreatDoor
set_option maxRecDepth 20000
open Go.Gx Go.RowKit Go.Lib
open Lexi (Asc)
def Rest (w : World) (s : SvQ) : Fs := fun z => z < w.heap.size ∧ ¬ Foot s z
theorem SvW.rest {F : Fs} {w : World} {s : SvQ} {st : St} (h : SvW F w s st) : SvW (Rest w s) w s st := h.reF fun z hz hr => hr.2 hz
theorem rest_und (w : World) (s : SvQ) : Und (Rest w s) w.heap.size := fun z hz => hz.1
theorem SvW.rest_of {F : Fs} {w0 w : World} {s : SvQ} {st : St} (h : SvW F w s st) (hx : Ext w0 w) (hF0 : ∀ z,z < w0.heap.size → F z) : ∀ z,z < w0.heap.size → Rest w s z := fun z hz => ⟨Nat.lt_of_lt_of_le hz hx.le,fun hf => h.not z hf (hF0 z hz)⟩
theorem own_rest {F : Fs} {B e size n : Nat} {w1 w w' : World} {s : SvQ} {st : St} {v : Value} {xs : List Value} (hs : SvW F w1 s st) (h : w.ownsRow w1.heap.size e size v n xs) (k : Ks (Rest w s) w w') : w'.ownsRow w1.heap.size e size v n xs := by
 have hl := h
 obtain ⟨hlen,h⟩ := h
 refine ⟨hlen,h.imp id ?_⟩
 rintro ⟨g,cap,cur,rfl,hb,hg,h2,h3,h4,h5⟩
 have hlt := (hl.lt g rfl).2
 have hr : Rest w s g := ⟨hlt,fun hf => by have := hs.lt g hf; omega⟩
 exact ⟨g,cap,cur,rfl,hb,by rw [k.base.block g hr]; exact hg,h2,h3,h4,h5⟩
theorem takes {l : List (Ev TE × Value)} (n : Nat) : (l.take n).length ≤ n := by rw [List.length_take]; omega
theorem play_len {l : List (Ev TE)} : ∀ {k : Nat} {st : St},Good k st → (playS Cx st l).2.length ≤ 20 * l.length := by
 induction l with
 | nil => intro k st _; simp [playS]
 | cons e l ih =>
  intro k st h
  simp only [playS,List.length_append,List.length_cons]
  have h1 := ih (h.handle e)
  have h2 : (handleS Cx st e).2.1.length ≤ 20 := by
   unfold handleS
   repeat' split
   ·simp
   ·simp
   ·simp
   ·simp
   ·unfold cancelS; cases findR st.pend e.req.client e.req.id <;> simp
   ·unfold runS
    split
    ·simp
    ·have hp := h.inv.pend
     obtain ⟨j,hj,e1,_⟩ := runP_ok (ms := st.mods) (rev := st.rev) (n := e.n) (start := st.db.comps) st.pend h.inv.fine h.inv.sound h.inv.mtch
     simp only
     rw [e1,List.length_map,List.length_take]
     omega
   ·unfold evictS; split <;> simp
   ·simp
  omega
theorem short_ev {w : World} {l : List (Ev TE × Value)} (h : ∀ p ∈ l,EvOk w p) (n : Nat) : ∀ p ∈ (l.take n).map shortP,EvOk w p := fun p hp => by
 obtain ⟨q,hq,rfl⟩ := List.mem_map.1 hp
 exact (h q (List.mem_of_mem_take hq)).shortP
theorem errorsLaw {w : World} {l : List (Ev TE × Value)} {v : Value} {e : Ev TE} {ve : Value} (hA : Asc w) (hs : SlC w v 11 l.length (encs evp l)) (hE : ∀ p ∈ l,EvOk w p) (hl : l.length ≤ 9223372036854775807) (he : EvOk w (e,ve)) :
  Cl Tryz.prog 7 #[v,.agg (evc e ve).toArray] w (fun u w' => u = .bool true ∧ Ext w w') := by
 have hx := Ext.refl w
 obtain ⟨_,pe,ce,epe,_⟩ := id he.edits
 simp only at epe
 subst epe
 simp only [evc]
 obtain ⟨F,hFd⟩ : ∃ F : Fs,F = fun z => z < w.heap.size := ⟨_,rfl⟩
 have hF : Und F w.heap.size := fun z hz => by rw [hFd] at hz; exact hz
 have hF0 : ∀ z,z < w.heap.size → F z := fun z hz => by rw [hFd]; exact hz
 refine Cl.enter Tryz.func7 rfl Tryz.ntmps7 rfl rfl ?_
 refine Wp.seq (Wp.region ?_)
 refine Rg.wd trivial (w_boxed rfl rfl) rfl ?_
 rintro _ w1 ⟨b3,rfl,qb3,hx1,hv3⟩
 replace hx := hx.ext hx1
 refine Rg.tm trivial rfl (t_assign rfl) rfl ?_
 refine Rg.done ?_
 refine Wp.seq ?_
 refine Wp.seq (Wp.region ?_)
 refine Rg.wd trivial (w_call Tryz.call8 rfl (serverExample_ok (hA.ext hx))) rfl ?_
 rintro _ w2 ⟨rfl,hx2⟩
 replace hx := hx.ext hx2
 replace hv3 := hv3.ext hx2
 refine Rg.tm trivial rfl (t_notB rfl) rfl ?_
 refine Rg.done ?_
 refine Wp.condF rfl ?_
 refine Wp.skip ?_
 refine Wp.seq (Wp.region ?_)
 refine Rg.wd trivial (w_call Tryz.call12 rfl (new_ok (hx.ks hF).le')) rfl ?_
 rintro _ w3 ⟨⟨s,rfl,hsv⟩,hx3⟩
 replace hx := hx.ext hx3
 replace hv3 := hv3.ext hx3
 refine Rg.tm trivial rfl (t_assign rfl) rfl ?_
 refine Rg.done ?_
 refine Wp.seq (Wp.region ?_)
 refine Rg.tm trivial rfl (t_move rfl) rfl ?_
 refine Rg.tm trivial rfl (t_move rfl) rfl ?_
 refine Rg.wd trivial (w_call Tryz.call9 rfl (shortEvents_ok (n := 12) (hs.ext hx) (fun p hp => (hE p hp).ext hx) hl (by omega))) rfl ?_
 skip
 rintro v9 w4 ⟨ho9,hx4⟩
 replace hx := hx.ext hx4
 obtain ⟨es,hes⟩ : ∃ es,(l.take 12).map shortP = es := ⟨_,rfl⟩
 have hesl : (l.take 12).length = es.length := by rw [← hes,List.length_map]
 have hes12 : es.length ≤ 12 := by rw [← hesl]; exact takes 12
 have hesE : ∀ p ∈ es,EvOk w p := by rw [← hes]; exact short_ev hE 12
 rw [hes,hesl] at ho9
 have hrow := Row.ofOwn ho9
 replace hv3 := hv3.ext hx4
 replace hsv := hsv.ext hx4
 refine Rg.wd trivial (w_call Tryz.call11 rfl (play_ok (k := 0) (l := es) (w0 := w) hsv (hx.ks hF).le' hx hF0 hA good_new (by omega) (by omega) hrow hesE (.inr (by omega)) (by have := play_len (l := es.map (·.1)) good_new; rw [List.length_map] at this; omega))) rfl ?_
 rintro v16 wP ⟨_,⟨s2,hs2,hbs⟩,ksP⟩
 obtain ⟨st,hst⟩ : ∃ st,(playS Cx new0 (es.map (·.1))).1 = st := ⟨_,rfl⟩
 rw [hst] at hs2
 have hG : Good 12 st := by rw [← hst]; exact (good_new.play (l := es.map (·.1))).mono (k' := 12) (by rw [List.length_map]; omega)
 have hf := hG.fine (by omega)
 have hxP := Ks.ext0 ksP hx hF0
 replace hv3 := ksP.var _ _ _ (by decide) hv3
 rw [← hbs]
 clear hsv hx
 have hx := hxP
 clear hxP
 refine Rg.done ?_
 refine Wp.seq (Wp.region ?_)
 refine Rg.tm trivial rfl (t_move rfl) rfl ?_
 refine Rg.wd trivial (w_call Tryz.call19 rfl (modules_ok hs2 (by have := hf.mlen; omega))) rfl ?_
 rintro v18 wM ⟨hm18,hxM⟩
 have hsM := hs2.ext hxM
 replace hv3 := hv3.ext hxM
 replace hx := hx.ext hxM
 refine Rg.tm trivial rfl (t_move rfl) rfl ?_
 refine Rg.wd trivial (w_call Tryz.call15 rfl (pending_ok hsM (by have := hf.plen; omega))) rfl ?_
 rintro v20 wQ ⟨hp20,hxQ⟩
 have hsQ := hsM.ext hxQ
 have hm20 := own_ext hm18 hxQ
 replace hv3 := hv3.ext hxQ
 replace hx := hx.ext hxQ
 have hsR := hsQ.rest
 have hR0 := hsQ.rest_of hx hF0
 have hc3 := hv3.cells
 refine Rg.tm trivial rfl (t_assign rfl) rfl ?_
 refine Rg.tm trivial rfl (t_assign rfl) rfl ?_
 refine Rg.done ?_
 refine Wp.seq (Wp.region ?_)
 refine Rg.tm trivial rfl (t_move rfl) rfl ?_
 refine Rg.tm trivial rfl (t_loadA rfl hc3 ty29) rfl ?_
 refine Rg.wd trivial (w_call Tryz.call17 rfl (handle_ok (e := e) (ve := .slice pe e.edits.length ce) hsR (rest_und _ _) (hA.ext hx) hf hG.dbi (he.ext hx).edits he.few he.short (fun _ => hG.few (by omega)) he.max)) rfl ?_
 rintro _ wH ⟨⟨vH,rfl,hrH⟩,⟨s3,hs3,hbs3⟩,ksH⟩
 have hp24 := own_rest (B := 0) hsM hp20 ksH
 have hm24 := own_ks (F := F) hm20 ksH.var (by decide)
 replace hx := Ks.ext0 ksH hx hR0
 rw [← hbs3]
 refine Rg.tm trivial rfl (t_move rfl) rfl ?_
 refine Rg.tm trivial rfl (t_extract rfl rfl) rfl ?_
 refine Rg.tm trivial rfl (t_extract rfl rfl) rfl ?_
 refine Rg.tm trivial rfl (t_assign rfl) rfl ?_
 refine Rg.tm trivial rfl (t_assign rfl) rfl ?_
 refine Rg.done ?_
 refine Wp.seq ?_
 by_cases h0 : (handleS Cx st e).2.2 = 0
 ·skip
  refine Wp.seq (Wp.region ?_)
  refine Rg.tm trivial rfl (t_move rfl) rfl ?_
  refine Rg.tm trivial rfl (t_eqlT rfl rfl h0) rfl ?_
  refine Rg.done ?_
  refine Wp.condT rfl ?_
  refine Wp.seq (Wp.region ?_)
  refine Rg.wd trivial (w_call Tryz.call8 rfl (serverExample_ok (hA.ext hx))) rfl ?_
  rintro _ w6 ⟨rfl,hx6⟩
  replace hx := hx.ext hx6
  refine Rg.tm trivial rfl (t_assign rfl) rfl ?_
  refine Rg.done ?_
  refine Wp.ret ?_
  exact ⟨[_],⟨rfl,trivial⟩,rfl,hx⟩
 ·obtain ⟨z1,z2,z3⟩ := errors_law (C := Cx) st e h0
  rw [z1] at hrH
  obtain ⟨psH,epH,hoH,_⟩ := hrH
  obtain rfl : psH = [] := List.map_eq_nil_iff.1 epH
  obtain ⟨pH,cH,rfl⟩ := own_shape hoH
  have hy := Ext.refl wH
  refine Wp.seq (Wp.region ?_)
  refine Rg.tm trivial rfl (t_move rfl) rfl ?_
  refine Rg.tm trivial rfl (t_eqlF rfl rfl h0) rfl ?_
  refine Rg.done ?_
  refine Wp.condF rfl ?_
  refine Wp.skip ?_
  refine Wp.seq (Wp.region ?_)
  refine Rg.wd trivial (w_call Tryz.call8 rfl (serverExample_ok (hA.ext hx))) rfl ?_
  rintro _ w6 ⟨rfl,hx6⟩
  replace hx := hx.ext hx6
  replace hy := hy.ext hx6
  refine Rg.tm trivial rfl (t_move rfl) rfl ?_
  first | refine Rg.tm ⟨_,rfl,rfl⟩ rfl (t_move rfl) rfl ?_ | refine Rg.so rfl rfl ?_
  refine Rg.tm ⟨_,rfl,rfl⟩ rfl (t_lenS Tryz.underlying31 rfl) rfl ?_
  refine Rg.tm ⟨_,rfl,rfl⟩ rfl (t_eqlT rfl rfl rfl) rfl ?_
  first | refine Rg.tm trivial rfl (t_pickT rfl rfl) rfl ?_ | refine Rg.tm trivial rfl (t_pickF rfl rfl) rfl ?_
  refine Rg.tm trivial rfl (t_move rfl) rfl ?_
  first | refine Rg.tm ⟨_,rfl,rfl⟩ rfl (t_move rfl) rfl ?_ | refine Rg.so rfl rfl ?_
  refine Rg.wd ⟨_,rfl,rfl⟩ (w_call Tryz.call19 rfl (modules_ok (hs3.ext hy) (by rw [z2]; have := hf.mlen; omega))) rfl ?_
  rintro v38 w7 ⟨hm38,hx7⟩
  replace hx := hx.ext hx7
  replace hy := hy.ext hx7
  rw [z2] at hm38
  first | refine Rg.tm ⟨_,rfl,rfl⟩ rfl (t_move rfl) rfl ?_ | refine Rg.so rfl rfl ?_
  refine Rg.wd ⟨_,rfl,rfl⟩ (w_call Tryz.call20 rfl (equalM_ok (xs := st.mods) (ys := st.mods) (own_slice hm38) (own_slice (own_ext hm24 hy)) (by have := hf.mlen; omega))) rfl ?_
  rintro _ wE ⟨⟨bE,rfl,hbE⟩,hxE⟩
  obtain rfl : bE = true := hbE.2 rfl
  replace hx := hx.ext hxE
  replace hy := hy.ext hxE
  first | refine Rg.tm trivial rfl (t_pickT rfl rfl) rfl ?_ | refine Rg.tm trivial rfl (t_pickF rfl rfl) rfl ?_
  refine Rg.tm trivial rfl (t_move rfl) rfl ?_
  first | refine Rg.tm ⟨_,rfl,rfl⟩ rfl (t_move rfl) rfl ?_ | refine Rg.so rfl rfl ?_
  refine Rg.wd ⟨_,rfl,rfl⟩ (w_call Tryz.call15 rfl (pending_ok (hs3.ext hy) (by rw [z3]; have := hf.plen; omega))) rfl ?_
  rintro v44 w8 ⟨hm44,hx8⟩
  replace hx := hx.ext hx8
  replace hy := hy.ext hx8
  rw [z3] at hm44
  first | refine Rg.tm ⟨_,rfl,rfl⟩ rfl (t_move rfl) rfl ?_ | refine Rg.so rfl rfl ?_
  refine Rg.wd ⟨_,rfl,rfl⟩ (w_call Tryz.call21 rfl (equalQ_ok (xs := st.pend) (ys := st.pend) (own_slice hm44) (own_slice (own_ext hp24 hy)) (by have := hf.plen; omega))) rfl ?_
  rintro _ wE2 ⟨⟨bE,rfl,hbE2⟩,hxE2⟩
  obtain rfl : bE = true := hbE2.2 rfl
  replace hx := hx.ext hxE2
  first | refine Rg.tm trivial rfl (t_pickT rfl rfl) rfl ?_ | refine Rg.tm trivial rfl (t_pickF rfl rfl) rfl ?_
  refine Rg.tm trivial rfl (t_assign rfl) rfl ?_
  refine Rg.done ?_
  refine Wp.ret ?_
  exact ⟨[_],⟨rfl,trivial⟩,rfl,hx⟩
end Go.Proofs.YtliofpegbcegiaaGreatDoor
