/- Two servers side by side; the walk of the law ServerCanceled. Printed by r5/srvD.py. -/
import Derived.Test.YtliofpegbcegiaaGreatDoorJc
set_option linter.unusedVariables false
set_option linter.unusedSimpArgs false
namespace Go.Proofs.YtliofpegbcegiaaGreatDoor
set_option maxRecDepth 20000
open Go.Gx Go.RowKit Go.Lib
open Lexi (Asc)
theorem _root_.Go.Gx.Rs.sl {P : Program} {n : Nat} {ops : Array Oper} {S : World → Prop} {bars : List Nat} {K : Kn} {L : Env} {w : World} {dd : Tmp} {rest : List Oper} {v : Value} {ty : TypeId} {pos : String} {af : Array Edge} {g : Option (Nat × Bool)} {wB : World} {t e : TypeId} {x : Operand} {lo hi : Option Operand} {size m : Nat} {ag : Bool} {l h : Int} {cs : List Value} (hs : SlC wB v size m cs) (hg : gYes ops ⟨some dd,.slice t x lo hi none,ty,pos,af,g⟩ L) (hx : evO L x = some v) (hu : P.underlying t = some (.slice e)) (ht : Ty P e size ag)
  (hlo : optV L (.int .i64 0) lo = some (.int .i64 l)) (hhi : optV L (.int .i64 m) hi = some (.int .i64 h)) (hb : 0 ≤ l ∧ l ≤ h ∧ h ≤ m) (hd : Nat.blt dd n = true)
  (k : ∀ v',SlC wB v' size (h.toNat - l.toNat) ((cs.drop (l.toNat * size)).take ((h.toNat - l.toNat) * size)) → Go.Gx.Rs P ops n S bars K rest ((dd,v') :: L) w) : Go.Gx.Rs P ops n S bars K (⟨some dd,.slice t x lo hi none,ty,pos,af,g⟩ :: rest) L w := by
 obtain ⟨_,p,cap,rfl,h2,_⟩ := id hs
 exact Go.Gx.Rs.tm hg rfl (ts fun w' _ => t_sliceG hu ht hx hlo hhi ⟨hb.1,hb.2.1,by omega⟩) hd (k _ (hs.cut (by omega) (by omega)))
def Blw (w : World) : Fs := fun z => z < w.heap.size
theorem blw_und {w0 w : World} (hx : Ext w0 w) : Und (Blw w0) w.heap.size := fun z hz => Nat.lt_of_lt_of_le hz hx.le
theorem SvW.blw {w0 w w' : World} {a a' : SvQ} {sa sa' : St} (h : SvW (Blw w0) w a sa) (hx : Ext w0 w) (h' : SvW (Rest w a) w' a' sa') : SvW (Blw w0) w' a' sa' :=
 h'.reF fun z hz hb => h'.not z hz (h.rest_of hx (fun _ h => h) z hb)
structure Two (w0 w : World) (x y : SvQ) (sa sb : St) : Prop where
 a : SvW (Blw w0) w x sa
 b : SvW (Blw w0) w y sb
 dis : ∀ z,Foot x z → ¬ Foot y z
theorem Two.swap {w0 w : World} {a b : SvQ} {sa sb : St} (h : Two w0 w a b sa sb) : Two w0 w b a sb sa := ⟨h.b,h.a,fun z h1 h2 => h.dis z h2 h1⟩
theorem Two.ext {w0 w w' : World} {a b : SvQ} {sa sb : St} (h : Two w0 w a b sa sb) (k : Ext w w') : Two w0 w' a b sa sb := ⟨h.a.ext k,h.b.ext k,h.dis⟩
theorem Two.step {w0 w w' : World} {a b a' : SvQ} {sa sb sa' : St} (h : Two w0 w a b sa sb) (hx : Ext w0 w) (h' : SvW (Rest w a) w' a' sa') (ks : Ks (Rest w a) w w') : Two w0 w' a' b sa' sb :=
 ⟨h.a.blw hx h',h.b.ks ks fun z hz => ⟨h.b.lt z hz,fun hf => h.dis z hf hz⟩,fun z h1 h2 => h'.not z h1 ⟨h.b.lt z h2,fun hf => h.dis z hf h2⟩⟩
theorem Two.ks0 {w0 w w' : World} {a b : SvQ} {sa sb : St} (h : Two w0 w a b sa sb) (hx : Ext w0 w) (ks : Ks (Rest w a) w w') : Ext w0 w' := Ks.ext0 ks hx (h.a.rest_of hx (fun _ h => h))
def evCan (r : Rq) : Ev TE := ⟨5,0,0,noB,noB,[],r⟩
theorem canceledLaw {w : World} {l : List (Ev TE × Value)} {v : Value} {ch : Int} (hA : Asc w) (hs : SlC w v 11 l.length (encs evp l)) (hE : ∀ p ∈ l,EvOk w p) (hl : l.length ≤ 9223372036854775807) :
  Cl Tryz.prog 5 #[v,.int .i64 ch] w (fun u w' => u = .bool true ∧ Ext w w') := by
 have hx := Ext.refl w
 obtain ⟨i43,hi43,hz43,hsi43,hby43⟩ := inf43
 refine Cl.enter Tryz.func5 rfl Tryz.ntmps5 rfl rfl ?_
 refine Wp.seq (Wp.region ?_)
 refine Rg.tm trivial rfl (t_assign rfl) rfl ?_
 refine Rg.done ?_
 refine Wp.seq ?_
 refine Wp.seq (Wp.region ?_)
 refine Rg.wd trivial (w_call Tryz.call8 rfl (serverExample_ok (hA.ext hx))) rfl ?_
 rintro _ w1 ⟨rfl,hx1⟩
 replace hx := hx.ext hx1
 refine Rg.tm trivial rfl (t_notB rfl) rfl ?_
 refine Rg.done ?_
 refine Wp.condF rfl ?_
 refine Wp.skip ?_
 refine Wp.seq (Wp.region ?_)
 refine Rg.wd trivial (w_call Tryz.call12 rfl (new_ok (blw_und hx))) rfl ?_
 rintro _ w2 ⟨⟨a,rfl,ha⟩,hx2⟩
 replace hx := hx.ext hx2
 have hlta := ha.lt
 refine Rg.wd trivial (w_call Tryz.call12 rfl (new_ok (blw_und (Ext.refl _)))) rfl ?_
 rintro _ w3 ⟨⟨b,rfl,hb⟩,hx3⟩
 have hT : Two w w3 a b new0 new0 := ⟨ha.ext hx3,hb.reF fun z hz hw => hb.not z hz (Nat.lt_of_lt_of_le hw hx.le),fun z h1 h2 => hb.not z h2 (hlta z h1)⟩
 clear ha hb hlta
 replace hx := hx.ext hx3
 refine Rg.tm trivial rfl (t_assign rfl) rfl ?_
 refine Rg.tm trivial rfl (t_assign rfl) rfl ?_
 refine Rg.done ?_
 refine Wp.seq (Wp.region ?_)
 refine Rg.tm trivial rfl (t_move rfl) rfl ?_
 refine Rg.wd trivial (w_call Tryz.call9 rfl (shortEvents_ok (n := 12) (hs.ext hx) (fun p hp => (hE p hp).ext hx) hl (by omega))) rfl ?_
 rintro v9 w4 ⟨ho9,hx4⟩
 replace hx := hx.ext hx4
 replace hT := hT.ext hx4
 obtain ⟨es,hes⟩ : ∃ es,(l.take 12).map shortP = es := ⟨_,rfl⟩
 have hesl : (l.take 12).length = es.length := by rw [← hes,List.length_map]
 have hes12 : es.length ≤ 12 := by rw [← hesl]; exact takes 12
 have hesE : ∀ p ∈ es,EvOk w p := by rw [← hes]; exact short_ev hE 12
 rw [hes,hesl] at ho9
 have hrow := Row.ofOwn ho9
 obtain ⟨st,hst⟩ : ∃ st,(playS Cx new0 (es.map (·.1))).1 = st := ⟨_,rfl⟩
 have hG : Good 12 st := by rw [← hst]; exact (good_new.play (l := es.map (·.1))).mono (k' := 12) (by rw [List.length_map]; omega)
 have hf := hG.fine (by omega)
 refine Rg.tm trivial rfl (t_assign rfl) rfl ?_
 refine Rg.done ?_
 refine Wp.seq (Wp.region ?_)
 refine Rg.tm trivial rfl (t_move rfl) rfl ?_
 refine Rg.tm trivial rfl (t_move rfl) rfl ?_
 refine Rg.wd trivial (w_call Tryz.call11 rfl (play_ok (k := 0) (l := es) (w0 := w) hT.a.rest (rest_und _ _) hx (hT.a.rest_of hx (fun _ h => h)) hA good_new (by omega) (by omega) hrow hesE (.inr (by omega)) (by have := play_len (l := es.map (·.1)) good_new; rw [List.length_map] at this; omega))) rfl ?_
 rintro v23 wP ⟨_,⟨a2,ha2,hba⟩,ksP⟩
 rw [hst] at ha2
 have hT2 := hT.step hx ha2 ksP
 have hx2 := hT.ks0 hx ksP
 replace hrow := hrow.vk ksP.var (by decide)
 rw [← hba]
 clear hT hx
 have hx := hx2
 have hT := hT2
 clear hx2 hT2
 refine Rg.done ?_
 refine Wp.seq (Wp.region ?_)
 refine Rg.tm trivial rfl (t_move rfl) rfl ?_
 refine Rg.tm trivial rfl (t_move rfl) rfl ?_
 refine Rg.wd trivial (w_call Tryz.call11 rfl (play_ok (k := 0) (l := es) (w0 := w) hT.swap.a.rest (rest_und _ _) hx (hT.swap.a.rest_of hx (fun _ h => h)) hA good_new (by omega) (by omega) hrow hesE (.inr (by omega)) (by have := play_len (l := es.map (·.1)) good_new; rw [List.length_map] at this; omega))) rfl ?_
 rintro v26 wR ⟨_,⟨b2,hb2,hbb⟩,ksR⟩
 rw [hst] at hb2
 have hT2 := (hT.swap.step hx hb2 ksR).swap
 have hx2 := hT.swap.ks0 hx ksR
 rw [← hbb]
 clear hT hx hrow
 have hx := hx2
 have hT := hT2
 clear hx2 hT2
 refine Rg.done ?_
 refine Wp.seq (Wp.region ?_)
 refine Rg.tm trivial rfl (t_move rfl) rfl ?_
 refine Rg.wd trivial (w_call Tryz.call15 rfl (pending_ok hT.a (by have := hf.plen; omega))) rfl ?_
 rintro v28 wQ ⟨ho28,hxQ⟩
 have hTp := hT
 replace hT := hT.ext hxQ
 replace hx := hx.ext hxQ
 have hps := own_slice ho28
 have hpl := hf.plen
 refine Rg.tm trivial rfl (t_assign rfl) rfl ?_
 refine Rg.done ?_
 refine Wp.seq ?_
 by_cases h0 : st.pend.length = 0
 ·skip
  refine Wp.seq (Wp.region ?_)
  refine Rg.tm trivial rfl (t_move rfl) rfl ?_
  refine Rg.tm trivial rfl (t_lenC hps Tryz.underlying38 rfl) rfl ?_
  refine Rg.tm trivial rfl (t_eqlT rfl rfl (by omega)) rfl ?_
  refine Rg.done ?_
  refine Wp.condT rfl ?_
  refine Wp.seq (Wp.region ?_)
  refine Rg.wd trivial (w_call Tryz.call8 rfl (serverExample_ok (hA.ext hx))) rfl ?_
  rintro _ w5 ⟨rfl,hx5⟩
  replace hx := hx.ext hx5
  refine Rg.tm trivial rfl (t_assign rfl) rfl ?_
  refine Rg.done ?_
  refine Wp.ret ?_
  exact ⟨[_],⟨rfl,trivial⟩,rfl,hx⟩
 ·skip
  refine Wp.seq (Wp.region ?_)
  refine Rg.tm trivial rfl (t_move rfl) rfl ?_
  refine Rg.tm trivial rfl (t_lenC hps Tryz.underlying38 rfl) rfl ?_
  refine Rg.tm trivial rfl (t_eqlF rfl rfl (by omega)) rfl ?_
  refine Rg.done ?_
  refine Wp.condF rfl ?_
  refine Wp.skip ?_
  refine Wp.seq (Wp.region ?_)
  refine Rg.tm trivial rfl (t_move rfl) rfl ?_
  refine Rg.tm trivial rfl (t_move rfl) rfl ?_
  refine Rg.tm trivial rfl (t_lenC hps Tryz.underlying38 rfl) rfl ?_
  refine Rg.wd trivial (w_call Tryz.call16 rfl (mod_ok (n := st.pend.length) (by omega) (by omega))) rfl ?_
  rintro _ w5 ⟨⟨k,rfl,hk,_⟩,hx5⟩
  replace hx := hx.ext hx5
  replace hT := hT.ext hx5
  have ho36 := own_ext ho28 hx5
  have hps36 := own_slice ho36
  obtain ⟨r,hr⟩ : ∃ r,st.pend[k] = r := ⟨_,rfl⟩
  have hrk : st.pend[k]? = some r := by rw [List.getElem?_eq_getElem hk,hr]
  obtain ⟨z1,z2,z3,z4⟩ := cancel_law hG.inv hrk
  obtain ⟨sc,hsc⟩ : ∃ sc,({ st with pend := st.pend.eraseIdx k } : St) = sc := ⟨_,rfl⟩
  rw [hsc] at z1 z2 z3
  have hh1 : handleS Cx st (evCan r) = (sc,[⟨r.client,r.id,12,st.rev,[],noB⟩],0) := z1
  have hh2 : handleS Cx sc (evCan r) = (sc,[],5) := z2
  have hG1 : Good 13 sc := by have := hG.handle (evCan r); rw [hh1] at this; exact this
  have hf1 := hG1.fine (by omega)
  have heC : EvOk w (evCan r,.slice none 0 0) := evOk_nil (by decide)
  have hgc : ∀ i,v28.ownBlock = some i → ¬ Foot a2 i := fun i hi hf => by have := (ho28.lt i hi).1; have := hTp.a.lt i hf; omega
  obtain ⟨rcl,rid,rq,ra,rn⟩ := r
  refine Rg.tm trivial rfl (t_assign rfl) rfl ?_
  refine Rg.done ?_
  refine Wp.seq (Wp.region ?_)
  refine Rg.tm trivial rfl (t_move rfl) rfl ?_
  refine Rg.tm trivial rfl (t_move rfl) rfl ?_
  refine Rg.tm trivial rfl (t_move rfl) rfl ?_
  refine Rg.ix hps36 trivial rfl rfl Tryz.underlying38 ty27 (by omega) rfl ?_
  intro bt41 ot41 ht41
  rw [Int.toNat_natCast,encs_at rc_len st.pend k hk,hr] at ht41
  simp only [rc] at ht41
  refine Rg.tm trivial rfl (t_loadA rfl ht41 ty27) rfl ?_
  refine Rg.tm trivial rfl (t_build (bd29_0_6 _ _ _ _ _ _) rfl) rfl ?_
  refine Rg.wd trivial (w_call Tryz.call17 rfl (handle_ok (e := evCan ⟨rcl,rid,rq,ra,rn⟩) (ve := .slice none 0 0) hT.a.rest (rest_und _ _) (hA.ext hx) hf hG.dbi (heC.ext hx).edits heC.few heC.short (fun e => absurd e (by show (5 : Int) ≠ 7; decide)) heC.max)) rfl ?_
  rintro _ wH ⟨⟨v9a,rfl,hr9⟩,⟨a3,ha3,hba3⟩,ksH⟩
  rw [hh1] at hr9 ha3
  rw [hh1]
  have hT3 := hT.step hx ha3 ksH
  have hx3 := hT.ks0 hx ksH
  have ho44 : wH.ownsRow wR.heap.size 27 5 v28 st.pend.length (encs rc st.pend) := by
   obtain ⟨e1,e2⟩ := ho36
   refine ⟨e1,e2.imp id ?_⟩
   rintro ⟨g,cap,cur,rfl,hb,hg,h2,h3,h4,h5⟩
   have hr : Rest _ a2 g := ⟨(Array.getElem?_eq_some_iff.1 hg).1,hgc g rfl⟩
   exact ⟨g,cap,cur,rfl,hb,by rw [ksH.base.block g hr]; exact hg,h2,h3,h4,h5⟩
  have hps44 := own_slice ho44
  replace hr9 := hr9.mono (Nat.zero_le _)
  rw [← hba3]
  clear hT hx
  have hx := hx3
  have hT := hT3
  clear hx3 hT3
  refine Rg.tm trivial rfl (t_move rfl) rfl ?_
  refine Rg.tm trivial rfl (t_extract rfl rfl) rfl ?_
  refine Rg.tm trivial rfl (t_extract rfl rfl) rfl ?_
  refine Rg.tm trivial rfl (t_assign rfl) rfl ?_
  refine Rg.tm trivial rfl (t_assign rfl) rfl ?_
  refine Rg.done ?_
  refine Wp.seq (Wp.region ?_)
  refine Rg.tm trivial rfl (t_move rfl) rfl ?_
  refine Rg.tm trivial rfl (t_move rfl) rfl ?_
  refine Rg.tm trivial rfl (t_move rfl) rfl ?_
  refine Rg.ix hps44 trivial rfl rfl Tryz.underlying38 ty27 (by omega) rfl ?_
  intro bt51 ot51 ht51
  rw [Int.toNat_natCast,encs_at rc_len st.pend k hk,hr] at ht51
  simp only [rc] at ht51
  refine Rg.tm trivial rfl (t_loadA rfl ht51 ty27) rfl ?_
  refine Rg.tm trivial rfl (t_build (bd29_0_6 _ _ _ _ _ _) rfl) rfl ?_
  refine Rg.wd trivial (w_call Tryz.call17 rfl (handle_ok (e := evCan ⟨rcl,rid,rq,ra,rn⟩) (ve := .slice none 0 0) hT.a.rest (rest_und _ _) (hA.ext hx) hf1 hG1.dbi (heC.ext hx).edits heC.few heC.short (fun e => absurd e (by show (5 : Int) ≠ 7; decide)) heC.max)) rfl ?_
  rintro _ wH2 ⟨⟨v11,rfl,hr11⟩,⟨a4,ha4,hba4⟩,ksH2⟩
  rw [hh2] at hr11 ha4
  rw [hh2]
  have hT3 := hT.step hx ha4 ksH2
  have hx3 := hT.ks0 hx ksH2
  replace hr9 := hr9.vk ksH2.var (by decide) (by decide)
  replace hr11 := hr11.mono (Nat.zero_le _)
  rw [← hba4]
  clear hT hx
  have hx := hx3
  have hT := hT3
  clear hx3 hT3
  refine Rg.tm trivial rfl (t_move rfl) rfl ?_
  refine Rg.tm trivial rfl (t_extract rfl rfl) rfl ?_
  refine Rg.tm trivial rfl (t_extract rfl rfl) rfl ?_
  refine Rg.tm trivial rfl (t_assign rfl) rfl ?_
  refine Rg.tm trivial rfl (t_assign rfl) rfl ?_
  refine Rg.done ?_
  refine Wp.seq (Wp.region ?_)
  refine Rg.tm trivial rfl (t_move rfl) rfl ?_
  refine Rg.tm trivial rfl (t_build (bd29_0_1 _ _) rfl) rfl ?_
  refine Rg.wd trivial (w_buildSlice (bs22_1 _ _ _ _ _ _ _ _ _ _ _ _ _) rfl) rfl ?_
  rintro _ w6 ⟨bbx,rfl,qbx,hx6,hvbb⟩
  replace hx := hx.ext hx6
  replace hT := hT.ext hx6
  replace hr9 := hr9.ext hx6
  replace hr11 := hr11.ext hx6
  have hrow1 : Row w6 29 11 (.slice (some ⟨bbx,0,none⟩) 1 1) 1 (encs evp [evRun 20]) := Row.ofOwn (own_of_varS hvbb (Nat.zero_le _) rfl (by unfold maxLen; decide))
  clear hvbb
  refine Rg.wd trivial (w_call Tryz.call11 rfl (playRun_ok (k := 13) (w0 := w) hT.a.rest (rest_und _ _) hx (hT.a.rest_of hx (fun _ h => h)) hA hG1 (by omega) (by decide) hrow1)) rfl ?_
  rintro v13 wX ⟨hr13,⟨a5,ha5,hba5⟩,ksX⟩
  rw [z3] at hr13
  have hT3 := hT.step hx ha5 ksX
  have hx3 := hT.ks0 hx ksX
  replace hr9 := hr9.vk ksX.var (by decide) (by decide)
  replace hr11 := hr11.vk ksX.var (by decide) (by decide)
  replace hr13 := hr13.mono (Nat.zero_le _)
  clear hT hx hrow1
  have hx := hx3
  have hT := hT3
  clear hx3 hT3
  refine Rg.tm trivial rfl (t_assign rfl) rfl ?_
  refine Rg.done ?_
  refine Wp.seq (Wp.region ?_)
  refine Rg.tm trivial rfl (t_move rfl) rfl ?_
  refine Rg.tm trivial rfl (t_build (bd29_0_1 _ _) rfl) rfl ?_
  refine Rg.wd trivial (w_buildSlice (bs22_1 _ _ _ _ _ _ _ _ _ _ _ _ _) rfl) rfl ?_
  rintro _ w7 ⟨bby,rfl,qby,hx7,hvbb⟩
  replace hx := hx.ext hx7
  replace hT := hT.ext hx7
  replace hr9 := hr9.ext hx7
  replace hr11 := hr11.ext hx7
  replace hr13 := hr13.ext hx7
  have hrow1 : Row w7 29 11 (.slice (some ⟨bby,0,none⟩) 1 1) 1 (encs evp [evRun 20]) := Row.ofOwn (own_of_varS hvbb (Nat.zero_le _) rfl (by unfold maxLen; decide))
  clear hvbb
  refine Rg.wd trivial (w_call Tryz.call11 rfl (playRun_ok (k := 12) (w0 := w) hT.swap.a.rest (rest_und _ _) hx (hT.swap.a.rest_of hx (fun _ h => h)) hA hG (by omega) (by decide) hrow1)) rfl ?_
  rintro v14 wY ⟨hr14,⟨b5,hb5,hbb5⟩,ksY⟩
  rw [z4] at hr14
  have hx3 := hT.swap.ks0 hx ksY
  replace hr9 := hr9.vk ksY.var (by decide) (by decide)
  replace hr11 := hr11.vk ksY.var (by decide) (by decide)
  replace hr13 := hr13.vk ksY.var (by decide) (by decide)
  clear hT hx hrow1
  have hx := hx3
  clear hx3
  obtain ⟨p9,ep9,ho9_,hn9⟩ := hr9
  obtain ⟨p11,ep11,ho11,hn11⟩ := hr11
  obtain ⟨p13,ep13,ho13,hn13⟩ := hr13
  obtain ⟨p14,ep14,ho14,hn14⟩ := hr14
  have l9 : p9.length = 1 := by have := congrArg List.length ep9; simpa using this
  have l11 : p11.length = 0 := by have := congrArg List.length ep11; simpa using this
  have l14 : p14.length = st.pend.length := by have := congrArg List.length ep14; simpa using this
  have l13 : p13.length = st.pend.length - 1 := by have := congrArg List.length ep13; rw [List.length_map,List.length_map] at this; rw [this,List.length_eraseIdx_of_lt hk]
  have s9 := own_slice ho9_
  have s11 := own_slice ho11
  have s13 := own_slice ho13
  have s14 := own_slice ho14
  have hl9 : 0 < p9.length := by omega
  have hp9 : (p9[0]).1.err = 12 := by
   have h1 : (p9.map (·.1))[0]? = some (⟨rcl,rid,12,st.rev,[],noB⟩ : Rs) := by rw [ep9]; rfl
   rw [List.getElem?_map,List.getElem?_eq_getElem hl9] at h1
   have h2 := Option.some.inj h1
   simp only at h2
   rw [h2]
  refine Rg.tm trivial rfl (t_assign rfl) rfl ?_
  refine Rg.done ?_
  refine Wp.seq ?_
  refine Wp.seq (Wp.region ?_)
  refine Rg.tm trivial rfl (t_move rfl) rfl ?_
  refine Rg.tm trivial rfl (t_lenC s14 Tryz.underlying31 rfl) rfl ?_
  refine Rg.tm trivial rfl (t_move rfl) rfl ?_
  refine Rg.tm trivial rfl (t_lenC hps Tryz.underlying38 rfl) rfl ?_
  refine Rg.tm trivial rfl (t_neqF rfl rfl (by omega)) rfl ?_
  refine Rg.tm trivial rfl (t_move rfl) rfl ?_
  first | refine Rg.tm ⟨_,rfl,rfl⟩ rfl (t_move rfl) rfl ?_ | refine Rg.so rfl rfl ?_
  refine Rg.tm ⟨_,rfl,rfl⟩ rfl (t_neqF rfl rfl (by simp)) rfl ?_
  first | refine Rg.tm trivial rfl (t_pickT rfl rfl) rfl ?_ | refine Rg.tm trivial rfl (t_pickF rfl rfl) rfl ?_
  refine Rg.tm trivial rfl (t_move rfl) rfl ?_
  first | refine Rg.tm ⟨_,rfl,rfl⟩ rfl (t_move rfl) rfl ?_ | refine Rg.so rfl rfl ?_
  refine Rg.tm ⟨_,rfl,rfl⟩ rfl (t_neqF rfl rfl (by simp)) rfl ?_
  first | refine Rg.tm trivial rfl (t_pickT rfl rfl) rfl ?_ | refine Rg.tm trivial rfl (t_pickF rfl rfl) rfl ?_
  refine Rg.tm trivial rfl (t_move rfl) rfl ?_
  first | refine Rg.tm ⟨_,rfl,rfl⟩ rfl (t_move rfl) rfl ?_ | refine Rg.so rfl rfl ?_
  first | refine Rg.tm ⟨_,rfl,rfl⟩ rfl (t_lenC s11 Tryz.underlying31 rfl) rfl ?_ | refine Rg.so rfl rfl ?_
  refine Rg.tm ⟨_,rfl,rfl⟩ rfl (t_neqF rfl rfl (by omega)) rfl ?_
  first | refine Rg.tm trivial rfl (t_pickT rfl rfl) rfl ?_ | refine Rg.tm trivial rfl (t_pickF rfl rfl) rfl ?_
  refine Rg.tm trivial rfl (t_move rfl) rfl ?_
  first | refine Rg.tm ⟨_,rfl,rfl⟩ rfl (t_move rfl) rfl ?_ | refine Rg.so rfl rfl ?_
  first | refine Rg.tm ⟨_,rfl,rfl⟩ rfl (t_lenC s9 Tryz.underlying31 rfl) rfl ?_ | refine Rg.so rfl rfl ?_
  refine Rg.tm ⟨_,rfl,rfl⟩ rfl (t_neqF rfl rfl (by omega)) rfl ?_
  first | refine Rg.tm trivial rfl (t_pickT rfl rfl) rfl ?_ | refine Rg.tm trivial rfl (t_pickF rfl rfl) rfl ?_
  refine Rg.tm trivial rfl (t_move rfl) rfl ?_
  first | refine Rg.tm ⟨_,rfl,rfl⟩ rfl (t_move rfl) rfl ?_ | refine Rg.so rfl rfl ?_
  refine Rg.ix s9 ⟨_,rfl,rfl⟩ rfl rfl Tryz.underlying31 ty43 (by omega) rfl ?_
  intro bt90 ot90 ht90
  rw [show (0 : Int).toNat = 0 from rfl,encs_at rsc_len p9 0 hl9] at ht90
  simp only [rsc] at ht90
  first | refine Rg.tm ⟨_,rfl,rfl⟩ rfl (t_fieldAddr fa43_2 rfl) rfl ?_ | refine Rg.so rfl rfl ?_
  refine Rg.tm ⟨_,rfl,rfl⟩ rfl (t_load ty40 rfl (Cells.get (i := 2) ht90 rfl)) rfl ?_
  refine Rg.tm ⟨_,rfl,rfl⟩ rfl (t_neqF rfl rfl (by omega)) rfl ?_
  first | refine Rg.tm trivial rfl (t_pickT rfl rfl) rfl ?_ | refine Rg.tm trivial rfl (t_pickF rfl rfl) rfl ?_
  refine Rg.done ?_
  refine Wp.condF rfl ?_
  refine Wp.skip ?_
  have hx0Y := hx
  have hyy := Ext.refl wY
  refine Wp.seq (Wp.drawS (fun _ => True) [0,1,2,3,4,5,7,8,9,10,6,11,12,13,14] [] mixed (by kernel_rfl) (by kernel_rfl) (by rfl) ?_)
  intro w8 hx8 hh8
  replace hx := hx.ext hx8
  replace hyy := hyy.ext hx8
  refine ⟨trivial,?_⟩
  refine Rs.wd trivial rfl (w_call Tryz.call8 rfl (serverExample_ok (hA.ext hx))) rfl (fun _ => fun _ _ _ => trivial) ?_
  rintro _ w9 ⟨rfl,hx9⟩
  replace hx := hx.ext hx9
  replace hyy := hyy.ext hx9
  refine Rs.tm trivial rfl (ts fun wz hkz => by exact t_move rfl) rfl ?_
  first | refine Rs.tm ⟨_,rfl,rfl⟩ rfl (ts fun wz hkz => by exact t_move rfl) rfl ?_ | refine Rs.sk (.inl ⟨_,_,rfl,rfl,rfl⟩) rfl ?_ | refine Rs.sk (.inr ⟨_,rfl,rfl⟩) rfl ?_
  first | refine Rs.tm ⟨_,rfl,rfl⟩ rfl (ts fun wz hkz => by exact t_move rfl) rfl ?_ | refine Rs.sk (.inl ⟨_,_,rfl,rfl,rfl⟩) rfl ?_ | refine Rs.sk (.inr ⟨_,rfl,rfl⟩) rfl ?_
  first | refine Rs.tm ⟨_,rfl,rfl⟩ rfl (ts fun wz hkz => by exact t_move rfl) rfl ?_ | refine Rs.sk (.inl ⟨_,_,rfl,rfl,rfl⟩) rfl ?_ | refine Rs.sk (.inr ⟨_,rfl,rfl⟩) rfl ?_
  refine Go.Gx.Rs.sl s14 ⟨_,rfl,rfl⟩ rfl Tryz.underlying31 ty43 rfl rfl (by omega) rfl ?_
  intro vt100 ht100
  first | refine Rs.tm ⟨_,rfl,rfl⟩ rfl (ts fun wz hkz => by exact t_move rfl) rfl ?_ | refine Rs.sk (.inl ⟨_,_,rfl,rfl,rfl⟩) rfl ?_ | refine Rs.sk (.inr ⟨_,rfl,rfl⟩) rfl ?_
  first | refine Rs.tm ⟨_,rfl,rfl⟩ rfl (ts fun wz hkz => by exact t_move rfl) rfl ?_ | refine Rs.sk (.inl ⟨_,_,rfl,rfl,rfl⟩) rfl ?_ | refine Rs.sk (.inr ⟨_,rfl,rfl⟩) rfl ?_
  refine Rs.tm ⟨_,rfl,rfl⟩ rfl (ts fun wz hkz => t_addI rfl rfl (by omega)) rfl ?_
  refine Go.Gx.Rs.sl s14 ⟨_,rfl,rfl⟩ rfl Tryz.underlying31 ty43 rfl rfl (by omega) rfl ?_
  intro vt105 ht105
  refine Rs.wd ⟨_,rfl,rfl⟩ rfl (w_call Tryz.call18 rfl (cloneResp_ok (n := k) (cs := encs rsc (p14.take k)) (by rw [← encs_take rsc_len]; simpa using ht100.ext hyy) (NumsW.one (fun p hp => hn14 p (List.mem_of_mem_take hp))) (by omega))) rfl (fun _ => fun _ _ _ => trivial) ?_
  have hleC := hyy.le
  rintro v101 w10 ⟨ho101,hx10⟩
  replace ho101 := own_mono ho101 hleC
  replace hx := hx.ext hx10
  replace hyy := hyy.ext hx10
  refine Rs.wd ⟨_,rfl,rfl⟩ rfl (w_appendC wY.heap.size (news := encs rsc (p14.drop (k + 1))) (k := p14.length - (k + 1)) Tryz.underlying31 hi43 hz43 hsi43 hby43 rfl (by decide) rfl rfl ho101 (by
    have h9 : SlC w10 vt105 6 (p14.length - (k + 1)) (((encs rsc p14).drop ((k + 1) * 6)).take ((p14.length - (k + 1)) * 6)) := by simpa using ht105.ext hyy
    rw [List.take_of_length_le (by rw [List.length_drop,encs_len rsc_len,Nat.sub_mul]; exact Nat.le_refl _),encs_drop rsc_len] at h9
    exact h9) (NumsW.one (fun p hp => hn14 p (List.mem_of_mem_drop hp))) (by unfold maxLen; omega) (by omega) hyy.le) rfl (fun _ => fun _ _ _ => trivial) ?_
  rintro v106 wZ ⟨ho106,hgr,_⟩
  have hZ := own_ext3 hyy ho101 hgr
  have hxZ := hx0Y.ext hZ
  obtain ⟨qs,hqs⟩ : ∃ qs,p14.take k ++ p14.drop (k + 1) = qs := ⟨_,rfl⟩
  have hql : qs.length = k + (p14.length - (k + 1)) := by rw [← hqs,List.length_append,List.length_take,List.length_drop]; omega
  have hqn : NumsW wZ qs := fun p hp => by
   rw [← hqs] at hp
   refine Row.ext (hn14 p ?_) hZ
   rcases List.mem_append.1 hp with hp | hp
   ·exact List.mem_of_mem_take hp
   ·exact List.mem_of_mem_drop hp
  have hqe : p13.map (·.1) = qs.map (·.1) := by
   rw [← hqs,List.map_append,List.map_take,List.map_drop,ep14,ep13,List.eraseIdx_eq_take_drop_succ,List.map_append,List.map_take,List.map_drop]
  rw [← encs_append,hqs,← hql] at ho106
  have s106 := own_slice ho106
  have s13Z := (own_slice ho13).ext hZ
  have n13Z := NumsW.ext hn13 hZ
  refine Rs.wd ⟨_,rfl,rfl⟩ rfl (w_call Tryz.call10 rfl (same_ok (ps := p13) (qs := qs) s13Z s106 n13Z hqn (by omega))) rfl (fun _ => fun _ _ _ => trivial) ?_
  rintro _ wE ⟨⟨bE,rfl,hbE⟩,hxE⟩
  obtain rfl : bE = true := hbE.2 hqe
  first | refine Rs.tm trivial rfl (ts fun wz hkz => by exact t_pickT rfl rfl) rfl ?_ | refine Rs.tm trivial rfl (ts fun wz hkz => by exact t_pickF rfl rfl) rfl ?_
  refine Rs.tm trivial rfl (ts fun wz hkz => by exact t_assign rfl) rfl ?_
  refine Rs.done ?_
  refine Wp.ret ?_
  exact ⟨[_],⟨rfl,trivial⟩,rfl,hxZ.ext hxE⟩
end Go.Proofs.YtliofpegbcegiaaGreatDoor
