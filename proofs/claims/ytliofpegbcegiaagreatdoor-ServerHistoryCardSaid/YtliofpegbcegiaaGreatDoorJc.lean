/- The walk of the law ServerProgress. Printed by r5/srvC.py. -/
import Derived.Test.YtliofpegbcegiaaGreatDoorJa
set_option linter.unusedVariables false
set_option linter.unusedSimpArgs false
namespace Go.Proofs.YtliofpegbcegiaaGreatDoor
set_option maxRecDepth 20000
open Go.Gx Go.RowKit Go.Lib
open Lexi (Asc)
theorem runs_snoc : ∀ (k : Nat) (st : St),runs (k + 1) st = ((runS (runs k st).1 1).1,(runs k st).2 ++ (runS (runs k st).1 1).2.1)
 | 0,st => by simp [runs]
 | k + 1,st => by
  rw [show runs (k + 1 + 1) st = ((runs (k + 1) (runS st 1).1).1,(runS st 1).2.1 ++ (runs (k + 1) (runS st 1).1).2) from rfl,runs_snoc k (runS st 1).1]
  simp only [runs,List.append_assoc]
theorem good_runs : ∀ (k : Nat) {m : Nat} {st : St},Good m st → Good (m + k) (runs k st).1
 | 0,m,st,h => h
 | k + 1,m,st,h => by
  have := good_runs k (h.run 1)
  rw [show m + (k + 1) = m + 1 + k from by omega]
  exact this
def evRun (n : Int) : Ev TE × Value := (⟨6,n,0,noB,noB,[],⟨0,0,0,0,noB⟩⟩,.slice none 0 0)
theorem play_run (st : St) (n : Int) : playS Cx st [(evRun n).1] = ((runS st n).1,(runS st n).2.1) := by
 simp only [playS]
 rw [show handleS Cx st (evRun n).1 = runS st n from rfl]
 simp
theorem answer_client (ms : List MD) (rev : Int) (r : Rq) : (answer ms rev r).client = r.client ∧ (answer ms rev r).id = r.id := by
 unfold answer
 split
 ·exact ⟨rfl,rfl⟩
 ·split <;> exact ⟨rfl,rfl⟩
theorem run_len {k : Nat} {st : St} (h : Good k st) (n : Int) : (runS st n).2.1.length ≤ 20 := by
 have := play_len (l := [(evRun n).1]) h
 rw [play_run] at this
 simpa using this
theorem playRun_ok {F : Fs} {w0 w : World} {s : SvQ} {st : St} {v : Value} {k : Nat} {n : Int} (h : SvW F w s st) (hF : Und F w.heap.size) (hx0 : Ext w0 w) (hF0 : ∀ z,z < w0.heap.size → F z) (hA : Asc w0) (hG : Good k st) (hk : k + 1 ≤ 900) (hn : n ≤ 9223372036854775807)
  (hv : Row w 29 11 v 1 (encs evp [evRun n])) :
  Cl Tryz.prog 11 #[.pointer (some ⟨s.bS,0,none⟩),v] w (fun u w' => RsW w.heap.size w' u (runS st n).2.1 ∧ (∃ s',SvW F w' s' (runS st n).1 ∧ s'.bS = s.bS) ∧ Ks F w w') := by
 have := play_ok (l := [evRun n]) (w0 := w0) h hF hx0 hF0 hA hG (by simpa using hk) (by simp) hv (fun p hp => by obtain rfl := List.mem_singleton.1 hp; exact evOk_nil hn) (.inl fun p hp => by obtain rfl := List.mem_singleton.1 hp; show (6 : Int) ≠ 7; decide) (by have := play_len (l := [(evRun n).1]) hG; simp only [List.map_cons,List.map_nil]; simp at this; omega)
 rw [show ([evRun n].map (·.1)) = [(evRun n).1] from rfl,play_run] at this
 exact this
theorem progressLaw {w : World} {l : List (Ev TE × Value)} {v : Value} (hA : Asc w) (hs : SlC w v 11 l.length (encs evp l)) (hE : ∀ p ∈ l,EvOk w p) (hl : l.length ≤ 9223372036854775807) :
  Cl Tryz.prog 4 #[v] w (fun u w' => u = .bool true ∧ Ext w w') := by
 have hx := Ext.refl w
 obtain ⟨i43,hi43,hz43,hsi43,hby43⟩ := inf43
 obtain ⟨F,hFd⟩ : ∃ F : Fs,F = fun z => z < w.heap.size := ⟨_,rfl⟩
 have hF : Und F w.heap.size := fun z hz => by rw [hFd] at hz; exact hz
 have hF0 : ∀ z,z < w.heap.size → F z := fun z hz => by rw [hFd]; exact hz
 refine Cl.enter Tryz.func4 rfl Tryz.ntmps4 rfl rfl ?_
 refine Wp.seq (Wp.region ?_)
 refine Rg.tm trivial rfl (t_assign rfl) rfl ?_
 refine Rg.done ?_
 refine Wp.seq ?_
 refine Wp.seq (Wp.region ?_)
 refine Rg.wd trivial (w_call Tryz.call8 rfl (serverExample_ok (hA.ext hx))) rfl ?_
 rintro _ w1 ⟨rfl,hx1⟩
 replace hx := hx.ext hx1
 refine Rg.tm trivial rfl (t_notB rfl) rfl ?_
 refine Rg.done ?_
 refine Wp.condF rfl ?_
 refine Wp.skip ?_
 refine Wp.seq (Wp.region ?_)
 refine Rg.wd trivial (w_call Tryz.call12 rfl (new_ok (hx.ks hF).le')) rfl ?_
 rintro _ w2 ⟨⟨s,rfl,hsv⟩,hx2⟩
 replace hx := hx.ext hx2
 refine Rg.tm trivial rfl (t_assign rfl) rfl ?_
 refine Rg.done ?_
 refine Wp.seq (Wp.region ?_)
 refine Rg.tm trivial rfl (t_move rfl) rfl ?_
 refine Rg.tm trivial rfl (t_move rfl) rfl ?_
 refine Rg.wd trivial (w_call Tryz.call9 rfl (shortEvents_ok (n := 12) (hs.ext hx) (fun p hp => (hE p hp).ext hx) hl (by omega))) rfl ?_
 rintro v9 w3 ⟨ho9,hx3⟩
 replace hx := hx.ext hx3
 obtain ⟨es,hes⟩ : ∃ es,(l.take 12).map shortP = es := ⟨_,rfl⟩
 have hesl : (l.take 12).length = es.length := by rw [← hes,List.length_map]
 have hes12 : es.length ≤ 12 := by rw [← hesl]; exact takes 12
 have hesE : ∀ p ∈ es,EvOk w p := by rw [← hes]; exact short_ev hE 12
 rw [hes,hesl] at ho9
 have hrow := Row.ofOwn ho9
 replace hsv := hsv.ext hx3
 refine Rg.wd trivial (w_call Tryz.call11 rfl (play_ok (k := 0) (l := es) (w0 := w) hsv (hx.ks hF).le' hx hF0 hA good_new (by omega) (by omega) hrow hesE (.inr (by omega)) (by have := play_len (l := es.map (·.1)) good_new; rw [List.length_map] at this; omega))) rfl ?_
 rintro v16 wP ⟨_,⟨s2,hs2,hbs⟩,ksP⟩
 obtain ⟨st,hst⟩ : ∃ st,(playS Cx new0 (es.map (·.1))).1 = st := ⟨_,rfl⟩
 rw [hst] at hs2
 have hG : Good 12 st := by rw [← hst]; exact (good_new.play (l := es.map (·.1))).mono (k' := 12) (by rw [List.length_map]; omega)
 have hf := hG.fine (by omega)
 have hxP := Ks.ext0 ksP hx hF0
 rw [← hbs]
 clear hsv hx
 have hx := hxP
 clear hxP
 refine Rg.done ?_
 refine Wp.seq (Wp.region ?_)
 refine Rg.tm trivial rfl (t_move rfl) rfl ?_
 refine Rg.wd trivial (w_call Tryz.call15 rfl (pending_ok hs2 (by have := hf.plen; omega))) rfl ?_
 rintro v20 wQ ⟨hp20,hxQ⟩
 have hsQ := hs2.ext hxQ
 replace hx := hx.ext hxQ
 have hsR := hsQ.rest
 have hR0 := hsQ.rest_of hx hF0
 have hps := own_slice hp20
 have hpl := hf.plen
 refine Rg.tm trivial rfl (t_assign rfl) rfl ?_
 refine Rg.done ?_
 refine Wp.seq (Wp.region ?_)
 refine Rg.tm trivial rfl (t_assign rfl) rfl ?_
 refine Rg.done ?_
 refine Wp.seq ?_
 refine Wp.seq (Wp.region ?_)
 refine Rg.tm trivial rfl (t_move rfl) rfl ?_
 refine Rg.tm trivial rfl (t_lenC hps Tryz.underlying38 rfl) rfl ?_
 refine Rg.tm trivial rfl (t_move rfl) rfl ?_
 refine Rg.done ?_
 refine Wp.block ?_
 refine Wp.loop (ι := Value × Nat) (fun i => [(3,.pointer (some ⟨s2.bS,0,none⟩)),(4,v20),(5,i.1),(18,.int .i64 st.pend.length),(19,.int .i64 i.2)])
  (fun i w' => i.2 ≤ st.pend.length ∧ RsW wQ.heap.size w' i.1 (runs i.2 st).2 ∧ (∃ s',SvW (Rest wQ s2) w' s' (runs i.2 st).1 ∧ s'.bS = s2.bS) ∧ Ks (Rest wQ s2) wQ w') (fun i => st.pend.length - i.2) (.slice none 0 0,0) (by repeat (first | exact .nil | refine .cons rfl ?_)) ⟨Nat.zero_le _,RsW.nil _ _,⟨s2,hsR,rfl⟩,Ks.refl (rest_und _ _)⟩ ?_
 rintro ⟨v5,i⟩ w3 ⟨hil,hrw,⟨s3,hs3,hbs3⟩,ks⟩
 simp only at hil hrw hs3 ⊢
 rw [← hbs3]
 by_cases hlt : i < st.pend.length
 ·have hGi := good_runs i hG
  have hsn := runs_snoc i st
  obtain ⟨sti,hsti⟩ : ∃ x,(runs i st).1 = x := ⟨_,rfl⟩
  obtain ⟨rsi,hrsi⟩ : ∃ x,(runs i st).2 = x := ⟨_,rfl⟩
  have hrl : rsi.length ≤ 20 * i := by
   have : ∀ k,(runs k st).2.length ≤ 20 * k := fun k => by
    induction k with
    | zero => simp [runs]
    | succ k ih => rw [runs_snoc]; simp only [List.length_append]; have := run_len (good_runs k hG) 1; omega
   rw [← hrsi]; exact this i
  rw [hsti] at hs3 hGi hsn
  rw [hrsi] at hrw hsn
  have hrl2 := run_len hGi 1
  have hy := Ext.refl w3
  refine Wp.seq (Wp.region ?_)
  first | refine Rg.tm trivial rfl (t_lssT rfl rfl (by omega)) rfl ?_ | refine Rg.tm trivial rfl (t_lssF rfl rfl (by omega)) rfl ?_ | refine Rg.tm trivial rfl (t_lss rfl rfl) rfl ?_
  refine Rg.done ?_
  refine Wp.seq ?_
  refine Wp.condT rfl ?_
  refine Wp.skip ?_
  refine Wp.seq ?_
  refine Wp.block ?_
  refine Wp.region ?_
  refine Rg.tm trivial rfl (t_move rfl) rfl ?_
  refine Rg.tm trivial rfl (t_move rfl) rfl ?_
  refine Rg.tm trivial rfl (t_build (bd29_0_1 _ _) rfl) rfl ?_
  refine Rg.wd trivial (w_buildSlice (bs22_1 _ _ _ _ _ _ _ _ _ _ _ _ _) rfl) rfl ?_
  rintro _ w4 ⟨bb,rfl,qb,hx4,hvbb⟩
  replace hy := hy.ext hx4
  have hrow1 : Row w4 29 11 (.slice (some ⟨bb,0,none⟩) 1 1) 1 (encs evp [evRun 1]) := Row.ofOwn (own_of_varS hvbb (Nat.zero_le _) rfl (by unfold maxLen; decide))
  refine Rg.wd trivial (w_call Tryz.call11 rfl (playRun_ok (k := 12 + i) (w0 := w) (hs3.ext hy) (ks.ext hy).le' (Ks.ext0 (ks.ext hy) hx hR0) hR0 hA hGi (by omega) (by decide) hrow1)) rfl ?_
  rintro v25 wG ⟨hr25,⟨s4,hs4,hbs4⟩,ksG⟩
  have ks3 := (ks.ext hy).trans ksG
  have hrH := (hrw.ext hy).vk ksG.var (by decide) (by decide)
  replace hr25 := hr25.mono (ks.ext hy).le
  obtain ⟨psA,epA,hoA,hnA⟩ := hrH
  obtain ⟨psB,epB,hoB,hnB⟩ := hr25
  have hsB := own_slice hoB
  have hlAB : psA.length + psB.length ≤ 1000 := by
   have h1 := congrArg List.length epA
   have h2 := congrArg List.length epB
   rw [List.length_map] at h1 h2
   omega
  clear hy
  refine Rg.wd trivial (w_appendC wQ.heap.size Tryz.underlying31 hi43 hz43 hsi43 hby43 rfl (by decide) rfl rfl hoA hsB (NumsW.one hnB) (by unfold maxLen; omega) (by omega) ks3.le) rfl ?_
  rintro v26 wZ ⟨ho2,hgr,_⟩
  have vkg := grown_vk hoA hgr
  have hko := grown_ko hoA hgr ks3.le
  have ks6 := ks3.ko hko
  obtain ⟨a1,a2,a3,a4,a5,a6,a7⟩ := hs4
  have hA6 := a5.grown hoA hgr (by decide)
  have hS6 : SvW (Rest wQ s2) wZ s4 (runS sti 1).1 := ⟨vkg _ _ _ (by decide) a1,a2.vk vkg (by decide),a3.vk vkg (by decide),a4.vk vkg (by decide),hA6,a6,a7⟩
  have hr6 : RsW wQ.heap.size wZ v26 (rsi ++ (runS sti 1).2.1) := ⟨psA ++ psB,by rw [List.map_append,epA,epB],by rw [List.length_append,encs_append]; exact ho2,fun p hp => by
   rcases List.mem_append.1 hp with hp | hp
   ·exact Row.vk (hnA p hp) vkg (by decide)
   ·exact Row.vk (hnB p hp) vkg (by decide)⟩
  refine Rg.tm trivial rfl (t_assign rfl) rfl ?_
  refine Rg.done ?_
  refine Wp.region ?_
  first | refine Rg.tm trivial rfl (t_addI rfl rfl (by omega)) rfl ?_ | refine Rg.tm trivial rfl (t_add rfl rfl) rfl ?_
  refine Rg.tm trivial rfl (t_move rfl) rfl ?_
  refine Rg.done ?_
  exact ⟨(v26,i + 1),by repeat (first | exact .nil | refine .cons rfl ?_),⟨hlt,by rw [hsn]; exact hr6,⟨s4,by rw [hsn]; exact hS6,hbs4⟩,ks6⟩,by simp only; omega⟩
 ·obtain rfl : i = st.pend.length := by omega
  obtain ⟨z1,z2⟩ := progress_law st.pend.length hG.inv (Nat.le_refl _)
  rw [z1] at hrw
  obtain ⟨ps,eps,hoP,hnP⟩ := hrw
  have hpsl : ps.length = st.pend.length := by have := congrArg List.length eps; simpa using this
  have hrs0 := own_slice hoP
  have hp3 := own_rest (B := 0) hs2 hp20 ks
  have hps3 := own_slice hp3
  have hxW := Ks.ext0 ks hx hR0
  have hy := Ext.refl w3
  refine Wp.seq (Wp.region ?_)
  first | refine Rg.tm trivial rfl (t_lssT rfl rfl (by omega)) rfl ?_ | refine Rg.tm trivial rfl (t_lssF rfl rfl (by omega)) rfl ?_ | refine Rg.tm trivial rfl (t_lss rfl rfl) rfl ?_
  refine Rg.done ?_
  refine Wp.seq ?_
  refine Wp.condF rfl ?_
  refine Wp.exit ?_
  refine Wp.seq ?_
  refine Wp.seq (Wp.region ?_)
  refine Rg.tm trivial rfl (t_move rfl) rfl ?_
  refine Rg.tm trivial rfl (t_lenC hrs0 Tryz.underlying31 rfl) rfl ?_
  refine Rg.tm trivial rfl (t_move rfl) rfl ?_
  refine Rg.tm trivial rfl (t_lenC hps3 Tryz.underlying38 rfl) rfl ?_
  refine Rg.tm trivial rfl (t_neqF rfl rfl (by omega)) rfl ?_
  refine Rg.done ?_
  refine Wp.condF rfl ?_
  refine Wp.skip ?_
  refine Wp.seq ?_
  refine Wp.seq (Wp.region ?_)
  refine Rg.tm trivial rfl (t_move rfl) rfl ?_
  refine Rg.tm trivial rfl (t_lenC hps3 Tryz.underlying38 rfl) rfl ?_
  refine Rg.tm trivial rfl (t_move rfl) rfl ?_
  refine Rg.done ?_
  refine Wp.block ?_
  refine Wp.loop (ι := Nat) (fun k => [(3,.pointer (some ⟨s3.bS,0,none⟩)),(5,v5),(33,v20),(34,.int .i64 st.pend.length),(35,.int .i64 k)])
   (fun k w' => k ≤ st.pend.length ∧ Ext w3 w') (fun k => st.pend.length - k) 0 (by repeat (first | exact .nil | refine .cons rfl ?_)) ⟨Nat.zero_le _,hy⟩ ?_
  clear hy
  rintro k w4 ⟨hk,hy⟩
  have hrs4 := hrs0.ext hy
  have hps4 := hps3.ext hy
  by_cases hlk : k < st.pend.length
  ·have hlk2 : k < ps.length := by omega
   have hka : (ps[k]).1 = answer st.mods st.rev st.pend[k] := by
    have : (ps.map (·.1))[k]? = (st.pend.map (answer st.mods st.rev))[k]? := by rw [eps]
    rw [List.getElem?_map,List.getElem?_map,List.getElem?_eq_getElem hlk2,List.getElem?_eq_getElem hlk] at this
    exact Option.some.inj this
   obtain ⟨c1,c2⟩ := answer_client st.mods st.rev st.pend[k]
   rw [← hka] at c1 c2
   obtain ⟨r,hr⟩ : ∃ r,st.pend[k] = r := ⟨_,rfl⟩
   obtain ⟨q,hq⟩ : ∃ q,ps[k] = q := ⟨_,rfl⟩
   rw [hr,hq] at c1 c2
   obtain ⟨rcl,rid,rq,ra,rn⟩ := r
   obtain ⟨⟨q1,q2,q3,q4,q5,q6⟩,qv⟩ := q
   simp only at c1 c2
   refine Wp.seq (Wp.region ?_)
   first | refine Rg.tm trivial rfl (t_lssT rfl rfl (by omega)) rfl ?_ | refine Rg.tm trivial rfl (t_lssF rfl rfl (by omega)) rfl ?_ | refine Rg.tm trivial rfl (t_lss rfl rfl) rfl ?_
   refine Rg.done ?_
   refine Wp.seq ?_
   refine Wp.condT rfl ?_
   refine Wp.skip ?_
   refine Wp.seq ?_
   refine Wp.block ?_
   refine Wp.seq (Wp.region ?_)
   refine Rg.tm trivial rfl (t_move rfl) rfl ?_
   refine Rg.ix hps4 trivial rfl rfl Tryz.underlying38 ty27 (by omega) rfl ?_
   intro bt38 ot38 ht38
   rw [Int.toNat_natCast,encs_at rc_len st.pend k hlk,hr] at ht38
   simp only [rc] at ht38
   refine Rg.tm trivial rfl (t_loadA rfl ht38 ty27) rfl ?_
   refine Rg.wd trivial (w_new Tryz.zeroValue27 rfl) rfl ?_
   rintro _ wa ⟨b7,rfl,qb7,hxa,hva⟩
   refine Rg.tm trivial rfl (t_assign rfl) rfl ?_
   refine Rg.wn trivial (w_put hva rfl rfl rfl ty27 rfl rfl) ?_
   rintro _ w4 ⟨hu,hv7⟩
   have hx4 := hxa.upd hu (Nat.le_of_eq qb7.symm)
   replace hy := hy.ext hx4
   replace hrs4 := hrs4.ext hx4
   replace hps4 := hps4.ext hx4
   replace ht38 := ht38.ext hx4
   have hc7 := hv7.cells
   clear hva hu ht38
   refine Rg.done ?_
   refine Wp.seq (Wp.draw [0,1,2,3,4,5,6,7,8,9,10,11,12,13,14,15,16,17] [] mixed (by kernel_rfl) (by kernel_rfl) ?_)
   intro w5 hx5 _
   replace hy := hy.ext hx5
   replace hrs4 := hrs4.ext hx5
   replace hc7 := hc7.ext hx5
   refine Rg.tm trivial rfl (t_move rfl) rfl ?_
   refine Rg.tm trivial rfl (t_move rfl) rfl ?_
   refine Rg.ix hrs4 trivial rfl rfl Tryz.underlying31 ty43 (by omega) rfl ?_
   intro bt42 ot42 ht42
   rw [Int.toNat_natCast,encs_at rsc_len ps k hlk2,hq] at ht42
   simp only [rsc] at ht42
   refine Rg.tm trivial rfl (t_fieldAddr fa43_0 rfl) rfl ?_
   refine Rg.tm trivial rfl (t_load ty3 rfl (Cells.get (i := 0) ht42 rfl)) rfl ?_
   refine Rg.tm trivial rfl (t_fieldAddr fa27_0 rfl) rfl ?_
   refine Rg.tm trivial rfl (t_load ty3 rfl (Cells.get (i := 0) hc7 rfl)) rfl ?_
   refine Rg.tm trivial rfl (t_neqF rfl rfl (by omega)) rfl ?_
   refine Rg.tm trivial rfl (t_move rfl) rfl ?_
   first | refine Rg.tm ⟨_,rfl,rfl⟩ rfl (t_move rfl) rfl ?_ | refine Rg.so rfl rfl ?_
   first | refine Rg.tm ⟨_,rfl,rfl⟩ rfl (t_move rfl) rfl ?_ | refine Rg.so rfl rfl ?_
   refine Rg.ix hrs4 ⟨_,rfl,rfl⟩ rfl rfl Tryz.underlying31 ty43 (by omega) rfl ?_
   intro bt51 ot51 ht51
   rw [Int.toNat_natCast,encs_at rsc_len ps k hlk2,hq] at ht51
   simp only [rsc] at ht51
   first | refine Rg.tm ⟨_,rfl,rfl⟩ rfl (t_fieldAddr fa43_1 rfl) rfl ?_ | refine Rg.so rfl rfl ?_
   refine Rg.tm ⟨_,rfl,rfl⟩ rfl (t_load ty3 rfl (Cells.get (i := 1) ht51 rfl)) rfl ?_
   first | refine Rg.tm ⟨_,rfl,rfl⟩ rfl (t_fieldAddr fa27_1 rfl) rfl ?_ | refine Rg.so rfl rfl ?_
   refine Rg.tm ⟨_,rfl,rfl⟩ rfl (t_load ty3 rfl (Cells.get (i := 1) hc7 rfl)) rfl ?_
   refine Rg.tm ⟨_,rfl,rfl⟩ rfl (t_neqF rfl rfl (by omega)) rfl ?_
   first | refine Rg.tm trivial rfl (t_pickT rfl rfl) rfl ?_ | refine Rg.tm trivial rfl (t_pickF rfl rfl) rfl ?_
   refine Rg.done ?_
   refine Wp.condF rfl ?_
   refine Wp.skip ?_
   refine Wp.region ?_
   first | refine Rg.tm trivial rfl (t_addI rfl rfl (by omega)) rfl ?_ | refine Rg.tm trivial rfl (t_add rfl rfl) rfl ?_
   refine Rg.tm trivial rfl (t_move rfl) rfl ?_
   refine Rg.done ?_
   exact ⟨k + 1,by repeat (first | exact .nil | refine .cons rfl ?_),⟨hlk,hy⟩,by omega⟩
  ·have hxF := hxW.ext hy
   have hs4 := hs3.ext hy
   have hyy := Ext.refl w4
   refine Wp.seq (Wp.region ?_)
   first | refine Rg.tm trivial rfl (t_lssT rfl rfl (by omega)) rfl ?_ | refine Rg.tm trivial rfl (t_lssF rfl rfl (by omega)) rfl ?_ | refine Rg.tm trivial rfl (t_lss rfl rfl) rfl ?_
   refine Rg.done ?_
   refine Wp.seq ?_
   refine Wp.condF rfl ?_
   refine Wp.exit ?_
   refine Wp.seq (Wp.region ?_)
   refine Rg.wd trivial (w_call Tryz.call8 rfl (serverExample_ok (hA.ext (hxF.ext hyy)))) rfl ?_
   rintro _ w4 ⟨rfl,hx4⟩
   replace hyy := hyy.ext hx4
   replace hs4 := hs4.ext hx4
   refine Rg.tm trivial rfl (t_move rfl) rfl ?_
   first | refine Rg.tm ⟨_,rfl,rfl⟩ rfl (t_move rfl) rfl ?_ | refine Rg.so rfl rfl ?_
   refine Rg.wd ⟨_,rfl,rfl⟩ (w_call Tryz.call15 rfl (pending_ok hs4 (by rw [z2]; simp))) rfl ?_
   rintro v62 w5 ⟨ho62,hx5⟩
   replace hyy := hyy.ext hx5
   replace hs4 := hs4.ext hx5
   rw [z2] at ho62
   have hs62 := own_slice ho62
   first | refine Rg.tm ⟨_,rfl,rfl⟩ rfl (t_lenC hs62 Tryz.underlying38 rfl) rfl ?_ | refine Rg.so rfl rfl ?_
   refine Rg.tm ⟨_,rfl,rfl⟩ rfl (t_eqlT rfl rfl rfl) rfl ?_
   first | refine Rg.tm trivial rfl (t_pickT rfl rfl) rfl ?_ | refine Rg.tm trivial rfl (t_pickF rfl rfl) rfl ?_
   refine Rg.tm trivial rfl (t_assign rfl) rfl ?_
   refine Rg.done ?_
   refine Wp.ret ?_
   exact ⟨[_],⟨rfl,trivial⟩,rfl,hxF.ext hyy⟩
end Go.Proofs.YtliofpegbcegiaaGreatDoor
