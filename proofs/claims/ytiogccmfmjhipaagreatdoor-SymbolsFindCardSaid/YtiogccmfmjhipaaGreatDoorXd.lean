/- The parser: wrap. Printed by r6/Nk.py. -/
import Derived.Test.YtiogccmfmjhipaaGreatDoorXc
import Derived.Test.YtiogccmfmjhipaaGreatDoorXb
set_option linter.unusedVariables false
set_option linter.unusedSimpArgs false
namespace Go.Proofs.YtiogccmfmjhipaaGreatDoor.Par
set_option maxRecDepth 20000
open Go.Gx Go.RowKit Go.Lib
open Lexi (Asc)
variable {w0 : World} {tv : Value} {toks : List Tok} {F : Fs} {w w' : World} {bP : Nat} {below : List (Int × List Tr)} {k : Int} {s : S}
theorem erL_snoc {l : List Gt} {m : List Tr} {t : Tr} (h : erL l = m ++ [t]) : ∃ kl kt,l = kl ++ [kt] ∧ erL kl = m ∧ kt.er = t := by
 rw [erL_map] at h
 obtain ⟨a,b,h1,h2,h3⟩ := map_snoc h
 exact ⟨a,b,h1,by rw [erL_map]; exact h2,h3⟩
theorem wrap_ok {k' : Int} {r : S} {l : List Tr} {t : Tr} {cf : FuncId} {fst cap : List Value} (hcf : ∀ (args : Array Value) (w : World),(callFunc cf args).run Tryz.prog w = .ok (.enter cf args) w) (h : Ps w0 tv toks F w bP below k s) (hs : s.kids = l ++ [t])
  (hP : Part w0 tv toks F bP cf fst cap w (below ++ [(k,l)]) k' { s with kids := [t],adds := s.adds + 1 } r) (h1 : s.adds + 1 ≤ r.adds) (hb : r.adds ≤ big) :
  Cl Tryz.prog 267 #[.pointer (some ⟨bP,0,none⟩),.int .i64 k',.func (.func cf) fst.toArray cap.toArray] w (fun u w' => Ps w0 tv toks F w' bP below k { r with kids := l ++ [.mk k' nob r.kids] } ∧ Bw F w w') := by
 have hk1 := h.kids_le
 have hU := h.und
 obtain ⟨g,hW,e0,hd,hpos,hm,hks,hfl⟩ := h
 obtain ⟨gP,sv,pos,frs,Q⟩ := g
 simp only at e0 hd hpos hm hks hfl
 subst e0
 rw [hs] at hm
 obtain ⟨pre,f,rfl,em,e2⟩ := map_snoc hm
 obtain ⟨fk,cv,fkids⟩ := f
 injection e2 with e3 e4
 simp only at e3 e4
 obtain ⟨kl,kt,rfl,ekl,ekt⟩ := erL_snoc e4
 have hb' : s.adds + 1 ≤ 1000000000 := by unfold big at hb; omega
 have hvar := hW.var
 simp only at hvar
 rcases own_wholeG hW.stk with ⟨_,h0⟩ | ⟨gs,caps,sps,es,_,gs1,gs2,gs3,hS⟩
 ·simp at h0
 simp only at es gs1 gs3 hS
 subst es
 have hlen : (pre ++ [(⟨fk,cv,kl ++ [kt]⟩ : Fr)]).length = pre.length + 1 := by simp
 rw [hlen] at gs1 gs3 hvar hW hfl
 have hown := hW.kid ⟨fk,cv,kl ++ [kt]⟩ (by simp)
 simp only at hown
 rcases own_wholeG hown with ⟨_,h0⟩ | ⟨gk,capk,spk,ek,_,gk1,gk2,gk3,hK⟩
 ·simp at h0
 have hkl : (kl ++ [kt]).length = kl.length + 1 := by simp
 rw [hkl] at ek gk1 gk3
 subst ek
 have hgt : GOk Q w kt := hW.ok ⟨fk,.slice (some ⟨gk,0,none⟩) (kl.length + 1) capk,kl ++ [kt]⟩ (by simp) kt (by simp)
 have hx := Ext.refl w
 have hc := hvar.cells
 have htop : Cells w gs (0 + ((pre.length + 1 : Nat) - 1 : Int).toNat * 3) (Fr.cells ⟨fk,.slice (some ⟨gk,0,none⟩) (kl.length + 1) capk,kl ++ [kt]⟩) := fun j v hv => by
  have hj : j < 3 := by have := (List.getElem?_eq_some_iff.1 hv).1; exact this
  have := hS.cells _ _ ((top_cell (pre := pre) (f := ⟨fk,.slice (some ⟨gk,0,none⟩) (kl.length + 1) capk,kl ++ [kt]⟩) (sp := sps) j hj).trans hv)
  rw [Nat.zero_add] at this
  rw [show 0 + ((pre.length + 1 : Nat) - 1 : Int).toNat * 3 + j = pre.length * 3 + j by omega]
  exact this
 have hlast : Cells w gk (0 + ((kl.length + 1 : Nat) - 1 : Int).toNat * 3) kt.cells := fun j v hv => by
  have hj : j < 3 := by have := (List.getElem?_eq_some_iff.1 hv).1; rw [Gt.len] at this; exact this
  have hl : (encs Gt.cells kl).length = kl.length * 3 := encs_len Gt.len _
  have e : (encs Gt.cells (kl ++ [kt]) ++ spk)[kl.length * 3 + j]? = some v := by
   rw [encs_app,encs_one,List.append_assoc,List.getElem?_append_right (by omega),hl,Nat.add_sub_cancel_left,List.getElem?_append_left (by rw [Gt.len]; exact hj)]
   exact hv
  have := hK.cells _ _ e
  rw [Nat.zero_add] at this
  rw [show 0 + ((kl.length + 1 : Nat) - 1 : Int).toNat * 3 + j = kl.length * 3 + j by omega]
  exact this
 have hgk : gk < w.heap.size := hK.lt
 have hPs : gP ≠ gs := fun e => by
  have hn := hW.nod
  simp only [Pg.muts,List.nodup_cons] at hn
  exact hn.1 (by simp [Value.ownBlock,e])
 obtain ⟨i25,hi25,hz25,hsi25,hby25⟩ := inf43
 have hone := hgt.one
 obtain ⟨tk,tx,tc,tks⟩ := kt
 have hkn : kl.length + 1 ≤ 1000000000 := by
  have := hks ⟨fk,.slice (some ⟨gk,0,none⟩) (kl.length + 1) capk,kl ++ [.mk tk tx tc tks]⟩ (by simp)
  simp at this
  omega
 obtain ⟨tp,tl,tcap,rfl⟩ : ∃ tp tl tcap,tc = .slice tp tl tcap := by
  cases hgt with
  | mk hs h1 h2 h3 =>
   obtain ⟨_,p,cap,e,_⟩ := hs
   exact ⟨p,_,cap,e⟩
 simp only [Gt.cells] at hone hlast
 refine Cl.enter Tryz.func267 rfl Tryz.ntmps267 rfl rfl ?_
 refine Wp.seq (Wp.draw [0,1,2,3,4,5,6,7,8,9,10,11] [] mixed (by kernel_rfl) (by kernel_rfl) ?_)
 intro w1 hx1 _
 replace hx := hx.ext hx1
 refine .m2 rfl (.t2 (t_nilCheck rfl) (.t2 (t_fieldAddr fa102_2 rfl) (.t2 (t_load ty41 rfl (Cells.get (i := 2) (hc.ext hx) rfl)) (.m2 rfl (.t2 (t_nilCheck rfl) (.t2 (t_fieldAddr fa102_2 rfl) (.t2 (t_load ty41 rfl (Cells.get (i := 2) (hc.ext hx) rfl)) (.t2 (t_lenS Tryz.underlying41 rfl) ?_))))))))
 refine .t2 (t_subI rfl rfl (by omega)) ?_
 refine .t2 (t_indexAddrL Tryz.underlying41 ty43 rfl rfl (by omega)) ?_
 refine .a2 rfl (.done (.sr (.m2 rfl (.t2 (t_nilCheck rfl) (.t2 (t_fieldAddr fa43_2 rfl) (.t2 (t_load ty41 rfl (Cells.get (i := 2) (htop.ext hx) rfl)) (.t2 (t_lenS Tryz.underlying41 rfl) ?_)))))))
 refine .t2 (t_subI rfl rfl (by omega)) ?_
 refine .a2 rfl (.done (.sr (.m2 rfl (.t2 (t_nilCheck rfl) (.t2 (t_fieldAddr fa43_2 rfl) (.t2 (t_load ty41 rfl (Cells.get (i := 2) (htop.ext hx) rfl)) (.m2 rfl ?_)))))))
 refine .t2 (t_indexAddrL Tryz.underlying41 ty43 rfl rfl (by omega)) ?_
 refine .t2 (t_loadA rfl (hlast.ext hx) ty43) (Rg.wd trivial (w_new Tryz.zeroValue43 rfl) rfl ?_)
 have hlo := hx.le
 rintro _ w2 ⟨b8,rfl,qb8,hx2,hv8⟩
 replace hx := hx.ext hx2
 refine Rg.wn trivial (w_put hv8 rfl rfl rfl ty43 rfl (by rfl)) ?_
 rintro _ w8 ⟨hu8,hv8'⟩
 clear hv8
 have hv8 := hv8'
 clear hv8'
 have hb8 : w.heap.size ≤ b8 := by omega
 replace hx : Ext w w8 := Ext.upd hx hu8 hb8
 have hW8 := hW.extw hx
 have hS8 := hS.ext hx
 have hK8 := hK.ext hx
 have hvar8 := hvar.ext hx
 have hoS : 0 + (((pre.length + 1 : Nat) : Int) - 1).toNat * 3 + 2 = pre.length * 3 + 2 := by omega
 have hSl : (encs Fr.cells (pre ++ [(⟨fk,.slice (some ⟨gk,0,none⟩) (kl.length + 1) capk,kl ++ [.mk tk tx (.slice tp tl tcap) tks]⟩ : Fr)]) ++ sps).length = (pre.length + 1) * 3 + sps.length := by rw [List.length_append,encs_len Fr.len,hlen]
 refine .done (.sr (.m2 rfl (.m2 rfl (.t2 (t_nilCheck rfl) (.t2 (t_fieldAddr fa43_2 rfl) (.t2 (t_load ty41 rfl (Cells.get (i := 2) (htop.ext hx) rfl)) (.m2 rfl ?_)))))))
 refine .t2 (t_sliceL Tryz.underlying41 ty43 rfl rfl rfl (by omega)) ?_
 have e5 : Value.slice (some (if capk = (0 : Int).toNat then (⟨gk,0,none⟩ : Addr) else ⟨gk,0 + (0 : Int).toNat * 3,none⟩)) ((((kl.length + 1 : Nat) : Int) - 1).toNat - (0 : Int).toNat) (capk - (0 : Int).toNat) = .slice (some ⟨gk,0,none⟩) kl.length capk := by
  rw [if_neg (by simp; omega),show ((((kl.length + 1 : Nat) : Int) - 1).toNat - (0 : Int).toNat) = kl.length by omega,show capk - (0 : Int).toNat = capk by omega,show 0 + (0 : Int).toNat * 3 = 0 by omega]
 rw [e5]
 refine .t2 (t_nilCheck rfl) (.t2 (t_fieldAddr fa43_2 rfl) ?_)
 refine Rg.wn trivial (w_putAt (cs := [.slice (some ⟨gk,0,none⟩) kl.length capk]) hS8 rfl rfl rfl ty41 (by rw [hoS,hSl]; simp only [List.length_singleton]; omega) (by intro u hu; simp at hu; subst hu; rfl)) ?_
 rintro _ w9 ⟨hu9,hS9⟩
 rw [hoS] at hS9
 replace hS9 : Var w9 gs (encs Fr.cells (pre ++ [⟨fk,.slice (some ⟨gk,0,none⟩) kl.length capk,kl⟩]) ++ sps) 43 := by
  have := top_set (pre := pre) (f := ⟨fk,.slice (some ⟨gk,0,none⟩) (kl.length + 1) capk,kl ++ [.mk tk tx (.slice tp tl tcap) tks]⟩) (sp := sps) (.slice (some ⟨gk,0,none⟩) kl.length capk)
  rw [show encs Fr.cells (pre ++ [⟨fk,.slice (some ⟨gk,0,none⟩) kl.length capk,kl⟩]) = encs Fr.cells (pre ++ [⟨fk,.slice (some ⟨gk,0,none⟩) kl.length capk,kl ++ [.mk tk tx (.slice tp tl tcap) tks]⟩]) by simp [encs,Fr.cells],← this]
  exact hS9
 have hnsk : gs ≠ gk := fun e => by
  have hn := hW.nod
  rw [muts_app] at hn
  exact (List.nodup_append.1 hn).2.2 gs (by simp [Value.ownBlock]) gk (by simp [Value.ownBlock]) e
 have hK9 := hK8.upd hu9 (Ne.symm hnsk)
 have hB9 : Bw (fun z => z ≠ gs) w8 w9 := Bw.upd hu9 fun hh => hh rfl
 obtain ⟨hW9,hF9⟩ := hW8.top (cv' := .slice (some ⟨gk,0,none⟩) kl.length capk) (kids' := kl) hB9 (fun z h1 h2 h3 e => h2 (by rw [e]; rfl)) (whole_ownG (Nat.zero_le _) ((encs_len Fr.len _).trans (by simp)) gs1 gs2 gs3 hS9)
  (whole_ownG (sp := Gt.cells (.mk tk tx (.slice tp tl tcap) tks) ++ spk) (Nat.zero_le _) (encs_len Gt.len _) (by omega) gk2 (by rw [List.length_append,Gt.len,gk3]; omega) (by rw [← List.append_assoc]; have := hK9; rw [encs_app,encs_one] at this; exact this)) (fun b hb => .inl hb)
  (fun t ht => (hW8.ok ⟨fk,.slice (some ⟨gk,0,none⟩) (kl.length + 1) capk,kl ++ [.mk tk tx (.slice tp tl tcap) tks]⟩ (by simp) t (by simp [ht])))
 have hv8g := hv8.upd hu9 (by have := hS.lt; omega)
 have hvarg := hvar8.upd hu9 hPs
 have hgtg : GOk Q w9 (.mk tk tx (.slice tp tl tcap) tks) := (hgt.bw (Bw.of hx (hW.undQ)) fun _ hz => hz).bw (Bw.upd hu9 (fun hq => (hW.off gs (by simp [Pg.muts,Value.ownBlock])).2 hq)) fun _ hz => hz
 have hsz : w8.heap.size = w9.heap.size := hu9.size.symm
 have hown9 := hW9.stk
 simp only [List.length_append,List.length_singleton] at hown9
 have hx9 := hx
 clear hx
 have hx := Ext.refl w9
 refine .done ?_
 refine Wp.seq (Wp.cut (fun L w' => ∃ i_ : Unit,Sub ((fun _ => [(0,.pointer (some ⟨gP,0,none⟩)),(1,.int .i64 k'),(2,.func (.func cf) fst.toArray cap.toArray)]) i_) L ∧ (fun _ w' => ∃ sv' cv',PsW w0 tv F w' { bP := gP,sv := sv',pos := pos,frs := (pre ++ [(⟨fk,.slice (some ⟨gk,0,none⟩) kl.length capk,kl⟩ : Fr)]) ++ [⟨k',cv',[.mk tk tx (.slice tp tl tcap) tks]⟩],Q := Q } ∧ Bw F w9 w') i_ w') ?_ ?_)
 ·skip
  refine Wp.drawB (fun w' => Var w' gP [tv,.int .i64 pos,.slice (some ⟨gs,0,none⟩) (pre.length + 1) caps] 102 ∧ Var w' b8 [.int .i64 tk,.string tx,.slice tp tl tcap] 43) 10 mixed ?_
  intro w3 hx3 hh3
  replace hx := hx.ext hx3
  refine ⟨⟨hvarg.ext hx,hv8g.ext hx⟩,?_⟩
  refine Qb.tameW (by kernel_rfl) 0 rfl (by kernel_rfl) trivial (tw_of fun wz => t_move rfl) rfl ?_
  refine Qb.tameW (by kernel_rfl) 1 rfl (by kernel_rfl) trivial (tw_of fun wz => t_nilCheck rfl) rfl ?_
  refine Qb.tameW (by kernel_rfl) 2 rfl (by kernel_rfl) trivial (tw_of fun wz => t_fieldAddr fa102_2 rfl) rfl ?_
  refine Qb.tame (by kernel_rfl) 3 rfl (by kernel_rfl) trivial (ts fun wz hkz => by exact t_load ty41 rfl (hkz.1.g 2 rfl)) rfl ?_
  refine Qb.tameW (by kernel_rfl) 4 rfl (by kernel_rfl) trivial (tw_of fun wz => t_move rfl) rfl ?_
  refine Qb.tame (by kernel_rfl) 5 rfl (by kernel_rfl) trivial (ts fun wz hkz => by exact t_loadA rfl hkz.2.cells ty43) rfl ?_
  refine Qb.tame (by kernel_rfl) 8 rfl (by kernel_rfl) trivial (ts fun wz hkz => by exact t_lenS Tryz.underlying41 rfl) rfl ?_
  refine Qb.alt2 (i := 6) (j := 9) (by kernel_rfl) ?_ ?_
  ·skip
   refine ⟨_,_,rfl,rfl,trivial,w_buildSlice (bs41_1 _ _ _ _ _) rfl,rfl,fun _ _ hr => by obtain ⟨_,_,_,hr,_⟩ := hr; exact ⟨hvarg.ext (hx.ext hr),hv8g.ext (hx.ext hr)⟩,?_⟩
   rintro _ w4 ⟨b48,rfl,q48,hx4,hv48⟩
   have hlo48 := hx.le
   replace hx := hx.ext hx4
   refine Qb.tameW (by kernel_rfl) 7 rfl (by kernel_rfl) trivial (tw_of fun wz => t_build (bd43_0_2 _ _ _ _) rfl) rfl ?_
   refine Qb.alt1 (i := 9) (by kernel_rfl) ?_
   refine ⟨_,_,rfl,rfl,trivial,w_buildSlice (bs41_1 _ _ _ _ _) rfl,rfl,fun _ _ hr => by obtain ⟨_,_,_,hr,_⟩ := hr; exact ⟨hvarg.ext (hx.ext hr),hv8g.ext (hx.ext hr)⟩,?_⟩
   rintro _ w5 ⟨b51,rfl,q51,hx5,hv51⟩
   replace hx := hx.ext hx5
   replace hv48 := hv48.ext hx5
   refine Qb.bar (fun _ => True) 10 16 rfl (by kernel_rfl) rfl trivial (w_appendO Tryz.underlying41 hi25 hz25 hsi25 hby25 rfl rfl rfl (own_ext hown9 hx) (slc_var hv51 rfl) (by decide) (by decide) (by unfold maxLen; omega) (by omega)) rfl (fun _ _ _ => trivial) ?_
   rintro _ w6 ⟨gn,capn,spn,rfl,hcn,hmn,hln,hvn,hwhere⟩
   have hb48 : w9.heap.size ≤ b48 := by omega
   have hfr : gs = gn ∨ w9.heap.size ≤ gn := by
    rcases hwhere with ⟨⟨c,e⟩,_⟩ | ⟨e,_⟩
    ·injection e with e _ _
     injection e with e
     injection e with e _ _
     exact .inl e
    ·exact .inr (Nat.le_trans hx.le e)
   have hne : gP ≠ gn := fun e => by
    rcases hfr with e1 | e1
    ·exact hPs (e.trans e1.symm)
    ·have := hvarg.lt
     omega
   have hn48 : b48 ≠ gn := fun e => by
    rcases hwhere with ⟨⟨c,e1⟩,_⟩ | ⟨e1,_⟩
    ·injection e1 with e1 _ _
     injection e1 with e1
     injection e1 with e1 _ _
     have := hS.lt
     have := hx9.le
     omega
    ·have := hv48.lt
     omega
   obtain ⟨G,hGd⟩ : ∃ G : Fs,G = fun z => z < w9.heap.size ∧ z ≠ gn ∧ z ≠ gP := ⟨_,rfl⟩
   have nGk : ¬ G gn := by rw [hGd]; exact fun h => h.2.1 rfl
   have nGP : ¬ G gP := by rw [hGd]; exact fun h => h.2.2 rfl
   have hB : Bw G w9 w6 := by
    have h1 : Bw G w9 w5 := Bw.of hx (by rw [hGd]; exact fun z hz => hz.1)
    rcases hwhere with ⟨_,hu⟩ | ⟨_,hu⟩
    ·exact h1.trans (Bw.upd hu nGk)
    ·exact h1.trans (Bw.of hu (by rw [hGd]; exact fun z hz => Nat.lt_of_lt_of_le hz.1 hx.le))
   have hvP := hvarg.ext hx
   replace hvP : Var w6 gP [tv,.int .i64 pos,.slice (some ⟨gs,0,none⟩) (pre.length + 1) caps] 102 := by
    rcases hwhere with ⟨_,hu⟩ | ⟨_,hu⟩
    ·exact hvP.upd hu hne
    ·exact hvP.ext hu
   replace hv48 : Var w6 b48 (Gt.cells (.mk tk tx (.slice tp tl tcap) tks)) 43 := by
    rcases hwhere with ⟨_,hu⟩ | ⟨_,hu⟩
    ·exact hv48.upd hu hn48
    ·exact hv48.ext hu
   have hoE : 0 + ((pre.length + 1 : Nat) : Int).toNat * 3 = (pre ++ [(⟨fk,.slice (some ⟨gk,0,none⟩) kl.length capk,kl⟩ : Fr)]).length * 3 := by rw [List.length_append,List.length_singleton]; omega
   have hKl : (encs Fr.cells (pre ++ [(⟨fk,.slice (some ⟨gk,0,none⟩) kl.length capk,kl⟩ : Fr)]) ++ [Value.int .i64 0,Value.string ⟨#[]⟩,Value.slice none 0 0] ++ spn).length = (pre ++ [(⟨fk,.slice (some ⟨gk,0,none⟩) kl.length capk,kl⟩ : Fr)]).length * 3 + 3 + spn.length := by rw [List.length_append,List.length_append,encs_len Fr.len]; rfl
   refine Qb.tameW (by kernel_rfl) 11 rfl (by kernel_rfl) trivial (tw_of fun wz => t_indexAddrL Tryz.underlying41 ty43 rfl rfl (by omega)) rfl ?_
   refine Qb.tameW (by kernel_rfl) 13 rfl (by kernel_rfl) trivial (tw_of fun wz => t_nilCheck rfl) rfl ?_
   refine Qb.tameW (by kernel_rfl) 14 rfl (by kernel_rfl) trivial (tw_of fun wz => t_fieldAddr fa102_2 rfl) rfl ?_
   refine Qb.alt2 (i := 12) (j := 15) (by kernel_rfl) ?_ ?_
   ·skip
    refine ⟨_,_,rfl,rfl,trivial,w_putAt (cs := [.int .i64 k',.string nob,.slice (some ⟨b48,0,none⟩) 1 1]) hvn rfl rfl rfl ty43 (by rw [hoE,hKl]; simp) (Fr.one (f := ⟨k',.slice (some ⟨b48,0,none⟩) 1 1,[.mk tk tx (.slice tp tl tcap) tks]⟩) rfl),rfl,fun _ _ h => trivial,?_⟩
    rintro _ wE ⟨huE,hvE⟩
    rw [hoE] at hvE
    replace hvE : Var wE gn (encs Fr.cells ((pre ++ [(⟨fk,.slice (some ⟨gk,0,none⟩) kl.length capk,kl⟩ : Fr)]) ++ [⟨k',.slice (some ⟨b48,0,none⟩) 1 1,[.mk tk tx (.slice tp tl tcap) tks]⟩]) ++ spn) 43 := (fr_set (frs := (pre ++ [(⟨fk,.slice (some ⟨gk,0,none⟩) kl.length capk,kl⟩ : Fr)])) (f := ⟨k',.slice (some ⟨b48,0,none⟩) 1 1,[.mk tk tx (.slice tp tl tcap) tks]⟩) (z := [Value.int .i64 0,Value.string ⟨#[]⟩,Value.slice none 0 0]) (sp := spn) rfl) ▸ hvE
    clear hvn
    have hvn := hvE
    clear hvE
    replace hvP := hvP.upd huE hne
    replace hv48 := hv48.upd huE hn48
    replace hB := hB.trans (Bw.upd huE nGk)
    refine Qb.alt1 (i := 15) (by kernel_rfl) ?_
    refine ⟨_,_,rfl,rfl,trivial,w_putF hvP ty41 rfl rfl rfl rfl rfl,rfl,fun _ _ h => trivial,?_⟩
    rintro _ wS ⟨huS,hvS⟩
    simp only [List.set] at hvS
    clear hvP
    have hvP := hvS
    clear hvS
    replace hvn := hvn.upd huS (Ne.symm hne)
    replace hv48 := hv48.upd huS (by have := hvarg.lt; omega)
    replace hB := hB.trans (Bw.upd huS nGP)
    refine Qb.done (by kernel_rfl) ?_
    exact ⟨(),by repeat (first | exact .nil | refine .cons rfl ?_),_,_,hW9.push (f := ⟨k',.slice (some ⟨b48,0,none⟩) 1 1,[.mk tk tx (.slice tp tl tcap) tks]⟩) (sv' := .slice (some ⟨gn,0,none⟩) (pre.length + 1 + 1) capn) hB (fun z h1 h2 h3 => by rw [hGd]; exact ⟨h1,fun e => h3 (by rw [e]; rfl),h2⟩) hvP (by rw [List.length_append,List.length_singleton]; exact whole_ownG (Nat.zero_le _) (encs_len Fr.len _ |>.trans (by simp)) hcn hmn hln hvn) (fun b hb => by injection hb with hb; subst hb; exact hfr.imp (fun e => by rw [e]; rfl) id)
     (by simpa using whole_ownG (sp := []) (Nat.zero_le _) (by rfl) (Nat.le_refl 1) (by decide) rfl (by rw [List.append_nil]; exact hv48)) (fun b hb => by injection hb with hb; subst hb; exact ⟨hb48,fun e => by injection e with e; exact hn48 e⟩) (fun t ht => by (obtain rfl : t = Gt.mk tk tx (.slice tp tl tcap) tks := by simpa using ht); exact hgtg)⟩
   ·skip
    refine ⟨_,_,rfl,rfl,trivial,w_putF hvP ty41 rfl rfl rfl rfl rfl,rfl,fun _ _ h => trivial,?_⟩
    rintro _ wS ⟨huS,hvS⟩
    simp only [List.set] at hvS
    clear hvP
    have hvP := hvS
    clear hvS
    replace hvn := hvn.upd huS (Ne.symm hne)
    replace hv48 := hv48.upd huS (by have := hvarg.lt; omega)
    replace hB := hB.trans (Bw.upd huS nGP)
    refine Qb.alt1 (i := 12) (by kernel_rfl) ?_
    refine ⟨_,_,rfl,rfl,trivial,w_putAt (cs := [.int .i64 k',.string nob,.slice (some ⟨b48,0,none⟩) 1 1]) hvn rfl rfl rfl ty43 (by rw [hoE,hKl]; simp) (Fr.one (f := ⟨k',.slice (some ⟨b48,0,none⟩) 1 1,[.mk tk tx (.slice tp tl tcap) tks]⟩) rfl),rfl,fun _ _ h => trivial,?_⟩
    rintro _ wE ⟨huE,hvE⟩
    rw [hoE] at hvE
    replace hvE : Var wE gn (encs Fr.cells ((pre ++ [(⟨fk,.slice (some ⟨gk,0,none⟩) kl.length capk,kl⟩ : Fr)]) ++ [⟨k',.slice (some ⟨b48,0,none⟩) 1 1,[.mk tk tx (.slice tp tl tcap) tks]⟩]) ++ spn) 43 := (fr_set (frs := (pre ++ [(⟨fk,.slice (some ⟨gk,0,none⟩) kl.length capk,kl⟩ : Fr)])) (f := ⟨k',.slice (some ⟨b48,0,none⟩) 1 1,[.mk tk tx (.slice tp tl tcap) tks]⟩) (z := [Value.int .i64 0,Value.string ⟨#[]⟩,Value.slice none 0 0]) (sp := spn) rfl) ▸ hvE
    clear hvn
    have hvn := hvE
    clear hvE
    replace hvP := hvP.upd huE hne
    replace hv48 := hv48.upd huE hn48
    replace hB := hB.trans (Bw.upd huE nGk)
    refine Qb.done (by kernel_rfl) ?_
    exact ⟨(),by repeat (first | exact .nil | refine .cons rfl ?_),_,_,hW9.push (f := ⟨k',.slice (some ⟨b48,0,none⟩) 1 1,[.mk tk tx (.slice tp tl tcap) tks]⟩) (sv' := .slice (some ⟨gn,0,none⟩) (pre.length + 1 + 1) capn) hB (fun z h1 h2 h3 => by rw [hGd]; exact ⟨h1,fun e => h3 (by rw [e]; rfl),h2⟩) hvP (by rw [List.length_append,List.length_singleton]; exact whole_ownG (Nat.zero_le _) (encs_len Fr.len _ |>.trans (by simp)) hcn hmn hln hvn) (fun b hb => by injection hb with hb; subst hb; exact hfr.imp (fun e => by rw [e]; rfl) id)
     (by simpa using whole_ownG (sp := []) (Nat.zero_le _) (by rfl) (Nat.le_refl 1) (by decide) rfl (by rw [List.append_nil]; exact hv48)) (fun b hb => by injection hb with hb; subst hb; exact ⟨hb48,fun e => by injection e with e; exact hn48 e⟩) (fun t ht => by (obtain rfl : t = Gt.mk tk tx (.slice tp tl tcap) tks := by simpa using ht); exact hgtg)⟩
  ·skip
   refine ⟨_,_,rfl,rfl,trivial,w_buildSlice (bs41_1 _ _ _ _ _) rfl,rfl,fun _ _ hr => by obtain ⟨_,_,_,hr,_⟩ := hr; exact ⟨hvarg.ext (hx.ext hr),hv8g.ext (hx.ext hr)⟩,?_⟩
   rintro _ w4 ⟨b51,rfl,q51,hx4,hv51⟩
   replace hx := hx.ext hx4
   refine Qb.alt1 (i := 6) (by kernel_rfl) ?_
   refine ⟨_,_,rfl,rfl,trivial,w_buildSlice (bs41_1 _ _ _ _ _) rfl,rfl,fun _ _ hr => by obtain ⟨_,_,_,hr,_⟩ := hr; exact ⟨hvarg.ext (hx.ext hr),hv8g.ext (hx.ext hr)⟩,?_⟩
   rintro _ w5 ⟨b48,rfl,q48,hx5,hv48⟩
   have hlo48 := hx.le
   replace hx := hx.ext hx5
   replace hv51 := hv51.ext hx5
   refine Qb.tameW (by kernel_rfl) 7 rfl (by kernel_rfl) trivial (tw_of fun wz => t_build (bd43_0_2 _ _ _ _) rfl) rfl ?_
   refine Qb.bar (fun _ => True) 10 16 rfl (by kernel_rfl) rfl trivial (w_appendO Tryz.underlying41 hi25 hz25 hsi25 hby25 rfl rfl rfl (own_ext hown9 hx) (slc_var hv51 rfl) (by decide) (by decide) (by unfold maxLen; omega) (by omega)) rfl (fun _ _ _ => trivial) ?_
   rintro _ w6 ⟨gn,capn,spn,rfl,hcn,hmn,hln,hvn,hwhere⟩
   have hb48 : w9.heap.size ≤ b48 := by omega
   have hfr : gs = gn ∨ w9.heap.size ≤ gn := by
    rcases hwhere with ⟨⟨c,e⟩,_⟩ | ⟨e,_⟩
    ·injection e with e _ _
     injection e with e
     injection e with e _ _
     exact .inl e
    ·exact .inr (Nat.le_trans hx.le e)
   have hne : gP ≠ gn := fun e => by
    rcases hfr with e1 | e1
    ·exact hPs (e.trans e1.symm)
    ·have := hvarg.lt
     omega
   have hn48 : b48 ≠ gn := fun e => by
    rcases hwhere with ⟨⟨c,e1⟩,_⟩ | ⟨e1,_⟩
    ·injection e1 with e1 _ _
     injection e1 with e1
     injection e1 with e1 _ _
     have := hS.lt
     have := hx9.le
     omega
    ·have := hv48.lt
     omega
   obtain ⟨G,hGd⟩ : ∃ G : Fs,G = fun z => z < w9.heap.size ∧ z ≠ gn ∧ z ≠ gP := ⟨_,rfl⟩
   have nGk : ¬ G gn := by rw [hGd]; exact fun h => h.2.1 rfl
   have nGP : ¬ G gP := by rw [hGd]; exact fun h => h.2.2 rfl
   have hB : Bw G w9 w6 := by
    have h1 : Bw G w9 w5 := Bw.of hx (by rw [hGd]; exact fun z hz => hz.1)
    rcases hwhere with ⟨_,hu⟩ | ⟨_,hu⟩
    ·exact h1.trans (Bw.upd hu nGk)
    ·exact h1.trans (Bw.of hu (by rw [hGd]; exact fun z hz => Nat.lt_of_lt_of_le hz.1 hx.le))
   have hvP := hvarg.ext hx
   replace hvP : Var w6 gP [tv,.int .i64 pos,.slice (some ⟨gs,0,none⟩) (pre.length + 1) caps] 102 := by
    rcases hwhere with ⟨_,hu⟩ | ⟨_,hu⟩
    ·exact hvP.upd hu hne
    ·exact hvP.ext hu
   replace hv48 : Var w6 b48 (Gt.cells (.mk tk tx (.slice tp tl tcap) tks)) 43 := by
    rcases hwhere with ⟨_,hu⟩ | ⟨_,hu⟩
    ·exact hv48.upd hu hn48
    ·exact hv48.ext hu
   have hoE : 0 + ((pre.length + 1 : Nat) : Int).toNat * 3 = (pre ++ [(⟨fk,.slice (some ⟨gk,0,none⟩) kl.length capk,kl⟩ : Fr)]).length * 3 := by rw [List.length_append,List.length_singleton]; omega
   have hKl : (encs Fr.cells (pre ++ [(⟨fk,.slice (some ⟨gk,0,none⟩) kl.length capk,kl⟩ : Fr)]) ++ [Value.int .i64 0,Value.string ⟨#[]⟩,Value.slice none 0 0] ++ spn).length = (pre ++ [(⟨fk,.slice (some ⟨gk,0,none⟩) kl.length capk,kl⟩ : Fr)]).length * 3 + 3 + spn.length := by rw [List.length_append,List.length_append,encs_len Fr.len]; rfl
   refine Qb.tameW (by kernel_rfl) 11 rfl (by kernel_rfl) trivial (tw_of fun wz => t_indexAddrL Tryz.underlying41 ty43 rfl rfl (by omega)) rfl ?_
   refine Qb.tameW (by kernel_rfl) 13 rfl (by kernel_rfl) trivial (tw_of fun wz => t_nilCheck rfl) rfl ?_
   refine Qb.tameW (by kernel_rfl) 14 rfl (by kernel_rfl) trivial (tw_of fun wz => t_fieldAddr fa102_2 rfl) rfl ?_
   refine Qb.alt2 (i := 12) (j := 15) (by kernel_rfl) ?_ ?_
   ·skip
    refine ⟨_,_,rfl,rfl,trivial,w_putAt (cs := [.int .i64 k',.string nob,.slice (some ⟨b48,0,none⟩) 1 1]) hvn rfl rfl rfl ty43 (by rw [hoE,hKl]; simp) (Fr.one (f := ⟨k',.slice (some ⟨b48,0,none⟩) 1 1,[.mk tk tx (.slice tp tl tcap) tks]⟩) rfl),rfl,fun _ _ h => trivial,?_⟩
    rintro _ wE ⟨huE,hvE⟩
    rw [hoE] at hvE
    replace hvE : Var wE gn (encs Fr.cells ((pre ++ [(⟨fk,.slice (some ⟨gk,0,none⟩) kl.length capk,kl⟩ : Fr)]) ++ [⟨k',.slice (some ⟨b48,0,none⟩) 1 1,[.mk tk tx (.slice tp tl tcap) tks]⟩]) ++ spn) 43 := (fr_set (frs := (pre ++ [(⟨fk,.slice (some ⟨gk,0,none⟩) kl.length capk,kl⟩ : Fr)])) (f := ⟨k',.slice (some ⟨b48,0,none⟩) 1 1,[.mk tk tx (.slice tp tl tcap) tks]⟩) (z := [Value.int .i64 0,Value.string ⟨#[]⟩,Value.slice none 0 0]) (sp := spn) rfl) ▸ hvE
    clear hvn
    have hvn := hvE
    clear hvE
    replace hvP := hvP.upd huE hne
    replace hv48 := hv48.upd huE hn48
    replace hB := hB.trans (Bw.upd huE nGk)
    refine Qb.alt1 (i := 15) (by kernel_rfl) ?_
    refine ⟨_,_,rfl,rfl,trivial,w_putF hvP ty41 rfl rfl rfl rfl rfl,rfl,fun _ _ h => trivial,?_⟩
    rintro _ wS ⟨huS,hvS⟩
    simp only [List.set] at hvS
    clear hvP
    have hvP := hvS
    clear hvS
    replace hvn := hvn.upd huS (Ne.symm hne)
    replace hv48 := hv48.upd huS (by have := hvarg.lt; omega)
    replace hB := hB.trans (Bw.upd huS nGP)
    refine Qb.done (by kernel_rfl) ?_
    exact ⟨(),by repeat (first | exact .nil | refine .cons rfl ?_),_,_,hW9.push (f := ⟨k',.slice (some ⟨b48,0,none⟩) 1 1,[.mk tk tx (.slice tp tl tcap) tks]⟩) (sv' := .slice (some ⟨gn,0,none⟩) (pre.length + 1 + 1) capn) hB (fun z h1 h2 h3 => by rw [hGd]; exact ⟨h1,fun e => h3 (by rw [e]; rfl),h2⟩) hvP (by rw [List.length_append,List.length_singleton]; exact whole_ownG (Nat.zero_le _) (encs_len Fr.len _ |>.trans (by simp)) hcn hmn hln hvn) (fun b hb => by injection hb with hb; subst hb; exact hfr.imp (fun e => by rw [e]; rfl) id)
     (by simpa using whole_ownG (sp := []) (Nat.zero_le _) (by rfl) (Nat.le_refl 1) (by decide) rfl (by rw [List.append_nil]; exact hv48)) (fun b hb => by injection hb with hb; subst hb; exact ⟨hb48,fun e => by injection e with e; exact hn48 e⟩) (fun t ht => by (obtain rfl : t = Gt.mk tk tx (.slice tp tl tcap) tks := by simpa using ht); exact hgtg)⟩
   ·skip
    refine ⟨_,_,rfl,rfl,trivial,w_putF hvP ty41 rfl rfl rfl rfl rfl,rfl,fun _ _ h => trivial,?_⟩
    rintro _ wS ⟨huS,hvS⟩
    simp only [List.set] at hvS
    clear hvP
    have hvP := hvS
    clear hvS
    replace hvn := hvn.upd huS (Ne.symm hne)
    replace hv48 := hv48.upd huS (by have := hvarg.lt; omega)
    replace hB := hB.trans (Bw.upd huS nGP)
    refine Qb.alt1 (i := 12) (by kernel_rfl) ?_
    refine ⟨_,_,rfl,rfl,trivial,w_putAt (cs := [.int .i64 k',.string nob,.slice (some ⟨b48,0,none⟩) 1 1]) hvn rfl rfl rfl ty43 (by rw [hoE,hKl]; simp) (Fr.one (f := ⟨k',.slice (some ⟨b48,0,none⟩) 1 1,[.mk tk tx (.slice tp tl tcap) tks]⟩) rfl),rfl,fun _ _ h => trivial,?_⟩
    rintro _ wE ⟨huE,hvE⟩
    rw [hoE] at hvE
    replace hvE : Var wE gn (encs Fr.cells ((pre ++ [(⟨fk,.slice (some ⟨gk,0,none⟩) kl.length capk,kl⟩ : Fr)]) ++ [⟨k',.slice (some ⟨b48,0,none⟩) 1 1,[.mk tk tx (.slice tp tl tcap) tks]⟩]) ++ spn) 43 := (fr_set (frs := (pre ++ [(⟨fk,.slice (some ⟨gk,0,none⟩) kl.length capk,kl⟩ : Fr)])) (f := ⟨k',.slice (some ⟨b48,0,none⟩) 1 1,[.mk tk tx (.slice tp tl tcap) tks]⟩) (z := [Value.int .i64 0,Value.string ⟨#[]⟩,Value.slice none 0 0]) (sp := spn) rfl) ▸ hvE
    clear hvn
    have hvn := hvE
    clear hvE
    replace hvP := hvP.upd huE hne
    replace hv48 := hv48.upd huE hn48
    replace hB := hB.trans (Bw.upd huE nGk)
    refine Qb.done (by kernel_rfl) ?_
    exact ⟨(),by repeat (first | exact .nil | refine .cons rfl ?_),_,_,hW9.push (f := ⟨k',.slice (some ⟨b48,0,none⟩) 1 1,[.mk tk tx (.slice tp tl tcap) tks]⟩) (sv' := .slice (some ⟨gn,0,none⟩) (pre.length + 1 + 1) capn) hB (fun z h1 h2 h3 => by rw [hGd]; exact ⟨h1,fun e => h3 (by rw [e]; rfl),h2⟩) hvP (by rw [List.length_append,List.length_singleton]; exact whole_ownG (Nat.zero_le _) (encs_len Fr.len _ |>.trans (by simp)) hcn hmn hln hvn) (fun b hb => by injection hb with hb; subst hb; exact hfr.imp (fun e => by rw [e]; rfl) id)
     (by simpa using whole_ownG (sp := []) (Nat.zero_le _) (by rfl) (Nat.le_refl 1) (by decide) rfl (by rw [List.append_nil]; exact hv48)) (fun b hb => by injection hb with hb; subst hb; exact ⟨hb48,fun e => by injection e with e; exact hn48 e⟩) (fun t ht => by (obtain rfl : t = Gt.mk tk tx (.slice tp tl tcap) tks := by simpa using ht); exact hgtg)⟩
 ·rintro L' wF ⟨_,hs',sv',cv',q1,q2⟩
  refine Wp.sub hs' ?_
  have qF : Bw F w wF := ((Bw.of hx9 hU).trans hF9).trans q2
  refine .sr (.m2 rfl ?_)
  refine Rg.wd trivial (w_callG rfl hcf rfl (hP _ qF ⟨_,q1,rfl,hd,hpos,by simp [em,e3,ekl,erL,ekt],fun f hf => by (rcases List.mem_append.1 hf with hf | hf); (rcases List.mem_append.1 hf with hf | hf); (have := hks f (by simp [hf]); simp only; omega); (obtain rfl : f = ⟨fk,.slice (some ⟨gk,0,none⟩) kl.length capk,kl⟩ := by simpa using hf); (have := hks ⟨fk,.slice (some ⟨gk,0,none⟩) (kl.length + 1) capk,kl ++ [.mk tk tx (.slice tp tl tcap) tks]⟩ (by simp); simp at this ⊢; omega); (obtain rfl : f = ⟨k',cv',[.mk tk tx (.slice tp tl tcap) tks]⟩ := by simpa using hf); simp,by simp at hfl ⊢; omega⟩)) rfl ?_
  rintro _ w20 ⟨q3,q4⟩
  refine .done (Wp.region (.m2 rfl ?_))
  refine Rg.wd trivial (w_call Tryz.call149 rfl (finish_ok (s := { s with kids := l }) q3 (by have := hk1; rw [hs] at this; simp at this ⊢; omega) hb)) rfl ?_
  rintro _ w21 ⟨q5,q6⟩
  refine .done ?_
  exact ⟨[],trivial,q5,qF.trans (q4.trans q6)⟩
end Go.Proofs.YtiogccmfmjhipaaGreatDoor.Par
namespace Go.Proofs.YtiogccmfmjhipaaGreatDoor.Par
open Go.Gx Go.RowKit Go.Lib
open Lexi (Asc)
theorem run_seq' {n : Nat} {a b : Cmd} {s r : S} (h : run body n (.seq a b) s = some r) : ∃ s1,run body n a s = some s1 ∧ run body n b s1 = some r := by
 cases n <;> simp only [run,runC,Option.bind_eq_some_iff] at h ⊢ <;> exact h
theorem run_bump' {n : Nat} {s r : S} (h : run body n .bump s = some r) : r = s.bump := by
 rw [run_bump] at h
 exact (Option.some.inj h).symm
theorem run_skip' {n : Nat} {s r : S} (h : run body n .skip s = some r) : r = s := by
 cases n <;> simp only [run,runC] at h <;> exact (Option.some.inj h).symm
theorem run_leaf' {n : Nat} {k : Int} {s r : S} (h : run body n (.leaf k) s = some r) : r = s.add (.leaf k) := by
 cases n <;> simp only [run,runC] at h <;> exact (Option.some.inj h).symm
theorem run_flag' {n : Nat} {b : Bool} {s r : S} (h : run body n (.flag b) s = some r) : r = { s with flag := b } := by
 cases n <;> simp only [run,runC] at h <;> exact (Option.some.inj h).symm
theorem run_drop' {n : Nat} {s r : S} (h : run body n .drop s = some r) : r = { s with kids := s.kids.dropLast } := by
 cases n <;> simp only [run,runC] at h <;> exact (Option.some.inj h).symm
theorem run_condT {n : Nat} {t : Test} {a b : Cmd} {s r : S} (h : run body n (.cond t a b) s = some r) (ht : s.test t = true) : run body n a s = some r := by
 cases n <;> simp only [run,runC,ht] at h ⊢ <;> simpa using h
theorem run_condF {n : Nat} {t : Test} {a b : Cmd} {s r : S} (h : run body n (.cond t a b) s = some r) (ht : s.test t = false) : run body n b s = some r := by
 cases n <;> simp only [run,runC,ht] at h ⊢ <;> simpa using h
theorem run_node' {n : Nat} {k : Int} {c : Cmd} {s r : S} (h : run body n (.node k c) s = some r) : ∃ q,run body n c { s with kids := [],adds := s.adds + 1 } = some q ∧ r = { q with kids := s.kids ++ [.mk k nob q.kids] } := by
 cases n <;> simp only [run,runC,Option.map_eq_some_iff] at h ⊢ <;> obtain ⟨q,h1,h2⟩ := h <;> exact ⟨q,h1,h2.symm⟩
theorem run_wrap' {n : Nat} {k : Int} {c : Cmd} {s r : S} (h : run body n (.wrap k c) s = some r) : ∃ l t q,s.kids = l ++ [t] ∧ run body n c { s with kids := [t],adds := s.adds + 1 } = some q ∧ r = { q with kids := l ++ [.mk k nob q.kids] } := by
 have key : ∀ rec,runC body rec (.wrap k c) s = some r → ∃ l t q,s.kids = l ++ [t] ∧ runC body rec c { s with kids := [t],adds := s.adds + 1 } = some q ∧ r = { q with kids := l ++ [.mk k nob q.kids] } := fun rec h => by
  simp only [runC] at h
  split at h
  ·rename_i t ht
   simp only [Option.map_eq_some_iff] at h
   obtain ⟨q,h1,h2⟩ := h
   have hne : s.kids ≠ [] := fun e => by rw [e] at ht; cases ht
   refine ⟨s.kids.dropLast,t,q,?_,h1,h2.symm⟩
   have := List.dropLast_concat_getLast hne
   rw [List.getLast?_eq_some_getLast hne] at ht
   rw [← Option.some.inj ht]
   exact this.symm
  ·cases h
 cases n <;> exact key _ h
theorem run_call' {n : Nat} {x : Nm} {s r : S} (h : run body n (.call x) s = some r) : ∃ m,m < n ∧ run body m (body x) s = some r := by
 cases n with
 | zero => simp only [run,runC] at h; cases h
 | succ n => exact ⟨n,Nat.lt_succ_self _,h⟩
theorem run_sel' {n : Nat} {f : Tok → Tok → Int} {c : Int → Cmd} {s r : S} (h : run body n (.sel f c) s = some r) : run body n (c (f (sig1 s.rem) (sig1 (left s.rem)))) s = some r := by
 cases n <;> exact h
theorem run_prog' {n : Nat} {c a b : Cmd} {s r : S} (h : run body n (.prog c a b) s = some r) : ∃ q,run body n c s = some q ∧ (q.rem.length = s.rem.length → run body n a q = some r) ∧ (q.rem.length ≠ s.rem.length → run body n b q = some r) := by
 have key : ∀ rec,runC body rec (.prog c a b) s = some r → ∃ q,runC body rec c s = some q ∧ (q.rem.length = s.rem.length → runC body rec a q = some r) ∧ (q.rem.length ≠ s.rem.length → runC body rec b q = some r) := fun rec h => by
  simp only [runC,Option.bind_eq_some_iff] at h
  obtain ⟨q,h1,h2⟩ := h
  refine ⟨q,h1,fun e => ?_,fun e => ?_⟩
  ·rwa [if_pos e] at h2
  ·rwa [if_neg e] at h2
 cases n <;> exact key _ h
theorem run_loopF {n : Nat} {t : Test} {c : Cmd} {s r : S} (h : run body n (.loop t c) s = some r) (ht : s.test t = false) : r = s := by
 cases n <;> simp only [run,runC,ht] at h <;> exact (by simpa using h : s = r).symm
theorem run_loopT {n : Nat} {t : Test} {c : Cmd} {s r : S} (h : run body n (.loop t c) s = some r) (ht : s.test t = true) : ∃ m s1,n = m + 1 ∧ run body n c s = some s1 ∧ run body m (.loop t c) s1 = some r := by
 cases n with
 | zero =>
  simp only [run,runC,ht,if_true,Option.bind_eq_some_iff] at h
  obtain ⟨_,_,h⟩ := h
  cases h
 | succ m =>
  simp only [run,runC,ht,if_true,Option.bind_eq_some_iff] at h
  obtain ⟨s1,h1,h2⟩ := h
  exact ⟨m,s1,rfl,h1,h2⟩
theorem runC_adds {rec : Cmd → S → Option S} (h : ∀ c s r,rec c s = some r → s.adds ≤ r.adds) : ∀ c s r,runC body rec c s = some r → s.adds ≤ r.adds := by
 intro c
 induction c with
 | skip | drop | flag b => intro s x hx; simp only [runC] at hx; cases hx; exact Nat.le_refl _
 | bump => intro s x hx; simp only [runC] at hx; cases hx; simp [S.bump]
 | leaf k => intro s x hx; simp only [runC] at hx; cases hx; simp [S.add]
 | before =>
  intro s x hx
  simp only [runC] at hx
  split at hx
  ·cases hx; simp
  ·cases hx
 | seq a b iha ihb =>
  intro s x hx
  simp only [runC,Option.bind_eq_some_iff] at hx
  obtain ⟨r,h1,h2⟩ := hx
  exact Nat.le_trans (iha _ _ h1) (ihb _ _ h2)
 | node k c ih =>
  intro s x hx
  simp only [runC,Option.map_eq_some_iff] at hx
  obtain ⟨r,h1,rfl⟩ := hx
  have := ih _ _ h1
  simp only at this ⊢
  omega
 | wrap k c ih =>
  intro s x hx
  simp only [runC] at hx
  split at hx
  ·simp only [Option.map_eq_some_iff] at hx
   obtain ⟨r,h1,rfl⟩ := hx
   have := ih _ _ h1
   simp only at this ⊢
   omega
  ·cases hx
 | cond t a b iha ihb =>
  intro s x hx
  simp only [runC] at hx
  split at hx
  ·exact iha _ _ hx
  ·exact ihb _ _ hx
 | loop t c ih =>
  intro s x hx
  simp only [runC] at hx
  split at hx
  ·simp only [Option.bind_eq_some_iff] at hx
   obtain ⟨r,h2,h3⟩ := hx
   exact Nat.le_trans (ih _ _ h2) (h _ _ _ h3)
  ·cases hx; exact Nat.le_refl _
 | prog c a b ihc iha ihb =>
  intro s x hx
  simp only [runC,Option.bind_eq_some_iff] at hx
  obtain ⟨r,h1,h2⟩ := hx
  split at h2
  ·exact Nat.le_trans (ihc _ _ h1) (iha _ _ h2)
  ·exact Nat.le_trans (ihc _ _ h1) (ihb _ _ h2)
 | call x => intro s r hx; exact h _ _ _ hx
 | sel f c ih => intro s r hx; exact ih _ _ _ hx
theorem run_adds {c : Cmd} {s r : S} : ∀ {n},run body n c s = some r → s.adds ≤ r.adds
 | 0,h => runC_adds (by intro _ _ _ h; cases h) c s r h
 | n + 1,h => runC_adds (fun c s r h => run_adds (n := n) h) c s r h
theorem adds_le {c : Cmd} {s r : S} {n m : Nat} (h : run body n c s = some r) (hb : r.adds ≤ m) : s.adds ≤ m := Nat.le_trans (run_adds h) hb
def Clo (w0 : World) (tv : Value) (toks : List Tok) (n : Nat) (F : Fs) (bP : Nat) (cf : FuncId) (fst cap : List Value) (w : World) (c : Cmd) : Prop :=
 (∀ (args : Array Value) (w : World),(callFunc cf args).run Tryz.prog w = .ok (.enter cf args) w) ∧
 ∀ w1,Bw F w w1 → ∀ below k s r,Ps w0 tv toks F w1 bP below k s → run body n c s = some r → r.adds ≤ big → Cl Tryz.prog cf (fst ++ ([] : List Value) ++ cap).toArray w1 (fun u w2 => Ps w0 tv toks F w2 bP below k r ∧ Bw F w1 w2)
section
variable {w0 : World} {tv : Value} {toks : List Tok} {F : Fs} {w w' : World} {bP : Nat} {below : List (Int × List Tr)} {k : Int} {s r : S} {n : Nat} {cf : FuncId} {fst cap : List Value} {c : Cmd}
theorem D_node {k' : Int} (hp : Ps w0 tv toks F w bP below k s) (hc : Clo w0 tv toks n F bP cf fst cap w c) (h : run body n (.node k' c) s = some r) (hb : r.adds ≤ big) :
  Cl Tryz.prog 98 #[.pointer (some ⟨bP,0,none⟩),.int .i64 k',.func (.func cf) fst.toArray cap.toArray] w (fun u w' => Ps w0 tv toks F w' bP below k r ∧ Bw F w w') := by
 obtain ⟨q,h1,rfl⟩ := run_node' h
 exact node_ok hc.1 hp (fun w1 h2 h3 => hc.2 w1 h2 _ _ _ _ h3 h1 hb) (run_adds h1) hb
theorem D_wrap {k' : Int} (hp : Ps w0 tv toks F w bP below k s) (hc : Clo w0 tv toks n F bP cf fst cap w c) (h : run body n (.wrap k' c) s = some r) (hb : r.adds ≤ big) :
  Cl Tryz.prog 267 #[.pointer (some ⟨bP,0,none⟩),.int .i64 k',.func (.func cf) fst.toArray cap.toArray] w (fun u w' => Ps w0 tv toks F w' bP below k r ∧ Bw F w w') := by
 obtain ⟨l,t,q,hk,h1,rfl⟩ := run_wrap' h
 exact wrap_ok hc.1 hp hk (fun w1 h2 h3 => hc.2 w1 h2 _ _ _ _ h3 h1 hb) (run_adds h1) hb
theorem D_bump (hC : Cx w0 tv toks) (hp : Ps w0 tv toks F w bP below k s) (h : run body n .bump s = some r) (hb : r.adds ≤ big) :
  Cl Tryz.prog 101 #[.pointer (some ⟨bP,0,none⟩)] w (fun u w' => Ps w0 tv toks F w' bP below k r ∧ Bw F w w') := by
 obtain rfl := run_bump' h
 exact bump_ok hC hp hb
end
set_option maxRecDepth 20000
section
variable {w0 : World} {tv : Value} {toks : List Tok} {F : Fs} {w w' : World} {bP : Nat} {below : List (Int × List Tr)} {k : Int} {s r : S} {n : Nat} {cf : FuncId} {fst cap : List Value} {c : Cmd}
theorem D_absent (hp : Ps w0 tv toks F w bP below k s) (h : run body n (.leaf 0) s = some r) (hb : r.adds ≤ big) : Cl Tryz.prog 207 #[.pointer (some ⟨bP,0,none⟩)] w (fun u w' => Ps w0 tv toks F w' bP below k r ∧ Bw F w w') := by
 obtain rfl := run_leaf' h
 refine Cl.enter Tryz.func207 rfl Tryz.ntmps207 rfl rfl (Wp.region (.m2 rfl (.t2 (t_build (bd43_0 _) rfl) (Rg.wd trivial (w_call Tryz.call160 rfl (addLeaf_ok hp hb)) rfl ?_))))
 rintro _ w1 ⟨h1,h2⟩
 refine .done ?_
 exact ⟨[],trivial,h1,h2⟩
theorem D_missing (hp : Ps w0 tv toks F w bP below k s) (h : run body n (.leaf 108) s = some r) (hb : r.adds ≤ big) : Cl Tryz.prog 214 #[.pointer (some ⟨bP,0,none⟩)] w (fun u w' => Ps w0 tv toks F w' bP below k r ∧ Bw F w w') := by
 obtain rfl := run_leaf' h
 refine Cl.enter Tryz.func214 rfl Tryz.ntmps214 rfl rfl (Wp.region (.m2 rfl (.t2 (t_build (bd43_0 _) rfl) (Rg.wd trivial (w_call Tryz.call160 rfl (addLeaf_ok hp hb)) rfl ?_))))
 rintro _ w1 ⟨h1,h2⟩
 refine .done ?_
 exact ⟨[],trivial,h1,h2⟩
theorem D_missingN (hp : Ps w0 tv toks F w bP below k s) (h : run body n (.leaf 46) s = some r) (hb : r.adds ≤ big) : Cl Tryz.prog 221 #[.pointer (some ⟨bP,0,none⟩)] w (fun u w' => Ps w0 tv toks F w' bP below k r ∧ Bw F w w') := by
 obtain rfl := run_leaf' h
 refine Cl.enter Tryz.func221 rfl Tryz.ntmps221 rfl rfl (Wp.region (.m2 rfl (.t2 (t_build (bd43_0 _) rfl) (Rg.wd trivial (w_call Tryz.call160 rfl (addLeaf_ok hp hb)) rfl ?_))))
 rintro _ w1 ⟨h1,h2⟩
 refine .done ?_
 exact ⟨[],trivial,h1,h2⟩
theorem acc_T (hC : Cx w0 tv toks) (hp : Ps w0 tv toks F w bP below k s) {texts : List ByteArray} {bt : Nat} (ht : Var w bt (texts.map .string) 9) (hn : texts.length ≤ 1000) (h : isAt texts (sig1 s.rem) = true) (hb : s.bump.adds ≤ big) :
  Cl Tryz.prog 100 #[.pointer (some ⟨bP,0,none⟩),.slice (some ⟨bt,0,none⟩) texts.length texts.length] w (fun u w' => u = .bool true ∧ Ps w0 tv toks F w' bP below k s.bump ∧ Bw F w w') := by
 refine Cl.enter Tryz.func100 rfl Tryz.ntmps100 rfl rfl (.sr (.a2 rfl (.done (.seq (.sr (.m2 rfl (.m2 rfl (Rg.wd trivial (w_call Tryz.call94 rfl (at_ok hC hp ht hn)) rfl ?_))))))))
 rintro _ w1 ⟨rfl,hx1⟩
 rw [h]
 refine .done (.condT rfl (.sr (.m2 rfl (Rg.wd trivial (w_call Tryz.call101 rfl (bump_ok hC (hp.extw hx1) hb)) rfl ?_))))
 rintro _ w2 ⟨h1,h2⟩
 refine .done (.sr (.a2 rfl (.done (Wp.ret ?_))))
 exact ⟨[_],⟨rfl,trivial⟩,rfl,h1,(Bw.of hx1 hp.und).trans h2⟩
theorem acc_F (hC : Cx w0 tv toks) (hp : Ps w0 tv toks F w bP below k s) {texts : List ByteArray} {bt : Nat} (ht : Var w bt (texts.map .string) 9) (hn : texts.length ≤ 1000) (h : isAt texts (sig1 s.rem) = false) :
  Cl Tryz.prog 100 #[.pointer (some ⟨bP,0,none⟩),.slice (some ⟨bt,0,none⟩) texts.length texts.length] w (fun u w' => u = .bool false ∧ Ps w0 tv toks F w' bP below k s ∧ Bw F w w') := by
 refine Cl.enter Tryz.func100 rfl Tryz.ntmps100 rfl rfl (.sr (.a2 rfl (.done (.seq (.sr (.m2 rfl (.m2 rfl (Rg.wd trivial (w_call Tryz.call94 rfl (at_ok hC hp ht hn)) rfl ?_))))))))
 rintro _ w1 ⟨rfl,hx1⟩
 rw [h]
 refine .done (.condF rfl (Wp.skip (.sr (.a2 rfl (.done (Wp.ret ?_))))))
 exact ⟨[_],⟨rfl,trivial⟩,rfl,hp.extw hx1,Bw.of hx1 hp.und⟩
theorem D_exp {x : ByteArray} (hC : Cx w0 tv toks) (hp : Ps w0 tv toks F w bP below k s) (h : run body n (Cmd.exp x) s = some r) (hb : r.adds ≤ big) : Cl Tryz.prog 156 #[.pointer (some ⟨bP,0,none⟩),.string x] w (fun u w' => Ps w0 tv toks F w' bP below k r ∧ Bw F w w') := by
 have hU := hp.und
 cases ht : isAt [x] (sig1 s.rem) with
 | true =>
  have h := run_condT h ht
  obtain rfl := run_bump' h
  refine Cl.enter Tryz.func156 rfl Tryz.ntmps156 rfl rfl (.sr (.m2 rfl (.m2 rfl (Rg.wd trivial (w_buildSlice (bs38_1 _) rfl) rfl ?_))))
  rintro _ w1 ⟨b6,rfl,q6,hx1,hv6⟩
  refine Rg.wd trivial (w_call Tryz.call100 rfl (acc_T hC (hp.extw hx1) (texts := [x]) hv6 (by simp) ht hb)) rfl ?_
  rintro _ w2 ⟨rfl,h1,h2⟩
  refine .t2 (t_notB rfl) (.done (.condF rfl (Wp.skip ?_)))
  exact ⟨[],trivial,h1,(Bw.of hx1 hU).trans h2⟩
 | false =>
  have h := run_condF h ht
  refine Cl.enter Tryz.func156 rfl Tryz.ntmps156 rfl rfl (.sr (.m2 rfl (.m2 rfl (Rg.wd trivial (w_buildSlice (bs38_1 _) rfl) rfl ?_))))
  rintro _ w1 ⟨b6,rfl,q6,hx1,hv6⟩
  refine Rg.wd trivial (w_call Tryz.call100 rfl (acc_F hC (hp.extw hx1) (texts := [x]) hv6 (by simp) ht)) rfl ?_
  rintro _ w2 ⟨rfl,h1,h2⟩
  refine .t2 (t_notB rfl) (.done (.condT rfl (Wp.region (.m2 rfl (Rg.wd trivial (w_call Tryz.call214 rfl (D_missing h1 h hb)) rfl ?_)))))
  rintro _ w3 ⟨h3,h4⟩
  refine .done ?_
  exact ⟨[],trivial,h3,((Bw.of hx1 hU).trans h2).trans h4⟩
theorem D_expIdent (hC : Cx w0 tv toks) (hp : Ps w0 tv toks F w bP below k s) (h : run body n Cmd.expIdent s = some r) (hb : r.adds ≤ big) : Cl Tryz.prog 153 #[.pointer (some ⟨bP,0,none⟩)] w (fun u w' => Ps w0 tv toks F w' bP below k r ∧ Bw F w w') := by
 have hU := hp.und
 cases ht : ((sig1 s.rem).1 == 103) with
 | true =>
  have h := run_condT h ht
  refine Cl.enter Tryz.func153 rfl Tryz.ntmps153 rfl rfl (.sr (.m2 rfl (Rg.wd trivial (w_call Tryz.call211 rfl (atIdent_ok hC hp)) rfl ?_)))
  rintro _ w1 ⟨rfl,hx1⟩
  rw [ht]
  refine .done (.condT rfl (Wp.region (.m2 rfl (Rg.wd trivial (w_call Tryz.call101 rfl (D_bump hC (hp.extw hx1) h hb)) rfl ?_))))
  rintro _ w3 ⟨h3,h4⟩
  refine .done ?_
  exact ⟨[],trivial,h3,(Bw.of hx1 hU).trans h4⟩
 | false =>
  have h := run_condF h ht
  refine Cl.enter Tryz.func153 rfl Tryz.ntmps153 rfl rfl (.sr (.m2 rfl (Rg.wd trivial (w_call Tryz.call211 rfl (atIdent_ok hC hp)) rfl ?_)))
  rintro _ w1 ⟨rfl,hx1⟩
  rw [ht]
  refine .done (.condF rfl (Wp.region (.m2 rfl (Rg.wd trivial (w_call Tryz.call214 rfl (D_missing (hp.extw hx1) h hb)) rfl ?_))))
  rintro _ w3 ⟨h3,h4⟩
  refine .done ?_
  exact ⟨[],trivial,h3,(Bw.of hx1 hU).trans h4⟩
theorem clo_bump (hC : Cx w0 tv toks) : Clo w0 tv toks n F bP 101 [.pointer (some ⟨bP,0,none⟩)] [] w .bump := ⟨Tryz.call101,fun w1 _ below k s r hp h hb => D_bump hC hp h hb⟩
theorem clo_expIdent (hC : Cx w0 tv toks) : Clo w0 tv toks n F bP 153 [.pointer (some ⟨bP,0,none⟩)] [] w Cmd.expIdent := ⟨Tryz.call153,fun w1 _ below k s r hp h hb => D_expIdent hC hp h hb⟩
theorem D_unexp (hC : Cx w0 tv toks) (hp : Ps w0 tv toks F w bP below k s) (h : run body n Cmd.unexpected s = some r) (hb : r.adds ≤ big) : Cl Tryz.prog 260 #[.pointer (some ⟨bP,0,none⟩)] w (fun u w' => Ps w0 tv toks F w' bP below k r ∧ Bw F w w') := by
 refine Cl.enter Tryz.func260 rfl Tryz.ntmps260 rfl rfl (Wp.region (.m2 rfl (.m2 rfl (.t2 (t_makeFuncB (us := [.pointer (some ⟨bP,0,none⟩)]) (vs := []) rfl rfl) (Rg.wd trivial (w_call Tryz.call98 rfl (D_node hp (clo_bump hC) h hb)) rfl ?_)))))
 rintro _ w1 ⟨h1,h2⟩
 refine .done ?_
 exact ⟨[],trivial,h1,h2⟩
theorem D_opt {x : ByteArray} (hC : Cx w0 tv toks) (hp : Ps w0 tv toks F w bP below k s) (hc : Clo w0 tv toks n F bP cf fst cap w c) (h : run body n (Cmd.opt x c) s = some r) (hb : r.adds ≤ big) : Cl Tryz.prog 206 #[.pointer (some ⟨bP,0,none⟩),.string x,.func (.func cf) fst.toArray cap.toArray] w (fun u w' => Ps w0 tv toks F w' bP below k r ∧ Bw F w w') := by
 have hU := hp.und
 cases ht : isAt [x] (sig1 s.rem) with
 | true =>
  have h := run_condT h ht
  obtain ⟨s1,h1,h⟩ := run_seq' h
  obtain rfl := run_bump' h1
  refine Cl.enter Tryz.func206 rfl Tryz.ntmps206 rfl rfl (.sr (.m2 rfl (.m2 rfl (Rg.wd trivial (w_buildSlice (bs38_1 _) rfl) rfl ?_))))
  rintro _ w1 ⟨b6,rfl,q6,hx1,hv6⟩
  refine Rg.wd trivial (w_call Tryz.call100 rfl (acc_T hC (hp.extw hx1) (texts := [x]) hv6 (by simp) ht (adds_le h hb))) rfl ?_
  rintro _ w2 ⟨rfl,h1,h2⟩
  refine .done (.condT rfl (Wp.region (.m2 rfl (Rg.wd trivial (w_callG rfl hc.1 rfl (hc.2 _ ((Bw.of hx1 hU).trans h2) _ _ _ _ h1 h hb)) rfl ?_))))
  rintro _ w3 ⟨h3,h4⟩
  refine .done ?_
  exact ⟨[],trivial,h3,((Bw.of hx1 hU).trans h2).trans h4⟩
 | false =>
  have h := run_condF h ht
  refine Cl.enter Tryz.func206 rfl Tryz.ntmps206 rfl rfl (.sr (.m2 rfl (.m2 rfl (Rg.wd trivial (w_buildSlice (bs38_1 _) rfl) rfl ?_))))
  rintro _ w1 ⟨b6,rfl,q6,hx1,hv6⟩
  refine Rg.wd trivial (w_call Tryz.call100 rfl (acc_F hC (hp.extw hx1) (texts := [x]) hv6 (by simp) ht)) rfl ?_
  rintro _ w2 ⟨rfl,h1,h2⟩
  refine .done (.condF rfl (Wp.region (.m2 rfl (Rg.wd trivial (w_call Tryz.call207 rfl (D_absent h1 h hb)) rfl ?_))))
  rintro _ w3 ⟨h3,h4⟩
  refine .done ?_
  exact ⟨[],trivial,h3,((Bw.of hx1 hU).trans h2).trans h4⟩
theorem itemKw_ok (hA : Asc w) : Cl Tryz.prog 148 #[] w (fun u w' => (∃ b,u = .slice (some ⟨b,0,none⟩) items.length items.length ∧ Var w' b (items.map .string) 9) ∧ Ext w w') := by
 have el : (Lib.fields itemsText.data.toList).length = items.length := by unfold items; rw [List.length_map]
 refine Cl.enter Tryz.func148 rfl Tryz.ntmps148 rfl rfl (.sr (.a2 rfl (.done (.sr ?_))))
 refine Rg.wd trivial (w_call Tryz.call144 rfl (Lexi.fields_ok (s := itemsText) (by decide) (by decide +kernel) hA)) rfl ?_
 rintro _ w1 ⟨⟨b,rfl,hv⟩,hx⟩
 rw [el]
 refine .a2 rfl (.done (Wp.ret ?_))
 exact ⟨[_],⟨rfl,trivial⟩,⟨b,rfl,hv⟩,hx⟩
theorem items_len : items.length = 9 := by kernel_rfl
theorem atItem_ok (hC : Cx w0 tv toks) (hp : Ps w0 tv toks F w bP below k s) : Cl Tryz.prog 259 #[.pointer (some ⟨bP,0,none⟩)] w (fun u w' => u = .bool (atItem (sig1 s.rem)) ∧ Ext w w') := by
 have hx := Ext.refl w
 unfold atItem
 cases ht : isAt items (sig1 s.rem) with
 | true =>
  refine Cl.enter Tryz.func259 rfl Tryz.ntmps259 rfl rfl (.sr (.a2 rfl (.done (.sr (.m2 rfl (Rg.wd trivial (w_call Tryz.call148 rfl (itemKw_ok ((hC.asc.ext hp.ext).ext hx))) rfl ?_))))))
  rintro _ w1 ⟨⟨b4,rfl,hv4⟩,hx1⟩
  replace hx := hx.ext hx1
  refine Rg.wd trivial (w_call Tryz.call94 rfl (at_ok hC (hp.extw hx) hv4 (by rw [items_len]; decide))) rfl ?_
  rintro _ w2 ⟨rfl,hx2⟩
  replace hx := hx.ext hx2
  rw [ht]
  refine .m2 rfl (.g2 (t_move rfl) (Rg.wd ⟨_,rfl,rfl⟩ (w_buildSlice (bs38_1 _) rfl) rfl ?_))
  rintro _ w3 ⟨b8,rfl,q8,hx3,hv8⟩
  replace hx := hx.ext hx3
  refine Rg.wd ⟨_,rfl,rfl⟩ (w_call Tryz.call94 rfl (at_ok hC (hp.extw hx) (texts := [⟨#[102,110]⟩]) hv8 (by decide))) rfl ?_
  rintro _ w4 ⟨rfl,hx4⟩
  replace hx := hx.ext hx4
  refine .g2 (t_notB rfl) (.t2 (t_pickT rfl rfl) (.a2 rfl (.done (Wp.ret ?_))))
  exact ⟨[_],⟨rfl,trivial⟩,rfl,hx⟩
 | false =>
  refine Cl.enter Tryz.func259 rfl Tryz.ntmps259 rfl rfl (.sr (.a2 rfl (.done (.sr (.m2 rfl (Rg.wd trivial (w_call Tryz.call148 rfl (itemKw_ok ((hC.asc.ext hp.ext).ext hx))) rfl ?_))))))
  rintro _ w1 ⟨⟨b4,rfl,hv4⟩,hx1⟩
  replace hx := hx.ext hx1
  refine Rg.wd trivial (w_call Tryz.call94 rfl (at_ok hC (hp.extw hx) hv4 (by rw [items_len]; decide))) rfl ?_
  rintro _ w2 ⟨rfl,hx2⟩
  replace hx := hx.ext hx2
  rw [ht]
  refine .m2 rfl (.so rfl rfl (.so rfl rfl (.so rfl rfl (.so rfl rfl (.t2 (t_pickF rfl rfl) (.a2 rfl (.done (Wp.ret ?_))))))))
  exact ⟨[_],⟨rfl,trivial⟩,rfl,hx⟩
end
end Go.Proofs.YtiogccmfmjhipaaGreatDoor.Par
namespace Go.Proofs
open Go.Shelf
theorem Tryz.lays109 : Go.Proofs.Lays.n109 Tryz.prog Tryz.lays110_ren := {
 mixed := by kernel_rfl
 f109 := Tryz.func143.trans (congrArg some (by kernel_rfl))
 t0 := Tryz.underlying0
 a0 := Tryz.isAgg0
 z0 := Tryz.sizeOf0
 v0 := Tryz.zeroValue0
 t3 := Tryz.underlying3
 a3 := Tryz.isAgg3
 z3 := Tryz.sizeOf3
 v3 := Tryz.zeroValue3
 t4 := Tryz.underlying4
 a4 := Tryz.isAgg4
 z4 := Tryz.sizeOf4
 v4 := Tryz.zeroValue4
 t9 := Tryz.underlying9
 a9 := Tryz.isAgg9
 z9 := Tryz.sizeOf9
 v9 := Tryz.zeroValue9
 t31 := Tryz.underlying38
 a31 := Tryz.isAgg38
 z31 := Tryz.sizeOf38
 v31 := Tryz.zeroValue38 }
open Go.RowKit Go.Lib in
theorem Tryz.slices_Index_string (b off n c : Nat) (zs : List ByteArray) (x : ByteArray) (w : World) (hz : n ≤ zs.length) (hbig : n ≤ 9223372036854775807) (hc : ∀ j,j < zs.length → w.cell? ⟨b,off + j,none⟩ = some (.string (zs.getD j ByteArray.empty))) :
  Calls Tryz.prog 143 #[.slice (some ⟨b,off,none⟩) n c,.string x] w fun e w' => e = .returned (.int .i64 (Lib.idxOfS (zs.take n) x)) ∧ w' = w := Any.slices_Index_string Tryz.lays109 b off n c zs x w hz hbig hc
end Go.Proofs
namespace Go.Proofs.YtiogccmfmjhipaaGreatDoor.Par
set_option maxRecDepth 20000
open Go.Gx Go.RowKit Go.Lib
open Lexi (Asc)
section
variable {w0 : World} {tv : Value} {toks : List Tok} {F : Fs} {w w' : World} {bP : Nat} {below : List (Int × List Tr)} {k : Int} {s r : S} {n : Nat} {cf : FuncId} {fst cap : List Value} {c : Cmd}
theorem index_ok {b : Nat} {zs : List ByteArray} {x : ByteArray} (hz : zs.length ≤ 9223372036854775807) (hv : Var w b (zs.map .string) 9) :
  Cl Tryz.prog 143 #[.slice (some ⟨b,0,none⟩) zs.length zs.length,.string x] w (fun u w' => u = .int .i64 (idxOfS zs x) ∧ w = w') :=
 (Cl.of (Tryz.slices_Index_string b 0 zs.length zs.length zs x w (Nat.le_refl _) hz (fun j hj => hv.cells j _ (by simp [hj])))).mono fun _ _ ⟨h1,h2⟩ => ⟨by rw [h1,List.take_length],h2.symm⟩
theorem itemKind_ok {x : ByteArray} (hA : Asc w) : Cl Tryz.prog 96 #[.string x] w (fun u w' => u = .int .i64 (kindNo x) ∧ Ext w w') := by
 have el : (Lib.fields kindsText.data.toList).length = kinds.length := by unfold kinds; rw [List.length_map]
 have hx := Ext.refl w
 have hrange := idxFrom_lt kinds x 0
 rw [kinds_len] at hrange
 obtain ⟨ix,hix⟩ : ∃ ix,idxOfS kinds x = ix := ⟨_,rfl⟩
 have hrange : ix < 8 ∨ ix = -1 := by rw [← hix]; unfold idxOfS; omega
 refine Cl.enter Tryz.func96 rfl Tryz.ntmps96 rfl rfl (.sr (.a2 rfl (.done (.sr ?_))))
 refine Rg.wd trivial (w_call Tryz.call144 rfl (Lexi.fields_ok (s := kindsText) (by decide) (by decide +kernel) hA)) rfl ?_
 rintro _ w1 ⟨⟨b,rfl,hv⟩,hx1⟩
 replace hx := hx.ext hx1
 rw [el]
 refine .m2 rfl ?_
 refine Rg.wd trivial (w_call Tryz.call143 rfl (index_ok (zs := kinds) (by rw [kinds_len]; decide) hv)) rfl ?_
 rintro _ w2 ⟨rfl,rfl⟩
 rw [hix]
 refine .a2 rfl (.done (.seq (.sr (.m2 rfl (.t2 (t_lss rfl rfl) (.done ?_))))))
 by_cases hn : ix < 0
 ·rw [show decide (ix < 0) = true from decide_eq_true hn]
  refine .condT rfl (.sr (.a2 rfl (.done (Wp.ret ?_))))
  exact ⟨[_],⟨rfl,trivial⟩,by unfold kindNo; rw [hix,if_pos hn]; rfl,hx⟩
 ·rw [show decide (ix < 0) = false from decide_eq_false hn]
  refine .condF rfl (Wp.skip (.sr (.m2 rfl ?_)))
  refine .t2 (t_addI rfl rfl (by omega)) ?_
  refine .a2 rfl (.done (Wp.ret ?_))
  exact ⟨[_],⟨rfl,trivial⟩,by unfold kindNo; rw [hix,if_neg hn]; rfl,hx⟩
def S.look (s : S) : S := S.bump ⟨s.rem,[],false,0⟩
theorem look_rem (s : S) : s.look.rem = left s.rem := rfl
theorem lookahead_ok (hC : Cx w0 tv toks) (hp : Ps w0 tv toks F w bP below k s) :
  Cl Tryz.prog 95 #[.pointer (some ⟨bP,0,none⟩)] w (fun u w' => ∃ bQ,u = .pointer (some ⟨bQ,0,none⟩) ∧ Ps w0 tv toks (fun z => z < w.heap.size) w' bQ [] 0 s.look ∧ Ext w w') := by
 have hx := Ext.refl w
 obtain ⟨g,h1,e0,h2,h3,hvar⟩ := hp.var
 have hc := hvar.cells
 have hxw := h1.ext
 have hne : taken s.rem = taken s.rem := rfl
 have hlen : s.look.adds ≤ big := by
  have hl : (taken s.rem).length ≤ s.rem.length := by
   have := congrArg List.length (taken_left s.rem)
   rw [List.length_append] at this
   omega
  have h4 := congrArg List.length h2
  rw [List.length_drop] at h4
  have := hC.few
  simp only [S.look,S.bump,big]
  omega
 obtain ⟨tp,tl,tcap,rfl⟩ : ∃ tp tl tcap,tv = .slice tp tl tcap := by
  obtain ⟨_,p,cap,e,_⟩ := hC.tok
  exact ⟨p,_,cap,e⟩
 refine Cl.enter Tryz.func95 rfl Tryz.ntmps95 rfl rfl (.sr (.a2 rfl (.done ?_)))
 refine Wp.seq (Wp.draw [0,1,2,3,4,5,6,7,8,9,10,11,12] [] mixed (by kernel_rfl) (by kernel_rfl) ?_)
 intro w1 hx1 _
 replace hx := hx.ext hx1
 refine .m2 rfl (.t2 (t_nilCheck rfl) (.t2 (t_fieldAddr fa102_0 rfl) (.t2 (t_load ty34 rfl (Cells.get (i := 0) (hc.ext hx) rfl)) (.m2 rfl (.t2 (t_nilCheck rfl) (.t2 (t_fieldAddr fa102_1 rfl) (.t2 (t_load ty3 rfl (Cells.get (i := 1) (hc.ext hx) rfl)) (.t2 (t_build (bd43) rfl) ?_))))))))
 refine Rg.wdB trivial rfl (w_buildSlice (bs41_1 _ _ _ _ _) rfl) rfl (fun _ _ hr => by obtain ⟨_,_,_,hr,_⟩ := hr; exact hr) ?_
 have hl13 := hx.le
 rintro _ w2 ⟨b13,rfl,q13,hx2,hv13⟩
 replace hx := hx.ext hx2
 refine .t2 (t_build (bd102_0_1_2 _ _ _ _ _ _ _) rfl) ?_
 refine Rg.wdB trivial rfl (w_boxed rfl rfl) rfl (fun _ _ hr => by obtain ⟨_,_,_,hr,_⟩ := hr; exact hr) ?_
 have hl15 := hx.le
 have hl13b := hv13.lt
 rintro _ w3 ⟨b15,rfl,q15,hx3,hv15⟩
 replace hx := hx.ext hx3
 replace hv13 := hv13.ext hx3
 refine .a2 rfl (.done ?_)
 have hpq : Ps w0 (.slice tp tl tcap) toks (fun z => z < w.heap.size) w3 b15 [] 0 ⟨s.rem,[],false,0⟩ := by
  refine ⟨⟨b15,.slice (some ⟨b13,0,none⟩) 1 1,g.pos,[⟨0,.slice none 0 0,[]⟩],fun _ => False⟩,⟨hxw.ext hx,fun z hz => Nat.lt_of_lt_of_le hz hxw.le,fun z hz => Nat.lt_of_lt_of_le hz hx.le,fun z hz => hz.elim,hv15,whole_ownG (sp := []) (Nat.zero_le _) rfl (Nat.le_refl _) (by decide) rfl hv13,fun f hf => ?_,fun f hf t ht => ?_,?_,fun b hb => ⟨fun hF => ?_,fun h => h⟩,fun z _ h => h⟩,rfl,h2,h3,rfl,fun f hf => ?_,Nat.le_refl _⟩
  ·obtain rfl : f = ⟨0,.slice none 0 0,[]⟩ := by simpa using hf
   exact ⟨rfl,.inl ⟨rfl,rfl⟩⟩
  ·obtain rfl : f = ⟨0,.slice none 0 0,[]⟩ := by simpa using hf
   cases ht
  ·simp [Pg.muts,Value.ownBlock]
   omega
  ·simp [Pg.muts,Value.ownBlock] at hb
   omega
  ·obtain rfl : f = ⟨0,.slice none 0 0,[]⟩ := by simpa using hf
   exact Nat.le_refl _
 refine .sr (.m2 rfl (Rg.wd trivial (w_call Tryz.call101 rfl (bump_ok hC hpq hlen)) rfl ?_))
 rintro _ w17 ⟨h17,hb17⟩
 refine .done (.sr (.m2 rfl (.a2 rfl (.done (Wp.ret ?_)))))
 exact ⟨[_],⟨rfl,trivial⟩,⟨b15,rfl,h17,Bw.ext hx hb17 fun z hz => hz⟩⟩
end
section
variable {w0 : World} {tv : Value} {toks : List Tok} {F : Fs} {w w' : World} {bP : Nat} {below : List (Int × List Tr)} {k : Int} {s r : S} {n : Nat} {cf : FuncId} {fst cap : List Value} {c : Cmd}
theorem D_list {cl : ByteArray} (hC : Cx w0 tv toks) (hp : Ps w0 tv toks F w bP below k s) (hc : Clo w0 tv toks n F bP cf fst cap w c) (hr : run body n (Cmd.list cl c) s = some r) (hb : r.adds ≤ big) :
  Cl Tryz.prog 209 #[.pointer (some ⟨bP,0,none⟩),.string cl,.func (.func cf) fst.toArray cap.toArray] w (fun u w' => Ps w0 tv toks F w' bP below k r ∧ Bw F w w') := by
 obtain ⟨sL,hL,hE⟩ := run_seq' hr
 have hbL := adds_le hE hb
 refine Cl.enter Tryz.func209 rfl Tryz.ntmps209 rfl rfl (.seq (Wp.block ?_))
 refine Wp.loop (ι := S × Nat) (fun _ => [(0,.pointer (some ⟨bP,0,none⟩)),(1,.string cl),(2,.func (.func cf) fst.toArray cap.toArray)])
  (fun i w' => Ps w0 tv toks F w' bP below k i.1 ∧ Bw F w w' ∧ run body i.2 _ i.1 = some sL ∧ i.2 ≤ n) (fun i => i.2) (s,n) (by repeat (first | exact .nil | refine .cons rfl ?_)) ⟨hp,Bw.refl _ _,hL,Nat.le_refl _⟩ ?_
 clear hp hL
 rintro ⟨s',m⟩ wl ⟨hp,hbw,hrun,hmn⟩
 simp only at hp hrun hmn
 have hx := Ext.refl wl
 have hU := hp.und
 cases h1 : isAt [cl] (sig1 s'.rem) with
 | true =>
  have ht : s'.test (fun t _ _ _ => !isAt [cl] t && t.1 != 100 && !atItem t) = false := by simp [S.test,h1]
  obtain rfl := run_loopF hrun ht
  refine .seq (.sr (.m2 rfl (.m2 rfl (Rg.wd trivial (w_buildSlice (bs38_1 _) rfl) rfl ?_))))
  rintro _ w1 ⟨b9,rfl,q9,hx1,hv9⟩
  replace hx := hx.ext hx1
  refine Rg.wd trivial (w_call Tryz.call94 rfl (at_ok hC (hp.extw hx) (texts := [cl]) hv9 (by simp))) rfl ?_
  rintro _ w2 ⟨rfl,hx2⟩
  replace hx := hx.ext hx2
  rw [h1]
  refine .t2 (t_notB rfl) (.m2 rfl (.so rfl rfl (.so rfl rfl (.so rfl rfl (.t2 (t_pickF rfl rfl) (.m2 rfl (.so rfl rfl (.so rfl rfl (.so rfl rfl (.t2 (t_pickF rfl rfl) (.done (.condF rfl ?_))))))))))))
  refine Wp.exit (Wp.region (.m2 rfl (.m2 rfl (Rg.wd trivial (w_call Tryz.call156 rfl (D_exp hC (hp.extw hx) hE hb)) rfl ?_))))
  rintro _ wE ⟨hE1,hE2⟩
  refine .done ?_
  exact ⟨[],trivial,hE1,(hbw.trans (Bw.of hx hU)).trans hE2⟩
 | false =>
  cases h2 : ((sig1 s'.rem).1 == 100) with
  | true =>
   have ht : s'.test (fun t _ _ _ => !isAt [cl] t && t.1 != 100 && !atItem t) = false := by simp only [S.test,bne,h1,h2]; rfl
   obtain rfl := run_loopF hrun ht
   refine .seq (.sr (.m2 rfl (.m2 rfl (Rg.wd trivial (w_buildSlice (bs38_1 _) rfl) rfl ?_))))
   rintro _ w1 ⟨b9,rfl,q9,hx1,hv9⟩
   replace hx := hx.ext hx1
   refine Rg.wd trivial (w_call Tryz.call94 rfl (at_ok hC (hp.extw hx) (texts := [cl]) hv9 (by simp))) rfl ?_
   rintro _ w2 ⟨rfl,hx2⟩
   replace hx := hx.ext hx2
   rw [h1]
   refine .t2 (t_notB rfl) (.m2 rfl (.g2 (t_move rfl) (Rg.wd ⟨_,rfl,rfl⟩ (w_call Tryz.call52 rfl (atEOF_ok hC (hp.extw hx))) rfl ?_)))
   rintro _ w3 ⟨rfl,hx3⟩
   replace hx := hx.ext hx3
   rw [h2]
   refine .g2 (t_notB rfl) (.t2 (t_pickT rfl rfl) (.m2 rfl (.so rfl rfl (.so rfl rfl (.so rfl rfl (.t2 (t_pickF rfl rfl) (.done (.condF rfl (Wp.exit (Wp.region (.m2 rfl (.m2 rfl ?_))))))))))))
   refine Rg.wd trivial (w_call Tryz.call156 rfl (D_exp hC (hp.extw hx) hE hb)) rfl ?_
   rintro _ wE ⟨hE1,hE2⟩
   refine .done ?_
   exact ⟨[],trivial,hE1,(hbw.trans (Bw.of hx hU)).trans hE2⟩
  | false =>
   cases h3 : atItem (sig1 s'.rem) with
   | true =>
    have ht : s'.test (fun t _ _ _ => !isAt [cl] t && t.1 != 100 && !atItem t) = false := by simp only [S.test,bne,h1,h2,h3]; rfl
    obtain rfl := run_loopF hrun ht
    refine .seq (.sr (.m2 rfl (.m2 rfl (Rg.wd trivial (w_buildSlice (bs38_1 _) rfl) rfl ?_))))
    rintro _ w1 ⟨b9,rfl,q9,hx1,hv9⟩
    replace hx := hx.ext hx1
    refine Rg.wd trivial (w_call Tryz.call94 rfl (at_ok hC (hp.extw hx) (texts := [cl]) hv9 (by simp))) rfl ?_
    rintro _ w2 ⟨rfl,hx2⟩
    replace hx := hx.ext hx2
    rw [h1]
    refine .t2 (t_notB rfl) (.m2 rfl (.g2 (t_move rfl) (Rg.wd ⟨_,rfl,rfl⟩ (w_call Tryz.call52 rfl (atEOF_ok hC (hp.extw hx))) rfl ?_)))
    rintro _ w3 ⟨rfl,hx3⟩
    replace hx := hx.ext hx3
    rw [h2]
    refine .g2 (t_notB rfl) (.t2 (t_pickT rfl rfl) (.m2 rfl (.g2 (t_move rfl) (Rg.wd ⟨_,rfl,rfl⟩ (w_call Tryz.call259 rfl (atItem_ok hC (hp.extw hx))) rfl ?_))))
    rintro _ w4 ⟨rfl,hx4⟩
    replace hx := hx.ext hx4
    rw [h3]
    refine .g2 (t_notB rfl) (.t2 (t_pickT rfl rfl) (.done (.condF rfl (Wp.exit (Wp.region (.m2 rfl (.m2 rfl (Rg.wd trivial (w_call Tryz.call156 rfl (D_exp hC (hp.extw hx) hE hb)) rfl ?_))))))))
    rintro _ wE ⟨hE1,hE2⟩
    refine .done ?_
    exact ⟨[],trivial,hE1,(hbw.trans (Bw.of hx hU)).trans hE2⟩
   | false =>
    have ht : s'.test (fun t _ _ _ => !isAt [cl] t && t.1 != 100 && !atItem t) = true := by simp only [S.test,bne,h1,h2,h3]; rfl
    obtain ⟨m1,s2,rfl,hbody,hrest⟩ := run_loopT hrun ht
    obtain ⟨q,hq,hsame,hmore⟩ := run_prog' hbody
    have hb2 := adds_le hrest hbL
    have hqb : q.adds ≤ big := by
     by_cases e : q.rem.length = s'.rem.length
     ·exact adds_le (hsame e) hb2
     ·exact adds_le (hmore e) hb2
    refine .seq (.sr (.m2 rfl (.m2 rfl (Rg.wd trivial (w_buildSlice (bs38_1 _) rfl) rfl ?_))))
    rintro _ w1 ⟨b9,rfl,q9,hx1,hv9⟩
    replace hx := hx.ext hx1
    refine Rg.wd trivial (w_call Tryz.call94 rfl (at_ok hC (hp.extw hx) (texts := [cl]) hv9 (by simp))) rfl ?_
    rintro _ w2 ⟨rfl,hx2⟩
    replace hx := hx.ext hx2
    rw [h1]
    refine .t2 (t_notB rfl) (.m2 rfl (.g2 (t_move rfl) (Rg.wd ⟨_,rfl,rfl⟩ (w_call Tryz.call52 rfl (atEOF_ok hC (hp.extw hx))) rfl ?_)))
    rintro _ w3 ⟨rfl,hx3⟩
    replace hx := hx.ext hx3
    rw [h2]
    refine .g2 (t_notB rfl) (.t2 (t_pickT rfl rfl) (.m2 rfl (.g2 (t_move rfl) (Rg.wd ⟨_,rfl,rfl⟩ (w_call Tryz.call259 rfl (atItem_ok hC (hp.extw hx))) rfl ?_))))
    rintro _ w4 ⟨rfl,hx4⟩
    replace hx := hx.ext hx4
    rw [h3]
    refine .g2 (t_notB rfl) (.t2 (t_pickT rfl rfl) (.done (.condT rfl (Wp.skip (Wp.block ?_)))))
    have hp1 := hp.extw hx
    obtain ⟨g,g1,g0,g2,g3,hvar⟩ := hp1.var
    have hc1 := hvar.cells
    have hbx := Bw.of hx hU
    refine .sr (.m2 rfl (.t2 (t_nilCheck rfl) (.t2 (t_fieldAddr fa102_1 rfl) (.t2 (t_load ty3 rfl (Cells.get (i := 1) hc1 rfl)) (.a2 rfl (.done (.sr (.m2 rfl (Rg.wd trivial (w_callG rfl hc.1 rfl (hc.2 _ (hbw.trans hbx) _ _ _ _ hp1 (run_le hmn hq) hqb)) rfl ?_)))))))))
    rintro _ wq ⟨hp2,hb3⟩
    obtain ⟨g',g1',g0',g2',g3',hvar'⟩ := hp2.var
    have hc2 := hvar'.cells
    have hl1 := congrArg List.length g2
    have hl2 := congrArg List.length g2'
    rw [List.length_drop] at hl1 hl2
    refine .done (Wp.block ?_)
    by_cases hsm : q.rem.length = s'.rem.length
    ·skip
     refine .sr (.m2 rfl (.t2 (t_nilCheck rfl) (.t2 (t_fieldAddr fa102_1 rfl) (.t2 (t_load ty3 rfl (Cells.get (i := 1) hc2 rfl)) (.m2 rfl ?_)))))
     refine .t2 (t_eqlT rfl rfl (by omega)) ?_
     refine .a2 rfl (.done (.condT rfl (Wp.region (.m2 rfl (Rg.wd trivial (w_call Tryz.call260 rfl (D_unexp hC hp2 (hsame hsm) hb2)) rfl ?_)))))
     rintro _ wU ⟨hU1,hU2⟩
     refine .done ?_
     exact ⟨(s2,m1),by repeat (first | exact .nil | refine .cons rfl ?_),⟨hU1,((hbw.trans hbx).trans hb3).trans hU2,hrest,by simp only; omega⟩,by simp only; omega⟩
    ·skip
     refine .sr (.m2 rfl (.t2 (t_nilCheck rfl) (.t2 (t_fieldAddr fa102_1 rfl) (.t2 (t_load ty3 rfl (Cells.get (i := 1) hc2 rfl)) (.m2 rfl ?_)))))
     refine .t2 (t_eqlF rfl rfl (by omega)) ?_
     refine .a2 rfl (.done ?_)
     have hmm := hmore hsm
     cases h4 : isAt [cl] (sig1 q.rem) with
     | true =>
      refine .condF rfl (.sr (.m2 rfl (.m2 rfl (Rg.wd trivial (w_buildSlice (bs38_1 _) rfl) rfl ?_))))
      rintro _ w40 ⟨b40,rfl,q40,hx40,hv40⟩
      refine Rg.wd trivial (w_call Tryz.call94 rfl (at_ok hC (hp2.extw hx40) (texts := [cl]) hv40 (by simp))) rfl ?_
      rintro _ w41 ⟨rfl,hx41⟩
      rw [h4]
      have hx42 := hx40.ext hx41
      refine .t2 (t_notB rfl) (.a2 rfl (.done (.condF rfl (Wp.skip ?_))))
      obtain rfl := run_skip' (run_condT hmm h4)
      exact ⟨(s2,m1),by repeat (first | exact .nil | refine .cons rfl ?_),⟨hp2.extw hx42,((hbw.trans hbx).trans hb3).trans (Bw.of hx42 hp2.und),hrest,by simp only; omega⟩,by simp only; omega⟩
     | false =>
      refine .condF rfl (.sr (.m2 rfl (.m2 rfl (Rg.wd trivial (w_buildSlice (bs38_1 _) rfl) rfl ?_))))
      rintro _ w40 ⟨b40,rfl,q40,hx40,hv40⟩
      refine Rg.wd trivial (w_call Tryz.call94 rfl (at_ok hC (hp2.extw hx40) (texts := [cl]) hv40 (by simp))) rfl ?_
      rintro _ w41 ⟨rfl,hx41⟩
      rw [h4]
      have hx42 := hx40.ext hx41
      refine .t2 (t_notB rfl) (.a2 rfl (.done (.condT rfl (Wp.region (.m2 rfl (Rg.wd trivial (w_call Tryz.call156 rfl (D_exp hC (hp2.extw hx42) (run_condF hmm h4) hb2)) rfl ?_))))))
      rintro _ w44 ⟨h441,h442⟩
      refine .done ?_
      exact ⟨(s2,m1),by repeat (first | exact .nil | refine .cons rfl ?_),⟨h441,(((hbw.trans hbx).trans hb3).trans (Bw.of hx42 hp2.und)).trans h442,hrest,by simp only; omega⟩,by simp only; omega⟩
end
def fnOf : Nm → FuncId × List Value
 | .block => (208,[]) | .statement => (258,[]) | .letS => (293,[]) | .returnS => (295,[]) | .binary n => (222,[.int .i64 n]) | .unary => (265,[]) | .arguments => (314,[]) | .postE => (302,[]) | .primary => (296,[]) | .ifExpr => (316,[]) | .matchE => (317,[])
 | .structLit => (318,[]) | .lambda => (319,[]) | .pattern => (312,[]) | .item => (53,[]) | .skipTo => (97,[]) | .itemBody k => (102,[.int .i64 k]) | .use => (150,[]) | .typeParams => (205,[]) | .typeParam => (256,[]) | .params cl => (159,[.string cl])
 | .function b => (151,[.bool b]) | .dataType k => (152,[.int .i64 k]) | .members => (154,[]) | .impl => (155,[]) | .path b => (220,[.bool b]) | .typeExpr => (157,[])
def DN (w0 : World) (tv : Value) (toks : List Tok) (m : Nat) : Prop := ∀ (x : Nm) (F : Fs) (w : World) (bP : Nat) (below : List (Int × List Tr)) (k : Int) (s r : S),Ps w0 tv toks F w bP below k s → run body m (body x) s = some r → r.adds ≤ big →
 Cl Tryz.prog (fnOf x).1 (.pointer (some ⟨bP,0,none⟩) :: (fnOf x).2).toArray w (fun u w' => (x = .statement → u = .bool r.flag) ∧ Ps w0 tv toks F w' bP below k r ∧ Bw F w w')
section
variable {w0 : World} {tv : Value} {toks : List Tok} {F : Fs} {w w' : World} {bP : Nat} {below : List (Int × List Tr)} {k : Int} {s r : S} {n : Nat} {cf : FuncId} {fst cap : List Value} {c : Cmd}
theorem D_call {x : Nm} (hD : ∀ m,m < n → DN w0 tv toks m) (hp : Ps w0 tv toks F w bP below k s) (h : run body n (.call x) s = some r) (hb : r.adds ≤ big) :
  Cl Tryz.prog (fnOf x).1 (.pointer (some ⟨bP,0,none⟩) :: (fnOf x).2).toArray w (fun u w' => (x = .statement → u = .bool r.flag) ∧ Ps w0 tv toks F w' bP below k r ∧ Bw F w w') := by
 obtain ⟨m,h1,h2⟩ := run_call' h
 exact hD m h1 x F w bP below k s r hp h2 hb
theorem clo_call {f : FuncId} (hcf : ∀ (args : Array Value) (w : World),(callFunc f args).run Tryz.prog w = .ok (.enter f args) w) (hD : ∀ m,m < n → DN w0 tv toks m) (x : Nm) (hf : (fnOf x).1 = f := by rfl) (hx : (fnOf x).2 = [] := by rfl) : Clo w0 tv toks n F bP f [.pointer (some ⟨bP,0,none⟩)] [] w (.call x) := by
 refine ⟨hcf,fun w1 _ below k s r hp h hb => ?_⟩
 have := D_call hD hp h hb
 rw [hf,hx] at this
 exact this.mono fun u w' h => h.2
theorem D_expr (hC : Cx w0 tv toks) (hD : ∀ m,m < n → DN w0 tv toks m) (hp : Ps w0 tv toks F w bP below k s) (hr : run body n Cmd.expr s = some r) (hb : r.adds ≤ big) : Cl Tryz.prog 158 #[.pointer (some ⟨bP,0,none⟩)] w (fun u w' => Ps w0 tv toks F w' bP below k r ∧ Bw F w w') := by
 have hbw := Bw.refl F w
 have hsub : ∀ z,F z → F z := fun z h => h
 have hbase := hp.base
 refine Cl.enter Tryz.func158 rfl Tryz.ntmps158 rfl rfl (Wp.region (.m2 rfl (Rg.wd trivial (w_call Tryz.call222 rfl (D_call hD hp hr hb)) rfl ?_)))
 rintro _ w1 ⟨hst,hp1,hb1⟩
 replace hbw := hbw.trans (hb1.sub hsub)
 clear hp
 have hp := hp1
 clear hp1
 refine .done ?_
 exact ⟨[],trivial,hp.sub hsub hbase,hbw⟩
theorem clo_expr (hC : Cx w0 tv toks) (hD : ∀ m,m < n → DN w0 tv toks m) : Clo w0 tv toks n F bP 158 [.pointer (some ⟨bP,0,none⟩)] [] w Cmd.expr := ⟨Tryz.call158,fun w1 _ below k s r hp h hb => D_expr hC hD hp h hb⟩
theorem atPattern_ok (hC : Cx w0 tv toks) (hp : Ps w0 tv toks F w bP below k s) : Cl Tryz.prog 332 #[.pointer (some ⟨bP,0,none⟩)] w (fun u w' => u = .bool (atPattern (sig1 s.rem)) ∧ Ext w w') := by
 have hx := Ext.refl w
 unfold atPattern
 cases h1 : ((sig1 s.rem).1 == 103) with
 | true =>
  refine Cl.enter Tryz.func332 rfl Tryz.ntmps332 rfl rfl (.sr (.a2 rfl (.done (.sr (.m2 rfl (Rg.wd trivial (w_call Tryz.call211 rfl (atIdent_ok hC (hp.extw hx))) rfl ?_))))))
  rintro _ w1 ⟨rfl,hx1⟩
  replace hx := hx.ext hx1
  rw [h1]
  refine .m2 rfl (.so rfl rfl (.so rfl rfl (.so rfl rfl (.so rfl rfl (.t2 (t_pickT rfl rfl) (.m2 rfl (.so rfl rfl (.so rfl rfl (.so rfl rfl (.t2 (t_pickT rfl rfl) (.a2 rfl (.done ?_))))))))))))
  refine Wp.ret ?_
  exact ⟨[_],⟨rfl,trivial⟩,rfl,hx⟩
 | false =>
  cases h2 : ((sig1 s.rem).1 == 105) with
  | true =>
   refine Cl.enter Tryz.func332 rfl Tryz.ntmps332 rfl rfl (.sr (.a2 rfl (.done (.sr (.m2 rfl (Rg.wd trivial (w_call Tryz.call211 rfl (atIdent_ok hC (hp.extw hx))) rfl ?_))))))
   rintro _ w1 ⟨rfl,hx1⟩
   replace hx := hx.ext hx1
   rw [h1]
   refine .m2 rfl (.g2 (t_move rfl) (Rg.wd ⟨_,rfl,rfl⟩ (w_call Tryz.call93 rfl ((hp.extw hx).peek hC)) rfl ?_))
   rintro _ w2 ⟨rfl,hx2⟩
   replace hx := hx.ext hx2
   refine .g2 (t_field rfl (fun w => rfl)) (.g2 (t_eqlT rfl rfl (beq_iff_eq.1 h2)) (.t2 (t_pickF rfl rfl) (.m2 rfl (.so rfl rfl (.so rfl rfl (.so rfl rfl (.t2 (t_pickT rfl rfl) (.a2 rfl (.done (Wp.ret ?_))))))))))
   exact ⟨[_],⟨rfl,trivial⟩,rfl,hx⟩
  | false =>
   refine Cl.enter Tryz.func332 rfl Tryz.ntmps332 rfl rfl (.sr (.a2 rfl (.done (.sr (.m2 rfl (Rg.wd trivial (w_call Tryz.call211 rfl (atIdent_ok hC (hp.extw hx))) rfl ?_))))))
   rintro _ w1 ⟨rfl,hx1⟩
   replace hx := hx.ext hx1
   rw [h1]
   refine .m2 rfl (.g2 (t_move rfl) (Rg.wd ⟨_,rfl,rfl⟩ (w_call Tryz.call93 rfl ((hp.extw hx).peek hC)) rfl ?_))
   rintro _ w2 ⟨rfl,hx2⟩
   replace hx := hx.ext hx2
   refine .g2 (t_field rfl (fun w => rfl)) ?_
   refine .g2 (t_eqlF rfl rfl (fun e => by rw [beq_iff_eq.2 e] at h2; cases h2)) ?_
   refine .t2 (t_pickF rfl rfl) (.m2 rfl (.g2 (t_move rfl) (Rg.wd ⟨_,rfl,rfl⟩ (w_buildSlice (bs38_3 _ _ _) rfl) rfl ?_)))
   rintro _ w3 ⟨b13,rfl,q13,hx3,hv13⟩
   replace hx := hx.ext hx3
   refine Rg.wd ⟨_,rfl,rfl⟩ (w_call Tryz.call94 rfl (at_ok hC (hp.extw hx) (texts := [⟨#[116,114,117,101]⟩,⟨#[102,97,108,115,101]⟩,⟨#[109,117,116]⟩]) hv13 (by decide))) rfl ?_
   rintro _ w4 ⟨rfl,hx4⟩
   replace hx := hx.ext hx4
   refine .t2 (t_pickF rfl rfl) (.a2 rfl (.done (Wp.ret ?_)))
   exact ⟨[_],⟨rfl,trivial⟩,rfl,hx⟩
theorem N_letS (hC : Cx w0 tv toks) (hD : ∀ m,m < n → DN w0 tv toks m) (hp : Ps w0 tv toks F w bP below k s) (hr : run body n (body .letS) s = some r) (hb : r.adds ≤ big) :
  Cl Tryz.prog 293 #[.pointer (some ⟨bP,0,none⟩)] w (fun u w' => (Nm.letS = Nm.statement → u = .bool r.flag) ∧ Ps w0 tv toks F w' bP below k r ∧ Bw F w w') := by
 have hbw := Bw.refl F w
 have hsub : ∀ z,F z → F z := fun z h => h
 have hbase := hp.base
 have hr : run body n (.seq .bump (.seq (.call .pattern) (.seq (Cmd.opt ⟨#[58]⟩ (.call .typeExpr)) (.seq (Cmd.exp ⟨#[61]⟩) (.seq Cmd.expr (Cmd.exp ⟨#[59]⟩)))))) s = some r := hr
 refine Cl.enter Tryz.func293 rfl Tryz.ntmps293 rfl rfl (.sr (.m2 rfl ?_))
 obtain ⟨s1,h1a,h1b⟩ := run_seq' hr
 refine Rg.wd trivial (w_call Tryz.call101 rfl (D_bump hC hp h1a (adds_le h1b hb))) rfl ?_
 rintro _ w1 ⟨hp1,hb1⟩
 replace hbw := hbw.trans (hb1.sub hsub)
 clear hp
 have hp := hp1
 clear hp1
 refine .done (.sr (.m2 rfl ?_))
 obtain ⟨s2,h2a,h2b⟩ := run_seq' h1b
 refine Rg.wd trivial (w_call Tryz.call312 rfl (D_call hD hp h2a (adds_le h2b hb))) rfl ?_
 rintro _ w2 ⟨hst,hp1,hb2⟩
 replace hbw := hbw.trans (hb2.sub hsub)
 clear hp
 have hp := hp1
 clear hp1
 refine .done (.sr (.m2 rfl (.m2 rfl (.t2 (t_makeFuncB (us := [.pointer (some ⟨bP,0,none⟩)]) (vs := []) rfl rfl) ?_))))
 obtain ⟨s3,h3a,h3b⟩ := run_seq' h2b
 refine Rg.wd trivial (w_call Tryz.call206 rfl (D_opt hC hp (clo_call Tryz.call157 hD (.typeExpr)) h3a (adds_le h3b hb))) rfl ?_
 rintro _ w3 ⟨hp1,hb3⟩
 replace hbw := hbw.trans (hb3.sub hsub)
 clear hp
 have hp := hp1
 clear hp1
 refine .done (.sr (.m2 rfl ?_))
 obtain ⟨s4,h4a,h4b⟩ := run_seq' h3b
 refine Rg.wd trivial (w_call Tryz.call156 rfl (D_exp hC hp h4a (adds_le h4b hb))) rfl ?_
 rintro _ w4 ⟨hp1,hb4⟩
 replace hbw := hbw.trans (hb4.sub hsub)
 clear hp
 have hp := hp1
 clear hp1
 refine .done (.sr (.m2 rfl ?_))
 obtain ⟨s5,h5a,h5b⟩ := run_seq' h4b
 refine Rg.wd trivial (w_call Tryz.call158 rfl (D_expr hC hD hp h5a (adds_le h5b hb))) rfl ?_
 rintro _ w5 ⟨hp1,hb5⟩
 replace hbw := hbw.trans (hb5.sub hsub)
 clear hp
 have hp := hp1
 clear hp1
 refine .done (Wp.region (.m2 rfl (Rg.wd trivial (w_call Tryz.call156 rfl (D_exp hC hp h5b hb)) rfl ?_)))
 rintro _ w6 ⟨hp1,hb6⟩
 replace hbw := hbw.trans (hb6.sub hsub)
 clear hp
 have hp := hp1
 clear hp1
 refine .done ?_
 exact ⟨[],trivial,(fun h => by cases h),hp.sub hsub hbase,hbw⟩
theorem N_returnS (hC : Cx w0 tv toks) (hD : ∀ m,m < n → DN w0 tv toks m) (hp : Ps w0 tv toks F w bP below k s) (hr : run body n (body .returnS) s = some r) (hb : r.adds ≤ big) :
  Cl Tryz.prog 295 #[.pointer (some ⟨bP,0,none⟩)] w (fun u w' => (Nm.returnS = Nm.statement → u = .bool r.flag) ∧ Ps w0 tv toks F w' bP below k r ∧ Bw F w w') := by
 have hbw := Bw.refl F w
 have hsub : ∀ z,F z → F z := fun z h => h
 have hbase := hp.base
 have hr : run body n (.seq .bump (.seq (.cond (at1 [⟨#[59]⟩]) (.leaf 0) Cmd.expr) (Cmd.exp ⟨#[59]⟩))) s = some r := hr
 refine Cl.enter Tryz.func295 rfl Tryz.ntmps295 rfl rfl (.sr (.m2 rfl ?_))
 obtain ⟨s1,h1a,h1b⟩ := run_seq' hr
 refine Rg.wd trivial (w_call Tryz.call101 rfl (D_bump hC hp h1a (adds_le h1b hb))) rfl ?_
 rintro _ w1 ⟨hp1,hb1⟩
 replace hbw := hbw.trans (hb1.sub hsub)
 clear hp
 have hp := hp1
 clear hp1
 refine .done ?_
 obtain ⟨s2,h2a,h2b⟩ := run_seq' h1b
 refine .seq ?_
 cases haq1 : (isAt [⟨#[59]⟩] (sig1 s1.rem)) with
 | true =>
  have hq2 := run_condT h2a haq1
  refine .sr (.m2 rfl (Rg.wd trivial (w_buildSlice (bs38_1 _) rfl) rfl ?_))
  rintro _ w2 ⟨bt5,rfl,qt5,hx2,hvt5⟩
  replace hbw := bS hbw hp.und hsub hx2
  replace hp := hp.extw hx2
  refine Rg.wd trivial (w_call Tryz.call94 rfl (at_ok hC hp (texts := [⟨#[59]⟩]) hvt5 (by decide))) rfl ?_
  rintro _ w3 ⟨rfl,hx3⟩
  replace hbw := bS hbw hp.und hsub hx3
  replace hp := hp.extw hx3
  try replace hvt5 := hvt5.ext hx3
  rw [show (isAt [⟨#[59]⟩] (sig1 s1.rem)) = true from haq1]
  refine .done (.condT rfl (Wp.region (.m2 rfl (Rg.wd trivial (w_call Tryz.call207 rfl (D_absent hp hq2 (adds_le h2b hb))) rfl ?_))))
  rintro _ w4 ⟨hp1,hb4⟩
  replace hbw := hbw.trans (hb4.sub hsub)
  clear hp
  have hp := hp1
  clear hp1
  refine .done (Wp.region (.m2 rfl (Rg.wd trivial (w_call Tryz.call156 rfl (D_exp hC hp h2b hb)) rfl ?_)))
  rintro _ w5 ⟨hp1,hb5⟩
  replace hbw := hbw.trans (hb5.sub hsub)
  clear hp
  have hp := hp1
  clear hp1
  refine .done ?_
  exact ⟨[],trivial,(fun h => by cases h),hp.sub hsub hbase,hbw⟩
 | false =>
  have hq2 := run_condF h2a haq1
  refine .sr (.m2 rfl (Rg.wd trivial (w_buildSlice (bs38_1 _) rfl) rfl ?_))
  rintro _ w2 ⟨bt5,rfl,qt5,hx2,hvt5⟩
  replace hbw := bS hbw hp.und hsub hx2
  replace hp := hp.extw hx2
  refine Rg.wd trivial (w_call Tryz.call94 rfl (at_ok hC hp (texts := [⟨#[59]⟩]) hvt5 (by decide))) rfl ?_
  rintro _ w3 ⟨rfl,hx3⟩
  replace hbw := bS hbw hp.und hsub hx3
  replace hp := hp.extw hx3
  try replace hvt5 := hvt5.ext hx3
  rw [show (isAt [⟨#[59]⟩] (sig1 s1.rem)) = false from haq1]
  refine .done (.condF rfl (Wp.region (.m2 rfl (Rg.wd trivial (w_call Tryz.call158 rfl (D_expr hC hD hp hq2 (adds_le h2b hb))) rfl ?_))))
  rintro _ w4 ⟨hp1,hb4⟩
  replace hbw := hbw.trans (hb4.sub hsub)
  clear hp
  have hp := hp1
  clear hp1
  refine .done (Wp.region (.m2 rfl (Rg.wd trivial (w_call Tryz.call156 rfl (D_exp hC hp h2b hb)) rfl ?_)))
  rintro _ w5 ⟨hp1,hb5⟩
  replace hbw := hbw.trans (hb5.sub hsub)
  clear hp
  have hp := hp1
  clear hp1
  refine .done ?_
  exact ⟨[],trivial,(fun h => by cases h),hp.sub hsub hbase,hbw⟩
theorem N_arguments (hC : Cx w0 tv toks) (hD : ∀ m,m < n → DN w0 tv toks m) (hp : Ps w0 tv toks F w bP below k s) (hr : run body n (body .arguments) s = some r) (hb : r.adds ≤ big) :
  Cl Tryz.prog 314 #[.pointer (some ⟨bP,0,none⟩)] w (fun u w' => (Nm.arguments = Nm.statement → u = .bool r.flag) ∧ Ps w0 tv toks F w' bP below k r ∧ Bw F w w') := by
 have hbw := Bw.refl F w
 have hsub : ∀ z,F z → F z := fun z h => h
 have hbase := hp.base
 have hr : run body n (.seq .bump (Cmd.list ⟨#[41]⟩ Cmd.expr)) s = some r := hr
 refine Cl.enter Tryz.func314 rfl Tryz.ntmps314 rfl rfl (.sr (.m2 rfl ?_))
 obtain ⟨s1,h1a,h1b⟩ := run_seq' hr
 refine Rg.wd trivial (w_call Tryz.call101 rfl (D_bump hC hp h1a (adds_le h1b hb))) rfl ?_
 rintro _ w1 ⟨hp1,hb1⟩
 replace hbw := hbw.trans (hb1.sub hsub)
 clear hp
 have hp := hp1
 clear hp1
 refine .done (Wp.region (.m2 rfl (.m2 rfl (.t2 (t_makeFuncB (us := [.pointer (some ⟨bP,0,none⟩)]) (vs := []) rfl rfl) (Rg.wd trivial (w_call Tryz.call209 rfl (D_list hC hp (clo_expr hC hD) h1b hb)) rfl ?_)))))
 rintro _ w2 ⟨hp1,hb2⟩
 replace hbw := hbw.trans (hb2.sub hsub)
 clear hp
 have hp := hp1
 clear hp1
 refine .done ?_
 exact ⟨[],trivial,(fun h => by cases h),hp.sub hsub hbase,hbw⟩
theorem clo_170 (hC : Cx w0 tv toks) (hD : ∀ m,m < n → DN w0 tv toks m) {b0 : Nat} (hv_b0 : Var w b0 [.pointer (some ⟨bP,0,none⟩)] 100) (hF_b0 : F b0) : Clo w0 tv toks n F bP 294 [] [.pointer (some ⟨b0,0,none⟩)] w (.seq .bump (.seq Cmd.expr (.call .block))) := by
 refine ⟨Tryz.call294,fun w1 hw1 below k s r hp hr hb => ?_⟩
 replace hv_b0 := var_bw hv_b0 hw1 hF_b0
 show Cl Tryz.prog 294 #[.pointer (some ⟨b0,0,none⟩)] w1 _
 have hbw := Bw.refl F w1
 have hsub : ∀ z,F z → F z := fun z h => h
 have hbase := hp.base
 refine Cl.enter Tryz.func294 rfl Tryz.ntmps294 rfl rfl (.sr (.t2 (t_load ty100 rfl (hv_b0.g 0 rfl)) ?_))
 obtain ⟨s1,h1a,h1b⟩ := run_seq' hr
 refine Rg.wd trivial (w_call Tryz.call101 rfl (D_bump hC hp h1a (adds_le h1b hb))) rfl ?_
 rintro _ w1 ⟨hp1,hb1⟩
 replace hv_b0 := var_bw hv_b0 hb1 hF_b0
 replace hbw := hbw.trans (hb1.sub hsub)
 clear hp
 have hp := hp1
 clear hp1
 refine .done (.sr (.t2 (t_load ty100 rfl (hv_b0.g 0 rfl)) ?_))
 obtain ⟨s2,h2a,h2b⟩ := run_seq' h1b
 refine Rg.wd trivial (w_call Tryz.call158 rfl (D_expr hC hD hp h2a (adds_le h2b hb))) rfl ?_
 rintro _ w2 ⟨hp1,hb2⟩
 replace hv_b0 := var_bw hv_b0 hb2 hF_b0
 replace hbw := hbw.trans (hb2.sub hsub)
 clear hp
 have hp := hp1
 clear hp1
 refine .done (Wp.region (.t2 (t_load ty100 rfl (hv_b0.g 0 rfl)) (Rg.wd trivial (w_call Tryz.call208 rfl (D_call hD hp h2b hb)) rfl ?_)))
 rintro _ w3 ⟨hst,hp1,hb3⟩
 replace hv_b0 := var_bw hv_b0 hb3 hF_b0
 replace hbw := hbw.trans (hb3.sub hsub)
 clear hp
 have hp := hp1
 clear hp1
 refine .done ?_
 exact ⟨[],trivial,hp.sub hsub hbase,hbw⟩
theorem clo_173 (hC : Cx w0 tv toks) (hD : ∀ m,m < n → DN w0 tv toks m) {b0 : Nat} (hv_b0 : Var w b0 [.pointer (some ⟨bP,0,none⟩)] 100) (hF_b0 : F b0) : Clo w0 tv toks n F bP 297 [] [.pointer (some ⟨b0,0,none⟩)] w (.seq .bump (.seq Cmd.expr (Cmd.exp ⟨#[59]⟩))) := by
 refine ⟨Tryz.call297,fun w1 hw1 below k s r hp hr hb => ?_⟩
 replace hv_b0 := var_bw hv_b0 hw1 hF_b0
 show Cl Tryz.prog 297 #[.pointer (some ⟨b0,0,none⟩)] w1 _
 have hbw := Bw.refl F w1
 have hsub : ∀ z,F z → F z := fun z h => h
 have hbase := hp.base
 refine Cl.enter Tryz.func297 rfl Tryz.ntmps297 rfl rfl (.sr (.t2 (t_load ty100 rfl (hv_b0.g 0 rfl)) ?_))
 obtain ⟨s1,h1a,h1b⟩ := run_seq' hr
 refine Rg.wd trivial (w_call Tryz.call101 rfl (D_bump hC hp h1a (adds_le h1b hb))) rfl ?_
 rintro _ w1 ⟨hp1,hb1⟩
 replace hv_b0 := var_bw hv_b0 hb1 hF_b0
 replace hbw := hbw.trans (hb1.sub hsub)
 clear hp
 have hp := hp1
 clear hp1
 refine .done (.sr (.t2 (t_load ty100 rfl (hv_b0.g 0 rfl)) ?_))
 obtain ⟨s2,h2a,h2b⟩ := run_seq' h1b
 refine Rg.wd trivial (w_call Tryz.call158 rfl (D_expr hC hD hp h2a (adds_le h2b hb))) rfl ?_
 rintro _ w2 ⟨hp1,hb2⟩
 replace hv_b0 := var_bw hv_b0 hb2 hF_b0
 replace hbw := hbw.trans (hb2.sub hsub)
 clear hp
 have hp := hp1
 clear hp1
 refine .done (Wp.region (.t2 (t_load ty100 rfl (hv_b0.g 0 rfl)) (Rg.wd trivial (w_call Tryz.call156 rfl (D_exp hC hp h2b hb)) rfl ?_)))
 rintro _ w3 ⟨hp1,hb3⟩
 replace hv_b0 := var_bw hv_b0 hb3 hF_b0
 replace hbw := hbw.trans (hb3.sub hsub)
 clear hp
 have hp := hp1
 clear hp1
 refine .done ?_
 exact ⟨[],trivial,hp.sub hsub hbase,hbw⟩
end
section
variable {w0 : World} {tv : Value} {toks : List Tok} {F : Fs} {w w' : World} {bP : Nat} {below : List (Int × List Tr)} {k : Int} {s r : S} {n : Nat}
theorem clo_199 (hC : Cx w0 tv toks) (hD : ∀ m,m < n → DN w0 tv toks m) : Clo w0 tv toks n F bP 336 [] [] w .skip := by
 refine ⟨Tryz.call336,fun w1 hw1 below k s r hp hr hb => ?_⟩
 obtain rfl := run_skip' hr
 refine Cl.enter Tryz.func336 rfl Tryz.ntmps336 rfl rfl (Wp.skip ?_)
 exact ⟨[],trivial,hp,Bw.refl _ _⟩
theorem clo_176 (hC : Cx w0 tv toks) (hD : ∀ m,m < n → DN w0 tv toks m) {b0 : Nat} (hv_b0 : Var w b0 [.pointer (some ⟨bP,0,none⟩)] 100) (hF_b0 : F b0) : Clo w0 tv toks n F bP 300 [] [.pointer (some ⟨b0,0,none⟩)] w (.seq .bump (.call .unary)) := by
 refine ⟨Tryz.call300,fun w1 hw1 below k s r hp hr hb => ?_⟩
 replace hv_b0 := var_bw hv_b0 hw1 hF_b0
 show Cl Tryz.prog 300 #[.pointer (some ⟨b0,0,none⟩)] w1 _
 have hbw := Bw.refl F w1
 have hsub : ∀ z,F z → F z := fun z h => h
 have hbase := hp.base
 refine Cl.enter Tryz.func300 rfl Tryz.ntmps300 rfl rfl (.sr (.t2 (t_load ty100 rfl (hv_b0.g 0 rfl)) ?_))
 obtain ⟨s1,h1a,h1b⟩ := run_seq' hr
 refine Rg.wd trivial (w_call Tryz.call101 rfl (D_bump hC hp h1a (adds_le h1b hb))) rfl ?_
 rintro _ w1 ⟨hp1,hb1⟩
 replace hv_b0 := var_bw hv_b0 hb1 hF_b0
 replace hbw := hbw.trans (hb1.sub hsub)
 clear hp
 have hp := hp1
 clear hp1
 refine .done (Wp.region (.t2 (t_load ty100 rfl (hv_b0.g 0 rfl)) (Rg.wd trivial (w_call Tryz.call265 rfl (D_call hD hp h1b hb)) rfl ?_)))
 rintro _ w2 ⟨hst,hp1,hb2⟩
 replace hv_b0 := var_bw hv_b0 hb2 hF_b0
 replace hbw := hbw.trans (hb2.sub hsub)
 clear hp
 have hp := hp1
 clear hp1
 refine .done ?_
 exact ⟨[],trivial,hp.sub hsub hbase,hbw⟩
theorem clo_177 (hC : Cx w0 tv toks) (hD : ∀ m,m < n → DN w0 tv toks m) {b0 : Nat} (hv_b0 : Var w b0 [.pointer (some ⟨bP,0,none⟩)] 100) (hF_b0 : F b0) : Clo w0 tv toks n F bP 301 [] [.pointer (some ⟨b0,0,none⟩)] w (.seq .bump (.seq (Cmd.acc ⟨#[109,117,116]⟩) (.call .unary))) := by
 refine ⟨Tryz.call301,fun w1 hw1 below k s r hp hr hb => ?_⟩
 replace hv_b0 := var_bw hv_b0 hw1 hF_b0
 show Cl Tryz.prog 301 #[.pointer (some ⟨b0,0,none⟩)] w1 _
 have hbw := Bw.refl F w1
 have hsub : ∀ z,F z → F z := fun z h => h
 have hbase := hp.base
 refine Cl.enter Tryz.func301 rfl Tryz.ntmps301 rfl rfl (.sr (.t2 (t_load ty100 rfl (hv_b0.g 0 rfl)) ?_))
 obtain ⟨s1,h1a,h1b⟩ := run_seq' hr
 refine Rg.wd trivial (w_call Tryz.call101 rfl (D_bump hC hp h1a (adds_le h1b hb))) rfl ?_
 rintro _ w1 ⟨hp1,hb1⟩
 replace hv_b0 := var_bw hv_b0 hb1 hF_b0
 replace hbw := hbw.trans (hb1.sub hsub)
 clear hp
 have hp := hp1
 clear hp1
 refine .done ?_
 obtain ⟨s2,h2a,h2b⟩ := run_seq' h1b
 cases haq1 : (isAt [⟨#[109,117,116]⟩] (sig1 s1.rem)) with
 | true =>
  have hq2 := run_condT h2a haq1
  refine .sr (.t2 (t_load ty100 rfl (hv_b0.g 0 rfl)) (Rg.wd trivial (w_buildSlice (bs38_1 _) rfl) rfl ?_))
  rintro _ w2 ⟨bt4,rfl,qt4,hx2,hvt4⟩
  replace hbw := bS hbw hp.und hsub hx2
  replace hp := hp.extw hx2
  replace hv_b0 := hv_b0.ext hx2
  obtain rfl := run_bump' hq2
  refine Rg.wd trivial (w_call Tryz.call100 rfl (acc_T hC hp (texts := [⟨#[109,117,116]⟩]) hvt4 (by decide) haq1 (adds_le h2b hb))) rfl ?_
  rintro _ w3 ⟨rfl,hp1,hb3⟩
  replace hv_b0 := var_bw hv_b0 hb3 hF_b0
  replace hbw := hbw.trans (hb3.sub hsub)
  clear hp
  have hp := hp1
  clear hp1
  refine .done (Wp.region (.t2 (t_load ty100 rfl (hv_b0.g 0 rfl)) (Rg.wd trivial (w_call Tryz.call265 rfl (D_call hD hp h2b hb)) rfl ?_)))
  rintro _ w4 ⟨hst,hp1,hb4⟩
  replace hv_b0 := var_bw hv_b0 hb4 hF_b0
  replace hbw := hbw.trans (hb4.sub hsub)
  clear hp
  have hp := hp1
  clear hp1
  refine .done ?_
  exact ⟨[],trivial,hp.sub hsub hbase,hbw⟩
 | false =>
  have hq2 := run_condF h2a haq1
  obtain rfl := run_skip' hq2
  refine .sr (.t2 (t_load ty100 rfl (hv_b0.g 0 rfl)) (Rg.wd trivial (w_buildSlice (bs38_1 _) rfl) rfl ?_))
  rintro _ w2 ⟨bt4,rfl,qt4,hx2,hvt4⟩
  replace hbw := bS hbw hp.und hsub hx2
  replace hp := hp.extw hx2
  replace hv_b0 := hv_b0.ext hx2
  refine Rg.wd trivial (w_call Tryz.call100 rfl (acc_F hC hp (texts := [⟨#[109,117,116]⟩]) hvt4 (by decide) haq1)) rfl ?_
  rintro _ w3 ⟨rfl,hp1,hb3⟩
  replace hv_b0 := var_bw hv_b0 hb3 hF_b0
  replace hbw := hbw.trans (hb3.sub hsub)
  clear hp
  have hp := hp1
  clear hp1
  refine .done (Wp.region (.t2 (t_load ty100 rfl (hv_b0.g 0 rfl)) (Rg.wd trivial (w_call Tryz.call265 rfl (D_call hD hp h2b hb)) rfl ?_)))
  rintro _ w4 ⟨hst,hp1,hb4⟩
  replace hv_b0 := var_bw hv_b0 hb4 hF_b0
  replace hbw := hbw.trans (hb4.sub hsub)
  clear hp
  have hp := hp1
  clear hp1
  refine .done ?_
  exact ⟨[],trivial,hp.sub hsub hbase,hbw⟩
theorem N_unary (hC : Cx w0 tv toks) (hD : ∀ m,m < n → DN w0 tv toks m) (hp : Ps w0 tv toks F w bP below k s) (hr : run body n (body .unary) s = some r) (hb : r.adds ≤ big) :
  Cl Tryz.prog 265 #[.pointer (some ⟨bP,0,none⟩)] w (fun u w' => (Nm.unary = Nm.statement → u = .bool r.flag) ∧ Ps w0 tv toks F w' bP below k r ∧ Bw F w w') := by
 have hbw := Bw.refl F w
 have hsub : ∀ z,F z → F z := fun z h => h
 have hbase := hp.base
 have hr : run body n (.cond (at1 [⟨#[45]⟩,⟨#[33]⟩,⟨#[42]⟩]) (.node 40 (.seq .bump (.call .unary))) (.cond (at1 [⟨#[38]⟩]) (.node 41 (.seq .bump (.seq (Cmd.acc ⟨#[109,117,116]⟩) (.call .unary)))) (.seq (.call .primary) (.call .postE)))) s = some r := hr
 refine Cl.enter Tryz.func265 rfl Tryz.ntmps265 rfl rfl (.sr (Rg.wd trivial (w_boxed rfl rfl) rfl ?_))
 rintro _ w1 ⟨bx161_1,rfl,qbx161_1,hx1,hv_bx161_1⟩
 replace hbw := bS hbw hp.und hsub hx1
 obtain ⟨F_bx161_1,hp1,hF_bx161_1,hs1⟩ := hp.box hx1 qbx161_1 hv_bx161_1.lt
 clear hp
 have hp := hp1
 clear hp1
 replace hsub := fun z hz => hs1 z (hsub z hz)
 refine .done (Wp.block ?_)
 cases haq1 : (isAt [⟨#[45]⟩,⟨#[33]⟩,⟨#[42]⟩] (sig1 s.rem)) with
 | true =>
  have hq2 := run_condT hr haq1
  refine .sr (.t2 (t_load ty100 rfl (hv_bx161_1.g 0 rfl)) (Rg.wd trivial (w_buildSlice (bs38_3 _ _ _) rfl) rfl ?_))
  rintro _ w2 ⟨bt8,rfl,qt8,hx2,hvt8⟩
  replace hbw := bS hbw hp.und hsub hx2
  replace hp := hp.extw hx2
  replace hv_bx161_1 := hv_bx161_1.ext hx2
  refine Rg.wd trivial (w_call Tryz.call94 rfl (at_ok hC hp (texts := [⟨#[45]⟩,⟨#[33]⟩,⟨#[42]⟩]) hvt8 (by decide))) rfl ?_
  rintro _ w3 ⟨rfl,hx3⟩
  replace hbw := bS hbw hp.und hsub hx3
  replace hp := hp.extw hx3
  replace hv_bx161_1 := hv_bx161_1.ext hx3
  try replace hvt8 := hvt8.ext hx3
  rw [show (isAt [⟨#[45]⟩,⟨#[33]⟩,⟨#[42]⟩] (sig1 s.rem)) = true from haq1]
  refine .a2 rfl (.done (.condT rfl (Wp.region (.t2 (t_load ty100 rfl (hv_bx161_1.g 0 rfl)) (.t2 (t_makeFuncB (us := []) (vs := [.pointer (some ⟨bx161_1,0,none⟩)]) rfl rfl) (Rg.wd trivial (w_call Tryz.call98 rfl (D_node hp (clo_176 hC hD hv_bx161_1 hF_bx161_1) hq2 hb)) rfl ?_))))))
  rintro _ w4 ⟨hp1,hb4⟩
  replace hv_bx161_1 := var_bw hv_bx161_1 hb4 hF_bx161_1
  replace hbw := hbw.trans (hb4.sub hsub)
  clear hp
  have hp := hp1
  clear hp1
  refine .done ?_
  exact ⟨[],trivial,(fun h => by cases h),hp.sub hsub hbase,hbw⟩
 | false =>
  have hq2 := run_condF hr haq1
  refine .sr (.t2 (t_load ty100 rfl (hv_bx161_1.g 0 rfl)) (Rg.wd trivial (w_buildSlice (bs38_3 _ _ _) rfl) rfl ?_))
  rintro _ w2 ⟨bt8,rfl,qt8,hx2,hvt8⟩
  replace hbw := bS hbw hp.und hsub hx2
  replace hp := hp.extw hx2
  replace hv_bx161_1 := hv_bx161_1.ext hx2
  refine Rg.wd trivial (w_call Tryz.call94 rfl (at_ok hC hp (texts := [⟨#[45]⟩,⟨#[33]⟩,⟨#[42]⟩]) hvt8 (by decide))) rfl ?_
  rintro _ w3 ⟨rfl,hx3⟩
  replace hbw := bS hbw hp.und hsub hx3
  replace hp := hp.extw hx3
  replace hv_bx161_1 := hv_bx161_1.ext hx3
  try replace hvt8 := hvt8.ext hx3
  rw [show (isAt [⟨#[45]⟩,⟨#[33]⟩,⟨#[42]⟩] (sig1 s.rem)) = false from haq1]
  refine .a2 rfl (.done (.condF rfl ?_))
  cases haq3 : (isAt [⟨#[38]⟩] (sig1 s.rem)) with
  | true =>
   have hq4 := run_condT hq2 haq3
   refine .sr (.t2 (t_load ty100 rfl (hv_bx161_1.g 0 rfl)) (Rg.wd trivial (w_buildSlice (bs38_1 _) rfl) rfl ?_))
   rintro _ w4 ⟨bt15,rfl,qt15,hx4,hvt15⟩
   replace hbw := bS hbw hp.und hsub hx4
   replace hp := hp.extw hx4
   replace hv_bx161_1 := hv_bx161_1.ext hx4
   try replace hvt8 := hvt8.ext hx4
   refine Rg.wd trivial (w_call Tryz.call94 rfl (at_ok hC hp (texts := [⟨#[38]⟩]) hvt15 (by decide))) rfl ?_
   rintro _ w5 ⟨rfl,hx5⟩
   replace hbw := bS hbw hp.und hsub hx5
   replace hp := hp.extw hx5
   replace hv_bx161_1 := hv_bx161_1.ext hx5
   try replace hvt8 := hvt8.ext hx5
   try replace hvt15 := hvt15.ext hx5
   rw [show (isAt [⟨#[38]⟩] (sig1 s.rem)) = true from haq3]
   refine .a2 rfl (.done (.condT rfl (Wp.region (.t2 (t_load ty100 rfl (hv_bx161_1.g 0 rfl)) (.t2 (t_makeFuncB (us := []) (vs := [.pointer (some ⟨bx161_1,0,none⟩)]) rfl rfl) (Rg.wd trivial (w_call Tryz.call98 rfl (D_node hp (clo_177 hC hD hv_bx161_1 hF_bx161_1) hq4 hb)) rfl ?_))))))
   rintro _ w6 ⟨hp1,hb6⟩
   replace hv_bx161_1 := var_bw hv_bx161_1 hb6 hF_bx161_1
   replace hbw := hbw.trans (hb6.sub hsub)
   clear hp
   have hp := hp1
   clear hp1
   refine .done ?_
   exact ⟨[],trivial,(fun h => by cases h),hp.sub hsub hbase,hbw⟩
  | false =>
   have hq4 := run_condF hq2 haq3
   refine .sr (.t2 (t_load ty100 rfl (hv_bx161_1.g 0 rfl)) (Rg.wd trivial (w_buildSlice (bs38_1 _) rfl) rfl ?_))
   rintro _ w4 ⟨bt15,rfl,qt15,hx4,hvt15⟩
   replace hbw := bS hbw hp.und hsub hx4
   replace hp := hp.extw hx4
   replace hv_bx161_1 := hv_bx161_1.ext hx4
   try replace hvt8 := hvt8.ext hx4
   refine Rg.wd trivial (w_call Tryz.call94 rfl (at_ok hC hp (texts := [⟨#[38]⟩]) hvt15 (by decide))) rfl ?_
   rintro _ w5 ⟨rfl,hx5⟩
   replace hbw := bS hbw hp.und hsub hx5
   replace hp := hp.extw hx5
   replace hv_bx161_1 := hv_bx161_1.ext hx5
   try replace hvt8 := hvt8.ext hx5
   try replace hvt15 := hvt15.ext hx5
   rw [show (isAt [⟨#[38]⟩] (sig1 s.rem)) = false from haq3]
   refine .a2 rfl (.done (.condF rfl (.sr (.t2 (t_load ty100 rfl (hv_bx161_1.g 0 rfl)) ?_))))
   obtain ⟨s1,h1a,h1b⟩ := run_seq' hq4
   refine Rg.wd trivial (w_call Tryz.call296 rfl (D_call hD hp h1a (adds_le h1b hb))) rfl ?_
   rintro _ w6 ⟨hst,hp1,hb6⟩
   replace hv_bx161_1 := var_bw hv_bx161_1 hb6 hF_bx161_1
   replace hbw := hbw.trans (hb6.sub hsub)
   clear hp
   have hp := hp1
   clear hp1
   refine .done (Wp.region (.t2 (t_load ty100 rfl (hv_bx161_1.g 0 rfl)) (Rg.wd trivial (w_call Tryz.call302 rfl (D_call hD hp h1b hb)) rfl ?_)))
   rintro _ w7 ⟨hst,hp1,hb7⟩
   replace hv_bx161_1 := var_bw hv_bx161_1 hb7 hF_bx161_1
   replace hbw := hbw.trans (hb7.sub hsub)
   clear hp
   have hp := hp1
   clear hp1
   refine .done ?_
   exact ⟨[],trivial,(fun h => by cases h),hp.sub hsub hbase,hbw⟩
theorem clo_193 (hC : Cx w0 tv toks) (hD : ∀ m,m < n → DN w0 tv toks m) {b0 : Nat} (hv_b0 : Var w b0 [.pointer (some ⟨bP,0,none⟩)] 100) (hF_b0 : F b0) : Clo w0 tv toks n F bP 330 [] [.pointer (some ⟨b0,0,none⟩)] w (.cond (at1 [⟨#[105,102]⟩]) (.call .ifExpr) (.call .block)) := by
 refine ⟨Tryz.call330,fun w1 hw1 below k s r hp hr hb => ?_⟩
 replace hv_b0 := var_bw hv_b0 hw1 hF_b0
 show Cl Tryz.prog 330 #[.pointer (some ⟨b0,0,none⟩)] w1 _
 have hbw := Bw.refl F w1
 have hsub : ∀ z,F z → F z := fun z h => h
 have hbase := hp.base
 refine Cl.enter Tryz.func330 rfl Tryz.ntmps330 rfl rfl ?_
 cases haq1 : (isAt [⟨#[105,102]⟩] (sig1 s.rem)) with
 | true =>
  have hq2 := run_condT hr haq1
  refine .sr (.t2 (t_load ty100 rfl (hv_b0.g 0 rfl)) (Rg.wd trivial (w_buildSlice (bs38_1 _) rfl) rfl ?_))
  rintro _ w1 ⟨bt2,rfl,qt2,hx1,hvt2⟩
  replace hbw := bS hbw hp.und hsub hx1
  replace hp := hp.extw hx1
  replace hv_b0 := hv_b0.ext hx1
  refine Rg.wd trivial (w_call Tryz.call94 rfl (at_ok hC hp (texts := [⟨#[105,102]⟩]) hvt2 (by decide))) rfl ?_
  rintro _ w2 ⟨rfl,hx2⟩
  replace hbw := bS hbw hp.und hsub hx2
  replace hp := hp.extw hx2
  replace hv_b0 := hv_b0.ext hx2
  try replace hvt2 := hvt2.ext hx2
  rw [show (isAt [⟨#[105,102]⟩] (sig1 s.rem)) = true from haq1]
  refine .done (.condT rfl (Wp.region (.t2 (t_load ty100 rfl (hv_b0.g 0 rfl)) (Rg.wd trivial (w_call Tryz.call316 rfl (D_call hD hp hq2 hb)) rfl ?_))))
  rintro _ w3 ⟨hst,hp1,hb3⟩
  replace hv_b0 := var_bw hv_b0 hb3 hF_b0
  replace hbw := hbw.trans (hb3.sub hsub)
  clear hp
  have hp := hp1
  clear hp1
  refine .done ?_
  exact ⟨[],trivial,hp.sub hsub hbase,hbw⟩
 | false =>
  have hq2 := run_condF hr haq1
  refine .sr (.t2 (t_load ty100 rfl (hv_b0.g 0 rfl)) (Rg.wd trivial (w_buildSlice (bs38_1 _) rfl) rfl ?_))
  rintro _ w1 ⟨bt2,rfl,qt2,hx1,hvt2⟩
  replace hbw := bS hbw hp.und hsub hx1
  replace hp := hp.extw hx1
  replace hv_b0 := hv_b0.ext hx1
  refine Rg.wd trivial (w_call Tryz.call94 rfl (at_ok hC hp (texts := [⟨#[105,102]⟩]) hvt2 (by decide))) rfl ?_
  rintro _ w2 ⟨rfl,hx2⟩
  replace hbw := bS hbw hp.und hsub hx2
  replace hp := hp.extw hx2
  replace hv_b0 := hv_b0.ext hx2
  try replace hvt2 := hvt2.ext hx2
  rw [show (isAt [⟨#[105,102]⟩] (sig1 s.rem)) = false from haq1]
  refine .done (.condF rfl (Wp.region (.t2 (t_load ty100 rfl (hv_b0.g 0 rfl)) (Rg.wd trivial (w_call Tryz.call208 rfl (D_call hD hp hq2 hb)) rfl ?_))))
  rintro _ w3 ⟨hst,hp1,hb3⟩
  replace hv_b0 := var_bw hv_b0 hb3 hF_b0
  replace hbw := hbw.trans (hb3.sub hsub)
  clear hp
  have hp := hp1
  clear hp1
  refine .done ?_
  exact ⟨[],trivial,hp.sub hsub hbase,hbw⟩
theorem clo_192 (hC : Cx w0 tv toks) (hD : ∀ m,m < n → DN w0 tv toks m) {b0 : Nat} (hv_b0 : Var w b0 [.pointer (some ⟨bP,0,none⟩)] 100) (hF_b0 : F b0) : Clo w0 tv toks n F bP 329 [] [.pointer (some ⟨b0,0,none⟩)] w (.seq .bump (.seq Cmd.expr (.seq (.call .block) (Cmd.opt ⟨#[101,108,115,101]⟩ (.cond (at1 [⟨#[105,102]⟩]) (.call .ifExpr) (.call .block)))))) := by
 refine ⟨Tryz.call329,fun w1 hw1 below k s r hp hr hb => ?_⟩
 replace hv_b0 := var_bw hv_b0 hw1 hF_b0
 show Cl Tryz.prog 329 #[.pointer (some ⟨b0,0,none⟩)] w1 _
 have hbw := Bw.refl F w1
 have hsub : ∀ z,F z → F z := fun z h => h
 have hbase := hp.base
 refine Cl.enter Tryz.func329 rfl Tryz.ntmps329 rfl rfl (.sr (.t2 (t_load ty100 rfl (hv_b0.g 0 rfl)) ?_))
 obtain ⟨s1,h1a,h1b⟩ := run_seq' hr
 refine Rg.wd trivial (w_call Tryz.call101 rfl (D_bump hC hp h1a (adds_le h1b hb))) rfl ?_
 rintro _ w1 ⟨hp1,hb1⟩
 replace hv_b0 := var_bw hv_b0 hb1 hF_b0
 replace hbw := hbw.trans (hb1.sub hsub)
 clear hp
 have hp := hp1
 clear hp1
 refine .done (.sr (.t2 (t_load ty100 rfl (hv_b0.g 0 rfl)) ?_))
 obtain ⟨s2,h2a,h2b⟩ := run_seq' h1b
 refine Rg.wd trivial (w_call Tryz.call158 rfl (D_expr hC hD hp h2a (adds_le h2b hb))) rfl ?_
 rintro _ w2 ⟨hp1,hb2⟩
 replace hv_b0 := var_bw hv_b0 hb2 hF_b0
 replace hbw := hbw.trans (hb2.sub hsub)
 clear hp
 have hp := hp1
 clear hp1
 refine .done (.sr (.t2 (t_load ty100 rfl (hv_b0.g 0 rfl)) ?_))
 obtain ⟨s3,h3a,h3b⟩ := run_seq' h2b
 refine Rg.wd trivial (w_call Tryz.call208 rfl (D_call hD hp h3a (adds_le h3b hb))) rfl ?_
 rintro _ w3 ⟨hst,hp1,hb3⟩
 replace hv_b0 := var_bw hv_b0 hb3 hF_b0
 replace hbw := hbw.trans (hb3.sub hsub)
 clear hp
 have hp := hp1
 clear hp1
 refine .done (Wp.region (.t2 (t_load ty100 rfl (hv_b0.g 0 rfl)) (.t2 (t_makeFuncB (us := []) (vs := [.pointer (some ⟨b0,0,none⟩)]) rfl rfl) (Rg.wd trivial (w_call Tryz.call206 rfl (D_opt hC hp (clo_193 hC hD hv_b0 hF_b0) h3b hb)) rfl ?_))))
 rintro _ w4 ⟨hp1,hb4⟩
 replace hv_b0 := var_bw hv_b0 hb4 hF_b0
 replace hbw := hbw.trans (hb4.sub hsub)
 clear hp
 have hp := hp1
 clear hp1
 refine .done ?_
 exact ⟨[],trivial,hp.sub hsub hbase,hbw⟩
theorem N_ifExpr (hC : Cx w0 tv toks) (hD : ∀ m,m < n → DN w0 tv toks m) (hp : Ps w0 tv toks F w bP below k s) (hr : run body n (body .ifExpr) s = some r) (hb : r.adds ≤ big) :
  Cl Tryz.prog 316 #[.pointer (some ⟨bP,0,none⟩)] w (fun u w' => (Nm.ifExpr = Nm.statement → u = .bool r.flag) ∧ Ps w0 tv toks F w' bP below k r ∧ Bw F w w') := by
 have hbw := Bw.refl F w
 have hsub : ∀ z,F z → F z := fun z h => h
 have hbase := hp.base
 have hr : run body n (.node 37 (.seq .bump (.seq Cmd.expr (.seq (.call .block) (Cmd.opt ⟨#[101,108,115,101]⟩ (.cond (at1 [⟨#[105,102]⟩]) (.call .ifExpr) (.call .block))))))) s = some r := hr
 refine Cl.enter Tryz.func316 rfl Tryz.ntmps316 rfl rfl (.sr (Rg.wd trivial (w_boxed rfl rfl) rfl ?_))
 rintro _ w1 ⟨bx183_1,rfl,qbx183_1,hx1,hv_bx183_1⟩
 replace hbw := bS hbw hp.und hsub hx1
 obtain ⟨F_bx183_1,hp1,hF_bx183_1,hs1⟩ := hp.box hx1 qbx183_1 hv_bx183_1.lt
 clear hp
 have hp := hp1
 clear hp1
 replace hsub := fun z hz => hs1 z (hsub z hz)
 refine .done (Wp.region (.t2 (t_load ty100 rfl (hv_bx183_1.g 0 rfl)) (.t2 (t_makeFuncB (us := []) (vs := [.pointer (some ⟨bx183_1,0,none⟩)]) rfl rfl) (Rg.wd trivial (w_call Tryz.call98 rfl (D_node hp (clo_192 hC hD hv_bx183_1 hF_bx183_1) hr hb)) rfl ?_))))
 rintro _ w2 ⟨hp1,hb2⟩
 replace hv_bx183_1 := var_bw hv_bx183_1 hb2 hF_bx183_1
 replace hbw := hbw.trans (hb2.sub hsub)
 clear hp
 have hp := hp1
 clear hp1
 refine .done ?_
 exact ⟨[],trivial,(fun h => by cases h),hp.sub hsub hbase,hbw⟩
theorem clo_196 (hC : Cx w0 tv toks) (hD : ∀ m,m < n → DN w0 tv toks m) {b0 : Nat} (hv_b0 : Var w b0 [.pointer (some ⟨bP,0,none⟩)] 100) (hF_b0 : F b0) : Clo w0 tv toks n F bP 333 [] [.pointer (some ⟨b0,0,none⟩)] w (.seq (.call .pattern) (.seq (Cmd.exp ⟨#[61,62]⟩) Cmd.expr)) := by
 refine ⟨Tryz.call333,fun w1 hw1 below k s r hp hr hb => ?_⟩
 replace hv_b0 := var_bw hv_b0 hw1 hF_b0
 show Cl Tryz.prog 333 #[.pointer (some ⟨b0,0,none⟩)] w1 _
 have hbw := Bw.refl F w1
 have hsub : ∀ z,F z → F z := fun z h => h
 have hbase := hp.base
 refine Cl.enter Tryz.func333 rfl Tryz.ntmps333 rfl rfl (.sr (.t2 (t_load ty100 rfl (hv_b0.g 0 rfl)) ?_))
 obtain ⟨s1,h1a,h1b⟩ := run_seq' hr
 refine Rg.wd trivial (w_call Tryz.call312 rfl (D_call hD hp h1a (adds_le h1b hb))) rfl ?_
 rintro _ w1 ⟨hst,hp1,hb1⟩
 replace hv_b0 := var_bw hv_b0 hb1 hF_b0
 replace hbw := hbw.trans (hb1.sub hsub)
 clear hp
 have hp := hp1
 clear hp1
 refine .done (.sr (.t2 (t_load ty100 rfl (hv_b0.g 0 rfl)) ?_))
 obtain ⟨s2,h2a,h2b⟩ := run_seq' h1b
 refine Rg.wd trivial (w_call Tryz.call156 rfl (D_exp hC hp h2a (adds_le h2b hb))) rfl ?_
 rintro _ w2 ⟨hp1,hb2⟩
 replace hv_b0 := var_bw hv_b0 hb2 hF_b0
 replace hbw := hbw.trans (hb2.sub hsub)
 clear hp
 have hp := hp1
 clear hp1
 refine .done (Wp.region (.t2 (t_load ty100 rfl (hv_b0.g 0 rfl)) (Rg.wd trivial (w_call Tryz.call158 rfl (D_expr hC hD hp h2b hb)) rfl ?_)))
 rintro _ w3 ⟨hp1,hb3⟩
 replace hv_b0 := var_bw hv_b0 hb3 hF_b0
 replace hbw := hbw.trans (hb3.sub hsub)
 clear hp
 have hp := hp1
 clear hp1
 refine .done ?_
 exact ⟨[],trivial,hp.sub hsub hbase,hbw⟩
theorem clo_194 (hC : Cx w0 tv toks) (hD : ∀ m,m < n → DN w0 tv toks m) {b0 : Nat} (hv_b0 : Var w b0 [.pointer (some ⟨bP,0,none⟩)] 100) (hF_b0 : F b0) : Clo w0 tv toks n F bP 331 [] [.pointer (some ⟨b0,0,none⟩)] w (.cond (fun t _ _ _ => atPattern t) (.node 36 (.seq (.call .pattern) (.seq (Cmd.exp ⟨#[61,62]⟩) Cmd.expr))) .skip) := by
 refine ⟨Tryz.call331,fun w1 hw1 below k s r hp hr hb => ?_⟩
 replace hv_b0 := var_bw hv_b0 hw1 hF_b0
 show Cl Tryz.prog 331 #[.pointer (some ⟨b0,0,none⟩)] w1 _
 have hbw := Bw.refl F w1
 have hsub : ∀ z,F z → F z := fun z h => h
 have hbase := hp.base
 refine Cl.enter Tryz.func331 rfl Tryz.ntmps331 rfl rfl ?_
 cases haq1 : (atPattern (sig1 s.rem)) with
 | true =>
  have hq2 := run_condT hr (show S.test _ _ = true by simp only [S.test,at1,ident,bne,haq1]; (try rfl))
  refine .sr (.t2 (t_load ty100 rfl (hv_b0.g 0 rfl)) (Rg.wd trivial (w_call Tryz.call332 rfl (atPattern_ok hC hp)) rfl ?_))
  rintro _ w1 ⟨rfl,hx1⟩
  replace hbw := bS hbw hp.und hsub hx1
  replace hp := hp.extw hx1
  replace hv_b0 := hv_b0.ext hx1
  rw [show (atPattern (sig1 s.rem)) = true from haq1]
  refine .done (.condT rfl (Wp.region (.t2 (t_load ty100 rfl (hv_b0.g 0 rfl)) (.t2 (t_makeFuncB (us := []) (vs := [.pointer (some ⟨b0,0,none⟩)]) rfl rfl) (Rg.wd trivial (w_call Tryz.call98 rfl (D_node hp (clo_196 hC hD hv_b0 hF_b0) hq2 hb)) rfl ?_)))))
  rintro _ w2 ⟨hp1,hb2⟩
  replace hv_b0 := var_bw hv_b0 hb2 hF_b0
  replace hbw := hbw.trans (hb2.sub hsub)
  clear hp
  have hp := hp1
  clear hp1
  refine .done ?_
  exact ⟨[],trivial,hp.sub hsub hbase,hbw⟩
 | false =>
  have hq2 := run_condF hr (show S.test _ _ = false by simp only [S.test,at1,ident,bne,haq1]; (try rfl))
  obtain rfl := run_skip' hq2
  refine .sr (.t2 (t_load ty100 rfl (hv_b0.g 0 rfl)) (Rg.wd trivial (w_call Tryz.call332 rfl (atPattern_ok hC hp)) rfl ?_))
  rintro _ w1 ⟨rfl,hx1⟩
  replace hbw := bS hbw hp.und hsub hx1
  replace hp := hp.extw hx1
  replace hv_b0 := hv_b0.ext hx1
  rw [show (atPattern (sig1 r.rem)) = false from haq1]
  refine .done (.condF rfl (Wp.skip ?_))
  exact ⟨[],trivial,hp.sub hsub hbase,hbw⟩
theorem N_matchE (hC : Cx w0 tv toks) (hD : ∀ m,m < n → DN w0 tv toks m) (hp : Ps w0 tv toks F w bP below k s) (hr : run body n (body .matchE) s = some r) (hb : r.adds ≤ big) :
  Cl Tryz.prog 317 #[.pointer (some ⟨bP,0,none⟩)] w (fun u w' => (Nm.matchE = Nm.statement → u = .bool r.flag) ∧ Ps w0 tv toks F w' bP below k r ∧ Bw F w w') := by
 have hbw := Bw.refl F w
 have hsub : ∀ z,F z → F z := fun z h => h
 have hbase := hp.base
 have hr : run body n (.seq .bump (.seq Cmd.expr (.seq (Cmd.exp ⟨#[123]⟩) (Cmd.list ⟨#[125]⟩ (.cond (fun t _ _ _ => atPattern t) (.node 36 (.seq (.call .pattern) (.seq (Cmd.exp ⟨#[61,62]⟩) Cmd.expr))) .skip))))) s = some r := hr
 refine Cl.enter Tryz.func317 rfl Tryz.ntmps317 rfl rfl (.sr (Rg.wd trivial (w_boxed rfl rfl) rfl ?_))
 rintro _ w1 ⟨bx184_1,rfl,qbx184_1,hx1,hv_bx184_1⟩
 replace hbw := bS hbw hp.und hsub hx1
 obtain ⟨F_bx184_1,hp1,hF_bx184_1,hs1⟩ := hp.box hx1 qbx184_1 hv_bx184_1.lt
 clear hp
 have hp := hp1
 clear hp1
 replace hsub := fun z hz => hs1 z (hsub z hz)
 refine .done (.sr (.t2 (t_load ty100 rfl (hv_bx184_1.g 0 rfl)) ?_))
 obtain ⟨s1,h1a,h1b⟩ := run_seq' hr
 refine Rg.wd trivial (w_call Tryz.call101 rfl (D_bump hC hp h1a (adds_le h1b hb))) rfl ?_
 rintro _ w2 ⟨hp1,hb2⟩
 replace hv_bx184_1 := var_bw hv_bx184_1 hb2 hF_bx184_1
 replace hbw := hbw.trans (hb2.sub hsub)
 clear hp
 have hp := hp1
 clear hp1
 refine .done (.sr (.t2 (t_load ty100 rfl (hv_bx184_1.g 0 rfl)) ?_))
 obtain ⟨s2,h2a,h2b⟩ := run_seq' h1b
 refine Rg.wd trivial (w_call Tryz.call158 rfl (D_expr hC hD hp h2a (adds_le h2b hb))) rfl ?_
 rintro _ w3 ⟨hp1,hb3⟩
 replace hv_bx184_1 := var_bw hv_bx184_1 hb3 hF_bx184_1
 replace hbw := hbw.trans (hb3.sub hsub)
 clear hp
 have hp := hp1
 clear hp1
 refine .done (.sr (.t2 (t_load ty100 rfl (hv_bx184_1.g 0 rfl)) ?_))
 obtain ⟨s3,h3a,h3b⟩ := run_seq' h2b
 refine Rg.wd trivial (w_call Tryz.call156 rfl (D_exp hC hp h3a (adds_le h3b hb))) rfl ?_
 rintro _ w4 ⟨hp1,hb4⟩
 replace hv_bx184_1 := var_bw hv_bx184_1 hb4 hF_bx184_1
 replace hbw := hbw.trans (hb4.sub hsub)
 clear hp
 have hp := hp1
 clear hp1
 refine .done (Wp.region (.t2 (t_load ty100 rfl (hv_bx184_1.g 0 rfl)) (.t2 (t_makeFuncB (us := []) (vs := [.pointer (some ⟨bx184_1,0,none⟩)]) rfl rfl) (Rg.wd trivial (w_call Tryz.call209 rfl (D_list hC hp (clo_194 hC hD hv_bx184_1 hF_bx184_1) h3b hb)) rfl ?_))))
 rintro _ w5 ⟨hp1,hb5⟩
 replace hv_bx184_1 := var_bw hv_bx184_1 hb5 hF_bx184_1
 replace hbw := hbw.trans (hb5.sub hsub)
 clear hp
 have hp := hp1
 clear hp1
 refine .done ?_
 exact ⟨[],trivial,(fun h => by cases h),hp.sub hsub hbase,hbw⟩
theorem clo_198 (hC : Cx w0 tv toks) (hD : ∀ m,m < n → DN w0 tv toks m) {b0 : Nat} (hv_b0 : Var w b0 [.pointer (some ⟨bP,0,none⟩)] 100) (hF_b0 : F b0) : Clo w0 tv toks n F bP 335 [] [.pointer (some ⟨b0,0,none⟩)] w (.seq .bump (.seq (Cmd.exp ⟨#[58]⟩) Cmd.expr)) := by
 refine ⟨Tryz.call335,fun w1 hw1 below k s r hp hr hb => ?_⟩
 replace hv_b0 := var_bw hv_b0 hw1 hF_b0
 show Cl Tryz.prog 335 #[.pointer (some ⟨b0,0,none⟩)] w1 _
 have hbw := Bw.refl F w1
 have hsub : ∀ z,F z → F z := fun z h => h
 have hbase := hp.base
 refine Cl.enter Tryz.func335 rfl Tryz.ntmps335 rfl rfl (.sr (.t2 (t_load ty100 rfl (hv_b0.g 0 rfl)) ?_))
 obtain ⟨s1,h1a,h1b⟩ := run_seq' hr
 refine Rg.wd trivial (w_call Tryz.call101 rfl (D_bump hC hp h1a (adds_le h1b hb))) rfl ?_
 rintro _ w1 ⟨hp1,hb1⟩
 replace hv_b0 := var_bw hv_b0 hb1 hF_b0
 replace hbw := hbw.trans (hb1.sub hsub)
 clear hp
 have hp := hp1
 clear hp1
 refine .done (.sr (.t2 (t_load ty100 rfl (hv_b0.g 0 rfl)) ?_))
 obtain ⟨s2,h2a,h2b⟩ := run_seq' h1b
 refine Rg.wd trivial (w_call Tryz.call156 rfl (D_exp hC hp h2a (adds_le h2b hb))) rfl ?_
 rintro _ w2 ⟨hp1,hb2⟩
 replace hv_b0 := var_bw hv_b0 hb2 hF_b0
 replace hbw := hbw.trans (hb2.sub hsub)
 clear hp
 have hp := hp1
 clear hp1
 refine .done (Wp.region (.t2 (t_load ty100 rfl (hv_b0.g 0 rfl)) (Rg.wd trivial (w_call Tryz.call158 rfl (D_expr hC hD hp h2b hb)) rfl ?_)))
 rintro _ w3 ⟨hp1,hb3⟩
 replace hv_b0 := var_bw hv_b0 hb3 hF_b0
 replace hbw := hbw.trans (hb3.sub hsub)
 clear hp
 have hp := hp1
 clear hp1
 refine .done ?_
 exact ⟨[],trivial,hp.sub hsub hbase,hbw⟩
theorem clo_197 (hC : Cx w0 tv toks) (hD : ∀ m,m < n → DN w0 tv toks m) {b0 : Nat} (hv_b0 : Var w b0 [.pointer (some ⟨bP,0,none⟩)] 100) (hF_b0 : F b0) : Clo w0 tv toks n F bP 334 [] [.pointer (some ⟨b0,0,none⟩)] w (.cond ident (.node 34 (.seq .bump (.seq (Cmd.exp ⟨#[58]⟩) Cmd.expr))) .skip) := by
 refine ⟨Tryz.call334,fun w1 hw1 below k s r hp hr hb => ?_⟩
 replace hv_b0 := var_bw hv_b0 hw1 hF_b0
 show Cl Tryz.prog 334 #[.pointer (some ⟨b0,0,none⟩)] w1 _
 have hbw := Bw.refl F w1
 have hsub : ∀ z,F z → F z := fun z h => h
 have hbase := hp.base
 refine Cl.enter Tryz.func334 rfl Tryz.ntmps334 rfl rfl ?_
 cases haq1 : ((sig1 s.rem).1 == 103) with
 | true =>
  have hq2 := run_condT hr haq1
  refine .sr (.t2 (t_load ty100 rfl (hv_b0.g 0 rfl)) (Rg.wd trivial (w_call Tryz.call211 rfl (atIdent_ok hC hp)) rfl ?_))
  rintro _ w1 ⟨rfl,hx1⟩
  replace hbw := bS hbw hp.und hsub hx1
  replace hp := hp.extw hx1
  replace hv_b0 := hv_b0.ext hx1
  rw [show ((sig1 s.rem).1 == 103) = true from haq1]
  refine .done (.condT rfl (Wp.region (.t2 (t_load ty100 rfl (hv_b0.g 0 rfl)) (.t2 (t_makeFuncB (us := []) (vs := [.pointer (some ⟨b0,0,none⟩)]) rfl rfl) (Rg.wd trivial (w_call Tryz.call98 rfl (D_node hp (clo_198 hC hD hv_b0 hF_b0) hq2 hb)) rfl ?_)))))
  rintro _ w2 ⟨hp1,hb2⟩
  replace hv_b0 := var_bw hv_b0 hb2 hF_b0
  replace hbw := hbw.trans (hb2.sub hsub)
  clear hp
  have hp := hp1
  clear hp1
  refine .done ?_
  exact ⟨[],trivial,hp.sub hsub hbase,hbw⟩
 | false =>
  have hq2 := run_condF hr haq1
  obtain rfl := run_skip' hq2
  refine .sr (.t2 (t_load ty100 rfl (hv_b0.g 0 rfl)) (Rg.wd trivial (w_call Tryz.call211 rfl (atIdent_ok hC hp)) rfl ?_))
  rintro _ w1 ⟨rfl,hx1⟩
  replace hbw := bS hbw hp.und hsub hx1
  replace hp := hp.extw hx1
  replace hv_b0 := hv_b0.ext hx1
  rw [show ((sig1 r.rem).1 == 103) = false from haq1]
  refine .done (.condF rfl (Wp.skip ?_))
  exact ⟨[],trivial,hp.sub hsub hbase,hbw⟩
theorem N_structLit (hC : Cx w0 tv toks) (hD : ∀ m,m < n → DN w0 tv toks m) (hp : Ps w0 tv toks F w bP below k s) (hr : run body n (body .structLit) s = some r) (hb : r.adds ≤ big) :
  Cl Tryz.prog 318 #[.pointer (some ⟨bP,0,none⟩)] w (fun u w' => (Nm.structLit = Nm.statement → u = .bool r.flag) ∧ Ps w0 tv toks F w' bP below k r ∧ Bw F w w') := by
 have hbw := Bw.refl F w
 have hsub : ∀ z,F z → F z := fun z h => h
 have hbase := hp.base
 have hr : run body n (.seq .bump (.seq (.call (.path false)) (.seq (Cmd.exp ⟨#[123]⟩) (Cmd.list ⟨#[125]⟩ (.cond ident (.node 34 (.seq .bump (.seq (Cmd.exp ⟨#[58]⟩) Cmd.expr))) .skip))))) s = some r := hr
 refine Cl.enter Tryz.func318 rfl Tryz.ntmps318 rfl rfl (.sr (Rg.wd trivial (w_boxed rfl rfl) rfl ?_))
 rintro _ w1 ⟨bx185_1,rfl,qbx185_1,hx1,hv_bx185_1⟩
 replace hbw := bS hbw hp.und hsub hx1
 obtain ⟨F_bx185_1,hp1,hF_bx185_1,hs1⟩ := hp.box hx1 qbx185_1 hv_bx185_1.lt
 clear hp
 have hp := hp1
 clear hp1
 replace hsub := fun z hz => hs1 z (hsub z hz)
 refine .done (.sr (.t2 (t_load ty100 rfl (hv_bx185_1.g 0 rfl)) ?_))
 obtain ⟨s1,h1a,h1b⟩ := run_seq' hr
 refine Rg.wd trivial (w_call Tryz.call101 rfl (D_bump hC hp h1a (adds_le h1b hb))) rfl ?_
 rintro _ w2 ⟨hp1,hb2⟩
 replace hv_bx185_1 := var_bw hv_bx185_1 hb2 hF_bx185_1
 replace hbw := hbw.trans (hb2.sub hsub)
 clear hp
 have hp := hp1
 clear hp1
 refine .done (.sr (.t2 (t_load ty100 rfl (hv_bx185_1.g 0 rfl)) ?_))
 obtain ⟨s2,h2a,h2b⟩ := run_seq' h1b
 refine Rg.wd trivial (w_call Tryz.call220 rfl (D_call hD hp h2a (adds_le h2b hb))) rfl ?_
 rintro _ w3 ⟨hst,hp1,hb3⟩
 replace hv_bx185_1 := var_bw hv_bx185_1 hb3 hF_bx185_1
 replace hbw := hbw.trans (hb3.sub hsub)
 clear hp
 have hp := hp1
 clear hp1
 refine .done (.sr (.t2 (t_load ty100 rfl (hv_bx185_1.g 0 rfl)) ?_))
 obtain ⟨s3,h3a,h3b⟩ := run_seq' h2b
 refine Rg.wd trivial (w_call Tryz.call156 rfl (D_exp hC hp h3a (adds_le h3b hb))) rfl ?_
 rintro _ w4 ⟨hp1,hb4⟩
 replace hv_bx185_1 := var_bw hv_bx185_1 hb4 hF_bx185_1
 replace hbw := hbw.trans (hb4.sub hsub)
 clear hp
 have hp := hp1
 clear hp1
 refine .done (Wp.region (.t2 (t_load ty100 rfl (hv_bx185_1.g 0 rfl)) (.t2 (t_makeFuncB (us := []) (vs := [.pointer (some ⟨bx185_1,0,none⟩)]) rfl rfl) (Rg.wd trivial (w_call Tryz.call209 rfl (D_list hC hp (clo_197 hC hD hv_bx185_1 hF_bx185_1) h3b hb)) rfl ?_))))
 rintro _ w5 ⟨hp1,hb5⟩
 replace hv_bx185_1 := var_bw hv_bx185_1 hb5 hF_bx185_1
 replace hbw := hbw.trans (hb5.sub hsub)
 clear hp
 have hp := hp1
 clear hp1
 refine .done ?_
 exact ⟨[],trivial,(fun h => by cases h),hp.sub hsub hbase,hbw⟩
theorem N_lambda (hC : Cx w0 tv toks) (hD : ∀ m,m < n → DN w0 tv toks m) (hp : Ps w0 tv toks F w bP below k s) (hr : run body n (body .lambda) s = some r) (hb : r.adds ≤ big) :
  Cl Tryz.prog 319 #[.pointer (some ⟨bP,0,none⟩)] w (fun u w' => (Nm.lambda = Nm.statement → u = .bool r.flag) ∧ Ps w0 tv toks F w' bP below k r ∧ Bw F w w') := by
 have hbw := Bw.refl F w
 have hsub : ∀ z,F z → F z := fun z h => h
 have hbase := hp.base
 have hr : run body n (.seq (.cond (at1 [⟨#[124,124]⟩]) (.seq .bump (.node 12 .skip)) (.seq .bump (.call (.params ⟨#[124]⟩)))) Cmd.expr) s = some r := hr
 refine Cl.enter Tryz.func319 rfl Tryz.ntmps319 rfl rfl (.seq ?_)
 cases haq1 : (isAt [⟨#[124,124]⟩] (sig1 s.rem)) with
 | true =>
  obtain ⟨s1,h1a,h1b⟩ := run_seq' hr
  have hq2 := run_condT h1a haq1
  refine .sr (.m2 rfl (Rg.wd trivial (w_buildSlice (bs38_1 _) rfl) rfl ?_))
  rintro _ w1 ⟨bt3,rfl,qt3,hx1,hvt3⟩
  replace hbw := bS hbw hp.und hsub hx1
  replace hp := hp.extw hx1
  refine Rg.wd trivial (w_call Tryz.call94 rfl (at_ok hC hp (texts := [⟨#[124,124]⟩]) hvt3 (by decide))) rfl ?_
  rintro _ w2 ⟨rfl,hx2⟩
  replace hbw := bS hbw hp.und hsub hx2
  replace hp := hp.extw hx2
  try replace hvt3 := hvt3.ext hx2
  rw [show (isAt [⟨#[124,124]⟩] (sig1 s.rem)) = true from haq1]
  refine .done (.condT rfl (.sr (.m2 rfl ?_)))
  obtain ⟨s2,h2a,h2b⟩ := run_seq' hq2
  refine Rg.wd trivial (w_call Tryz.call101 rfl (D_bump hC hp h2a (adds_le h2b (adds_le h1b hb)))) rfl ?_
  rintro _ w3 ⟨hp1,hb3⟩
  replace hbw := hbw.trans (hb3.sub hsub)
  clear hp
  have hp := hp1
  clear hp1
  refine .done (Wp.region (.m2 rfl (Rg.wd trivial (w_call Tryz.call98 rfl (D_node hp (clo_199 hC hD) h2b (adds_le h1b hb))) rfl ?_)))
  rintro _ w4 ⟨hp1,hb4⟩
  replace hbw := hbw.trans (hb4.sub hsub)
  clear hp
  have hp := hp1
  clear hp1
  refine .done (Wp.region (.m2 rfl (Rg.wd trivial (w_call Tryz.call158 rfl (D_expr hC hD hp h1b hb)) rfl ?_)))
  rintro _ w5 ⟨hp1,hb5⟩
  replace hbw := hbw.trans (hb5.sub hsub)
  clear hp
  have hp := hp1
  clear hp1
  refine .done ?_
  exact ⟨[],trivial,(fun h => by cases h),hp.sub hsub hbase,hbw⟩
 | false =>
  obtain ⟨s1,h1a,h1b⟩ := run_seq' hr
  have hq2 := run_condF h1a haq1
  refine .sr (.m2 rfl (Rg.wd trivial (w_buildSlice (bs38_1 _) rfl) rfl ?_))
  rintro _ w1 ⟨bt3,rfl,qt3,hx1,hvt3⟩
  replace hbw := bS hbw hp.und hsub hx1
  replace hp := hp.extw hx1
  refine Rg.wd trivial (w_call Tryz.call94 rfl (at_ok hC hp (texts := [⟨#[124,124]⟩]) hvt3 (by decide))) rfl ?_
  rintro _ w2 ⟨rfl,hx2⟩
  replace hbw := bS hbw hp.und hsub hx2
  replace hp := hp.extw hx2
  try replace hvt3 := hvt3.ext hx2
  rw [show (isAt [⟨#[124,124]⟩] (sig1 s.rem)) = false from haq1]
  refine .done (.condF rfl (.sr (.m2 rfl ?_)))
  obtain ⟨s2,h2a,h2b⟩ := run_seq' hq2
  refine Rg.wd trivial (w_call Tryz.call101 rfl (D_bump hC hp h2a (adds_le h2b (adds_le h1b hb)))) rfl ?_
  rintro _ w3 ⟨hp1,hb3⟩
  replace hbw := hbw.trans (hb3.sub hsub)
  clear hp
  have hp := hp1
  clear hp1
  refine .done (Wp.region (.m2 rfl (Rg.wd trivial (w_call Tryz.call159 rfl (D_call hD hp h2b (adds_le h1b hb))) rfl ?_)))
  rintro _ w4 ⟨hst,hp1,hb4⟩
  replace hbw := hbw.trans (hb4.sub hsub)
  clear hp
  have hp := hp1
  clear hp1
  refine .done (Wp.region (.m2 rfl (Rg.wd trivial (w_call Tryz.call158 rfl (D_expr hC hD hp h1b hb)) rfl ?_)))
  rintro _ w5 ⟨hp1,hb5⟩
  replace hbw := hbw.trans (hb5.sub hsub)
  clear hp
  have hp := hp1
  clear hp1
  refine .done ?_
  exact ⟨[],trivial,(fun h => by cases h),hp.sub hsub hbase,hbw⟩
theorem clo_151 (hC : Cx w0 tv toks) (hD : ∀ m,m < n → DN w0 tv toks m) {b0 : Nat} (hv_b0 : Var w b0 [.pointer (some ⟨bP,0,none⟩)] 100) (hF_b0 : F b0) : Clo w0 tv toks n F bP 255 [] [.pointer (some ⟨b0,0,none⟩)] w (.cond (at1 [⟨#[60]⟩]) (.seq .bump (Cmd.list ⟨#[62]⟩ (.call .typeParam))) .skip) := by
 refine ⟨Tryz.call255,fun w1 hw1 below k s r hp hr hb => ?_⟩
 replace hv_b0 := var_bw hv_b0 hw1 hF_b0
 show Cl Tryz.prog 255 #[.pointer (some ⟨b0,0,none⟩)] w1 _
 have hbw := Bw.refl F w1
 have hsub : ∀ z,F z → F z := fun z h => h
 have hbase := hp.base
 refine Cl.enter Tryz.func255 rfl Tryz.ntmps255 rfl rfl ?_
 cases haq1 : (isAt [⟨#[60]⟩] (sig1 s.rem)) with
 | true =>
  have hq2 := run_condT hr haq1
  refine .sr (.t2 (t_load ty100 rfl (hv_b0.g 0 rfl)) (Rg.wd trivial (w_buildSlice (bs38_1 _) rfl) rfl ?_))
  rintro _ w1 ⟨bt2,rfl,qt2,hx1,hvt2⟩
  replace hbw := bS hbw hp.und hsub hx1
  replace hp := hp.extw hx1
  replace hv_b0 := hv_b0.ext hx1
  obtain ⟨s1,h1a,h1b⟩ := run_seq' hq2
  obtain rfl := run_bump' h1a
  refine Rg.wd trivial (w_call Tryz.call100 rfl (acc_T hC hp (texts := [⟨#[60]⟩]) hvt2 (by decide) haq1 (adds_le h1b hb))) rfl ?_
  rintro _ w2 ⟨rfl,hp1,hb2⟩
  replace hv_b0 := var_bw hv_b0 hb2 hF_b0
  replace hbw := hbw.trans (hb2.sub hsub)
  clear hp
  have hp := hp1
  clear hp1
  refine .done (.condT rfl (Wp.region (.t2 (t_load ty100 rfl (hv_b0.g 0 rfl)) (.t2 (t_load ty100 rfl (hv_b0.g 0 rfl)) (.t2 (t_makeFuncB (us := [.pointer (some ⟨bP,0,none⟩)]) (vs := []) rfl rfl) (Rg.wd trivial (w_call Tryz.call209 rfl (D_list hC hp (clo_call Tryz.call256 hD (.typeParam)) h1b hb)) rfl ?_))))))
  rintro _ w3 ⟨hp1,hb3⟩
  replace hv_b0 := var_bw hv_b0 hb3 hF_b0
  replace hbw := hbw.trans (hb3.sub hsub)
  clear hp
  have hp := hp1
  clear hp1
  refine .done ?_
  exact ⟨[],trivial,hp.sub hsub hbase,hbw⟩
 | false =>
  have hq2 := run_condF hr haq1
  obtain rfl := run_skip' hq2
  refine .sr (.t2 (t_load ty100 rfl (hv_b0.g 0 rfl)) (Rg.wd trivial (w_buildSlice (bs38_1 _) rfl) rfl ?_))
  rintro _ w1 ⟨bt2,rfl,qt2,hx1,hvt2⟩
  replace hbw := bS hbw hp.und hsub hx1
  replace hp := hp.extw hx1
  replace hv_b0 := hv_b0.ext hx1
  refine Rg.wd trivial (w_call Tryz.call100 rfl (acc_F hC hp (texts := [⟨#[60]⟩]) hvt2 (by decide) haq1)) rfl ?_
  rintro _ w2 ⟨rfl,hp1,hb2⟩
  replace hv_b0 := var_bw hv_b0 hb2 hF_b0
  replace hbw := hbw.trans (hb2.sub hsub)
  clear hp
  have hp := hp1
  clear hp1
  refine .done (.condF rfl (Wp.skip ?_))
  exact ⟨[],trivial,hp.sub hsub hbase,hbw⟩
theorem N_typeParams (hC : Cx w0 tv toks) (hD : ∀ m,m < n → DN w0 tv toks m) (hp : Ps w0 tv toks F w bP below k s) (hr : run body n (body .typeParams) s = some r) (hb : r.adds ≤ big) :
  Cl Tryz.prog 205 #[.pointer (some ⟨bP,0,none⟩)] w (fun u w' => (Nm.typeParams = Nm.statement → u = .bool r.flag) ∧ Ps w0 tv toks F w' bP below k r ∧ Bw F w w') := by
 have hbw := Bw.refl F w
 have hsub : ∀ z,F z → F z := fun z h => h
 have hbase := hp.base
 have hr : run body n (.node 10 (.cond (at1 [⟨#[60]⟩]) (.seq .bump (Cmd.list ⟨#[62]⟩ (.call .typeParam))) .skip)) s = some r := hr
 refine Cl.enter Tryz.func205 rfl Tryz.ntmps205 rfl rfl (.sr (Rg.wd trivial (w_boxed rfl rfl) rfl ?_))
 rintro _ w1 ⟨bx126_1,rfl,qbx126_1,hx1,hv_bx126_1⟩
 replace hbw := bS hbw hp.und hsub hx1
 obtain ⟨F_bx126_1,hp1,hF_bx126_1,hs1⟩ := hp.box hx1 qbx126_1 hv_bx126_1.lt
 clear hp
 have hp := hp1
 clear hp1
 replace hsub := fun z hz => hs1 z (hsub z hz)
 refine .done (Wp.region (.t2 (t_load ty100 rfl (hv_bx126_1.g 0 rfl)) (.t2 (t_makeFuncB (us := []) (vs := [.pointer (some ⟨bx126_1,0,none⟩)]) rfl rfl) (Rg.wd trivial (w_call Tryz.call98 rfl (D_node hp (clo_151 hC hD hv_bx126_1 hF_bx126_1) hr hb)) rfl ?_))))
 rintro _ w2 ⟨hp1,hb2⟩
 replace hv_bx126_1 := var_bw hv_bx126_1 hb2 hF_bx126_1
 replace hbw := hbw.trans (hb2.sub hsub)
 clear hp
 have hp := hp1
 clear hp1
 refine .done ?_
 exact ⟨[],trivial,(fun h => by cases h),hp.sub hsub hbase,hbw⟩
theorem clo_168 (hC : Cx w0 tv toks) (hD : ∀ m,m < n → DN w0 tv toks m) {b0 : Nat} (hv_b0 : Var w b0 [.pointer (some ⟨bP,0,none⟩)] 100) (hF_b0 : F b0) : Clo w0 tv toks n F bP 292 [] [.pointer (some ⟨b0,0,none⟩)] w (.seq .bump (.cond (at1 [⟨#[58]⟩]) (.seq .bump (.seq (.call (.path true)) (.loop (at1 [⟨#[43]⟩]) (.seq .bump (.call (.path true)))))) .skip)) := by
 refine ⟨Tryz.call292,fun w1 hw1 below k s r hp hr hb => ?_⟩
 replace hv_b0 := var_bw hv_b0 hw1 hF_b0
 show Cl Tryz.prog 292 #[.pointer (some ⟨b0,0,none⟩)] w1 _
 have hbw := Bw.refl F w1
 have hsub : ∀ z,F z → F z := fun z h => h
 have hbase := hp.base
 refine Cl.enter Tryz.func292 rfl Tryz.ntmps292 rfl rfl (.sr (.t2 (t_load ty100 rfl (hv_b0.g 0 rfl)) ?_))
 obtain ⟨s1,h1a,h1b⟩ := run_seq' hr
 refine Rg.wd trivial (w_call Tryz.call101 rfl (D_bump hC hp h1a (adds_le h1b hb))) rfl ?_
 rintro _ w1 ⟨hp1,hb1⟩
 replace hv_b0 := var_bw hv_b0 hb1 hF_b0
 replace hbw := hbw.trans (hb1.sub hsub)
 clear hp
 have hp := hp1
 clear hp1
 refine .done ?_
 cases haq1 : (isAt [⟨#[58]⟩] (sig1 s1.rem)) with
 | true =>
  have hq2 := run_condT h1b haq1
  refine .sr (.t2 (t_load ty100 rfl (hv_b0.g 0 rfl)) (Rg.wd trivial (w_buildSlice (bs38_1 _) rfl) rfl ?_))
  rintro _ w2 ⟨bt4,rfl,qt4,hx2,hvt4⟩
  replace hbw := bS hbw hp.und hsub hx2
  replace hp := hp.extw hx2
  replace hv_b0 := hv_b0.ext hx2
  obtain ⟨s2,h2a,h2b⟩ := run_seq' hq2
  obtain rfl := run_bump' h2a
  refine Rg.wd trivial (w_call Tryz.call100 rfl (acc_T hC hp (texts := [⟨#[58]⟩]) hvt4 (by decide) haq1 (adds_le h2b hb))) rfl ?_
  rintro _ w3 ⟨rfl,hp1,hb3⟩
  replace hv_b0 := var_bw hv_b0 hb3 hF_b0
  replace hbw := hbw.trans (hb3.sub hsub)
  clear hp
  have hp := hp1
  clear hp1
  refine .done (.condT rfl (.sr (.t2 (t_load ty100 rfl (hv_b0.g 0 rfl)) ?_)))
  obtain ⟨s3,h3a,h3b⟩ := run_seq' h2b
  refine Rg.wd trivial (w_call Tryz.call220 rfl (D_call hD hp h3a (adds_le h3b hb))) rfl ?_
  rintro _ w4 ⟨hst,hp1,hb4⟩
  replace hv_b0 := var_bw hv_b0 hb4 hF_b0
  replace hbw := hbw.trans (hb4.sub hsub)
  clear hp
  have hp := hp1
  clear hp1
  refine .done (Wp.block ?_)
  refine Wp.loop (ι := S × Nat) (fun _ => [(0,.pointer (some ⟨b0,0,none⟩))])
   (fun i w' => Ps w0 tv toks F w' bP below k i.1 ∧ Bw F w4 w' ∧ run body i.2 (.loop (at1 [⟨#[43]⟩]) (.seq .bump (.call (.path true)))) i.1 = some r ∧ i.2 ≤ n) (fun i => i.2) (s3,n) (by repeat (first | exact .nil | refine .cons rfl ?_)) ⟨hp,Bw.refl _ _,h3b,Nat.le_refl _⟩ ?_
  clear hp
  rintro ⟨s',m⟩ wl ⟨hp,hbl,hrun,hmn⟩
  simp only at hp hrun hmn
  replace hbw := hbw.trans (hbl.sub hsub)
  replace hv_b0 := var_bw hv_b0 hbl hF_b0
  refine .seq ?_
  cases haq3 : (isAt [⟨#[43]⟩] (sig1 s'.rem)) with
  | true =>
   obtain ⟨m1,s2,rfl,hbody,hrest⟩ := run_loopT hrun haq3
   replace hbody := run_le hmn hbody
   refine .sr (.t2 (t_load ty100 rfl (hv_b0.g 0 rfl)) (Rg.wd trivial (w_buildSlice (bs38_1 _) rfl) rfl ?_))
   rintro _ w5 ⟨bt9,rfl,qt9,hx5,hvt9⟩
   replace hbl := hbl.trans (Bw.of hx5 hp.und)
   replace hbw := bS hbw hp.und hsub hx5
   replace hp := hp.extw hx5
   replace hv_b0 := hv_b0.ext hx5
   obtain ⟨s4,h4a,h4b⟩ := run_seq' hbody
   obtain rfl := run_bump' h4a
   refine Rg.wd trivial (w_call Tryz.call100 rfl (acc_T hC hp (texts := [⟨#[43]⟩]) hvt9 (by decide) haq3 (adds_le h4b (adds_le hrest hb)))) rfl ?_
   rintro _ w6 ⟨rfl,hp1,hb6⟩
   replace hbl := hbl.trans hb6
   replace hv_b0 := var_bw hv_b0 hb6 hF_b0
   replace hbw := hbw.trans (hb6.sub hsub)
   clear hp
   have hp := hp1
   clear hp1
   refine .done (.condT rfl (Wp.skip (Wp.block (Wp.region (.t2 (t_load ty100 rfl (hv_b0.g 0 rfl)) (Rg.wd trivial (w_call Tryz.call220 rfl (D_call hD hp h4b (adds_le hrest hb))) rfl ?_))))))
   rintro _ w7 ⟨hst,hp1,hb7⟩
   replace hbl := hbl.trans hb7
   replace hv_b0 := var_bw hv_b0 hb7 hF_b0
   replace hbw := hbw.trans (hb7.sub hsub)
   clear hp
   have hp := hp1
   clear hp1
   refine .done ?_
   exact ⟨(s2,m1),by repeat (first | exact .nil | refine .cons rfl ?_),⟨hp,hbl,hrest,by simp only; omega⟩,by simp only; omega⟩
  | false =>
   obtain rfl := run_loopF hrun haq3
   refine .sr (.t2 (t_load ty100 rfl (hv_b0.g 0 rfl)) (Rg.wd trivial (w_buildSlice (bs38_1 _) rfl) rfl ?_))
   rintro _ w5 ⟨bt9,rfl,qt9,hx5,hvt9⟩
   replace hbw := bS hbw hp.und hsub hx5
   replace hp := hp.extw hx5
   replace hv_b0 := hv_b0.ext hx5
   refine Rg.wd trivial (w_call Tryz.call100 rfl (acc_F hC hp (texts := [⟨#[43]⟩]) hvt9 (by decide) haq3)) rfl ?_
   rintro _ w6 ⟨rfl,hp1,hb6⟩
   replace hv_b0 := var_bw hv_b0 hb6 hF_b0
   replace hbw := hbw.trans (hb6.sub hsub)
   clear hp
   have hp := hp1
   clear hp1
   refine .done (.condF rfl (Wp.exit ?_))
   exact ⟨[],trivial,hp.sub hsub hbase,hbw⟩
 | false =>
  have hq2 := run_condF h1b haq1
  obtain rfl := run_skip' hq2
  refine .sr (.t2 (t_load ty100 rfl (hv_b0.g 0 rfl)) (Rg.wd trivial (w_buildSlice (bs38_1 _) rfl) rfl ?_))
  rintro _ w2 ⟨bt4,rfl,qt4,hx2,hvt4⟩
  replace hbw := bS hbw hp.und hsub hx2
  replace hp := hp.extw hx2
  replace hv_b0 := hv_b0.ext hx2
  refine Rg.wd trivial (w_call Tryz.call100 rfl (acc_F hC hp (texts := [⟨#[58]⟩]) hvt4 (by decide) haq1)) rfl ?_
  rintro _ w3 ⟨rfl,hp1,hb3⟩
  replace hv_b0 := var_bw hv_b0 hb3 hF_b0
  replace hbw := hbw.trans (hb3.sub hsub)
  clear hp
  have hp := hp1
  clear hp1
  refine .done (.condF rfl (Wp.skip ?_))
  exact ⟨[],trivial,hp.sub hsub hbase,hbw⟩
theorem N_typeParam (hC : Cx w0 tv toks) (hD : ∀ m,m < n → DN w0 tv toks m) (hp : Ps w0 tv toks F w bP below k s) (hr : run body n (body .typeParam) s = some r) (hb : r.adds ≤ big) :
  Cl Tryz.prog 256 #[.pointer (some ⟨bP,0,none⟩)] w (fun u w' => (Nm.typeParam = Nm.statement → u = .bool r.flag) ∧ Ps w0 tv toks F w' bP below k r ∧ Bw F w w') := by
 have hbw := Bw.refl F w
 have hsub : ∀ z,F z → F z := fun z h => h
 have hbase := hp.base
 have hr : run body n (.cond ident (.node 11 (.seq .bump (.cond (at1 [⟨#[58]⟩]) (.seq .bump (.seq (.call (.path true)) (.loop (at1 [⟨#[43]⟩]) (.seq .bump (.call (.path true)))))) .skip))) .skip) s = some r := hr
 refine Cl.enter Tryz.func256 rfl Tryz.ntmps256 rfl rfl (.sr (Rg.wd trivial (w_boxed rfl rfl) rfl ?_))
 rintro _ w1 ⟨bx152_1,rfl,qbx152_1,hx1,hv_bx152_1⟩
 replace hbw := bS hbw hp.und hsub hx1
 obtain ⟨F_bx152_1,hp1,hF_bx152_1,hs1⟩ := hp.box hx1 qbx152_1 hv_bx152_1.lt
 clear hp
 have hp := hp1
 clear hp1
 replace hsub := fun z hz => hs1 z (hsub z hz)
 refine .done (.seq ?_)
 cases haq1 : ((sig1 s.rem).1 == 103) with
 | true =>
  have hq2 := run_condT hr haq1
  refine .sr (.t2 (t_load ty100 rfl (hv_bx152_1.g 0 rfl)) (Rg.wd trivial (w_call Tryz.call211 rfl (atIdent_ok hC hp)) rfl ?_))
  rintro _ w2 ⟨rfl,hx2⟩
  replace hbw := bS hbw hp.und hsub hx2
  replace hp := hp.extw hx2
  replace hv_bx152_1 := hv_bx152_1.ext hx2
  rw [show ((sig1 s.rem).1 == 103) = true from haq1]
  refine .t2 (t_notB rfl) (.done (.condF rfl (Wp.skip (Wp.region (.t2 (t_load ty100 rfl (hv_bx152_1.g 0 rfl)) (.t2 (t_makeFuncB (us := []) (vs := [.pointer (some ⟨bx152_1,0,none⟩)]) rfl rfl) (Rg.wd trivial (w_call Tryz.call98 rfl (D_node hp (clo_168 hC hD hv_bx152_1 hF_bx152_1) hq2 hb)) rfl ?_)))))))
  rintro _ w3 ⟨hp1,hb3⟩
  replace hv_bx152_1 := var_bw hv_bx152_1 hb3 hF_bx152_1
  replace hbw := hbw.trans (hb3.sub hsub)
  clear hp
  have hp := hp1
  clear hp1
  refine .done ?_
  exact ⟨[],trivial,(fun h => by cases h),hp.sub hsub hbase,hbw⟩
 | false =>
  have hq2 := run_condF hr haq1
  obtain rfl := run_skip' hq2
  refine .sr (.t2 (t_load ty100 rfl (hv_bx152_1.g 0 rfl)) (Rg.wd trivial (w_call Tryz.call211 rfl (atIdent_ok hC hp)) rfl ?_))
  rintro _ w2 ⟨rfl,hx2⟩
  replace hbw := bS hbw hp.und hsub hx2
  replace hp := hp.extw hx2
  replace hv_bx152_1 := hv_bx152_1.ext hx2
  rw [show ((sig1 r.rem).1 == 103) = false from haq1]
  refine .t2 (t_notB rfl) (.done (.condT rfl (Wp.ret ?_)))
  exact ⟨[],trivial,(fun h => by cases h),hp.sub hsub hbase,hbw⟩
theorem clo_146 (hC : Cx w0 tv toks) (hD : ∀ m,m < n → DN w0 tv toks m) {b0 : Nat} (hv_b0 : Var w b0 [.pointer (some ⟨bP,0,none⟩)] 100) (hF_b0 : F b0) : Clo w0 tv toks n F bP 225 [] [.pointer (some ⟨b0,0,none⟩)] w (.seq .bump (Cmd.opt ⟨#[58]⟩ (.call .typeExpr))) := by
 refine ⟨Tryz.call225,fun w1 hw1 below k s r hp hr hb => ?_⟩
 replace hv_b0 := var_bw hv_b0 hw1 hF_b0
 show Cl Tryz.prog 225 #[.pointer (some ⟨b0,0,none⟩)] w1 _
 have hbw := Bw.refl F w1
 have hsub : ∀ z,F z → F z := fun z h => h
 have hbase := hp.base
 refine Cl.enter Tryz.func225 rfl Tryz.ntmps225 rfl rfl (.sr (.t2 (t_load ty100 rfl (hv_b0.g 0 rfl)) ?_))
 obtain ⟨s1,h1a,h1b⟩ := run_seq' hr
 refine Rg.wd trivial (w_call Tryz.call101 rfl (D_bump hC hp h1a (adds_le h1b hb))) rfl ?_
 rintro _ w1 ⟨hp1,hb1⟩
 replace hv_b0 := var_bw hv_b0 hb1 hF_b0
 replace hbw := hbw.trans (hb1.sub hsub)
 clear hp
 have hp := hp1
 clear hp1
 refine .done (Wp.region (.t2 (t_load ty100 rfl (hv_b0.g 0 rfl)) (.t2 (t_load ty100 rfl (hv_b0.g 0 rfl)) (.t2 (t_makeFuncB (us := [.pointer (some ⟨bP,0,none⟩)]) (vs := []) rfl rfl) (Rg.wd trivial (w_call Tryz.call206 rfl (D_opt hC hp (clo_call Tryz.call157 hD (.typeExpr)) h1b hb)) rfl ?_)))))
 rintro _ w2 ⟨hp1,hb2⟩
 replace hv_b0 := var_bw hv_b0 hb2 hF_b0
 replace hbw := hbw.trans (hb2.sub hsub)
 clear hp
 have hp := hp1
 clear hp1
 refine .done ?_
 exact ⟨[],trivial,hp.sub hsub hbase,hbw⟩
theorem clo_145 (hC : Cx w0 tv toks) (hD : ∀ m,m < n → DN w0 tv toks m) {b0 : Nat} (hv_b0 : Var w b0 [.pointer (some ⟨bP,0,none⟩)] 100) (hF_b0 : F b0) : Clo w0 tv toks n F bP 224 [] [.pointer (some ⟨b0,0,none⟩)] w (.cond ident (.node 13 (.seq .bump (Cmd.opt ⟨#[58]⟩ (.call .typeExpr)))) .skip) := by
 refine ⟨Tryz.call224,fun w1 hw1 below k s r hp hr hb => ?_⟩
 replace hv_b0 := var_bw hv_b0 hw1 hF_b0
 show Cl Tryz.prog 224 #[.pointer (some ⟨b0,0,none⟩)] w1 _
 have hbw := Bw.refl F w1
 have hsub : ∀ z,F z → F z := fun z h => h
 have hbase := hp.base
 refine Cl.enter Tryz.func224 rfl Tryz.ntmps224 rfl rfl ?_
 cases haq1 : ((sig1 s.rem).1 == 103) with
 | true =>
  have hq2 := run_condT hr haq1
  refine .sr (.t2 (t_load ty100 rfl (hv_b0.g 0 rfl)) (Rg.wd trivial (w_call Tryz.call211 rfl (atIdent_ok hC hp)) rfl ?_))
  rintro _ w1 ⟨rfl,hx1⟩
  replace hbw := bS hbw hp.und hsub hx1
  replace hp := hp.extw hx1
  replace hv_b0 := hv_b0.ext hx1
  rw [show ((sig1 s.rem).1 == 103) = true from haq1]
  refine .done (.condT rfl (Wp.region (.t2 (t_load ty100 rfl (hv_b0.g 0 rfl)) (.t2 (t_makeFuncB (us := []) (vs := [.pointer (some ⟨b0,0,none⟩)]) rfl rfl) (Rg.wd trivial (w_call Tryz.call98 rfl (D_node hp (clo_146 hC hD hv_b0 hF_b0) hq2 hb)) rfl ?_)))))
  rintro _ w2 ⟨hp1,hb2⟩
  replace hv_b0 := var_bw hv_b0 hb2 hF_b0
  replace hbw := hbw.trans (hb2.sub hsub)
  clear hp
  have hp := hp1
  clear hp1
  refine .done ?_
  exact ⟨[],trivial,hp.sub hsub hbase,hbw⟩
 | false =>
  have hq2 := run_condF hr haq1
  obtain rfl := run_skip' hq2
  refine .sr (.t2 (t_load ty100 rfl (hv_b0.g 0 rfl)) (Rg.wd trivial (w_call Tryz.call211 rfl (atIdent_ok hC hp)) rfl ?_))
  rintro _ w1 ⟨rfl,hx1⟩
  replace hbw := bS hbw hp.und hsub hx1
  replace hp := hp.extw hx1
  replace hv_b0 := hv_b0.ext hx1
  rw [show ((sig1 r.rem).1 == 103) = false from haq1]
  refine .done (.condF rfl (Wp.skip ?_))
  exact ⟨[],trivial,hp.sub hsub hbase,hbw⟩
theorem clo_144 {cl : ByteArray} (hC : Cx w0 tv toks) (hD : ∀ m,m < n → DN w0 tv toks m) {b0 : Nat} (hv_b0 : Var w b0 [.pointer (some ⟨bP,0,none⟩)] 100) (hF_b0 : F b0) {b1 : Nat} (hv_b1 : Var w b1 [.string cl] 9) (hF_b1 : F b1) : Clo w0 tv toks n F bP 223 [] [.pointer (some ⟨b0,0,none⟩),.pointer (some ⟨b1,0,none⟩)] w (Cmd.list cl (.cond ident (.node 13 (.seq .bump (Cmd.opt ⟨#[58]⟩ (.call .typeExpr)))) .skip)) := by
 refine ⟨Tryz.call223,fun w1 hw1 below k s r hp hr hb => ?_⟩
 replace hv_b0 := var_bw hv_b0 hw1 hF_b0
 replace hv_b1 := var_bw hv_b1 hw1 hF_b1
 show Cl Tryz.prog 223 #[.pointer (some ⟨b0,0,none⟩),.pointer (some ⟨b1,0,none⟩)] w1 _
 have hbw := Bw.refl F w1
 have hsub : ∀ z,F z → F z := fun z h => h
 have hbase := hp.base
 refine Cl.enter Tryz.func223 rfl Tryz.ntmps223 rfl rfl (Wp.region (.t2 (t_load ty100 rfl (hv_b0.g 0 rfl)) (.t2 (t_load ty9 rfl (hv_b1.g 0 rfl)) (.t2 (t_makeFuncB (us := []) (vs := [.pointer (some ⟨b0,0,none⟩)]) rfl rfl) (Rg.wd trivial (w_call Tryz.call209 rfl (D_list hC hp (clo_145 hC hD hv_b0 hF_b0) hr hb)) rfl ?_)))))
 rintro _ w1 ⟨hp1,hb1⟩
 replace hv_b0 := var_bw hv_b0 hb1 hF_b0
 replace hv_b1 := var_bw hv_b1 hb1 hF_b1
 replace hbw := hbw.trans (hb1.sub hsub)
 clear hp
 have hp := hp1
 clear hp1
 refine .done ?_
 exact ⟨[],trivial,hp.sub hsub hbase,hbw⟩
theorem N_params {cl : ByteArray} (hC : Cx w0 tv toks) (hD : ∀ m,m < n → DN w0 tv toks m) (hp : Ps w0 tv toks F w bP below k s) (hr : run body n (body (.params cl)) s = some r) (hb : r.adds ≤ big) :
  Cl Tryz.prog 159 #[.pointer (some ⟨bP,0,none⟩),.string cl] w (fun u w' => ((Nm.params cl) = Nm.statement → u = .bool r.flag) ∧ Ps w0 tv toks F w' bP below k r ∧ Bw F w w') := by
 have hbw := Bw.refl F w
 have hsub : ∀ z,F z → F z := fun z h => h
 have hbase := hp.base
 have hr : run body n (.node 12 (Cmd.list cl (.cond ident (.node 13 (.seq .bump (Cmd.opt ⟨#[58]⟩ (.call .typeExpr)))) .skip))) s = some r := hr
 refine Cl.enter Tryz.func159 rfl Tryz.ntmps159 rfl rfl (.sr (Rg.wd trivial (w_boxed rfl rfl) rfl ?_))
 rintro _ w1 ⟨bx113_2,rfl,qbx113_2,hx1,hv_bx113_2⟩
 replace hbw := bS hbw hp.und hsub hx1
 obtain ⟨F_bx113_2,hp1,hF_bx113_2,hs1⟩ := hp.box hx1 qbx113_2 hv_bx113_2.lt
 clear hp
 have hp := hp1
 clear hp1
 replace hsub := fun z hz => hs1 z (hsub z hz)
 refine Rg.wd trivial (w_boxed rfl rfl) rfl ?_
 rintro _ w2 ⟨bx113_3,rfl,qbx113_3,hx2,hv_bx113_3⟩
 replace hbw := bS hbw hp.und hsub hx2
 obtain ⟨F_bx113_3,hp1,hF_bx113_3,hs2⟩ := hp.box hx2 qbx113_3 hv_bx113_3.lt
 clear hp
 have hp := hp1
 clear hp1
 replace hsub := fun z hz => hs2 z (hsub z hz)
 replace hv_bx113_2 := hv_bx113_2.ext hx2
 replace hF_bx113_2 := hs2 _ hF_bx113_2
 refine .done (Wp.region (.t2 (t_load ty100 rfl (hv_bx113_2.g 0 rfl)) (.t2 (t_makeFuncB (us := []) (vs := [.pointer (some ⟨bx113_2,0,none⟩),.pointer (some ⟨bx113_3,0,none⟩)]) rfl rfl) (Rg.wd trivial (w_call Tryz.call98 rfl (D_node hp (clo_144 hC hD hv_bx113_2 hF_bx113_2 hv_bx113_3 hF_bx113_3) hr hb)) rfl ?_))))
 rintro _ w3 ⟨hp1,hb3⟩
 replace hv_bx113_2 := var_bw hv_bx113_2 hb3 hF_bx113_2
 replace hv_bx113_3 := var_bw hv_bx113_3 hb3 hF_bx113_3
 replace hbw := hbw.trans (hb3.sub hsub)
 clear hp
 have hp := hp1
 clear hp1
 refine .done ?_
 exact ⟨[],trivial,(fun h => by cases h),hp.sub hsub hbase,hbw⟩
theorem clo_139 (hC : Cx w0 tv toks) (hD : ∀ m,m < n → DN w0 tv toks m) {b0 : Nat} (hv_b0 : Var w b0 [.pointer (some ⟨bP,0,none⟩)] 100) (hF_b0 : F b0) : Clo w0 tv toks n F bP 218 [] [.pointer (some ⟨b0,0,none⟩)] w (.seq .bump (.seq (Cmd.acc ⟨#[109,117,116]⟩) (.call .typeExpr))) := by
 refine ⟨Tryz.call218,fun w1 hw1 below k s r hp hr hb => ?_⟩
 replace hv_b0 := var_bw hv_b0 hw1 hF_b0
 show Cl Tryz.prog 218 #[.pointer (some ⟨b0,0,none⟩)] w1 _
 have hbw := Bw.refl F w1
 have hsub : ∀ z,F z → F z := fun z h => h
 have hbase := hp.base
 refine Cl.enter Tryz.func218 rfl Tryz.ntmps218 rfl rfl (.sr (.t2 (t_load ty100 rfl (hv_b0.g 0 rfl)) ?_))
 obtain ⟨s1,h1a,h1b⟩ := run_seq' hr
 refine Rg.wd trivial (w_call Tryz.call101 rfl (D_bump hC hp h1a (adds_le h1b hb))) rfl ?_
 rintro _ w1 ⟨hp1,hb1⟩
 replace hv_b0 := var_bw hv_b0 hb1 hF_b0
 replace hbw := hbw.trans (hb1.sub hsub)
 clear hp
 have hp := hp1
 clear hp1
 refine .done ?_
 obtain ⟨s2,h2a,h2b⟩ := run_seq' h1b
 cases haq1 : (isAt [⟨#[109,117,116]⟩] (sig1 s1.rem)) with
 | true =>
  have hq2 := run_condT h2a haq1
  refine .sr (.t2 (t_load ty100 rfl (hv_b0.g 0 rfl)) (Rg.wd trivial (w_buildSlice (bs38_1 _) rfl) rfl ?_))
  rintro _ w2 ⟨bt4,rfl,qt4,hx2,hvt4⟩
  replace hbw := bS hbw hp.und hsub hx2
  replace hp := hp.extw hx2
  replace hv_b0 := hv_b0.ext hx2
  obtain rfl := run_bump' hq2
  refine Rg.wd trivial (w_call Tryz.call100 rfl (acc_T hC hp (texts := [⟨#[109,117,116]⟩]) hvt4 (by decide) haq1 (adds_le h2b hb))) rfl ?_
  rintro _ w3 ⟨rfl,hp1,hb3⟩
  replace hv_b0 := var_bw hv_b0 hb3 hF_b0
  replace hbw := hbw.trans (hb3.sub hsub)
  clear hp
  have hp := hp1
  clear hp1
  refine .done (Wp.region (.t2 (t_load ty100 rfl (hv_b0.g 0 rfl)) (Rg.wd trivial (w_call Tryz.call157 rfl (D_call hD hp h2b hb)) rfl ?_)))
  rintro _ w4 ⟨hst,hp1,hb4⟩
  replace hv_b0 := var_bw hv_b0 hb4 hF_b0
  replace hbw := hbw.trans (hb4.sub hsub)
  clear hp
  have hp := hp1
  clear hp1
  refine .done ?_
  exact ⟨[],trivial,hp.sub hsub hbase,hbw⟩
 | false =>
  have hq2 := run_condF h2a haq1
  obtain rfl := run_skip' hq2
  refine .sr (.t2 (t_load ty100 rfl (hv_b0.g 0 rfl)) (Rg.wd trivial (w_buildSlice (bs38_1 _) rfl) rfl ?_))
  rintro _ w2 ⟨bt4,rfl,qt4,hx2,hvt4⟩
  replace hbw := bS hbw hp.und hsub hx2
  replace hp := hp.extw hx2
  replace hv_b0 := hv_b0.ext hx2
  refine Rg.wd trivial (w_call Tryz.call100 rfl (acc_F hC hp (texts := [⟨#[109,117,116]⟩]) hvt4 (by decide) haq1)) rfl ?_
  rintro _ w3 ⟨rfl,hp1,hb3⟩
  replace hv_b0 := var_bw hv_b0 hb3 hF_b0
  replace hbw := hbw.trans (hb3.sub hsub)
  clear hp
  have hp := hp1
  clear hp1
  refine .done (Wp.region (.t2 (t_load ty100 rfl (hv_b0.g 0 rfl)) (Rg.wd trivial (w_call Tryz.call157 rfl (D_call hD hp h2b hb)) rfl ?_)))
  rintro _ w4 ⟨hst,hp1,hb4⟩
  replace hv_b0 := var_bw hv_b0 hb4 hF_b0
  replace hbw := hbw.trans (hb4.sub hsub)
  clear hp
  have hp := hp1
  clear hp1
  refine .done ?_
  exact ⟨[],trivial,hp.sub hsub hbase,hbw⟩
theorem clo_140 (hC : Cx w0 tv toks) (hD : ∀ m,m < n → DN w0 tv toks m) {b0 : Nat} (hv_b0 : Var w b0 [.pointer (some ⟨bP,0,none⟩)] 100) (hF_b0 : F b0) : Clo w0 tv toks n F bP 219 [] [.pointer (some ⟨b0,0,none⟩)] w (.seq .bump (.seq (Cmd.exp ⟨#[40]⟩) (.seq (Cmd.list ⟨#[41]⟩ (.call .typeExpr)) (Cmd.opt ⟨#[45,62]⟩ (.call .typeExpr))))) := by
 refine ⟨Tryz.call219,fun w1 hw1 below k s r hp hr hb => ?_⟩
 replace hv_b0 := var_bw hv_b0 hw1 hF_b0
 show Cl Tryz.prog 219 #[.pointer (some ⟨b0,0,none⟩)] w1 _
 have hbw := Bw.refl F w1
 have hsub : ∀ z,F z → F z := fun z h => h
 have hbase := hp.base
 refine Cl.enter Tryz.func219 rfl Tryz.ntmps219 rfl rfl (.sr (.t2 (t_load ty100 rfl (hv_b0.g 0 rfl)) ?_))
 obtain ⟨s1,h1a,h1b⟩ := run_seq' hr
 refine Rg.wd trivial (w_call Tryz.call101 rfl (D_bump hC hp h1a (adds_le h1b hb))) rfl ?_
 rintro _ w1 ⟨hp1,hb1⟩
 replace hv_b0 := var_bw hv_b0 hb1 hF_b0
 replace hbw := hbw.trans (hb1.sub hsub)
 clear hp
 have hp := hp1
 clear hp1
 refine .done (.sr (.t2 (t_load ty100 rfl (hv_b0.g 0 rfl)) ?_))
 obtain ⟨s2,h2a,h2b⟩ := run_seq' h1b
 refine Rg.wd trivial (w_call Tryz.call156 rfl (D_exp hC hp h2a (adds_le h2b hb))) rfl ?_
 rintro _ w2 ⟨hp1,hb2⟩
 replace hv_b0 := var_bw hv_b0 hb2 hF_b0
 replace hbw := hbw.trans (hb2.sub hsub)
 clear hp
 have hp := hp1
 clear hp1
 refine .done (.sr (.t2 (t_load ty100 rfl (hv_b0.g 0 rfl)) (.t2 (t_load ty100 rfl (hv_b0.g 0 rfl)) (.t2 (t_makeFuncB (us := [.pointer (some ⟨bP,0,none⟩)]) (vs := []) rfl rfl) ?_))))
 obtain ⟨s3,h3a,h3b⟩ := run_seq' h2b
 refine Rg.wd trivial (w_call Tryz.call209 rfl (D_list hC hp (clo_call Tryz.call157 hD (.typeExpr)) h3a (adds_le h3b hb))) rfl ?_
 rintro _ w3 ⟨hp1,hb3⟩
 replace hv_b0 := var_bw hv_b0 hb3 hF_b0
 replace hbw := hbw.trans (hb3.sub hsub)
 clear hp
 have hp := hp1
 clear hp1
 refine .done (Wp.region (.t2 (t_load ty100 rfl (hv_b0.g 0 rfl)) (.t2 (t_load ty100 rfl (hv_b0.g 0 rfl)) (.t2 (t_makeFuncB (us := [.pointer (some ⟨bP,0,none⟩)]) (vs := []) rfl rfl) (Rg.wd trivial (w_call Tryz.call206 rfl (D_opt hC hp (clo_call Tryz.call157 hD (.typeExpr)) h3b hb)) rfl ?_)))))
 rintro _ w4 ⟨hp1,hb4⟩
 replace hv_b0 := var_bw hv_b0 hb4 hF_b0
 replace hbw := hbw.trans (hb4.sub hsub)
 clear hp
 have hp := hp1
 clear hp1
 refine .done ?_
 exact ⟨[],trivial,hp.sub hsub hbase,hbw⟩
theorem N_typeExpr (hC : Cx w0 tv toks) (hD : ∀ m,m < n → DN w0 tv toks m) (hp : Ps w0 tv toks F w bP below k s) (hr : run body n (body .typeExpr) s = some r) (hb : r.adds ≤ big) :
  Cl Tryz.prog 157 #[.pointer (some ⟨bP,0,none⟩)] w (fun u w' => (Nm.typeExpr = Nm.statement → u = .bool r.flag) ∧ Ps w0 tv toks F w' bP below k r ∧ Bw F w w') := by
 have hbw := Bw.refl F w
 have hsub : ∀ z,F z → F z := fun z h => h
 have hbase := hp.base
 have hr : run body n (.cond (at1 [⟨#[38]⟩]) (.node 19 (.seq .bump (.seq (Cmd.acc ⟨#[109,117,116]⟩) (.call .typeExpr)))) (.cond (at1 [⟨#[102,110]⟩]) (.node 20 (.seq .bump (.seq (Cmd.exp ⟨#[40]⟩) (.seq (Cmd.list ⟨#[41]⟩ (.call .typeExpr)) (Cmd.opt ⟨#[45,62]⟩ (.call .typeExpr)))))) (.cond ident (.call (.path true)) (.leaf 46)))) s = some r := hr
 refine Cl.enter Tryz.func157 rfl Tryz.ntmps157 rfl rfl (.sr (Rg.wd trivial (w_boxed rfl rfl) rfl ?_))
 rintro _ w1 ⟨bx111_1,rfl,qbx111_1,hx1,hv_bx111_1⟩
 replace hbw := bS hbw hp.und hsub hx1
 obtain ⟨F_bx111_1,hp1,hF_bx111_1,hs1⟩ := hp.box hx1 qbx111_1 hv_bx111_1.lt
 clear hp
 have hp := hp1
 clear hp1
 replace hsub := fun z hz => hs1 z (hsub z hz)
 refine .done (Wp.block ?_)
 cases haq1 : (isAt [⟨#[38]⟩] (sig1 s.rem)) with
 | true =>
  have hq2 := run_condT hr haq1
  refine .sr (.t2 (t_load ty100 rfl (hv_bx111_1.g 0 rfl)) (Rg.wd trivial (w_buildSlice (bs38_1 _) rfl) rfl ?_))
  rintro _ w2 ⟨bt6,rfl,qt6,hx2,hvt6⟩
  replace hbw := bS hbw hp.und hsub hx2
  replace hp := hp.extw hx2
  replace hv_bx111_1 := hv_bx111_1.ext hx2
  refine Rg.wd trivial (w_call Tryz.call94 rfl (at_ok hC hp (texts := [⟨#[38]⟩]) hvt6 (by decide))) rfl ?_
  rintro _ w3 ⟨rfl,hx3⟩
  replace hbw := bS hbw hp.und hsub hx3
  replace hp := hp.extw hx3
  replace hv_bx111_1 := hv_bx111_1.ext hx3
  try replace hvt6 := hvt6.ext hx3
  rw [show (isAt [⟨#[38]⟩] (sig1 s.rem)) = true from haq1]
  refine .a2 rfl (.done (.condT rfl (Wp.region (.t2 (t_load ty100 rfl (hv_bx111_1.g 0 rfl)) (.t2 (t_makeFuncB (us := []) (vs := [.pointer (some ⟨bx111_1,0,none⟩)]) rfl rfl) (Rg.wd trivial (w_call Tryz.call98 rfl (D_node hp (clo_139 hC hD hv_bx111_1 hF_bx111_1) hq2 hb)) rfl ?_))))))
  rintro _ w4 ⟨hp1,hb4⟩
  replace hv_bx111_1 := var_bw hv_bx111_1 hb4 hF_bx111_1
  replace hbw := hbw.trans (hb4.sub hsub)
  clear hp
  have hp := hp1
  clear hp1
  refine .done ?_
  exact ⟨[],trivial,(fun h => by cases h),hp.sub hsub hbase,hbw⟩
 | false =>
  have hq2 := run_condF hr haq1
  refine .sr (.t2 (t_load ty100 rfl (hv_bx111_1.g 0 rfl)) (Rg.wd trivial (w_buildSlice (bs38_1 _) rfl) rfl ?_))
  rintro _ w2 ⟨bt6,rfl,qt6,hx2,hvt6⟩
  replace hbw := bS hbw hp.und hsub hx2
  replace hp := hp.extw hx2
  replace hv_bx111_1 := hv_bx111_1.ext hx2
  refine Rg.wd trivial (w_call Tryz.call94 rfl (at_ok hC hp (texts := [⟨#[38]⟩]) hvt6 (by decide))) rfl ?_
  rintro _ w3 ⟨rfl,hx3⟩
  replace hbw := bS hbw hp.und hsub hx3
  replace hp := hp.extw hx3
  replace hv_bx111_1 := hv_bx111_1.ext hx3
  try replace hvt6 := hvt6.ext hx3
  rw [show (isAt [⟨#[38]⟩] (sig1 s.rem)) = false from haq1]
  refine .a2 rfl (.done (.condF rfl ?_))
  cases haq3 : (isAt [⟨#[102,110]⟩] (sig1 s.rem)) with
  | true =>
   have hq4 := run_condT hq2 haq3
   refine .sr (.t2 (t_load ty100 rfl (hv_bx111_1.g 0 rfl)) (Rg.wd trivial (w_buildSlice (bs38_1 _) rfl) rfl ?_))
   rintro _ w4 ⟨bt13,rfl,qt13,hx4,hvt13⟩
   replace hbw := bS hbw hp.und hsub hx4
   replace hp := hp.extw hx4
   replace hv_bx111_1 := hv_bx111_1.ext hx4
   try replace hvt6 := hvt6.ext hx4
   refine Rg.wd trivial (w_call Tryz.call94 rfl (at_ok hC hp (texts := [⟨#[102,110]⟩]) hvt13 (by decide))) rfl ?_
   rintro _ w5 ⟨rfl,hx5⟩
   replace hbw := bS hbw hp.und hsub hx5
   replace hp := hp.extw hx5
   replace hv_bx111_1 := hv_bx111_1.ext hx5
   try replace hvt6 := hvt6.ext hx5
   try replace hvt13 := hvt13.ext hx5
   rw [show (isAt [⟨#[102,110]⟩] (sig1 s.rem)) = true from haq3]
   refine .a2 rfl (.done (.condT rfl (Wp.region (.t2 (t_load ty100 rfl (hv_bx111_1.g 0 rfl)) (.t2 (t_makeFuncB (us := []) (vs := [.pointer (some ⟨bx111_1,0,none⟩)]) rfl rfl) (Rg.wd trivial (w_call Tryz.call98 rfl (D_node hp (clo_140 hC hD hv_bx111_1 hF_bx111_1) hq4 hb)) rfl ?_))))))
   rintro _ w6 ⟨hp1,hb6⟩
   replace hv_bx111_1 := var_bw hv_bx111_1 hb6 hF_bx111_1
   replace hbw := hbw.trans (hb6.sub hsub)
   clear hp
   have hp := hp1
   clear hp1
   refine .done ?_
   exact ⟨[],trivial,(fun h => by cases h),hp.sub hsub hbase,hbw⟩
  | false =>
   have hq4 := run_condF hq2 haq3
   refine .sr (.t2 (t_load ty100 rfl (hv_bx111_1.g 0 rfl)) (Rg.wd trivial (w_buildSlice (bs38_1 _) rfl) rfl ?_))
   rintro _ w4 ⟨bt13,rfl,qt13,hx4,hvt13⟩
   replace hbw := bS hbw hp.und hsub hx4
   replace hp := hp.extw hx4
   replace hv_bx111_1 := hv_bx111_1.ext hx4
   try replace hvt6 := hvt6.ext hx4
   refine Rg.wd trivial (w_call Tryz.call94 rfl (at_ok hC hp (texts := [⟨#[102,110]⟩]) hvt13 (by decide))) rfl ?_
   rintro _ w5 ⟨rfl,hx5⟩
   replace hbw := bS hbw hp.und hsub hx5
   replace hp := hp.extw hx5
   replace hv_bx111_1 := hv_bx111_1.ext hx5
   try replace hvt6 := hvt6.ext hx5
   try replace hvt13 := hvt13.ext hx5
   rw [show (isAt [⟨#[102,110]⟩] (sig1 s.rem)) = false from haq3]
   refine .a2 rfl (.done (.condF rfl ?_))
   cases haq5 : ((sig1 s.rem).1 == 103) with
   | true =>
    have hq6 := run_condT hq4 haq5
    refine .sr (.t2 (t_load ty100 rfl (hv_bx111_1.g 0 rfl)) (Rg.wd trivial (w_call Tryz.call211 rfl (atIdent_ok hC hp)) rfl ?_))
    rintro _ w6 ⟨rfl,hx6⟩
    replace hbw := bS hbw hp.und hsub hx6
    replace hp := hp.extw hx6
    replace hv_bx111_1 := hv_bx111_1.ext hx6
    try replace hvt6 := hvt6.ext hx6
    try replace hvt13 := hvt13.ext hx6
    rw [show ((sig1 s.rem).1 == 103) = true from haq5]
    refine .a2 rfl (.done (.condT rfl (Wp.region (.t2 (t_load ty100 rfl (hv_bx111_1.g 0 rfl)) (Rg.wd trivial (w_call Tryz.call220 rfl (D_call hD hp hq6 hb)) rfl ?_)))))
    rintro _ w7 ⟨hst,hp1,hb7⟩
    replace hv_bx111_1 := var_bw hv_bx111_1 hb7 hF_bx111_1
    replace hbw := hbw.trans (hb7.sub hsub)
    clear hp
    have hp := hp1
    clear hp1
    refine .done ?_
    exact ⟨[],trivial,(fun h => by cases h),hp.sub hsub hbase,hbw⟩
   | false =>
    have hq6 := run_condF hq4 haq5
    refine .sr (.t2 (t_load ty100 rfl (hv_bx111_1.g 0 rfl)) (Rg.wd trivial (w_call Tryz.call211 rfl (atIdent_ok hC hp)) rfl ?_))
    rintro _ w6 ⟨rfl,hx6⟩
    replace hbw := bS hbw hp.und hsub hx6
    replace hp := hp.extw hx6
    replace hv_bx111_1 := hv_bx111_1.ext hx6
    try replace hvt6 := hvt6.ext hx6
    try replace hvt13 := hvt13.ext hx6
    rw [show ((sig1 s.rem).1 == 103) = false from haq5]
    refine .a2 rfl (.done (.condF rfl (Wp.region (.t2 (t_load ty100 rfl (hv_bx111_1.g 0 rfl)) (Rg.wd trivial (w_call Tryz.call221 rfl (D_missingN hp hq6 hb)) rfl ?_)))))
    rintro _ w7 ⟨hp1,hb7⟩
    replace hv_bx111_1 := var_bw hv_bx111_1 hb7 hF_bx111_1
    replace hbw := hbw.trans (hb7.sub hsub)
    clear hp
    have hp := hp1
    clear hp1
    refine .done ?_
    exact ⟨[],trivial,(fun h => by cases h),hp.sub hsub hbase,hbw⟩
theorem clo_188 (hC : Cx w0 tv toks) (hD : ∀ m,m < n → DN w0 tv toks m) {b0 : Nat} (hv_b0 : Var w b0 [.pointer (some ⟨bP,0,none⟩)] 100) (hF_b0 : F b0) : Clo w0 tv toks n F bP 321 [] [.pointer (some ⟨b0,0,none⟩)] w (.seq .bump (.seq .bump (.call .arguments))) := by
 refine ⟨Tryz.call321,fun w1 hw1 below k s r hp hr hb => ?_⟩
 replace hv_b0 := var_bw hv_b0 hw1 hF_b0
 show Cl Tryz.prog 321 #[.pointer (some ⟨b0,0,none⟩)] w1 _
 have hbw := Bw.refl F w1
 have hsub : ∀ z,F z → F z := fun z h => h
 have hbase := hp.base
 refine Cl.enter Tryz.func321 rfl Tryz.ntmps321 rfl rfl (.sr (.t2 (t_load ty100 rfl (hv_b0.g 0 rfl)) ?_))
 obtain ⟨s1,h1a,h1b⟩ := run_seq' hr
 refine Rg.wd trivial (w_call Tryz.call101 rfl (D_bump hC hp h1a (adds_le h1b hb))) rfl ?_
 rintro _ w1 ⟨hp1,hb1⟩
 replace hv_b0 := var_bw hv_b0 hb1 hF_b0
 replace hbw := hbw.trans (hb1.sub hsub)
 clear hp
 have hp := hp1
 clear hp1
 refine .done (.sr (.t2 (t_load ty100 rfl (hv_b0.g 0 rfl)) ?_))
 obtain ⟨s2,h2a,h2b⟩ := run_seq' h1b
 refine Rg.wd trivial (w_call Tryz.call101 rfl (D_bump hC hp h2a (adds_le h2b hb))) rfl ?_
 rintro _ w2 ⟨hp1,hb2⟩
 replace hv_b0 := var_bw hv_b0 hb2 hF_b0
 replace hbw := hbw.trans (hb2.sub hsub)
 clear hp
 have hp := hp1
 clear hp1
 refine .done (Wp.region (.t2 (t_load ty100 rfl (hv_b0.g 0 rfl)) (Rg.wd trivial (w_call Tryz.call314 rfl (D_call hD hp h2b hb)) rfl ?_)))
 rintro _ w3 ⟨hst,hp1,hb3⟩
 replace hv_b0 := var_bw hv_b0 hb3 hF_b0
 replace hbw := hbw.trans (hb3.sub hsub)
 clear hp
 have hp := hp1
 clear hp1
 refine .done ?_
 exact ⟨[],trivial,hp.sub hsub hbase,hbw⟩
theorem clo_189 (hC : Cx w0 tv toks) (hD : ∀ m,m < n → DN w0 tv toks m) {b0 : Nat} (hv_b0 : Var w b0 [.pointer (some ⟨bP,0,none⟩)] 100) (hF_b0 : F b0) : Clo w0 tv toks n F bP 322 [] [.pointer (some ⟨b0,0,none⟩)] w (.seq .bump Cmd.expIdent) := by
 refine ⟨Tryz.call322,fun w1 hw1 below k s r hp hr hb => ?_⟩
 replace hv_b0 := var_bw hv_b0 hw1 hF_b0
 show Cl Tryz.prog 322 #[.pointer (some ⟨b0,0,none⟩)] w1 _
 have hbw := Bw.refl F w1
 have hsub : ∀ z,F z → F z := fun z h => h
 have hbase := hp.base
 refine Cl.enter Tryz.func322 rfl Tryz.ntmps322 rfl rfl (.sr (.t2 (t_load ty100 rfl (hv_b0.g 0 rfl)) ?_))
 obtain ⟨s1,h1a,h1b⟩ := run_seq' hr
 refine Rg.wd trivial (w_call Tryz.call101 rfl (D_bump hC hp h1a (adds_le h1b hb))) rfl ?_
 rintro _ w1 ⟨hp1,hb1⟩
 replace hv_b0 := var_bw hv_b0 hb1 hF_b0
 replace hbw := hbw.trans (hb1.sub hsub)
 clear hp
 have hp := hp1
 clear hp1
 refine .done (Wp.region (.t2 (t_load ty100 rfl (hv_b0.g 0 rfl)) (Rg.wd trivial (w_call Tryz.call153 rfl (D_expIdent hC hp h1b hb)) rfl ?_)))
 rintro _ w2 ⟨hp1,hb2⟩
 replace hv_b0 := var_bw hv_b0 hb2 hF_b0
 replace hbw := hbw.trans (hb2.sub hsub)
 clear hp
 have hp := hp1
 clear hp1
 refine .done ?_
 exact ⟨[],trivial,hp.sub hsub hbase,hbw⟩
theorem clo_190 (hC : Cx w0 tv toks) (hD : ∀ m,m < n → DN w0 tv toks m) {b0 : Nat} (hv_b0 : Var w b0 [.pointer (some ⟨bP,0,none⟩)] 100) (hF_b0 : F b0) : Clo w0 tv toks n F bP 327 [] [.pointer (some ⟨b0,0,none⟩)] w (.seq .bump Cmd.expIdent) := by
 refine ⟨Tryz.call327,fun w1 hw1 below k s r hp hr hb => ?_⟩
 replace hv_b0 := var_bw hv_b0 hw1 hF_b0
 show Cl Tryz.prog 327 #[.pointer (some ⟨b0,0,none⟩)] w1 _
 have hbw := Bw.refl F w1
 have hsub : ∀ z,F z → F z := fun z h => h
 have hbase := hp.base
 refine Cl.enter Tryz.func327 rfl Tryz.ntmps327 rfl rfl (.sr (.t2 (t_load ty100 rfl (hv_b0.g 0 rfl)) ?_))
 obtain ⟨s1,h1a,h1b⟩ := run_seq' hr
 refine Rg.wd trivial (w_call Tryz.call101 rfl (D_bump hC hp h1a (adds_le h1b hb))) rfl ?_
 rintro _ w1 ⟨hp1,hb1⟩
 replace hv_b0 := var_bw hv_b0 hb1 hF_b0
 replace hbw := hbw.trans (hb1.sub hsub)
 clear hp
 have hp := hp1
 clear hp1
 refine .done (Wp.region (.t2 (t_load ty100 rfl (hv_b0.g 0 rfl)) (Rg.wd trivial (w_call Tryz.call153 rfl (D_expIdent hC hp h1b hb)) rfl ?_)))
 rintro _ w2 ⟨hp1,hb2⟩
 replace hv_b0 := var_bw hv_b0 hb2 hF_b0
 replace hbw := hbw.trans (hb2.sub hsub)
 clear hp
 have hp := hp1
 clear hp1
 refine .done ?_
 exact ⟨[],trivial,hp.sub hsub hbase,hbw⟩
theorem clo_191 (hC : Cx w0 tv toks) (hD : ∀ m,m < n → DN w0 tv toks m) {b0 : Nat} (hv_b0 : Var w b0 [.pointer (some ⟨bP,0,none⟩)] 100) (hF_b0 : F b0) : Clo w0 tv toks n F bP 328 [] [.pointer (some ⟨b0,0,none⟩)] w (.seq (.call (.path false)) (.cond (at1 [⟨#[40]⟩]) (.seq .bump (Cmd.list ⟨#[41]⟩ (.call .pattern))) .skip)) := by
 refine ⟨Tryz.call328,fun w1 hw1 below k s r hp hr hb => ?_⟩
 replace hv_b0 := var_bw hv_b0 hw1 hF_b0
 show Cl Tryz.prog 328 #[.pointer (some ⟨b0,0,none⟩)] w1 _
 have hbw := Bw.refl F w1
 have hsub : ∀ z,F z → F z := fun z h => h
 have hbase := hp.base
 refine Cl.enter Tryz.func328 rfl Tryz.ntmps328 rfl rfl (.sr (.t2 (t_load ty100 rfl (hv_b0.g 0 rfl)) ?_))
 obtain ⟨s1,h1a,h1b⟩ := run_seq' hr
 refine Rg.wd trivial (w_call Tryz.call220 rfl (D_call hD hp h1a (adds_le h1b hb))) rfl ?_
 rintro _ w1 ⟨hst,hp1,hb1⟩
 replace hv_b0 := var_bw hv_b0 hb1 hF_b0
 replace hbw := hbw.trans (hb1.sub hsub)
 clear hp
 have hp := hp1
 clear hp1
 refine .done ?_
 cases haq1 : (isAt [⟨#[40]⟩] (sig1 s1.rem)) with
 | true =>
  have hq2 := run_condT h1b haq1
  refine .sr (.t2 (t_load ty100 rfl (hv_b0.g 0 rfl)) (Rg.wd trivial (w_buildSlice (bs38_1 _) rfl) rfl ?_))
  rintro _ w2 ⟨bt4,rfl,qt4,hx2,hvt4⟩
  replace hbw := bS hbw hp.und hsub hx2
  replace hp := hp.extw hx2
  replace hv_b0 := hv_b0.ext hx2
  obtain ⟨s2,h2a,h2b⟩ := run_seq' hq2
  obtain rfl := run_bump' h2a
  refine Rg.wd trivial (w_call Tryz.call100 rfl (acc_T hC hp (texts := [⟨#[40]⟩]) hvt4 (by decide) haq1 (adds_le h2b hb))) rfl ?_
  rintro _ w3 ⟨rfl,hp1,hb3⟩
  replace hv_b0 := var_bw hv_b0 hb3 hF_b0
  replace hbw := hbw.trans (hb3.sub hsub)
  clear hp
  have hp := hp1
  clear hp1
  refine .done (.condT rfl (Wp.region (.t2 (t_load ty100 rfl (hv_b0.g 0 rfl)) (.t2 (t_load ty100 rfl (hv_b0.g 0 rfl)) (.t2 (t_makeFuncB (us := [.pointer (some ⟨bP,0,none⟩)]) (vs := []) rfl rfl) (Rg.wd trivial (w_call Tryz.call209 rfl (D_list hC hp (clo_call Tryz.call312 hD (.pattern)) h2b hb)) rfl ?_))))))
  rintro _ w4 ⟨hp1,hb4⟩
  replace hv_b0 := var_bw hv_b0 hb4 hF_b0
  replace hbw := hbw.trans (hb4.sub hsub)
  clear hp
  have hp := hp1
  clear hp1
  refine .done ?_
  exact ⟨[],trivial,hp.sub hsub hbase,hbw⟩
 | false =>
  have hq2 := run_condF h1b haq1
  obtain rfl := run_skip' hq2
  refine .sr (.t2 (t_load ty100 rfl (hv_b0.g 0 rfl)) (Rg.wd trivial (w_buildSlice (bs38_1 _) rfl) rfl ?_))
  rintro _ w2 ⟨bt4,rfl,qt4,hx2,hvt4⟩
  replace hbw := bS hbw hp.und hsub hx2
  replace hp := hp.extw hx2
  replace hv_b0 := hv_b0.ext hx2
  refine Rg.wd trivial (w_call Tryz.call100 rfl (acc_F hC hp (texts := [⟨#[40]⟩]) hvt4 (by decide) haq1)) rfl ?_
  rintro _ w3 ⟨rfl,hp1,hb3⟩
  replace hv_b0 := var_bw hv_b0 hb3 hF_b0
  replace hbw := hbw.trans (hb3.sub hsub)
  clear hp
  have hp := hp1
  clear hp1
  refine .done (.condF rfl (Wp.skip ?_))
  exact ⟨[],trivial,hp.sub hsub hbase,hbw⟩
theorem clo_180 (hC : Cx w0 tv toks) (hD : ∀ m,m < n → DN w0 tv toks m) {b0 : Nat} (hv_b0 : Var w b0 [.pointer (some ⟨bP,0,none⟩)] 100) (hF_b0 : F b0) : Clo w0 tv toks n F bP 313 [] [.pointer (some ⟨b0,0,none⟩)] w (.seq .bump (.call .arguments)) := by
 refine ⟨Tryz.call313,fun w1 hw1 below k s r hp hr hb => ?_⟩
 replace hv_b0 := var_bw hv_b0 hw1 hF_b0
 show Cl Tryz.prog 313 #[.pointer (some ⟨b0,0,none⟩)] w1 _
 have hbw := Bw.refl F w1
 have hsub : ∀ z,F z → F z := fun z h => h
 have hbase := hp.base
 refine Cl.enter Tryz.func313 rfl Tryz.ntmps313 rfl rfl (.sr (.t2 (t_load ty100 rfl (hv_b0.g 0 rfl)) ?_))
 obtain ⟨s1,h1a,h1b⟩ := run_seq' hr
 refine Rg.wd trivial (w_call Tryz.call101 rfl (D_bump hC hp h1a (adds_le h1b hb))) rfl ?_
 rintro _ w1 ⟨hp1,hb1⟩
 replace hv_b0 := var_bw hv_b0 hb1 hF_b0
 replace hbw := hbw.trans (hb1.sub hsub)
 clear hp
 have hp := hp1
 clear hp1
 refine .done (Wp.region (.t2 (t_load ty100 rfl (hv_b0.g 0 rfl)) (Rg.wd trivial (w_call Tryz.call314 rfl (D_call hD hp h1b hb)) rfl ?_)))
 rintro _ w2 ⟨hst,hp1,hb2⟩
 replace hv_b0 := var_bw hv_b0 hb2 hF_b0
 replace hbw := hbw.trans (hb2.sub hsub)
 clear hp
 have hp := hp1
 clear hp1
 refine .done ?_
 exact ⟨[],trivial,hp.sub hsub hbase,hbw⟩
theorem clo_182 (hC : Cx w0 tv toks) (hD : ∀ m,m < n → DN w0 tv toks m) {b0 : Nat} (hv_b0 : Var w b0 [.pointer (some ⟨bP,0,none⟩)] 100) (hF_b0 : F b0) : Clo w0 tv toks n F bP 315 [] [.pointer (some ⟨b0,0,none⟩)] w (.seq .bump (.seq Cmd.expr (Cmd.exp ⟨#[41]⟩))) := by
 refine ⟨Tryz.call315,fun w1 hw1 below k s r hp hr hb => ?_⟩
 replace hv_b0 := var_bw hv_b0 hw1 hF_b0
 show Cl Tryz.prog 315 #[.pointer (some ⟨b0,0,none⟩)] w1 _
 have hbw := Bw.refl F w1
 have hsub : ∀ z,F z → F z := fun z h => h
 have hbase := hp.base
 refine Cl.enter Tryz.func315 rfl Tryz.ntmps315 rfl rfl (.sr (.t2 (t_load ty100 rfl (hv_b0.g 0 rfl)) ?_))
 obtain ⟨s1,h1a,h1b⟩ := run_seq' hr
 refine Rg.wd trivial (w_call Tryz.call101 rfl (D_bump hC hp h1a (adds_le h1b hb))) rfl ?_
 rintro _ w1 ⟨hp1,hb1⟩
 replace hv_b0 := var_bw hv_b0 hb1 hF_b0
 replace hbw := hbw.trans (hb1.sub hsub)
 clear hp
 have hp := hp1
 clear hp1
 refine .done (.sr (.t2 (t_load ty100 rfl (hv_b0.g 0 rfl)) ?_))
 obtain ⟨s2,h2a,h2b⟩ := run_seq' h1b
 refine Rg.wd trivial (w_call Tryz.call158 rfl (D_expr hC hD hp h2a (adds_le h2b hb))) rfl ?_
 rintro _ w2 ⟨hp1,hb2⟩
 replace hv_b0 := var_bw hv_b0 hb2 hF_b0
 replace hbw := hbw.trans (hb2.sub hsub)
 clear hp
 have hp := hp1
 clear hp1
 refine .done (Wp.region (.t2 (t_load ty100 rfl (hv_b0.g 0 rfl)) (Rg.wd trivial (w_call Tryz.call156 rfl (D_exp hC hp h2b hb)) rfl ?_)))
 rintro _ w3 ⟨hp1,hb3⟩
 replace hv_b0 := var_bw hv_b0 hb3 hF_b0
 replace hbw := hbw.trans (hb3.sub hsub)
 clear hp
 have hp := hp1
 clear hp1
 refine .done ?_
 exact ⟨[],trivial,hp.sub hsub hbase,hbw⟩
end
end Go.Proofs.YtiogccmfmjhipaaGreatDoor.Par
