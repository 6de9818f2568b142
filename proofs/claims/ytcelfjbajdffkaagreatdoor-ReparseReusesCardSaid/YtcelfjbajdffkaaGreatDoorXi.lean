/- The parser in memory: the row of the top node's children, and what comes of another row. -/
import Derived.Test.YtcelfjbajdffkaaGreatDoorXf
import Derived.Test.YtcelfjbajdffkaaGreatDoorXh
set_option linter.unusedVariables false
set_option linter.unusedSimpArgs false
namespace Go.Proofs.YtcelfjbajdffkaaGreatDoor.Par
open Go.Gx Go.RowKit Go.Lib
open Lexi (Asc)
variable {w0 : World} {tv : Value} {toks : List Tok} {F : Fs} {w : World} {bP : Nat} {below : List (Int × List Tr)} {k : Int} {s : S}
structure TopRow (w0 : World) (tv : Value) (toks : List Tok) (F : Fs) (w : World) (bP : Nat) (below : List (Int × List Tr)) (k : Int) (s : S) (gs np caps pos : Nat) (cv : Value) (kl : List Gt) (Q : Fs) (old : List Value) : Prop where
 var : Var w bP [tv,.int .i64 pos,.slice (some ⟨gs,0,none⟩) (np + 1) caps] 62
 cap : np + 1 ≤ caps
 small : np ≤ s.adds
 cell : w.cell? ⟨gs,0 + (((np + 1 : Nat) : Int) - 1).toNat * 3 + 2,none⟩ = some cv
 own : w.ownsRow 0 25 3 cv kl.length (encs Gt.cells kl)
 er : erL kl = s.kids
 few : kl.length ≤ s.adds
 ok : ∀ t ∈ kl,GOk Q w t
 undQ : Und Q w.heap.size
 row : Var w gs old 25
 len : np * 3 + 3 ≤ old.length
 ne : gs ≠ bP
 nq : ¬ Q gs
 nk : some gs ≠ cv.ownBlock
 nF : ¬ F gs
 nFk : ∀ b,cv.ownBlock = some b → ¬ F b ∧ ¬ Q b
 next : ∀ (w' : World) (cv' : Value) (kids' : List Gt) (G : Fs) (a' : Nat),Bw G w w' → (∀ z,z < w.heap.size → z ≠ gs → some z ≠ cv'.ownBlock → G z) → Var w' gs (old.take (np * 3 + 2) ++ [cv'] ++ old.drop (np * 3 + 2 + 1)) 25 → w'.ownsRow 0 25 3 cv' kids'.length (encs Gt.cells kids') →
  (∀ b,cv'.ownBlock = some b → cv.ownBlock = some b ∨ w.heap.size ≤ b) → (∀ t ∈ kids',GOk Q w t) → s.adds ≤ a' → kids'.length ≤ a' → Ps w0 tv toks F w' bP below k { s with kids := erL kids',adds := a' } ∧ Bw F w w'
theorem Ps.topRow (h : Ps w0 tv toks F w bP below k s) : ∃ gs np caps pos cv kl Q old,TopRow w0 tv toks F w bP below k s gs np caps pos cv kl Q old := by
 obtain ⟨g,hW,e0,hd,hpos,hm,hks,hfl⟩ := h
 obtain ⟨gP,sv,pos,frs,Q⟩ := g
 simp only at e0 hd hpos hm hks hfl
 subst e0
 obtain ⟨pre,f,rfl,em,e2⟩ := map_snoc hm
 obtain ⟨fk,cv,kl⟩ := f
 injection e2 with e3 e4
 simp only at e3 e4
 have hvar := hW.var
 simp only at hvar
 rcases own_wholeG hW.stk with ⟨_,h0⟩ | ⟨gs,caps,sps,es,_,gs1,gs2,gs3,hS⟩
 ·simp at h0
 simp only at es gs1 gs3 hS
 subst es
 have hlen : (pre ++ [(⟨fk,cv,kl⟩ : Fr)]).length = pre.length + 1 := by simp
 rw [hlen] at gs1 gs3 hvar hW hfl
 have hown := hW.kid ⟨fk,cv,kl⟩ (by simp)
 have hSl : (encs Fr.cells (pre ++ [(⟨fk,cv,kl⟩ : Fr)]) ++ sps).length = (pre.length + 1) * 3 + sps.length := by rw [List.length_append,encs_len Fr.len,hlen]
 have hn := hW.nod
 have hoff := hW.off
 have hn2 := hn
 rw [muts_app] at hn2
 have hn3 := List.nodup_append.1 hn2
 refine ⟨gs,pre.length,caps,pos,cv,kl,Q,_,hvar,gs1,by omega,?_,hown,e4,hks ⟨fk,cv,kl⟩ (by simp),fun t ht => hW.ok ⟨fk,cv,kl⟩ (by simp) t ht,hW.undQ,hS,by rw [hSl]; omega,?_,?_,?_,?_,?_,?_⟩
 ·have := hS.cells _ _ (top_cell (pre := pre) (f := ⟨fk,cv,kl⟩) (sp := sps) 2 (by decide))
  rw [Nat.zero_add] at this
  rw [show 0 + (((pre.length + 1 : Nat) : Int) - 1).toNat * 3 + 2 = pre.length * 3 + 2 by omega]
  exact this
 ·intro e
  simp only [Pg.muts,List.nodup_cons] at hn
  exact hn.1 (by simp [Value.ownBlock,e])
 ·exact (hoff gs (by simp [Pg.muts,Value.ownBlock])).2
 ·intro e
  exact hn3.2.2 gs (by simp [Value.ownBlock]) gs (by simp [← e]) rfl
 ·exact (hoff gs (by simp [Pg.muts,Value.ownBlock])).1
 ·intro b hb
  exact hoff b (by rw [muts_app]; exact List.mem_append_right _ (by simp [hb]))
 ·intro w' cv' kids' G a' hB hG hV hO hfr hok ha hka
  have hV2 : Var w' gs (encs Fr.cells (pre ++ [⟨fk,cv',kids'⟩]) ++ sps) 25 := by
   have := top_set (pre := pre) (f := ⟨fk,cv,kl⟩) (sp := sps) cv'
   rw [show encs Fr.cells (pre ++ [⟨fk,cv',kids'⟩]) = encs Fr.cells (pre ++ [⟨fk,cv',kl⟩]) by simp [encs,Fr.cells],← this]
   exact hV
  obtain ⟨q1,q2⟩ := hW.top hB (fun z h1 h2 h3 => hG z h1 (fun e => h2 (by rw [e]; rfl)) h3) (whole_ownG (Nat.zero_le _) ((encs_len Fr.len _).trans (by simp)) gs1 gs2 gs3 hV2) hO hfr hok
  refine ⟨⟨_,q1,rfl,hd,hpos,?_,fun x hx => ?_,?_⟩,q2⟩
  ·simp only [List.map_append,em,List.map_cons,List.map_nil,e3]
  ·rcases List.mem_append.1 hx with hx | hx
   ·have := hks x (by simp [hx])
    simp only
    omega
   ·obtain rfl : x = ⟨fk,cv',kids'⟩ := by simpa using hx
    exact hka
  ·simp only [List.length_append,List.length_singleton]
   omega
theorem TopRow.drop {gs np caps pos : Nat} {cv : Value} {kl : List Gt} {Q : Fs} {old : List Value} (h : TopRow w0 tv toks F w bP below k s gs np caps pos cv kl Q old) (hne : s.kids ≠ []) : ∃ gk capk,cv = .slice (some ⟨gk,0,none⟩) (kl.length - 1 + 1) capk ∧ kl.length - 1 + 1 ≤ capk ∧ kl.length = kl.length - 1 + 1 ∧
  ∀ w',Upd gs w w' → Var w' gs (old.take (np * 3 + 2) ++ [.slice (some ⟨gk,0,none⟩) (kl.length - 1) capk] ++ old.drop (np * 3 + 2 + 1)) 25 → Ps w0 tv toks F w' bP below k { s with kids := s.kids.dropLast } ∧ Bw F w w' := by
 have hkn : kl ≠ [] := fun e => hne (by rw [← h.er,e]; rfl)
 have hpos : 0 < kl.length := List.length_pos_iff.2 hkn
 rcases own_wholeG h.own with ⟨_,h0⟩ | ⟨gk,capk,spk,ek,_,gk1,gk2,gk3,hK⟩
 ·omega
 refine ⟨gk,capk,by rw [ek]; congr 1; omega,by omega,by omega,fun w' hu hv => ?_⟩
 have hsn : kl = kl.dropLast ++ [kl.getLast hkn] := (List.dropLast_concat_getLast hkn).symm
 have hngk : gk ≠ gs := fun e => h.nk (by rw [ek,e]; rfl)
 have hl : kl.dropLast.length = kl.length - 1 := List.length_dropLast
 have hfw := h.few
 have hK' := hK.upd hu hngk
 obtain ⟨q1,q2⟩ := h.next w' (.slice (some ⟨gk,0,none⟩) (kl.length - 1) capk) kl.dropLast (fun z => z ≠ gs) s.adds (Bw.upd hu fun hh => hh rfl) (fun z _ h2 _ => h2) hv
  (by
   rw [hl]
   refine whole_ownG (sp := (kl.getLast hkn).cells ++ spk) (Nat.zero_le _) ((encs_len Gt.len _).trans (by rw [hl])) (by omega) gk2 (by rw [List.length_append,Gt.len,gk3]; omega) ?_
   rw [← List.append_assoc,← encs_one Gt.cells (kl.getLast hkn),← encs_app,← hsn]
   exact hK')
  (fun b hb => .inl (by rw [ek]; exact hb)) (fun t ht => h.ok t (List.dropLast_subset _ ht)) (Nat.le_refl _) (by rw [hl]; omega)
 refine ⟨?_,q2⟩
 have : erL kl.dropLast = s.kids.dropLast := by rw [← h.er,erL_map,erL_map,List.map_dropLast]
 rw [this] at q1
 exact q1
end Go.Proofs.YtcelfjbajdffkaaGreatDoor.Par
namespace Go.Proofs.YtcelfjbajdffkaaGreatDoor.Par
set_option maxRecDepth 20000
open Go.Gx Go.RowKit Go.Lib
open Lexi (Asc)
section
variable {w0 : World} {tv : Value} {toks : List Tok} {F : Fs} {w w' : World} {bP : Nat} {below : List (Int × List Tr)} {k : Int} {s r : S} {n : Nat}
theorem clo_174_true (hC : Cx w0 tv toks) (hD : ∀ m,m < n → DN w0 tv toks m) {b0 : Nat} (hv_b0 : Var w b0 [.pointer (some ⟨bP,0,none⟩)] 60) (hF_b0 : F b0) {b1 : Nat} (hv_b1 : Var w b1 [.bool true] 4) (hF_b1 : F b1) : Clo w0 tv toks n F bP 174 [] [.pointer (some ⟨b0,0,none⟩),.pointer (some ⟨b1,0,none⟩)] w (.cond (at1 [⟨#[59]⟩]) .bump .skip) := by
 refine ⟨Tryz.call174,fun w1 hw1 below k s r hp hr hb => ?_⟩
 replace hv_b0 := var_bw hv_b0 hw1 hF_b0
 replace hv_b1 := var_bw hv_b1 hw1 hF_b1
 show Cl Tryz.prog 174 #[.pointer (some ⟨b0,0,none⟩),.pointer (some ⟨b1,0,none⟩)] w1 _
 have hbw := Bw.refl F w1
 have hsub : ∀ z,F z → F z := fun z h => h
 have hbase := hp.base
 refine Cl.enter Tryz.func174 rfl Tryz.ntmps174 rfl rfl ?_
 cases haq1 : (isAt [⟨#[59]⟩] (sig1 s.rem)) with
 | true =>
  have hq2 := run_condT hr haq1
  refine .sr (.tq (t_load ty60 rfl (Cells.get (i := 0) hv_b0.cells rfl)) rfl (Rg.wd trivial (w_buildSlice (bs124_1 _) rfl) rfl ?_))
  rintro _ w1 ⟨bt3,rfl,qt3,hx1,hvt3⟩
  replace hbw := hbw.trans (Bw.of hx1 fun z hz => hp.und z (hsub z hz))
  replace hp := hp.extw hx1
  replace hv_b0 := hv_b0.ext hx1
  replace hv_b1 := hv_b1.ext hx1
  obtain rfl := run_bump' hq2
  refine Rg.wd trivial (w_call Tryz.call54 rfl (acc_T hC hp (texts := [⟨#[59]⟩]) hvt3 (by decide) haq1 hb)) rfl ?_
  rintro _ w2 ⟨rfl,hp1,hb2⟩
  replace hv_b0 := var_bw hv_b0 hb2 hF_b0
  replace hv_b1 := var_bw hv_b1 hb2 hF_b1
  replace hbw := hbw.trans (hb2.sub hsub)
  clear hp
  have hp := hp1
  clear hp1
  refine .tq (t_notB rfl) rfl (.mv rfl rfl (.so rfl rfl (.so rfl rfl (.tq (t_pickF rfl rfl) rfl (.done (.condF rfl (Wp.skip ?_)))))))
  exact ⟨[],trivial,hp.sub hsub hbase,hbw⟩
 | false =>
  have hq2 := run_condF hr haq1
  obtain rfl := run_skip' hq2
  refine .sr (.tq (t_load ty60 rfl (Cells.get (i := 0) hv_b0.cells rfl)) rfl (Rg.wd trivial (w_buildSlice (bs124_1 _) rfl) rfl ?_))
  rintro _ w1 ⟨bt3,rfl,qt3,hx1,hvt3⟩
  replace hbw := hbw.trans (Bw.of hx1 fun z hz => hp.und z (hsub z hz))
  replace hp := hp.extw hx1
  replace hv_b0 := hv_b0.ext hx1
  replace hv_b1 := hv_b1.ext hx1
  refine Rg.wd trivial (w_call Tryz.call54 rfl (acc_F hC hp (texts := [⟨#[59]⟩]) hvt3 (by decide) haq1)) rfl ?_
  rintro _ w2 ⟨rfl,hp1,hb2⟩
  replace hv_b0 := var_bw hv_b0 hb2 hF_b0
  replace hv_b1 := var_bw hv_b1 hb2 hF_b1
  replace hbw := hbw.trans (hb2.sub hsub)
  clear hp
  have hp := hp1
  clear hp1
  refine .tq (t_notB rfl) rfl (.mv rfl rfl (.gd (t_load ty4 rfl (Cells.get (i := 0) hv_b1.cells rfl)) rfl (.gd (t_notB rfl) rfl (.tq (t_pickT rfl rfl) rfl (.done (.condF rfl (Wp.skip ?_)))))))
  exact ⟨[],trivial,hp.sub hsub hbase,hbw⟩
theorem clo_174_false (hC : Cx w0 tv toks) (hD : ∀ m,m < n → DN w0 tv toks m) {b0 : Nat} (hv_b0 : Var w b0 [.pointer (some ⟨bP,0,none⟩)] 60) (hF_b0 : F b0) {b1 : Nat} (hv_b1 : Var w b1 [.bool false] 4) (hF_b1 : F b1) : Clo w0 tv toks n F bP 174 [] [.pointer (some ⟨b0,0,none⟩),.pointer (some ⟨b1,0,none⟩)] w (.cond (at1 [⟨#[59]⟩]) .bump (.leaf 108)) := by
 refine ⟨Tryz.call174,fun w1 hw1 below k s r hp hr hb => ?_⟩
 replace hv_b0 := var_bw hv_b0 hw1 hF_b0
 replace hv_b1 := var_bw hv_b1 hw1 hF_b1
 show Cl Tryz.prog 174 #[.pointer (some ⟨b0,0,none⟩),.pointer (some ⟨b1,0,none⟩)] w1 _
 have hbw := Bw.refl F w1
 have hsub : ∀ z,F z → F z := fun z h => h
 have hbase := hp.base
 refine Cl.enter Tryz.func174 rfl Tryz.ntmps174 rfl rfl ?_
 cases haq1 : (isAt [⟨#[59]⟩] (sig1 s.rem)) with
 | true =>
  have hq2 := run_condT hr haq1
  refine .sr (.tq (t_load ty60 rfl (Cells.get (i := 0) hv_b0.cells rfl)) rfl (Rg.wd trivial (w_buildSlice (bs124_1 _) rfl) rfl ?_))
  rintro _ w1 ⟨bt3,rfl,qt3,hx1,hvt3⟩
  replace hbw := hbw.trans (Bw.of hx1 fun z hz => hp.und z (hsub z hz))
  replace hp := hp.extw hx1
  replace hv_b0 := hv_b0.ext hx1
  replace hv_b1 := hv_b1.ext hx1
  obtain rfl := run_bump' hq2
  refine Rg.wd trivial (w_call Tryz.call54 rfl (acc_T hC hp (texts := [⟨#[59]⟩]) hvt3 (by decide) haq1 hb)) rfl ?_
  rintro _ w2 ⟨rfl,hp1,hb2⟩
  replace hv_b0 := var_bw hv_b0 hb2 hF_b0
  replace hv_b1 := var_bw hv_b1 hb2 hF_b1
  replace hbw := hbw.trans (hb2.sub hsub)
  clear hp
  have hp := hp1
  clear hp1
  refine .tq (t_notB rfl) rfl (.mv rfl rfl (.so rfl rfl (.so rfl rfl (.tq (t_pickF rfl rfl) rfl (.done (.condF rfl (Wp.skip ?_)))))))
  exact ⟨[],trivial,hp.sub hsub hbase,hbw⟩
 | false =>
  have hq2 := run_condF hr haq1
  refine .sr (.tq (t_load ty60 rfl (Cells.get (i := 0) hv_b0.cells rfl)) rfl (Rg.wd trivial (w_buildSlice (bs124_1 _) rfl) rfl ?_))
  rintro _ w1 ⟨bt3,rfl,qt3,hx1,hvt3⟩
  replace hbw := hbw.trans (Bw.of hx1 fun z hz => hp.und z (hsub z hz))
  replace hp := hp.extw hx1
  replace hv_b0 := hv_b0.ext hx1
  replace hv_b1 := hv_b1.ext hx1
  refine Rg.wd trivial (w_call Tryz.call54 rfl (acc_F hC hp (texts := [⟨#[59]⟩]) hvt3 (by decide) haq1)) rfl ?_
  rintro _ w2 ⟨rfl,hp1,hb2⟩
  replace hv_b0 := var_bw hv_b0 hb2 hF_b0
  replace hv_b1 := var_bw hv_b1 hb2 hF_b1
  replace hbw := hbw.trans (hb2.sub hsub)
  clear hp
  have hp := hp1
  clear hp1
  refine .tq (t_notB rfl) rfl (.mv rfl rfl (.gd (t_load ty4 rfl (Cells.get (i := 0) hv_b1.cells rfl)) rfl (.gd (t_notB rfl) rfl (.tq (t_pickT rfl rfl) rfl (.done (.condT rfl (Wp.region (.tq (t_load ty60 rfl (Cells.get (i := 0) hv_b0.cells rfl)) rfl (Rg.wd trivial (w_call Tryz.call135 rfl (D_missing hp hq2 hb)) rfl ?_)))))))))
  rintro _ w3 ⟨hp1,hb3⟩
  replace hv_b0 := var_bw hv_b0 hb3 hF_b0
  replace hv_b1 := var_bw hv_b1 hb3 hF_b1
  replace hbw := hbw.trans (hb3.sub hsub)
  clear hp
  have hp := hp1
  clear hp1
  refine .done ?_
  exact ⟨[],trivial,hp.sub hsub hbase,hbw⟩
theorem Ps.val (hC : Cx w0 tv toks) (hp : Ps w0 tv toks F w bP below k s) : V s.rem := by
 obtain ⟨g,_,_,h2,_⟩ := hp
 rw [← h2]
 exact fun t ht => hC.val t (List.mem_of_mem_drop ht)
theorem qk_ne {x : Nm} {q : S} (hx : single x = true) (hpre : Pre x s) (hv : V s.rem) (h : run body n (.call x) s = some q) : q.kids ≠ [] := by
 obtain ⟨m,q',h1,t,g⟩ := (ends x s hv hpre).one hx
 rw [run_unique h h1,g.kids]
 simp
theorem N_statement (hC : Cx w0 tv toks) (hD : ∀ m,m < n → DN w0 tv toks m) (hp : Ps w0 tv toks F w bP below k s) (hr : run body n (body .statement) s = some r) (hb : r.adds ≤ big) :
  Cl Tryz.prog 154 #[.pointer (some ⟨bP,0,none⟩)] w (fun u w' => (Nm.statement = Nm.statement → u = .bool r.flag) ∧ Ps w0 tv toks F w' bP below k r ∧ Bw F w w') := by
 have hbw := Bw.refl F w
 have hsub : ∀ z,F z → F z := fun z h => h
 have hbase := hp.base
 have hr : run body n (.cond (at1 [⟨#[108,101,116]⟩]) (.seq (.node 22 (.call .letS)) (.flag false)) (.cond (at1 [⟨#[119,104,105,108,101]⟩]) (.seq (.node 24 (.seq .bump (.seq Cmd.expr (.call .block)))) (.flag false)) (.cond (at1 [⟨#[114,101,116,117,114,110]⟩]) (.seq (.node 25 (.call .returnS)) (.flag false)) (.cond (at1 [⟨#[105,102]⟩,⟨#[109,97,116,99,104]⟩,⟨#[123]⟩]) (.prog (.call .primary) (.seq .drop (.seq Cmd.unexpected (.flag false))) (.cond (at1 [⟨#[125]⟩]) (.flag true) (.seq (.cond (at1 [⟨#[61]⟩]) (.wrap 23 (.seq .bump (.seq Cmd.expr (Cmd.exp ⟨#[59]⟩)))) (.wrap 26 (.cond (at1 [⟨#[59]⟩]) .bump .skip))) (.flag false)))) (.prog Cmd.expr (.seq .drop (.seq Cmd.unexpected (.flag false))) (.cond (at1 [⟨#[125]⟩]) (.flag true) (.seq (.cond (at1 [⟨#[61]⟩]) (.wrap 23 (.seq .bump (.seq Cmd.expr (Cmd.exp ⟨#[59]⟩)))) (.wrap 26 (.cond (at1 [⟨#[59]⟩]) .bump (.leaf 108)))) (.flag false)))))))) s = some r := hr
 refine Cl.enter Tryz.func154 rfl Tryz.ntmps154 rfl rfl (.sr (Rg.wd trivial (w_boxed rfl rfl) rfl ?_))
 rintro _ w1 ⟨bx154_1,rfl,qbx154_1,hx1,hv_bx154_1⟩
 replace hbw := hbw.trans (Bw.of hx1 fun z hz => hp.und z (hsub z hz))
 obtain ⟨F_bx154_1,hp1,hF_bx154_1,hs1⟩ := hp.box hx1 qbx154_1 hv_bx154_1.lt
 clear hp
 have hp := hp1
 clear hp1
 replace hsub := fun z hz => hs1 z (hsub z hz)
 refine .as rfl rfl (.done (.seq (Wp.block ?_)))
 cases haq1 : (isAt [⟨#[108,101,116]⟩] (sig1 s.rem)) with
 | true =>
  have hq2 := run_condT hr haq1
  refine .sr (.tq (t_load ty60 rfl (Cells.get (i := 0) hv_bx154_1.cells rfl)) rfl (Rg.wd trivial (w_buildSlice (bs124_1 _) rfl) rfl ?_))
  rintro _ w2 ⟨bt8,rfl,qt8,hx2,hvt8⟩
  replace hbw := hbw.trans (Bw.of hx2 fun z hz => hp.und z (hsub z hz))
  replace hp := hp.extw hx2
  replace hv_bx154_1 := hv_bx154_1.ext hx2
  refine Rg.wd trivial (w_call Tryz.call48 rfl (at_ok hC hp (texts := [⟨#[108,101,116]⟩]) hvt8 (by decide))) rfl ?_
  rintro _ w3 ⟨rfl,hx3⟩
  replace hbw := hbw.trans (Bw.of hx3 fun z hz => hp.und z (hsub z hz))
  replace hp := hp.extw hx3
  replace hv_bx154_1 := hv_bx154_1.ext hx3
  try replace hvt8 := hvt8.ext hx3
  rw [show (isAt [⟨#[108,101,116]⟩] (sig1 s.rem)) = true from haq1]
  refine .as rfl rfl (.done (.condT rfl (.sr (.tq (t_load ty60 rfl (Cells.get (i := 0) hv_bx154_1.cells rfl)) rfl (.tq (t_load ty60 rfl (Cells.get (i := 0) hv_bx154_1.cells rfl)) rfl (.tq (t_makeFuncB (us := [.pointer (some ⟨bP,0,none⟩)]) (vs := []) rfl rfl) rfl ?_))))))
  obtain ⟨s1,h1a,h1b⟩ := run_seq' hq2
  refine Rg.wd trivial (w_call Tryz.call52 rfl (D_node hp (clo_call Tryz.call169 hD (.letS)) h1a (adds_le h1b hb))) rfl ?_
  rintro _ w4 ⟨hp1,hb4⟩
  replace hv_bx154_1 := var_bw hv_bx154_1 hb4 hF_bx154_1
  replace hbw := hbw.trans (hb4.sub hsub)
  clear hp
  have hp := hp1
  clear hp1
  refine .done ?_
  have hp1 : Ps w0 tv toks F_bx154_1 w4 bP below k r := by rw [run_flag' h1b]; exact hp
  clear hp
  have hp := hp1
  clear hp1
  have hfl_r : r.flag = false := by rw [run_flag' h1b]
  refine .sr (.as rfl rfl (.done (Wp.ret ?_)))
  exact ⟨[_],⟨rfl,trivial⟩,(fun _ => by rw [hfl_r]; rfl),hp.sub hsub hbase,hbw⟩
 | false =>
  have hq2 := run_condF hr haq1
  refine .sr (.tq (t_load ty60 rfl (Cells.get (i := 0) hv_bx154_1.cells rfl)) rfl (Rg.wd trivial (w_buildSlice (bs124_1 _) rfl) rfl ?_))
  rintro _ w2 ⟨bt8,rfl,qt8,hx2,hvt8⟩
  replace hbw := hbw.trans (Bw.of hx2 fun z hz => hp.und z (hsub z hz))
  replace hp := hp.extw hx2
  replace hv_bx154_1 := hv_bx154_1.ext hx2
  refine Rg.wd trivial (w_call Tryz.call48 rfl (at_ok hC hp (texts := [⟨#[108,101,116]⟩]) hvt8 (by decide))) rfl ?_
  rintro _ w3 ⟨rfl,hx3⟩
  replace hbw := hbw.trans (Bw.of hx3 fun z hz => hp.und z (hsub z hz))
  replace hp := hp.extw hx3
  replace hv_bx154_1 := hv_bx154_1.ext hx3
  try replace hvt8 := hvt8.ext hx3
  rw [show (isAt [⟨#[108,101,116]⟩] (sig1 s.rem)) = false from haq1]
  refine .as rfl rfl (.done (.condF rfl ?_))
  cases haq3 : (isAt [⟨#[119,104,105,108,101]⟩] (sig1 s.rem)) with
  | true =>
   have hq4 := run_condT hq2 haq3
   refine .sr (.tq (t_load ty60 rfl (Cells.get (i := 0) hv_bx154_1.cells rfl)) rfl (Rg.wd trivial (w_buildSlice (bs124_1 _) rfl) rfl ?_))
   rintro _ w4 ⟨bt16,rfl,qt16,hx4,hvt16⟩
   replace hbw := hbw.trans (Bw.of hx4 fun z hz => hp.und z (hsub z hz))
   replace hp := hp.extw hx4
   replace hv_bx154_1 := hv_bx154_1.ext hx4
   try replace hvt8 := hvt8.ext hx4
   refine Rg.wd trivial (w_call Tryz.call48 rfl (at_ok hC hp (texts := [⟨#[119,104,105,108,101]⟩]) hvt16 (by decide))) rfl ?_
   rintro _ w5 ⟨rfl,hx5⟩
   replace hbw := hbw.trans (Bw.of hx5 fun z hz => hp.und z (hsub z hz))
   replace hp := hp.extw hx5
   replace hv_bx154_1 := hv_bx154_1.ext hx5
   try replace hvt8 := hvt8.ext hx5
   try replace hvt16 := hvt16.ext hx5
   rw [show (isAt [⟨#[119,104,105,108,101]⟩] (sig1 s.rem)) = true from haq3]
   refine .as rfl rfl (.done (.condT rfl (.sr (.tq (t_load ty60 rfl (Cells.get (i := 0) hv_bx154_1.cells rfl)) rfl (.tq (t_makeFuncB (us := []) (vs := [.pointer (some ⟨bx154_1,0,none⟩)]) rfl rfl) rfl ?_)))))
   obtain ⟨s1,h1a,h1b⟩ := run_seq' hq4
   refine Rg.wd trivial (w_call Tryz.call52 rfl (D_node hp (clo_170 hC hD hv_bx154_1 hF_bx154_1) h1a (adds_le h1b hb))) rfl ?_
   rintro _ w6 ⟨hp1,hb6⟩
   replace hv_bx154_1 := var_bw hv_bx154_1 hb6 hF_bx154_1
   replace hbw := hbw.trans (hb6.sub hsub)
   clear hp
   have hp := hp1
   clear hp1
   refine .done ?_
   have hp1 : Ps w0 tv toks F_bx154_1 w6 bP below k r := by rw [run_flag' h1b]; exact hp
   clear hp
   have hp := hp1
   clear hp1
   have hfl_r : r.flag = false := by rw [run_flag' h1b]
   refine .sr (.as rfl rfl (.done (Wp.ret ?_)))
   exact ⟨[_],⟨rfl,trivial⟩,(fun _ => by rw [hfl_r]; rfl),hp.sub hsub hbase,hbw⟩
  | false =>
   have hq4 := run_condF hq2 haq3
   refine .sr (.tq (t_load ty60 rfl (Cells.get (i := 0) hv_bx154_1.cells rfl)) rfl (Rg.wd trivial (w_buildSlice (bs124_1 _) rfl) rfl ?_))
   rintro _ w4 ⟨bt16,rfl,qt16,hx4,hvt16⟩
   replace hbw := hbw.trans (Bw.of hx4 fun z hz => hp.und z (hsub z hz))
   replace hp := hp.extw hx4
   replace hv_bx154_1 := hv_bx154_1.ext hx4
   try replace hvt8 := hvt8.ext hx4
   refine Rg.wd trivial (w_call Tryz.call48 rfl (at_ok hC hp (texts := [⟨#[119,104,105,108,101]⟩]) hvt16 (by decide))) rfl ?_
   rintro _ w5 ⟨rfl,hx5⟩
   replace hbw := hbw.trans (Bw.of hx5 fun z hz => hp.und z (hsub z hz))
   replace hp := hp.extw hx5
   replace hv_bx154_1 := hv_bx154_1.ext hx5
   try replace hvt8 := hvt8.ext hx5
   try replace hvt16 := hvt16.ext hx5
   rw [show (isAt [⟨#[119,104,105,108,101]⟩] (sig1 s.rem)) = false from haq3]
   refine .as rfl rfl (.done (.condF rfl ?_))
   cases haq5 : (isAt [⟨#[114,101,116,117,114,110]⟩] (sig1 s.rem)) with
   | true =>
    have hq6 := run_condT hq4 haq5
    refine .sr (.tq (t_load ty60 rfl (Cells.get (i := 0) hv_bx154_1.cells rfl)) rfl (Rg.wd trivial (w_buildSlice (bs124_1 _) rfl) rfl ?_))
    rintro _ w6 ⟨bt23,rfl,qt23,hx6,hvt23⟩
    replace hbw := hbw.trans (Bw.of hx6 fun z hz => hp.und z (hsub z hz))
    replace hp := hp.extw hx6
    replace hv_bx154_1 := hv_bx154_1.ext hx6
    try replace hvt8 := hvt8.ext hx6
    try replace hvt16 := hvt16.ext hx6
    refine Rg.wd trivial (w_call Tryz.call48 rfl (at_ok hC hp (texts := [⟨#[114,101,116,117,114,110]⟩]) hvt23 (by decide))) rfl ?_
    rintro _ w7 ⟨rfl,hx7⟩
    replace hbw := hbw.trans (Bw.of hx7 fun z hz => hp.und z (hsub z hz))
    replace hp := hp.extw hx7
    replace hv_bx154_1 := hv_bx154_1.ext hx7
    try replace hvt8 := hvt8.ext hx7
    try replace hvt16 := hvt16.ext hx7
    try replace hvt23 := hvt23.ext hx7
    rw [show (isAt [⟨#[114,101,116,117,114,110]⟩] (sig1 s.rem)) = true from haq5]
    refine .as rfl rfl (.done (.condT rfl (.sr (.tq (t_load ty60 rfl (Cells.get (i := 0) hv_bx154_1.cells rfl)) rfl (.tq (t_load ty60 rfl (Cells.get (i := 0) hv_bx154_1.cells rfl)) rfl (.tq (t_makeFuncB (us := [.pointer (some ⟨bP,0,none⟩)]) (vs := []) rfl rfl) rfl ?_))))))
    obtain ⟨s1,h1a,h1b⟩ := run_seq' hq6
    refine Rg.wd trivial (w_call Tryz.call52 rfl (D_node hp (clo_call Tryz.call171 hD (.returnS)) h1a (adds_le h1b hb))) rfl ?_
    rintro _ w8 ⟨hp1,hb8⟩
    replace hv_bx154_1 := var_bw hv_bx154_1 hb8 hF_bx154_1
    replace hbw := hbw.trans (hb8.sub hsub)
    clear hp
    have hp := hp1
    clear hp1
    refine .done ?_
    have hp1 : Ps w0 tv toks F_bx154_1 w8 bP below k r := by rw [run_flag' h1b]; exact hp
    clear hp
    have hp := hp1
    clear hp1
    have hfl_r : r.flag = false := by rw [run_flag' h1b]
    refine .sr (.as rfl rfl (.done (Wp.ret ?_)))
    exact ⟨[_],⟨rfl,trivial⟩,(fun _ => by rw [hfl_r]; rfl),hp.sub hsub hbase,hbw⟩
   | false =>
    have hq6 := run_condF hq4 haq5
    refine .sr (.tq (t_load ty60 rfl (Cells.get (i := 0) hv_bx154_1.cells rfl)) rfl (Rg.wd trivial (w_buildSlice (bs124_1 _) rfl) rfl ?_))
    rintro _ w6 ⟨bt23,rfl,qt23,hx6,hvt23⟩
    replace hbw := hbw.trans (Bw.of hx6 fun z hz => hp.und z (hsub z hz))
    replace hp := hp.extw hx6
    replace hv_bx154_1 := hv_bx154_1.ext hx6
    try replace hvt8 := hvt8.ext hx6
    try replace hvt16 := hvt16.ext hx6
    refine Rg.wd trivial (w_call Tryz.call48 rfl (at_ok hC hp (texts := [⟨#[114,101,116,117,114,110]⟩]) hvt23 (by decide))) rfl ?_
    rintro _ w7 ⟨rfl,hx7⟩
    replace hbw := hbw.trans (Bw.of hx7 fun z hz => hp.und z (hsub z hz))
    replace hp := hp.extw hx7
    replace hv_bx154_1 := hv_bx154_1.ext hx7
    try replace hvt8 := hvt8.ext hx7
    try replace hvt16 := hvt16.ext hx7
    try replace hvt23 := hvt23.ext hx7
    rw [show (isAt [⟨#[114,101,116,117,114,110]⟩] (sig1 s.rem)) = false from haq5]
    refine .as rfl rfl (.done (.condF rfl (Wp.skip (.sr (.tq (t_load ty60 rfl (Cells.get (i := 0) hv_bx154_1.cells rfl)) rfl (.tq (t_nilCheck rfl) rfl (.tq (t_fieldAddr fa62_1 rfl) rfl ?_)))))))
    obtain ⟨gp1,_,_,hg1,hl1,hvp1⟩ := hp.var
    have hgl1 := congrArg List.length hg1
    rw [List.length_drop] at hgl1
    refine .tq (t_load ty3 rfl (Cells.get (i := 1) hvp1.cells rfl)) rfl (.as rfl rfl (.done ?_))
    cases haq7 : (isAt [⟨#[105,102]⟩,⟨#[109,97,116,99,104]⟩,⟨#[123]⟩] (sig1 s.rem)) with
    | true =>
     have hq8 := run_condT hq6 haq7
     refine .sr (.tq (t_load ty60 rfl (Cells.get (i := 0) hv_bx154_1.cells rfl)) rfl (Rg.wd trivial (w_buildSlice (bs124_3 _ _ _) rfl) rfl ?_))
     rintro _ w8 ⟨bt34,rfl,qt34,hx8,hvt34⟩
     replace hbw := hbw.trans (Bw.of hx8 fun z hz => hp.und z (hsub z hz))
     replace hp := hp.extw hx8
     replace hv_bx154_1 := hv_bx154_1.ext hx8
     try replace hvt8 := hvt8.ext hx8
     try replace hvt16 := hvt16.ext hx8
     try replace hvt23 := hvt23.ext hx8
     refine Rg.wd trivial (w_call Tryz.call48 rfl (at_ok hC hp (texts := [⟨#[105,102]⟩,⟨#[109,97,116,99,104]⟩,⟨#[123]⟩]) hvt34 (by decide))) rfl ?_
     rintro _ w9 ⟨rfl,hx9⟩
     replace hbw := hbw.trans (Bw.of hx9 fun z hz => hp.und z (hsub z hz))
     replace hp := hp.extw hx9
     replace hv_bx154_1 := hv_bx154_1.ext hx9
     try replace hvt8 := hvt8.ext hx9
     try replace hvt16 := hvt16.ext hx9
     try replace hvt23 := hvt23.ext hx9
     try replace hvt34 := hvt34.ext hx9
     rw [show (isAt [⟨#[105,102]⟩,⟨#[109,97,116,99,104]⟩,⟨#[123]⟩] (sig1 s.rem)) = true from haq7]
     have hlo_bx154_4 := hp.ext.le
     have hlt_bx154_4_bx154_1 := hv_bx154_1.lt
     have hun_bx154_4 := fun z hz => hp.und z (hsub z hz)
     refine Rg.wd trivial (w_new Tryz.zeroValue4 rfl) rfl ?_
     rintro _ w10 ⟨bx154_4,rfl,qbx154_4,hx10,hv_bx154_4⟩
     replace hbw := hbw.trans (Bw.of hx10 fun z hz => hp.und z (hsub z hz))
     obtain ⟨F_bx154_4,hp1,hF_bx154_4,hs10⟩ := hp.box hx10 qbx154_4 hv_bx154_4.lt
     clear hp
     have hp := hp1
     clear hp1
     replace hsub := fun z hz => hs10 z (hsub z hz)
     replace hv_bx154_1 := hv_bx154_1.ext hx10
     replace hF_bx154_1 := hs10 _ hF_bx154_1
     try replace hvt8 := hvt8.ext hx10
     try replace hvt16 := hvt16.ext hx10
     try replace hvt23 := hvt23.ext hx10
     try replace hvt34 := hvt34.ext hx10
     have hn_bx154_4 : ¬ F bx154_4 := fun hh => by have := hun_bx154_4 _ hh; omega
     have hw_bx154_4 : w0.heap.size ≤ bx154_4 := by omega
     have hne_bx154_4_bx154_1 : bx154_1 ≠ bx154_4 := by omega
     refine Rg.wn trivial (w_put hv_bx154_4 rfl rfl rfl ty4 rfl rfl) ?_
     rintro _ w11 ⟨hu11,hvn⟩
     replace hbw := hbw.trans (Bw.upd hu11 hn_bx154_4)
     replace hp := hp.updF hu11 hF_bx154_4 hw_bx154_4
     clear hv_bx154_4
     have hv_bx154_4 := hvn
     clear hvn
     replace hv_bx154_1 := hv_bx154_1.upd hu11 hne_bx154_4_bx154_1
     clear hvt8
     clear hvt16
     clear hvt23
     clear hvt34
     refine .done (.seq (.sr (.tq (t_load ty4 rfl (Cells.get (i := 0) hv_bx154_4.cells rfl)) rfl (.done (.condT rfl (Wp.region (.tq (t_load ty60 rfl (Cells.get (i := 0) hv_bx154_1.cells rfl)) rfl ?_)))))))
     have hvs := hp.val hC
     obtain ⟨q,hq,hsame,hmore⟩ := run_prog' hq8
     have hqb : q.adds ≤ big := by
      by_cases e : q.rem.length = s.rem.length
      ·exact adds_le (hsame e) hb
      ·exact adds_le (hmore e) hb
     refine Rg.wd trivial (w_call Tryz.call172 rfl (D_call hD hp hq hqb)) rfl ?_
     rintro _ w12 ⟨hst,hp1,hb12⟩
     replace hv_bx154_1 := var_bw hv_bx154_1 hb12 hF_bx154_1
     replace hv_bx154_4 := var_bw hv_bx154_4 hb12 hF_bx154_4
     replace hbw := hbw.trans (hb12.sub hsub)
     clear hp
     have hp := hp1
     clear hp1
     refine .done (.seq (Wp.block ?_))
     cases haq9 : (decide (q.rem.length = s.rem.length)) with
     | true =>
      refine .sr (.tq (t_load ty60 rfl (Cells.get (i := 0) hv_bx154_1.cells rfl)) rfl (.tq (t_nilCheck rfl) rfl (.tq (t_fieldAddr fa62_1 rfl) rfl ?_)))
      obtain ⟨gp2,_,_,hg2,hl2,hvp2⟩ := hp.var
      have hgl2 := congrArg List.length hg2
      rw [List.length_drop] at hgl2
      refine .tq (t_load ty3 rfl (Cells.get (i := 1) hvp2.cells rfl)) rfl (.mv rfl rfl ?_)
      refine .tq (t_eqlT rfl rfl (by have := of_decide_eq_true haq9; omega)) rfl ?_
      refine .as rfl rfl (.done (.condT rfl ?_))
      have hsa := hsame (of_decide_eq_true haq9)
      have hqk : q.kids ≠ [] := by
       exact qk_ne (x := .primary) rfl trivial hvs hq
      obtain ⟨gs,np,caps,ppos,cvk,kl,Q,old,tr0⟩ := hp.topRow
      refine Wp.seq (Wp.draw [0,1,2,3,4,5,6,7,8,9,10,11] [] mixed (by kernel_rfl) (by kernel_rfl) ?_)
      intro w13 hx13 _
      replace hbw := hbw.trans (Bw.of hx13 fun z hz => hp.und z (hsub z hz))
      replace hp := hp.extw hx13
      replace hv_bx154_1 := hv_bx154_1.ext hx13
      replace hv_bx154_4 := hv_bx154_4.ext hx13
      obtain ⟨gs,np,caps,ppos,cvk,kl,Q,old,tr⟩ := hp.topRow
      have trcap := tr.cap
      have trs := tr.small
      have hqb2 : q.adds ≤ 1000000000 := hqb
      refine .tq (t_load ty60 rfl (Cells.get (i := 0) hv_bx154_1.cells rfl)) rfl (.tq (t_nilCheck rfl) rfl (.tq (t_fieldAddr fa62_2 rfl) rfl (.tq (t_load ty23 rfl (Cells.get (i := 2) tr.var.cells rfl)) rfl (.tq (t_load ty60 rfl (Cells.get (i := 0) hv_bx154_1.cells rfl)) rfl (.tq (t_nilCheck rfl) rfl (.tq (t_fieldAddr fa62_2 rfl) rfl (.tq (t_load ty23 rfl (Cells.get (i := 2) tr.var.cells rfl)) rfl (.tq (t_lenS Tryz.underlying23 rfl) rfl ?_))))))))
      refine .tq (t_subI rfl rfl (by omega)) rfl ?_
      refine .tq (t_indexAddrL Tryz.underlying23 ty25 rfl rfl (by omega)) rfl ?_
      refine .as rfl rfl (.done ?_)
      refine Wp.seq (Wp.draw [0,1,2,3,4,5,6,7,8,9,10,11,12,13,14] [0] mixed (by kernel_rfl) (by kernel_rfl) ?_)
      intro w14 hx14 _
      replace hbw := hbw.trans (Bw.of hx14 fun z hz => hp.und z (hsub z hz))
      replace hp := hp.extw hx14
      replace hv_bx154_1 := hv_bx154_1.ext hx14
      replace hv_bx154_4 := hv_bx154_4.ext hx14
      obtain ⟨gs2,np2,caps2,ppos2,cvk2,kl2,Q2,old2,tr2⟩ := hp.topRow
      have e := Option.some.inj ((tr.var.ext hx14).symm.trans tr2.var)
      simp at e
      obtain ⟨_,rfl,rfl,rfl⟩ := e
      clear tr
      have tr := tr2
      clear tr2
      obtain ⟨gk,capk,rfl,hck,hkk,trd⟩ := tr.drop hqk
      have trc := tr.cell
      have trf := tr.few
      refine .mv rfl rfl (.mv rfl rfl (.tq (t_nilCheck rfl) rfl (.tq (t_fieldAddr fa25_2 rfl) rfl (.tq (t_load ty23 rfl trc) rfl (.mv rfl rfl (.tq (t_nilCheck rfl) rfl (.tq (t_fieldAddr fa25_2 rfl) rfl (.tq (t_load ty23 rfl trc) rfl (.tq (t_lenS Tryz.underlying23 rfl) rfl ?_)))))))))
      refine .tq (t_subI rfl rfl (by omega)) rfl ?_
      refine .tq (t_sliceL Tryz.underlying23 ty25 rfl rfl rfl (by omega)) rfl ?_
      have e5 : Value.slice (some (if capk = (0 : Int).toNat then (⟨gk,0,none⟩ : Addr) else ⟨gk,0 + (0 : Int).toNat * 3,none⟩)) ((((kl2.length - 1 + 1 : Nat) : Int) - 1).toNat - (0 : Int).toNat) (capk - (0 : Int).toNat) = .slice (some ⟨gk,0,none⟩) (kl2.length - 1) capk := by
       rw [if_neg (by simp; omega),show ((((kl2.length - 1 + 1 : Nat) : Int) - 1).toNat - (0 : Int).toNat) = kl2.length - 1 by omega,show capk - (0 : Int).toNat = capk by omega,show 0 + (0 : Int).toNat * 3 = 0 by omega]
      rw [e5]
      refine .tq (t_nilCheck rfl) rfl (.tq (t_fieldAddr fa25_2 rfl) rfl ?_)
      have hoS : 0 + (((np + 1 : Nat) : Int) - 1).toNat * 3 + 2 = np * 3 + 2 := by omega
      have trl := tr.len
      refine Rg.wnB trivial rfl (w_putAt (cs := [.slice (some ⟨gk,0,none⟩) (kl2.length - 1) capk]) tr.row rfl rfl rfl ty23 (by rw [hoS]; simp only [List.length_singleton]; omega) (by intro u hu; simp at hu; subst hu; rfl)) (by rfl) ?_
      rintro _ w15 ⟨hu15,hvS⟩
      rw [hoS] at hvS
      obtain ⟨hpd,hbd⟩ := trd _ hu15 hvS
      replace hbw := hbw.trans (hbd.sub hsub)
      replace hv_bx154_1 := var_bw hv_bx154_1 hbd hF_bx154_1
      replace hv_bx154_4 := var_bw hv_bx154_4 hbd hF_bx154_4
      refine .done ?_
      obtain ⟨s1,h1a,h1b⟩ := run_seq' hsa
      have hp1 : Ps w0 tv toks F_bx154_4 w15 bP below k s1 := by rw [run_drop' h1a]; exact hpd
      clear hp
      have hp := hp1
      clear hp1
      refine .sr (.tq (t_load ty60 rfl (Cells.get (i := 0) hv_bx154_1.cells rfl)) rfl ?_)
      obtain ⟨s2,h2a,h2b⟩ := run_seq' h1b
      refine Rg.wd trivial (w_call Tryz.call156 rfl (D_unexp hC hp h2a (adds_le h2b hb))) rfl ?_
      rintro _ w16 ⟨hp1,hb16⟩
      replace hv_bx154_1 := var_bw hv_bx154_1 hb16 hF_bx154_1
      replace hv_bx154_4 := var_bw hv_bx154_4 hb16 hF_bx154_4
      replace hbw := hbw.trans (hb16.sub hsub)
      clear hp
      have hp := hp1
      clear hp1
      refine .done ?_
      have hp1 : Ps w0 tv toks F_bx154_4 w16 bP below k r := by rw [run_flag' h2b]; exact hp
      clear hp
      have hp := hp1
      clear hp1
      have hfl_r : r.flag = false := by rw [run_flag' h2b]
      refine .sr (.as rfl rfl (.done (Wp.ret ?_)))
      exact ⟨[_],⟨rfl,trivial⟩,(fun _ => by rw [hfl_r]; rfl),hp.sub hsub hbase,hbw⟩
     | false =>
      refine .sr (.tq (t_load ty60 rfl (Cells.get (i := 0) hv_bx154_1.cells rfl)) rfl (.tq (t_nilCheck rfl) rfl (.tq (t_fieldAddr fa62_1 rfl) rfl ?_)))
      obtain ⟨gp2,_,_,hg2,hl2,hvp2⟩ := hp.var
      have hgl2 := congrArg List.length hg2
      rw [List.length_drop] at hgl2
      refine .tq (t_load ty3 rfl (Cells.get (i := 1) hvp2.cells rfl)) rfl (.mv rfl rfl ?_)
      refine .tq (t_eqlF rfl rfl (by have := of_decide_eq_false haq9; omega)) rfl ?_
      refine .as rfl rfl (.done (.condF rfl ?_))
      have hmo := hmore (of_decide_eq_false haq9)
      cases haq10 : (isAt [⟨#[125]⟩] (sig1 q.rem)) with
      | true =>
       have hq11 := run_condT hmo haq10
       refine .sr (.tq (t_load ty60 rfl (Cells.get (i := 0) hv_bx154_1.cells rfl)) rfl (Rg.wd trivial (w_buildSlice (bs124_1 _) rfl) rfl ?_))
       rintro _ w13 ⟨bt80,rfl,qt80,hx13,hvt80⟩
       replace hbw := hbw.trans (Bw.of hx13 fun z hz => hp.und z (hsub z hz))
       replace hp := hp.extw hx13
       replace hv_bx154_1 := hv_bx154_1.ext hx13
       replace hv_bx154_4 := hv_bx154_4.ext hx13
       refine Rg.wd trivial (w_call Tryz.call48 rfl (at_ok hC hp (texts := [⟨#[125]⟩]) hvt80 (by decide))) rfl ?_
       rintro _ w14 ⟨rfl,hx14⟩
       replace hbw := hbw.trans (Bw.of hx14 fun z hz => hp.und z (hsub z hz))
       replace hp := hp.extw hx14
       replace hv_bx154_1 := hv_bx154_1.ext hx14
       replace hv_bx154_4 := hv_bx154_4.ext hx14
       try replace hvt80 := hvt80.ext hx14
       rw [show (isAt [⟨#[125]⟩] (sig1 q.rem)) = true from haq10]
       refine .as rfl rfl (.done ?_)
       have hp1 : Ps w0 tv toks F_bx154_4 w14 bP below k r := by rw [run_flag' hq11]; exact hp
       clear hp
       have hp := hp1
       clear hp1
       have hfl_r : r.flag = true := by rw [run_flag' hq11]
       refine .condT rfl (.sr (.as rfl rfl (.done (Wp.ret ?_))))
       exact ⟨[_],⟨rfl,trivial⟩,(fun _ => by rw [hfl_r]; rfl),hp.sub hsub hbase,hbw⟩
      | false =>
       have hq11 := run_condF hmo haq10
       obtain ⟨s1,h1a,h1b⟩ := run_seq' hq11
       refine .sr (.tq (t_load ty60 rfl (Cells.get (i := 0) hv_bx154_1.cells rfl)) rfl (Rg.wd trivial (w_buildSlice (bs124_1 _) rfl) rfl ?_))
       rintro _ w13 ⟨bt80,rfl,qt80,hx13,hvt80⟩
       replace hbw := hbw.trans (Bw.of hx13 fun z hz => hp.und z (hsub z hz))
       replace hp := hp.extw hx13
       replace hv_bx154_1 := hv_bx154_1.ext hx13
       replace hv_bx154_4 := hv_bx154_4.ext hx13
       refine Rg.wd trivial (w_call Tryz.call48 rfl (at_ok hC hp (texts := [⟨#[125]⟩]) hvt80 (by decide))) rfl ?_
       rintro _ w14 ⟨rfl,hx14⟩
       replace hbw := hbw.trans (Bw.of hx14 fun z hz => hp.und z (hsub z hz))
       replace hp := hp.extw hx14
       replace hv_bx154_1 := hv_bx154_1.ext hx14
       replace hv_bx154_4 := hv_bx154_4.ext hx14
       try replace hvt80 := hvt80.ext hx14
       rw [show (isAt [⟨#[125]⟩] (sig1 q.rem)) = false from haq10]
       refine .as rfl rfl (.done (.condF rfl ?_))
       cases haq12 : (isAt [⟨#[61]⟩] (sig1 q.rem)) with
       | true =>
        have hq13 := run_condT h1a haq12
        refine .sr (.tq (t_load ty60 rfl (Cells.get (i := 0) hv_bx154_1.cells rfl)) rfl (Rg.wd trivial (w_buildSlice (bs124_1 _) rfl) rfl ?_))
        rintro _ w15 ⟨bt84,rfl,qt84,hx15,hvt84⟩
        replace hbw := hbw.trans (Bw.of hx15 fun z hz => hp.und z (hsub z hz))
        replace hp := hp.extw hx15
        replace hv_bx154_1 := hv_bx154_1.ext hx15
        replace hv_bx154_4 := hv_bx154_4.ext hx15
        try replace hvt80 := hvt80.ext hx15
        refine Rg.wd trivial (w_call Tryz.call48 rfl (at_ok hC hp (texts := [⟨#[61]⟩]) hvt84 (by decide))) rfl ?_
        rintro _ w16 ⟨rfl,hx16⟩
        replace hbw := hbw.trans (Bw.of hx16 fun z hz => hp.und z (hsub z hz))
        replace hp := hp.extw hx16
        replace hv_bx154_1 := hv_bx154_1.ext hx16
        replace hv_bx154_4 := hv_bx154_4.ext hx16
        try replace hvt80 := hvt80.ext hx16
        try replace hvt84 := hvt84.ext hx16
        rw [show (isAt [⟨#[61]⟩] (sig1 q.rem)) = true from haq12]
        refine .as rfl rfl (.done (.condT rfl (Wp.region (.tq (t_load ty60 rfl (Cells.get (i := 0) hv_bx154_1.cells rfl)) rfl (.tq (t_makeFuncB (us := []) (vs := [.pointer (some ⟨bx154_1,0,none⟩)]) rfl rfl) rfl (Rg.wd trivial (w_call Tryz.call163 rfl (D_wrap hp (clo_173 hC hD hv_bx154_1 hF_bx154_1) hq13 (adds_le h1b hb))) rfl ?_))))))
        rintro _ w17 ⟨hp1,hb17⟩
        replace hv_bx154_1 := var_bw hv_bx154_1 hb17 hF_bx154_1
        replace hv_bx154_4 := var_bw hv_bx154_4 hb17 hF_bx154_4
        replace hbw := hbw.trans (hb17.sub hsub)
        clear hp
        have hp := hp1
        clear hp1
        refine .done ?_
        have hp1 : Ps w0 tv toks F_bx154_4 w17 bP below k r := by rw [run_flag' h1b]; exact hp
        clear hp
        have hp := hp1
        clear hp1
        have hfl_r : r.flag = false := by rw [run_flag' h1b]
        refine .sr (.as rfl rfl (.done (Wp.ret ?_)))
        exact ⟨[_],⟨rfl,trivial⟩,(fun _ => by rw [hfl_r]; rfl),hp.sub hsub hbase,hbw⟩
       | false =>
        have hq13 := run_condF h1a haq12
        refine .sr (.tq (t_load ty60 rfl (Cells.get (i := 0) hv_bx154_1.cells rfl)) rfl (Rg.wd trivial (w_buildSlice (bs124_1 _) rfl) rfl ?_))
        rintro _ w15 ⟨bt84,rfl,qt84,hx15,hvt84⟩
        replace hbw := hbw.trans (Bw.of hx15 fun z hz => hp.und z (hsub z hz))
        replace hp := hp.extw hx15
        replace hv_bx154_1 := hv_bx154_1.ext hx15
        replace hv_bx154_4 := hv_bx154_4.ext hx15
        try replace hvt80 := hvt80.ext hx15
        refine Rg.wd trivial (w_call Tryz.call48 rfl (at_ok hC hp (texts := [⟨#[61]⟩]) hvt84 (by decide))) rfl ?_
        rintro _ w16 ⟨rfl,hx16⟩
        replace hbw := hbw.trans (Bw.of hx16 fun z hz => hp.und z (hsub z hz))
        replace hp := hp.extw hx16
        replace hv_bx154_1 := hv_bx154_1.ext hx16
        replace hv_bx154_4 := hv_bx154_4.ext hx16
        try replace hvt80 := hvt80.ext hx16
        try replace hvt84 := hvt84.ext hx16
        rw [show (isAt [⟨#[61]⟩] (sig1 q.rem)) = false from haq12]
        refine .as rfl rfl (.done (.condF rfl (Wp.region (.tq (t_load ty60 rfl (Cells.get (i := 0) hv_bx154_1.cells rfl)) rfl (.tq (t_makeFuncB (us := []) (vs := [.pointer (some ⟨bx154_1,0,none⟩),.pointer (some ⟨bx154_4,0,none⟩)]) rfl rfl) rfl (Rg.wd trivial (w_call Tryz.call163 rfl (D_wrap hp (clo_174_true hC hD hv_bx154_1 hF_bx154_1 hv_bx154_4 hF_bx154_4) hq13 (adds_le h1b hb))) rfl ?_))))))
        rintro _ w17 ⟨hp1,hb17⟩
        replace hv_bx154_1 := var_bw hv_bx154_1 hb17 hF_bx154_1
        replace hv_bx154_4 := var_bw hv_bx154_4 hb17 hF_bx154_4
        replace hbw := hbw.trans (hb17.sub hsub)
        clear hp
        have hp := hp1
        clear hp1
        refine .done ?_
        have hp1 : Ps w0 tv toks F_bx154_4 w17 bP below k r := by rw [run_flag' h1b]; exact hp
        clear hp
        have hp := hp1
        clear hp1
        have hfl_r : r.flag = false := by rw [run_flag' h1b]
        refine .sr (.as rfl rfl (.done (Wp.ret ?_)))
        exact ⟨[_],⟨rfl,trivial⟩,(fun _ => by rw [hfl_r]; rfl),hp.sub hsub hbase,hbw⟩
    | false =>
     have hq8 := run_condF hq6 haq7
     refine .sr (.tq (t_load ty60 rfl (Cells.get (i := 0) hv_bx154_1.cells rfl)) rfl (Rg.wd trivial (w_buildSlice (bs124_3 _ _ _) rfl) rfl ?_))
     rintro _ w8 ⟨bt34,rfl,qt34,hx8,hvt34⟩
     replace hbw := hbw.trans (Bw.of hx8 fun z hz => hp.und z (hsub z hz))
     replace hp := hp.extw hx8
     replace hv_bx154_1 := hv_bx154_1.ext hx8
     try replace hvt8 := hvt8.ext hx8
     try replace hvt16 := hvt16.ext hx8
     try replace hvt23 := hvt23.ext hx8
     refine Rg.wd trivial (w_call Tryz.call48 rfl (at_ok hC hp (texts := [⟨#[105,102]⟩,⟨#[109,97,116,99,104]⟩,⟨#[123]⟩]) hvt34 (by decide))) rfl ?_
     rintro _ w9 ⟨rfl,hx9⟩
     replace hbw := hbw.trans (Bw.of hx9 fun z hz => hp.und z (hsub z hz))
     replace hp := hp.extw hx9
     replace hv_bx154_1 := hv_bx154_1.ext hx9
     try replace hvt8 := hvt8.ext hx9
     try replace hvt16 := hvt16.ext hx9
     try replace hvt23 := hvt23.ext hx9
     try replace hvt34 := hvt34.ext hx9
     rw [show (isAt [⟨#[105,102]⟩,⟨#[109,97,116,99,104]⟩,⟨#[123]⟩] (sig1 s.rem)) = false from haq7]
     have hlo_bx154_4 := hp.ext.le
     have hlt_bx154_4_bx154_1 := hv_bx154_1.lt
     have hun_bx154_4 := fun z hz => hp.und z (hsub z hz)
     refine Rg.wd trivial (w_new Tryz.zeroValue4 rfl) rfl ?_
     rintro _ w10 ⟨bx154_4,rfl,qbx154_4,hx10,hv_bx154_4⟩
     replace hbw := hbw.trans (Bw.of hx10 fun z hz => hp.und z (hsub z hz))
     obtain ⟨F_bx154_4,hp1,hF_bx154_4,hs10⟩ := hp.box hx10 qbx154_4 hv_bx154_4.lt
     clear hp
     have hp := hp1
     clear hp1
     replace hsub := fun z hz => hs10 z (hsub z hz)
     replace hv_bx154_1 := hv_bx154_1.ext hx10
     replace hF_bx154_1 := hs10 _ hF_bx154_1
     try replace hvt8 := hvt8.ext hx10
     try replace hvt16 := hvt16.ext hx10
     try replace hvt23 := hvt23.ext hx10
     try replace hvt34 := hvt34.ext hx10
     have hn_bx154_4 : ¬ F bx154_4 := fun hh => by have := hun_bx154_4 _ hh; omega
     have hw_bx154_4 : w0.heap.size ≤ bx154_4 := by omega
     have hne_bx154_4_bx154_1 : bx154_1 ≠ bx154_4 := by omega
     refine Rg.wn trivial (w_put hv_bx154_4 rfl rfl rfl ty4 rfl rfl) ?_
     rintro _ w11 ⟨hu11,hvn⟩
     replace hbw := hbw.trans (Bw.upd hu11 hn_bx154_4)
     replace hp := hp.updF hu11 hF_bx154_4 hw_bx154_4
     clear hv_bx154_4
     have hv_bx154_4 := hvn
     clear hvn
     replace hv_bx154_1 := hv_bx154_1.upd hu11 hne_bx154_4_bx154_1
     clear hvt8
     clear hvt16
     clear hvt23
     clear hvt34
     refine .done (.seq (.sr (.tq (t_load ty4 rfl (Cells.get (i := 0) hv_bx154_4.cells rfl)) rfl (.done (.condF rfl (Wp.region (.tq (t_load ty60 rfl (Cells.get (i := 0) hv_bx154_1.cells rfl)) rfl ?_)))))))
     have hvs := hp.val hC
     obtain ⟨q,hq,hsame,hmore⟩ := run_prog' hq8
     have hqb : q.adds ≤ big := by
      by_cases e : q.rem.length = s.rem.length
      ·exact adds_le (hsame e) hb
      ·exact adds_le (hmore e) hb
     refine Rg.wd trivial (w_call Tryz.call112 rfl (D_expr hC hD hp hq hqb)) rfl ?_
     rintro _ w12 ⟨hp1,hb12⟩
     replace hv_bx154_1 := var_bw hv_bx154_1 hb12 hF_bx154_1
     replace hv_bx154_4 := var_bw hv_bx154_4 hb12 hF_bx154_4
     replace hbw := hbw.trans (hb12.sub hsub)
     clear hp
     have hp := hp1
     clear hp1
     refine .done (.seq (Wp.block ?_))
     cases haq9 : (decide (q.rem.length = s.rem.length)) with
     | true =>
      refine .sr (.tq (t_load ty60 rfl (Cells.get (i := 0) hv_bx154_1.cells rfl)) rfl (.tq (t_nilCheck rfl) rfl (.tq (t_fieldAddr fa62_1 rfl) rfl ?_)))
      obtain ⟨gp2,_,_,hg2,hl2,hvp2⟩ := hp.var
      have hgl2 := congrArg List.length hg2
      rw [List.length_drop] at hgl2
      refine .tq (t_load ty3 rfl (Cells.get (i := 1) hvp2.cells rfl)) rfl (.mv rfl rfl ?_)
      refine .tq (t_eqlT rfl rfl (by have := of_decide_eq_true haq9; omega)) rfl ?_
      refine .as rfl rfl (.done (.condT rfl ?_))
      have hsa := hsame (of_decide_eq_true haq9)
      have hqk : q.kids ≠ [] := by
       exact qk_ne (x := .binary 0) rfl (Nat.zero_le 5) hvs hq
      obtain ⟨gs,np,caps,ppos,cvk,kl,Q,old,tr0⟩ := hp.topRow
      refine Wp.seq (Wp.draw [0,1,2,3,4,5,6,7,8,9,10,11] [] mixed (by kernel_rfl) (by kernel_rfl) ?_)
      intro w13 hx13 _
      replace hbw := hbw.trans (Bw.of hx13 fun z hz => hp.und z (hsub z hz))
      replace hp := hp.extw hx13
      replace hv_bx154_1 := hv_bx154_1.ext hx13
      replace hv_bx154_4 := hv_bx154_4.ext hx13
      obtain ⟨gs,np,caps,ppos,cvk,kl,Q,old,tr⟩ := hp.topRow
      have trcap := tr.cap
      have trs := tr.small
      have hqb2 : q.adds ≤ 1000000000 := hqb
      refine .tq (t_load ty60 rfl (Cells.get (i := 0) hv_bx154_1.cells rfl)) rfl (.tq (t_nilCheck rfl) rfl (.tq (t_fieldAddr fa62_2 rfl) rfl (.tq (t_load ty23 rfl (Cells.get (i := 2) tr.var.cells rfl)) rfl (.tq (t_load ty60 rfl (Cells.get (i := 0) hv_bx154_1.cells rfl)) rfl (.tq (t_nilCheck rfl) rfl (.tq (t_fieldAddr fa62_2 rfl) rfl (.tq (t_load ty23 rfl (Cells.get (i := 2) tr.var.cells rfl)) rfl (.tq (t_lenS Tryz.underlying23 rfl) rfl ?_))))))))
      refine .tq (t_subI rfl rfl (by omega)) rfl ?_
      refine .tq (t_indexAddrL Tryz.underlying23 ty25 rfl rfl (by omega)) rfl ?_
      refine .as rfl rfl (.done ?_)
      refine Wp.seq (Wp.draw [0,1,2,3,4,5,6,7,8,9,10,11,12,13,14] [0] mixed (by kernel_rfl) (by kernel_rfl) ?_)
      intro w14 hx14 _
      replace hbw := hbw.trans (Bw.of hx14 fun z hz => hp.und z (hsub z hz))
      replace hp := hp.extw hx14
      replace hv_bx154_1 := hv_bx154_1.ext hx14
      replace hv_bx154_4 := hv_bx154_4.ext hx14
      obtain ⟨gs2,np2,caps2,ppos2,cvk2,kl2,Q2,old2,tr2⟩ := hp.topRow
      have e := Option.some.inj ((tr.var.ext hx14).symm.trans tr2.var)
      simp at e
      obtain ⟨_,rfl,rfl,rfl⟩ := e
      clear tr
      have tr := tr2
      clear tr2
      obtain ⟨gk,capk,rfl,hck,hkk,trd⟩ := tr.drop hqk
      have trc := tr.cell
      have trf := tr.few
      refine .mv rfl rfl (.mv rfl rfl (.tq (t_nilCheck rfl) rfl (.tq (t_fieldAddr fa25_2 rfl) rfl (.tq (t_load ty23 rfl trc) rfl (.mv rfl rfl (.tq (t_nilCheck rfl) rfl (.tq (t_fieldAddr fa25_2 rfl) rfl (.tq (t_load ty23 rfl trc) rfl (.tq (t_lenS Tryz.underlying23 rfl) rfl ?_)))))))))
      refine .tq (t_subI rfl rfl (by omega)) rfl ?_
      refine .tq (t_sliceL Tryz.underlying23 ty25 rfl rfl rfl (by omega)) rfl ?_
      have e5 : Value.slice (some (if capk = (0 : Int).toNat then (⟨gk,0,none⟩ : Addr) else ⟨gk,0 + (0 : Int).toNat * 3,none⟩)) ((((kl2.length - 1 + 1 : Nat) : Int) - 1).toNat - (0 : Int).toNat) (capk - (0 : Int).toNat) = .slice (some ⟨gk,0,none⟩) (kl2.length - 1) capk := by
       rw [if_neg (by simp; omega),show ((((kl2.length - 1 + 1 : Nat) : Int) - 1).toNat - (0 : Int).toNat) = kl2.length - 1 by omega,show capk - (0 : Int).toNat = capk by omega,show 0 + (0 : Int).toNat * 3 = 0 by omega]
      rw [e5]
      refine .tq (t_nilCheck rfl) rfl (.tq (t_fieldAddr fa25_2 rfl) rfl ?_)
      have hoS : 0 + (((np + 1 : Nat) : Int) - 1).toNat * 3 + 2 = np * 3 + 2 := by omega
      have trl := tr.len
      refine Rg.wnB trivial rfl (w_putAt (cs := [.slice (some ⟨gk,0,none⟩) (kl2.length - 1) capk]) tr.row rfl rfl rfl ty23 (by rw [hoS]; simp only [List.length_singleton]; omega) (by intro u hu; simp at hu; subst hu; rfl)) (by rfl) ?_
      rintro _ w15 ⟨hu15,hvS⟩
      rw [hoS] at hvS
      obtain ⟨hpd,hbd⟩ := trd _ hu15 hvS
      replace hbw := hbw.trans (hbd.sub hsub)
      replace hv_bx154_1 := var_bw hv_bx154_1 hbd hF_bx154_1
      replace hv_bx154_4 := var_bw hv_bx154_4 hbd hF_bx154_4
      refine .done ?_
      obtain ⟨s1,h1a,h1b⟩ := run_seq' hsa
      have hp1 : Ps w0 tv toks F_bx154_4 w15 bP below k s1 := by rw [run_drop' h1a]; exact hpd
      clear hp
      have hp := hp1
      clear hp1
      refine .sr (.tq (t_load ty60 rfl (Cells.get (i := 0) hv_bx154_1.cells rfl)) rfl ?_)
      obtain ⟨s2,h2a,h2b⟩ := run_seq' h1b
      refine Rg.wd trivial (w_call Tryz.call156 rfl (D_unexp hC hp h2a (adds_le h2b hb))) rfl ?_
      rintro _ w16 ⟨hp1,hb16⟩
      replace hv_bx154_1 := var_bw hv_bx154_1 hb16 hF_bx154_1
      replace hv_bx154_4 := var_bw hv_bx154_4 hb16 hF_bx154_4
      replace hbw := hbw.trans (hb16.sub hsub)
      clear hp
      have hp := hp1
      clear hp1
      refine .done ?_
      have hp1 : Ps w0 tv toks F_bx154_4 w16 bP below k r := by rw [run_flag' h2b]; exact hp
      clear hp
      have hp := hp1
      clear hp1
      have hfl_r : r.flag = false := by rw [run_flag' h2b]
      refine .sr (.as rfl rfl (.done (Wp.ret ?_)))
      exact ⟨[_],⟨rfl,trivial⟩,(fun _ => by rw [hfl_r]; rfl),hp.sub hsub hbase,hbw⟩
     | false =>
      refine .sr (.tq (t_load ty60 rfl (Cells.get (i := 0) hv_bx154_1.cells rfl)) rfl (.tq (t_nilCheck rfl) rfl (.tq (t_fieldAddr fa62_1 rfl) rfl ?_)))
      obtain ⟨gp2,_,_,hg2,hl2,hvp2⟩ := hp.var
      have hgl2 := congrArg List.length hg2
      rw [List.length_drop] at hgl2
      refine .tq (t_load ty3 rfl (Cells.get (i := 1) hvp2.cells rfl)) rfl (.mv rfl rfl ?_)
      refine .tq (t_eqlF rfl rfl (by have := of_decide_eq_false haq9; omega)) rfl ?_
      refine .as rfl rfl (.done (.condF rfl ?_))
      have hmo := hmore (of_decide_eq_false haq9)
      cases haq10 : (isAt [⟨#[125]⟩] (sig1 q.rem)) with
      | true =>
       have hq11 := run_condT hmo haq10
       refine .sr (.tq (t_load ty60 rfl (Cells.get (i := 0) hv_bx154_1.cells rfl)) rfl (Rg.wd trivial (w_buildSlice (bs124_1 _) rfl) rfl ?_))
       rintro _ w13 ⟨bt80,rfl,qt80,hx13,hvt80⟩
       replace hbw := hbw.trans (Bw.of hx13 fun z hz => hp.und z (hsub z hz))
       replace hp := hp.extw hx13
       replace hv_bx154_1 := hv_bx154_1.ext hx13
       replace hv_bx154_4 := hv_bx154_4.ext hx13
       refine Rg.wd trivial (w_call Tryz.call48 rfl (at_ok hC hp (texts := [⟨#[125]⟩]) hvt80 (by decide))) rfl ?_
       rintro _ w14 ⟨rfl,hx14⟩
       replace hbw := hbw.trans (Bw.of hx14 fun z hz => hp.und z (hsub z hz))
       replace hp := hp.extw hx14
       replace hv_bx154_1 := hv_bx154_1.ext hx14
       replace hv_bx154_4 := hv_bx154_4.ext hx14
       try replace hvt80 := hvt80.ext hx14
       rw [show (isAt [⟨#[125]⟩] (sig1 q.rem)) = true from haq10]
       refine .as rfl rfl (.done ?_)
       have hp1 : Ps w0 tv toks F_bx154_4 w14 bP below k r := by rw [run_flag' hq11]; exact hp
       clear hp
       have hp := hp1
       clear hp1
       have hfl_r : r.flag = true := by rw [run_flag' hq11]
       refine .condT rfl (.sr (.as rfl rfl (.done (Wp.ret ?_))))
       exact ⟨[_],⟨rfl,trivial⟩,(fun _ => by rw [hfl_r]; rfl),hp.sub hsub hbase,hbw⟩
      | false =>
       have hq11 := run_condF hmo haq10
       obtain ⟨s1,h1a,h1b⟩ := run_seq' hq11
       refine .sr (.tq (t_load ty60 rfl (Cells.get (i := 0) hv_bx154_1.cells rfl)) rfl (Rg.wd trivial (w_buildSlice (bs124_1 _) rfl) rfl ?_))
       rintro _ w13 ⟨bt80,rfl,qt80,hx13,hvt80⟩
       replace hbw := hbw.trans (Bw.of hx13 fun z hz => hp.und z (hsub z hz))
       replace hp := hp.extw hx13
       replace hv_bx154_1 := hv_bx154_1.ext hx13
       replace hv_bx154_4 := hv_bx154_4.ext hx13
       refine Rg.wd trivial (w_call Tryz.call48 rfl (at_ok hC hp (texts := [⟨#[125]⟩]) hvt80 (by decide))) rfl ?_
       rintro _ w14 ⟨rfl,hx14⟩
       replace hbw := hbw.trans (Bw.of hx14 fun z hz => hp.und z (hsub z hz))
       replace hp := hp.extw hx14
       replace hv_bx154_1 := hv_bx154_1.ext hx14
       replace hv_bx154_4 := hv_bx154_4.ext hx14
       try replace hvt80 := hvt80.ext hx14
       rw [show (isAt [⟨#[125]⟩] (sig1 q.rem)) = false from haq10]
       refine .as rfl rfl (.done (.condF rfl ?_))
       cases haq12 : (isAt [⟨#[61]⟩] (sig1 q.rem)) with
       | true =>
        have hq13 := run_condT h1a haq12
        refine .sr (.tq (t_load ty60 rfl (Cells.get (i := 0) hv_bx154_1.cells rfl)) rfl (Rg.wd trivial (w_buildSlice (bs124_1 _) rfl) rfl ?_))
        rintro _ w15 ⟨bt84,rfl,qt84,hx15,hvt84⟩
        replace hbw := hbw.trans (Bw.of hx15 fun z hz => hp.und z (hsub z hz))
        replace hp := hp.extw hx15
        replace hv_bx154_1 := hv_bx154_1.ext hx15
        replace hv_bx154_4 := hv_bx154_4.ext hx15
        try replace hvt80 := hvt80.ext hx15
        refine Rg.wd trivial (w_call Tryz.call48 rfl (at_ok hC hp (texts := [⟨#[61]⟩]) hvt84 (by decide))) rfl ?_
        rintro _ w16 ⟨rfl,hx16⟩
        replace hbw := hbw.trans (Bw.of hx16 fun z hz => hp.und z (hsub z hz))
        replace hp := hp.extw hx16
        replace hv_bx154_1 := hv_bx154_1.ext hx16
        replace hv_bx154_4 := hv_bx154_4.ext hx16
        try replace hvt80 := hvt80.ext hx16
        try replace hvt84 := hvt84.ext hx16
        rw [show (isAt [⟨#[61]⟩] (sig1 q.rem)) = true from haq12]
        refine .as rfl rfl (.done (.condT rfl (Wp.region (.tq (t_load ty60 rfl (Cells.get (i := 0) hv_bx154_1.cells rfl)) rfl (.tq (t_makeFuncB (us := []) (vs := [.pointer (some ⟨bx154_1,0,none⟩)]) rfl rfl) rfl (Rg.wd trivial (w_call Tryz.call163 rfl (D_wrap hp (clo_173 hC hD hv_bx154_1 hF_bx154_1) hq13 (adds_le h1b hb))) rfl ?_))))))
        rintro _ w17 ⟨hp1,hb17⟩
        replace hv_bx154_1 := var_bw hv_bx154_1 hb17 hF_bx154_1
        replace hv_bx154_4 := var_bw hv_bx154_4 hb17 hF_bx154_4
        replace hbw := hbw.trans (hb17.sub hsub)
        clear hp
        have hp := hp1
        clear hp1
        refine .done ?_
        have hp1 : Ps w0 tv toks F_bx154_4 w17 bP below k r := by rw [run_flag' h1b]; exact hp
        clear hp
        have hp := hp1
        clear hp1
        have hfl_r : r.flag = false := by rw [run_flag' h1b]
        refine .sr (.as rfl rfl (.done (Wp.ret ?_)))
        exact ⟨[_],⟨rfl,trivial⟩,(fun _ => by rw [hfl_r]; rfl),hp.sub hsub hbase,hbw⟩
       | false =>
        have hq13 := run_condF h1a haq12
        refine .sr (.tq (t_load ty60 rfl (Cells.get (i := 0) hv_bx154_1.cells rfl)) rfl (Rg.wd trivial (w_buildSlice (bs124_1 _) rfl) rfl ?_))
        rintro _ w15 ⟨bt84,rfl,qt84,hx15,hvt84⟩
        replace hbw := hbw.trans (Bw.of hx15 fun z hz => hp.und z (hsub z hz))
        replace hp := hp.extw hx15
        replace hv_bx154_1 := hv_bx154_1.ext hx15
        replace hv_bx154_4 := hv_bx154_4.ext hx15
        try replace hvt80 := hvt80.ext hx15
        refine Rg.wd trivial (w_call Tryz.call48 rfl (at_ok hC hp (texts := [⟨#[61]⟩]) hvt84 (by decide))) rfl ?_
        rintro _ w16 ⟨rfl,hx16⟩
        replace hbw := hbw.trans (Bw.of hx16 fun z hz => hp.und z (hsub z hz))
        replace hp := hp.extw hx16
        replace hv_bx154_1 := hv_bx154_1.ext hx16
        replace hv_bx154_4 := hv_bx154_4.ext hx16
        try replace hvt80 := hvt80.ext hx16
        try replace hvt84 := hvt84.ext hx16
        rw [show (isAt [⟨#[61]⟩] (sig1 q.rem)) = false from haq12]
        refine .as rfl rfl (.done (.condF rfl (Wp.region (.tq (t_load ty60 rfl (Cells.get (i := 0) hv_bx154_1.cells rfl)) rfl (.tq (t_makeFuncB (us := []) (vs := [.pointer (some ⟨bx154_1,0,none⟩),.pointer (some ⟨bx154_4,0,none⟩)]) rfl rfl) rfl (Rg.wd trivial (w_call Tryz.call163 rfl (D_wrap hp (clo_174_false hC hD hv_bx154_1 hF_bx154_1 hv_bx154_4 hF_bx154_4) hq13 (adds_le h1b hb))) rfl ?_))))))
        rintro _ w17 ⟨hp1,hb17⟩
        replace hv_bx154_1 := var_bw hv_bx154_1 hb17 hF_bx154_1
        replace hv_bx154_4 := var_bw hv_bx154_4 hb17 hF_bx154_4
        replace hbw := hbw.trans (hb17.sub hsub)
        clear hp
        have hp := hp1
        clear hp1
        refine .done ?_
        have hp1 : Ps w0 tv toks F_bx154_4 w17 bP below k r := by rw [run_flag' h1b]; exact hp
        clear hp
        have hp := hp1
        clear hp1
        have hfl_r : r.flag = false := by rw [run_flag' h1b]
        refine .sr (.as rfl rfl (.done (Wp.ret ?_)))
        exact ⟨[_],⟨rfl,trivial⟩,(fun _ => by rw [hfl_r]; rfl),hp.sub hsub hbase,hbw⟩
end
end Go.Proofs.YtcelfjbajdffkaaGreatDoor.Par
namespace Go.Proofs.YtcelfjbajdffkaaGreatDoor.Par
set_option maxRecDepth 20000
open Go.Gx Go.RowKit Go.Lib
open Lexi (Asc)
section
variable {w0 : World} {tv : Value} {toks : List Tok} {F : Fs} {w w' : World} {bP : Nat} {below : List (Int × List Tr)} {k : Int} {s r : S} {n : Nat}
theorem N_item (hC : Cx w0 tv toks) (hD : ∀ m,m < n → DN w0 tv toks m) (hp : Ps w0 tv toks F w bP below k s) (hr : run body n (body .item) s = some r) (hb : r.adds ≤ big) :
  Cl Tryz.prog 26 #[.pointer (some ⟨bP,0,none⟩)] w (fun u w' => (Nm.item = Nm.statement → u = .bool r.flag) ∧ Ps w0 tv toks F w' bP below k r ∧ Bw F w w') := by
 have hbw := Bw.refl F w
 have hsub : ∀ z,F z → F z := fun z h => h
 have hbase := hp.base
 obtain ⟨kd,hkd⟩ : ∃ kd,itemKind (sig1 s.rem) (sig1 (left s.rem)) = kd := ⟨_,rfl⟩
 replace hr : run body n (if kd = 0 then .call .skipTo else (.node kd (.seq (Cmd.acc ⟨#[112,117,98]⟩) (.seq .bump (.call (.itemBody kd)))))) s = some r := by
  have := run_sel' (f := itemKind) (c := fun kd => if kd = 0 then .call .skipTo else (.node kd (.seq (Cmd.acc ⟨#[112,117,98]⟩) (.seq .bump (.call (.itemBody kd)))))) hr
  rw [hkd] at this
  exact this
 refine Cl.enter Tryz.func26 rfl Tryz.ntmps26 rfl rfl (.sr (Rg.wd trivial (w_boxed rfl rfl) rfl ?_))
 rintro _ w1 ⟨bx26_1,rfl,qbx26_1,hx1,hv_bx26_1⟩
 replace hbw := hbw.trans (Bw.of hx1 fun z hz => hp.und z (hsub z hz))
 obtain ⟨F_bx26_1,hp1,hF_bx26_1,hs1⟩ := hp.box hx1 qbx26_1 hv_bx26_1.lt
 clear hp
 have hp := hp1
 clear hp1
 replace hsub := fun z hz => hs1 z (hsub z hz)
 refine .done (.sr (.tq (t_load ty60 rfl (Cells.get (i := 0) hv_bx26_1.cells rfl)) rfl (Rg.wd trivial (w_call Tryz.call47 rfl (hp.peek hC)) rfl ?_)))
 rintro _ w2 ⟨rfl,hx2⟩
 replace hbw := hbw.trans (Bw.of hx2 fun z hz => hp.und z (hsub z hz))
 replace hp := hp.extw hx2
 replace hv_bx26_1 := hv_bx26_1.ext hx2
 have hlo_bx26_2 := hp.ext.le
 have hlt_bx26_2_bx26_1 := hv_bx26_1.lt
 have hun_bx26_2 := fun z hz => hp.und z (hsub z hz)
 refine Rg.wd trivial (w_new Tryz.zeroValue55 rfl) rfl ?_
 rintro _ w3 ⟨bx26_2,rfl,qbx26_2,hx3,hv_bx26_2⟩
 replace hbw := hbw.trans (Bw.of hx3 fun z hz => hp.und z (hsub z hz))
 obtain ⟨F_bx26_2,hp1,hF_bx26_2,hs3⟩ := hp.box hx3 qbx26_2 hv_bx26_2.lt
 clear hp
 have hp := hp1
 clear hp1
 replace hsub := fun z hz => hs3 z (hsub z hz)
 replace hv_bx26_1 := hv_bx26_1.ext hx3
 replace hF_bx26_1 := hs3 _ hF_bx26_1
 have hn_bx26_2 : ¬ F bx26_2 := fun hh => by have := hun_bx26_2 _ hh; omega
 have hw_bx26_2 : w0.heap.size ≤ bx26_2 := by omega
 have hne_bx26_2_bx26_1 : bx26_1 ≠ bx26_2 := by omega
 refine Rg.wn trivial (w_put hv_bx26_2 rfl rfl rfl ty55 rfl rfl) ?_
 rintro _ w4 ⟨hu4,hvn⟩
 replace hbw := hbw.trans (Bw.upd hu4 hn_bx26_2)
 replace hp := hp.updF hu4 hF_bx26_2 hw_bx26_2
 clear hv_bx26_2
 have hv_bx26_2 := hvn
 clear hvn
 replace hv_bx26_1 := hv_bx26_1.upd hu4 hne_bx26_2_bx26_1
 refine .done (.seq ?_)
 cases haq1 : (isAt [⟨#[112,117,98]⟩] (sig1 s.rem)) with
 | true =>
  refine .sr (.tq (t_load ty60 rfl (Cells.get (i := 0) hv_bx26_1.cells rfl)) rfl (Rg.wd trivial (w_buildSlice (bs124_1 _) rfl) rfl ?_))
  rintro _ w5 ⟨bt7,rfl,qt7,hx5,hvt7⟩
  replace hbw := hbw.trans (Bw.of hx5 fun z hz => hp.und z (hsub z hz))
  replace hp := hp.extw hx5
  replace hv_bx26_1 := hv_bx26_1.ext hx5
  replace hv_bx26_2 := hv_bx26_2.ext hx5
  refine Rg.wd trivial (w_call Tryz.call48 rfl (at_ok hC hp (texts := [⟨#[112,117,98]⟩]) hvt7 (by decide))) rfl ?_
  rintro _ w6 ⟨rfl,hx6⟩
  replace hbw := hbw.trans (Bw.of hx6 fun z hz => hp.und z (hsub z hz))
  replace hp := hp.extw hx6
  replace hv_bx26_1 := hv_bx26_1.ext hx6
  replace hv_bx26_2 := hv_bx26_2.ext hx6
  try replace hvt7 := hvt7.ext hx6
  rw [show (isAt [⟨#[112,117,98]⟩] (sig1 s.rem)) = true from haq1]
  refine .done (.condT rfl (Wp.region (.tq (t_load ty60 rfl (Cells.get (i := 0) hv_bx26_1.cells rfl)) rfl (Rg.wd trivial (w_call Tryz.call49 rfl (lookahead_ok hC hp)) rfl ?_))))
  rintro _ w7 ⟨bk10,rfl,hk10,hx7⟩
  replace hbw := hbw.trans (Bw.of hx7 fun z hz => hp.und z (hsub z hz))
  replace hp := hp.extw hx7
  replace hv_bx26_1 := hv_bx26_1.ext hx7
  replace hv_bx26_2 := hv_bx26_2.ext hx7
  try replace hvt7 := hvt7.ext hx7
  refine Rg.wd trivial (w_call Tryz.call47 rfl (hk10.peek hC)) rfl ?_
  rintro _ w8 ⟨rfl,hx8⟩
  replace hbw := hbw.trans (Bw.of hx8 fun z hz => hp.und z (hsub z hz))
  replace hp := hp.extw hx8
  replace hv_bx26_1 := hv_bx26_1.ext hx8
  replace hv_bx26_2 := hv_bx26_2.ext hx8
  try replace hvt7 := hvt7.ext hx8
  try replace hk10 := hk10.extw hx8
  rw [look_rem]
  refine Rg.wn trivial (w_put hv_bx26_2 rfl rfl rfl ty55 rfl rfl) ?_
  rintro _ w9 ⟨hu9,hvn⟩
  replace hbw := hbw.trans (Bw.upd hu9 hn_bx26_2)
  replace hp := hp.updF hu9 hF_bx26_2 hw_bx26_2
  clear hv_bx26_2
  have hv_bx26_2 := hvn
  clear hvn
  replace hv_bx26_1 := hv_bx26_1.upd hu9 hne_bx26_2_bx26_1
  clear hvt7
  refine .done (.sr (.tq (t_fieldAddr fa55_1 rfl) rfl (.tq (t_load ty9 rfl (Cells.get (i := 1) hv_bx26_2.cells rfl)) rfl (Rg.wd trivial (w_call Tryz.call50 rfl (itemKind_ok (hC.asc.ext hp.ext))) rfl ?_))))
  rintro _ w10 ⟨rfl,hx10⟩
  replace hbw := hbw.trans (Bw.of hx10 fun z hz => hp.und z (hsub z hz))
  replace hp := hp.extw hx10
  replace hv_bx26_1 := hv_bx26_1.ext hx10
  replace hv_bx26_2 := hv_bx26_2.ext hx10
  try replace hk10 := hk10.extw hx10
  have hlo_bx26_3 := hp.ext.le
  have hlt_bx26_3_bx26_1 := hv_bx26_1.lt
  have hlt_bx26_3_bx26_2 := hv_bx26_2.lt
  have hun_bx26_3 := fun z hz => hp.und z (hsub z hz)
  refine Rg.wd trivial (w_new Tryz.zeroValue3 rfl) rfl ?_
  rintro _ w11 ⟨bx26_3,rfl,qbx26_3,hx11,hv_bx26_3⟩
  replace hbw := hbw.trans (Bw.of hx11 fun z hz => hp.und z (hsub z hz))
  obtain ⟨F_bx26_3,hp1,hF_bx26_3,hs11⟩ := hp.box hx11 qbx26_3 hv_bx26_3.lt
  clear hp
  have hp := hp1
  clear hp1
  replace hsub := fun z hz => hs11 z (hsub z hz)
  replace hv_bx26_1 := hv_bx26_1.ext hx11
  replace hF_bx26_1 := hs11 _ hF_bx26_1
  replace hv_bx26_2 := hv_bx26_2.ext hx11
  replace hF_bx26_2 := hs11 _ hF_bx26_2
  have hn_bx26_3 : ¬ F bx26_3 := fun hh => by have := hun_bx26_3 _ hh; omega
  have hw_bx26_3 : w0.heap.size ≤ bx26_3 := by omega
  have hne_bx26_3_bx26_1 : bx26_1 ≠ bx26_3 := by omega
  have hne_bx26_3_bx26_2 : bx26_2 ≠ bx26_3 := by omega
  refine Rg.wn trivial (w_put hv_bx26_3 rfl rfl rfl ty3 rfl rfl) ?_
  rintro _ w12 ⟨hu12,hvn⟩
  replace hbw := hbw.trans (Bw.upd hu12 hn_bx26_3)
  replace hp := hp.updF hu12 hF_bx26_3 hw_bx26_3
  clear hv_bx26_3
  have hv_bx26_3 := hvn
  clear hvn
  replace hv_bx26_1 := hv_bx26_1.upd hu12 hne_bx26_3_bx26_1
  replace hv_bx26_2 := hv_bx26_2.upd hu12 hne_bx26_3_bx26_2
  refine .done (.seq ?_)
  cases haq2 : (kindNo (sig1 (left s.rem)).2 == 0) with
  | true =>
   refine .sr (.tq (t_load ty3 rfl (Cells.get (i := 0) hv_bx26_3.cells rfl)) rfl (.tq (t_eqlT rfl rfl (beq_iff_eq.1 haq2)) rfl (.mv rfl rfl (.so rfl rfl (.so rfl rfl (.so rfl rfl (.tq (t_pickT rfl rfl) rfl (.done (.condT rfl ?_)))))))))
   have hk0 : kd = 0 := by rw [← hkd]; unfold itemKind; simp [haq1,haq2,bne]
   rw [if_pos hk0] at hr
   refine .sr (.tq (t_load ty60 rfl (Cells.get (i := 0) hv_bx26_1.cells rfl)) rfl (Rg.wd trivial (w_call Tryz.call51 rfl (D_call hD hp hr hb)) rfl ?_))
   rintro _ w13 ⟨hst,hp1,hb13⟩
   replace hv_bx26_1 := var_bw hv_bx26_1 hb13 hF_bx26_1
   replace hv_bx26_2 := var_bw hv_bx26_2 hb13 hF_bx26_2
   replace hv_bx26_3 := var_bw hv_bx26_3 hb13 hF_bx26_3
   replace hbw := hbw.trans (hb13.sub hsub)
   clear hp
   have hp := hp1
   clear hp1
   refine .done (Wp.ret ?_)
   exact ⟨[],trivial,(fun h => by cases h),hp.sub hsub hbase,hbw⟩
  | false =>
   cases haq3 : ((sig1 (left s.rem)).1 == 104) with
   | true =>
    refine .sr (.tq (t_load ty3 rfl (Cells.get (i := 0) hv_bx26_3.cells rfl)) rfl ?_)
    refine .tq (t_eqlF rfl rfl (fun e => by rw [beq_iff_eq.2 e] at haq2; cases haq2)) rfl ?_
    refine .mv rfl rfl (.gd (t_fieldAddr fa55_0 rfl) rfl (.gd (t_load ty3 rfl (Cells.get (i := 0) hv_bx26_2.cells rfl)) rfl (.gd (t_neqF rfl rfl (beq_iff_eq.1 haq3)) rfl (.tq (t_pickF rfl rfl) rfl (.done (.condF rfl (Wp.skip ?_)))))))
    have hke : kindNo (sig1 (left s.rem)).2 = kd := by rw [← hkd]; unfold itemKind; simp [haq1,haq2,haq3,bne]
    have hk0 : kd ≠ 0 := fun e => by rw [hke,e] at haq2; cases haq2
    rw [if_neg hk0] at hr
    rw [hke] at hv_bx26_3
    refine Wp.region (.tq (t_load ty60 rfl (Cells.get (i := 0) hv_bx26_1.cells rfl)) rfl (.tq (t_load ty3 rfl (Cells.get (i := 0) hv_bx26_3.cells rfl)) rfl (.tq (t_makeFuncB (us := []) (vs := [.pointer (some ⟨bx26_1,0,none⟩),.pointer (some ⟨bx26_3,0,none⟩)]) rfl rfl) rfl (Rg.wd trivial (w_call Tryz.call52 rfl (D_node hp (clo_53 hC hD hv_bx26_1 hF_bx26_1 hv_bx26_3 hF_bx26_3) hr hb)) rfl ?_))))
    rintro _ w13 ⟨hp1,hb13⟩
    replace hv_bx26_1 := var_bw hv_bx26_1 hb13 hF_bx26_1
    replace hv_bx26_2 := var_bw hv_bx26_2 hb13 hF_bx26_2
    replace hv_bx26_3 := var_bw hv_bx26_3 hb13 hF_bx26_3
    replace hbw := hbw.trans (hb13.sub hsub)
    clear hp
    have hp := hp1
    clear hp1
    refine .done ?_
    exact ⟨[],trivial,(fun h => by cases h),hp.sub hsub hbase,hbw⟩
   | false =>
    refine .sr (.tq (t_load ty3 rfl (Cells.get (i := 0) hv_bx26_3.cells rfl)) rfl ?_)
    refine .tq (t_eqlF rfl rfl (fun e => by rw [beq_iff_eq.2 e] at haq2; cases haq2)) rfl ?_
    refine .mv rfl rfl (.gd (t_fieldAddr fa55_0 rfl) rfl (.gd (t_load ty3 rfl (Cells.get (i := 0) hv_bx26_2.cells rfl)) rfl ?_))
    refine .gd (t_neqT rfl rfl (fun e => by rw [beq_iff_eq.2 e] at haq3; cases haq3)) rfl ?_
    refine .tq (t_pickF rfl rfl) rfl (.done (.condT rfl ?_))
    have hk0 : kd = 0 := by rw [← hkd]; unfold itemKind; simp [haq1,haq2,haq3,bne]
    rw [if_pos hk0] at hr
    refine .sr (.tq (t_load ty60 rfl (Cells.get (i := 0) hv_bx26_1.cells rfl)) rfl (Rg.wd trivial (w_call Tryz.call51 rfl (D_call hD hp hr hb)) rfl ?_))
    rintro _ w13 ⟨hst,hp1,hb13⟩
    replace hv_bx26_1 := var_bw hv_bx26_1 hb13 hF_bx26_1
    replace hv_bx26_2 := var_bw hv_bx26_2 hb13 hF_bx26_2
    replace hv_bx26_3 := var_bw hv_bx26_3 hb13 hF_bx26_3
    replace hbw := hbw.trans (hb13.sub hsub)
    clear hp
    have hp := hp1
    clear hp1
    refine .done (Wp.ret ?_)
    exact ⟨[],trivial,(fun h => by cases h),hp.sub hsub hbase,hbw⟩
 | false =>
  refine .sr (.tq (t_load ty60 rfl (Cells.get (i := 0) hv_bx26_1.cells rfl)) rfl (Rg.wd trivial (w_buildSlice (bs124_1 _) rfl) rfl ?_))
  rintro _ w5 ⟨bt7,rfl,qt7,hx5,hvt7⟩
  replace hbw := hbw.trans (Bw.of hx5 fun z hz => hp.und z (hsub z hz))
  replace hp := hp.extw hx5
  replace hv_bx26_1 := hv_bx26_1.ext hx5
  replace hv_bx26_2 := hv_bx26_2.ext hx5
  refine Rg.wd trivial (w_call Tryz.call48 rfl (at_ok hC hp (texts := [⟨#[112,117,98]⟩]) hvt7 (by decide))) rfl ?_
  rintro _ w6 ⟨rfl,hx6⟩
  replace hbw := hbw.trans (Bw.of hx6 fun z hz => hp.und z (hsub z hz))
  replace hp := hp.extw hx6
  replace hv_bx26_1 := hv_bx26_1.ext hx6
  replace hv_bx26_2 := hv_bx26_2.ext hx6
  try replace hvt7 := hvt7.ext hx6
  rw [show (isAt [⟨#[112,117,98]⟩] (sig1 s.rem)) = false from haq1]
  refine .done (.condF rfl (Wp.skip (.sr (.tq (t_fieldAddr fa55_1 rfl) rfl (.tq (t_load ty9 rfl (Cells.get (i := 1) hv_bx26_2.cells rfl)) rfl (Rg.wd trivial (w_call Tryz.call50 rfl (itemKind_ok (hC.asc.ext hp.ext))) rfl ?_))))))
  rintro _ w7 ⟨rfl,hx7⟩
  replace hbw := hbw.trans (Bw.of hx7 fun z hz => hp.und z (hsub z hz))
  replace hp := hp.extw hx7
  replace hv_bx26_1 := hv_bx26_1.ext hx7
  replace hv_bx26_2 := hv_bx26_2.ext hx7
  try replace hvt7 := hvt7.ext hx7
  have hlo_bx26_3 := hp.ext.le
  have hlt_bx26_3_bx26_1 := hv_bx26_1.lt
  have hlt_bx26_3_bx26_2 := hv_bx26_2.lt
  have hun_bx26_3 := fun z hz => hp.und z (hsub z hz)
  refine Rg.wd trivial (w_new Tryz.zeroValue3 rfl) rfl ?_
  rintro _ w8 ⟨bx26_3,rfl,qbx26_3,hx8,hv_bx26_3⟩
  replace hbw := hbw.trans (Bw.of hx8 fun z hz => hp.und z (hsub z hz))
  obtain ⟨F_bx26_3,hp1,hF_bx26_3,hs8⟩ := hp.box hx8 qbx26_3 hv_bx26_3.lt
  clear hp
  have hp := hp1
  clear hp1
  replace hsub := fun z hz => hs8 z (hsub z hz)
  replace hv_bx26_1 := hv_bx26_1.ext hx8
  replace hF_bx26_1 := hs8 _ hF_bx26_1
  replace hv_bx26_2 := hv_bx26_2.ext hx8
  replace hF_bx26_2 := hs8 _ hF_bx26_2
  try replace hvt7 := hvt7.ext hx8
  have hn_bx26_3 : ¬ F bx26_3 := fun hh => by have := hun_bx26_3 _ hh; omega
  have hw_bx26_3 : w0.heap.size ≤ bx26_3 := by omega
  have hne_bx26_3_bx26_1 : bx26_1 ≠ bx26_3 := by omega
  have hne_bx26_3_bx26_2 : bx26_2 ≠ bx26_3 := by omega
  refine Rg.wn trivial (w_put hv_bx26_3 rfl rfl rfl ty3 rfl rfl) ?_
  rintro _ w9 ⟨hu9,hvn⟩
  replace hbw := hbw.trans (Bw.upd hu9 hn_bx26_3)
  replace hp := hp.updF hu9 hF_bx26_3 hw_bx26_3
  clear hv_bx26_3
  have hv_bx26_3 := hvn
  clear hvn
  replace hv_bx26_1 := hv_bx26_1.upd hu9 hne_bx26_3_bx26_1
  replace hv_bx26_2 := hv_bx26_2.upd hu9 hne_bx26_3_bx26_2
  clear hvt7
  refine .done (.seq ?_)
  cases haq2 : (kindNo (sig1 s.rem).2 == 0) with
  | true =>
   refine .sr (.tq (t_load ty3 rfl (Cells.get (i := 0) hv_bx26_3.cells rfl)) rfl (.tq (t_eqlT rfl rfl (beq_iff_eq.1 haq2)) rfl (.mv rfl rfl (.so rfl rfl (.so rfl rfl (.so rfl rfl (.tq (t_pickT rfl rfl) rfl (.done (.condT rfl ?_)))))))))
   have hk0 : kd = 0 := by rw [← hkd]; unfold itemKind; simp [haq1,haq2,bne]
   rw [if_pos hk0] at hr
   refine .sr (.tq (t_load ty60 rfl (Cells.get (i := 0) hv_bx26_1.cells rfl)) rfl (Rg.wd trivial (w_call Tryz.call51 rfl (D_call hD hp hr hb)) rfl ?_))
   rintro _ w10 ⟨hst,hp1,hb10⟩
   replace hv_bx26_1 := var_bw hv_bx26_1 hb10 hF_bx26_1
   replace hv_bx26_2 := var_bw hv_bx26_2 hb10 hF_bx26_2
   replace hv_bx26_3 := var_bw hv_bx26_3 hb10 hF_bx26_3
   replace hbw := hbw.trans (hb10.sub hsub)
   clear hp
   have hp := hp1
   clear hp1
   refine .done (Wp.ret ?_)
   exact ⟨[],trivial,(fun h => by cases h),hp.sub hsub hbase,hbw⟩
  | false =>
   cases haq3 : ((sig1 s.rem).1 == 104) with
   | true =>
    refine .sr (.tq (t_load ty3 rfl (Cells.get (i := 0) hv_bx26_3.cells rfl)) rfl ?_)
    refine .tq (t_eqlF rfl rfl (fun e => by rw [beq_iff_eq.2 e] at haq2; cases haq2)) rfl ?_
    refine .mv rfl rfl (.gd (t_fieldAddr fa55_0 rfl) rfl (.gd (t_load ty3 rfl (Cells.get (i := 0) hv_bx26_2.cells rfl)) rfl (.gd (t_neqF rfl rfl (beq_iff_eq.1 haq3)) rfl (.tq (t_pickF rfl rfl) rfl (.done (.condF rfl (Wp.skip ?_)))))))
    have hke : kindNo (sig1 s.rem).2 = kd := by rw [← hkd]; unfold itemKind; simp [haq1,haq2,haq3,bne]
    have hk0 : kd ≠ 0 := fun e => by rw [hke,e] at haq2; cases haq2
    rw [if_neg hk0] at hr
    rw [hke] at hv_bx26_3
    refine Wp.region (.tq (t_load ty60 rfl (Cells.get (i := 0) hv_bx26_1.cells rfl)) rfl (.tq (t_load ty3 rfl (Cells.get (i := 0) hv_bx26_3.cells rfl)) rfl (.tq (t_makeFuncB (us := []) (vs := [.pointer (some ⟨bx26_1,0,none⟩),.pointer (some ⟨bx26_3,0,none⟩)]) rfl rfl) rfl (Rg.wd trivial (w_call Tryz.call52 rfl (D_node hp (clo_53 hC hD hv_bx26_1 hF_bx26_1 hv_bx26_3 hF_bx26_3) hr hb)) rfl ?_))))
    rintro _ w10 ⟨hp1,hb10⟩
    replace hv_bx26_1 := var_bw hv_bx26_1 hb10 hF_bx26_1
    replace hv_bx26_2 := var_bw hv_bx26_2 hb10 hF_bx26_2
    replace hv_bx26_3 := var_bw hv_bx26_3 hb10 hF_bx26_3
    replace hbw := hbw.trans (hb10.sub hsub)
    clear hp
    have hp := hp1
    clear hp1
    refine .done ?_
    exact ⟨[],trivial,(fun h => by cases h),hp.sub hsub hbase,hbw⟩
   | false =>
    refine .sr (.tq (t_load ty3 rfl (Cells.get (i := 0) hv_bx26_3.cells rfl)) rfl ?_)
    refine .tq (t_eqlF rfl rfl (fun e => by rw [beq_iff_eq.2 e] at haq2; cases haq2)) rfl ?_
    refine .mv rfl rfl (.gd (t_fieldAddr fa55_0 rfl) rfl (.gd (t_load ty3 rfl (Cells.get (i := 0) hv_bx26_2.cells rfl)) rfl ?_))
    refine .gd (t_neqT rfl rfl (fun e => by rw [beq_iff_eq.2 e] at haq3; cases haq3)) rfl ?_
    refine .tq (t_pickF rfl rfl) rfl (.done (.condT rfl ?_))
    have hk0 : kd = 0 := by rw [← hkd]; unfold itemKind; simp [haq1,haq2,haq3,bne]
    rw [if_pos hk0] at hr
    refine .sr (.tq (t_load ty60 rfl (Cells.get (i := 0) hv_bx26_1.cells rfl)) rfl (Rg.wd trivial (w_call Tryz.call51 rfl (D_call hD hp hr hb)) rfl ?_))
    rintro _ w10 ⟨hst,hp1,hb10⟩
    replace hv_bx26_1 := var_bw hv_bx26_1 hb10 hF_bx26_1
    replace hv_bx26_2 := var_bw hv_bx26_2 hb10 hF_bx26_2
    replace hv_bx26_3 := var_bw hv_bx26_3 hb10 hF_bx26_3
    replace hbw := hbw.trans (hb10.sub hsub)
    clear hp
    have hp := hp1
    clear hp1
    refine .done (Wp.ret ?_)
    exact ⟨[],trivial,(fun h => by cases h),hp.sub hsub hbase,hbw⟩
end
end Go.Proofs.YtcelfjbajdffkaaGreatDoor.Par
namespace Go.Proofs.YtcelfjbajdffkaaGreatDoor.Par
set_option maxRecDepth 20000
open Go.Gx Go.RowKit Go.Lib
open Lexi (Asc)
section
variable {w0 : World} {tv : Value} {toks : List Tok} {F : Fs} {w w' : World} {bP : Nat} {below : List (Int × List Tr)} {k : Int} {s r : S} {n : Nat}
theorem node_okX {X : World → Prop} {F' : Fs} (hFF : ∀ z,F z → F' z) (hX : ∀ a b,X a → Bw F' a b → X b) {k' : Int} {r : S} {cf : FuncId} {fst cap : List Value} (hcf : ∀ (args : Array Value) (w : World),(callFunc cf args).run Tryz.prog w = .ok (.enter cf args) w) (h : Ps w0 tv toks F' w bP below k s)
  (hP : ∀ w1,Bw F' w w1 → Ps w0 tv toks F' w1 bP (below ++ [(k,s.kids)]) k' { s with kids := [],adds := s.adds + 1 } → Cl Tryz.prog cf (fst ++ ([] : List Value) ++ cap).toArray w1 (fun u w2 => Ps w0 tv toks F' w2 bP (below ++ [(k,s.kids)]) k' r ∧ Bw F w1 w2 ∧ X w2)) (h1 : s.adds + 1 ≤ r.adds) (hb : r.adds ≤ big) :
  Cl Tryz.prog 52 #[.pointer (some ⟨bP,0,none⟩),.int .i64 k',.func (.func cf) fst.toArray cap.toArray] w (fun u w' => Ps w0 tv toks F' w' bP below k { r with kids := s.kids ++ [.mk k' nob r.kids] } ∧ Bw F w w' ∧ X w') := by
 have hk1 := h.kids_le
 have hU := h.und
 obtain ⟨g,hW,e0,hd,hpos,hm,hks,hfl⟩ := h
 obtain ⟨gP,sv,pos,frs,Q⟩ := g
 simp only at e0 hd hpos hm hks hfl
 subst e0
 have hb' : s.adds + 1 ≤ 1000000000 := by unfold big at hb; omega
 have hvar := hW.var
 have hown := hW.stk
 simp only at hvar hown
 obtain ⟨pc,cc,rfl⟩ : ∃ pc cc,sv = .slice pc frs.length cc := by
  rcases own_wholeG hown with ⟨rfl,e⟩ | ⟨_,_,_,rfl,_⟩
  ·exact ⟨none,0,by rw [e]⟩
  ·exact ⟨_,_,rfl⟩
 have hx := Ext.refl w
 obtain ⟨i25,hi25,hz25,hsi25,hby25⟩ := inf25
 refine Cl.enter Tryz.func52 rfl Tryz.ntmps52 rfl rfl ?_
 refine Wp.seq (Wp.cut (fun L w' => ∃ i_ : Unit,Sub ((fun _ => [(0,.pointer (some ⟨gP,0,none⟩)),(1,.int .i64 k'),(2,.func (.func cf) fst.toArray cap.toArray)]) i_) L ∧ (fun _ w' => ∃ sv',PsW w0 tv F' w' { bP := gP,sv := sv',pos := pos,frs := frs ++ [⟨k',.slice none 0 0,[]⟩],Q := Q } ∧ Bw F' w w') i_ w') ?_ ?_)
 ·skip
  refine Wp.drawB (fun w' => Var w' gP [tv,.int .i64 pos,.slice pc frs.length cc] 62) 8 mixed ?_
  intro w1 hx1 hh1
  replace hx := hx.ext hx1
  refine ⟨hvar.ext hx,?_⟩
  refine Qb.tameW (by kernel_rfl) 0 rfl (by kernel_rfl) trivial (tw_of fun wz => t_move rfl) rfl ?_
  refine Qb.tameW (by kernel_rfl) 1 rfl (by kernel_rfl) trivial (tw_of fun wz => t_nilCheck rfl) rfl ?_
  refine Qb.tameW (by kernel_rfl) 2 rfl (by kernel_rfl) trivial (tw_of fun wz => t_fieldAddr fa62_2 rfl) rfl ?_
  refine Qb.tame (by kernel_rfl) 3 rfl (by kernel_rfl) trivial (ts fun wz hkz => by exact t_load ty23 rfl (Cells.get (i := 2) hkz.cells rfl)) rfl ?_
  refine Qb.tameW (by kernel_rfl) 4 rfl (by kernel_rfl) trivial (tw_of fun wz => t_move rfl) rfl ?_
  refine Qb.tameW (by kernel_rfl) 5 rfl (by kernel_rfl) trivial (tw_of fun wz => t_build (bd25_0 _) rfl) rfl ?_
  refine Qb.tame (by kernel_rfl) 6 rfl (by kernel_rfl) trivial (ts fun wz hkz => by exact t_lenS Tryz.underlying23 rfl) rfl ?_
  refine Qb.alt1 (i := 7) (by kernel_rfl) ?_
  refine ⟨_,_,rfl,rfl,trivial,w_buildSlice (bs23_1 _ _ _ _ _) rfl,rfl,fun _ _ hr => by obtain ⟨_,_,_,hr,_⟩ := hr; exact hvar.ext (hx.ext hr),?_⟩
  rintro _ w2 ⟨b13,rfl,q13,hx2,hv13⟩
  replace hx := hx.ext hx2
  refine Qb.bar (fun _ => True) 8 14 rfl (by kernel_rfl) rfl trivial (w_appendO Tryz.underlying23 hi25 hz25 hsi25 hby25 rfl rfl rfl (own_ext hown hx) (slc_var hv13 rfl) (by decide) (by decide) (by unfold maxLen; omega) (by omega)) rfl (fun _ _ _ => trivial) ?_
  rintro _ w3 ⟨gk,capk,spk,rfl,hck,hmk,hlk,hvk,hwhere⟩
  have hfr : (Value.slice pc frs.length cc).ownBlock = some gk ∨ w.heap.size ≤ gk := by
   rcases hwhere with ⟨⟨c,e⟩,_⟩ | ⟨e,_⟩
   ·exact .inl (by rw [e]; rfl)
   ·exact .inr (Nat.le_trans hx.le e)
  have hne : gP ≠ gk := fun e => by
   rcases hfr with e1 | e1
   ·have hn := hW.nod
    simp only [Pg.muts,List.nodup_cons] at hn
    exact hn.1 (by simp [e1,e])
   ·have := hvar.lt
    omega
  obtain ⟨G,hGd⟩ : ∃ G : Fs,G = fun z => z < w.heap.size ∧ z ≠ gk ∧ z ≠ gP := ⟨_,rfl⟩
  have nGk : ¬ G gk := by rw [hGd]; exact fun h => h.2.1 rfl
  have nGP : ¬ G gP := by rw [hGd]; exact fun h => h.2.2 rfl
  have hB : Bw G w w3 := by
   have h1 : Bw G w w2 := Bw.of hx (by rw [hGd]; exact fun z hz => hz.1)
   rcases hwhere with ⟨_,hu⟩ | ⟨_,hu⟩
   ·exact h1.trans (Bw.upd hu nGk)
   ·exact h1.trans (Bw.of hu (by rw [hGd]; exact fun z hz => Nat.lt_of_lt_of_le hz.1 hx.le))
  have hvP := hvar.ext hx
  replace hvP : Var w3 gP [tv,.int .i64 pos,.slice pc frs.length cc] 62 := by
   rcases hwhere with ⟨_,hu⟩ | ⟨_,hu⟩
   ·exact hvP.upd hu hne
   ·exact hvP.ext hu
  have hoE : 0 + (frs.length : Int).toNat * 3 = frs.length * 3 := by omega
  have hKl : (encs Fr.cells frs ++ [Value.int .i64 0,Value.string ⟨#[]⟩,Value.slice none 0 0] ++ spk).length = frs.length * 3 + 3 + spk.length := by rw [List.length_append,List.length_append,encs_len Fr.len]; rfl
  refine Qb.tameW (by kernel_rfl) 9 rfl (by kernel_rfl) trivial (tw_of fun wz => t_indexAddrL Tryz.underlying23 ty25 rfl rfl (by omega)) rfl ?_
  refine Qb.tameW (by kernel_rfl) 11 rfl (by kernel_rfl) trivial (tw_of fun wz => t_nilCheck rfl) rfl ?_
  refine Qb.tameW (by kernel_rfl) 12 rfl (by kernel_rfl) trivial (tw_of fun wz => t_fieldAddr fa62_2 rfl) rfl ?_
  refine Qb.alt2 (i := 10) (j := 13) (by kernel_rfl) ?_ ?_
  ·skip
   refine ⟨_,_,rfl,rfl,trivial,w_putAt (cs := [.int .i64 k',.string nob,.slice none 0 0]) hvk rfl rfl rfl ty25 (by rw [hoE,hKl]; simp) (Fr.one (f := ⟨k',.slice none 0 0,[]⟩) rfl),rfl,fun _ _ h => trivial,?_⟩
   rintro _ wE ⟨huE,hvE⟩
   rw [hoE] at hvE
   replace hvE : Var wE gk (encs Fr.cells (frs ++ [⟨k',.slice none 0 0,[]⟩]) ++ spk) 25 := (fr_set (frs := frs) (f := ⟨k',.slice none 0 0,[]⟩) (z := [Value.int .i64 0,Value.string ⟨#[]⟩,Value.slice none 0 0]) (sp := spk) rfl) ▸ hvE
   clear hvk
   have hvk := hvE
   clear hvE
   replace hvP := hvP.upd huE hne
   replace hB := hB.trans (Bw.upd huE nGk)
   refine Qb.alt1 (i := 13) (by kernel_rfl) ?_
   refine ⟨_,_,rfl,rfl,trivial,w_putF hvP ty23 rfl rfl rfl rfl rfl,rfl,fun _ _ h => trivial,?_⟩
   rintro _ wS ⟨huS,hvS⟩
   simp only [List.set] at hvS
   clear hvP
   have hvP := hvS
   clear hvS
   replace hvk := hvk.upd huS (Ne.symm hne)
   replace hB := hB.trans (Bw.upd huS nGP)
   refine Qb.done (by kernel_rfl) ?_
   exact ⟨(),by repeat (first | exact .nil | refine .cons rfl ?_),_,hW.push (f := ⟨k',.slice none 0 0,[]⟩) (sv' := .slice (some ⟨gk,0,none⟩) (frs.length + 1) capk) hB (fun z h1 h2 h3 => by rw [hGd]; exact ⟨h1,fun e => h3 (by rw [e]; rfl),h2⟩) hvP (whole_ownG (Nat.zero_le _) (encs_len Fr.len _ |>.trans (by simp)) hck hmk hlk hvk) (fun b hb => by injection hb with hb; subst hb; exact hfr) ⟨rfl,.inl ⟨rfl,rfl⟩⟩ (fun b hb => by cases hb) (fun t ht => by cases ht)⟩
  ·skip
   refine ⟨_,_,rfl,rfl,trivial,w_putF hvP ty23 rfl rfl rfl rfl rfl,rfl,fun _ _ h => trivial,?_⟩
   rintro _ wS ⟨huS,hvS⟩
   simp only [List.set] at hvS
   clear hvP
   have hvP := hvS
   clear hvS
   replace hvk := hvk.upd huS (Ne.symm hne)
   replace hB := hB.trans (Bw.upd huS nGP)
   refine Qb.alt1 (i := 10) (by kernel_rfl) ?_
   refine ⟨_,_,rfl,rfl,trivial,w_putAt (cs := [.int .i64 k',.string nob,.slice none 0 0]) hvk rfl rfl rfl ty25 (by rw [hoE,hKl]; simp) (Fr.one (f := ⟨k',.slice none 0 0,[]⟩) rfl),rfl,fun _ _ h => trivial,?_⟩
   rintro _ wE ⟨huE,hvE⟩
   rw [hoE] at hvE
   replace hvE : Var wE gk (encs Fr.cells (frs ++ [⟨k',.slice none 0 0,[]⟩]) ++ spk) 25 := (fr_set (frs := frs) (f := ⟨k',.slice none 0 0,[]⟩) (z := [Value.int .i64 0,Value.string ⟨#[]⟩,Value.slice none 0 0]) (sp := spk) rfl) ▸ hvE
   clear hvk
   have hvk := hvE
   clear hvE
   replace hvP := hvP.upd huE hne
   replace hB := hB.trans (Bw.upd huE nGk)
   refine Qb.done (by kernel_rfl) ?_
   exact ⟨(),by repeat (first | exact .nil | refine .cons rfl ?_),_,hW.push (f := ⟨k',.slice none 0 0,[]⟩) (sv' := .slice (some ⟨gk,0,none⟩) (frs.length + 1) capk) hB (fun z h1 h2 h3 => by rw [hGd]; exact ⟨h1,fun e => h3 (by rw [e]; rfl),h2⟩) hvP (whole_ownG (Nat.zero_le _) (encs_len Fr.len _ |>.trans (by simp)) hck hmk hlk hvk) (fun b hb => by injection hb with hb; subst hb; exact hfr) ⟨rfl,.inl ⟨rfl,rfl⟩⟩ (fun b hb => by cases hb) (fun t ht => by cases ht)⟩
 ·rintro L' wF ⟨_,hs,sv',q1,q2⟩
  refine Wp.sub hs (.sr (.mv rfl rfl ?_))
  refine Rg.wd trivial (w_callG rfl hcf rfl (hP _ q2 ⟨_,q1,rfl,hd,hpos,by simp [hm,erL],fun f hf => by (rcases List.mem_append.1 hf with hf | hf); (have := hks f hf; simp only; omega); (obtain rfl : f = ⟨k',.slice none 0 0,[]⟩ := by simpa using hf); simp,by simp; omega⟩)) rfl ?_
  rintro _ w20 ⟨q3,q4,qX⟩
  refine .done (Wp.region (.mv rfl rfl ?_))
  refine Rg.wd trivial (w_call Tryz.call103 rfl (finish_ok q3 (by omega) hb)) rfl ?_
  rintro _ w21 ⟨q5,q6⟩
  refine .done ?_
  exact ⟨[],trivial,q5,(q2.sub hFF).trans (q4.trans (q6.sub hFF)),hX _ _ qX q6⟩
theorem clo_125 {F' : Fs} (hC : Cx w0 tv toks) (hD : ∀ m,m < n → DN w0 tv toks m) {b0 b1 : Nat} (hv_b0 : Var w b0 [.pointer (some ⟨bP,0,none⟩)] 60) (hF_b0 : F' b0) (hv_b1 : Var w b1 [.bool false] 4) (hF_b1 : F' b1) (hn_b1 : ¬ F b1) (hw_b1 : w0.heap.size ≤ b1) (hne_b1_b0 : b0 ≠ b1) (hsub : ∀ z,F z → F' z) (hbase : ∀ z,z < w0.heap.size → F z)
  (hp : Ps w0 tv toks F' w bP below k s) (hr : run body n (.seq (.node 18 Cmd.expIdent) (.loop (fun t u _ _ => isAt [⟨#[58,58]⟩] t && !isAt [⟨#[42]⟩] u) (.seq .bump (.node 18 Cmd.expIdent)))) s = some r) (hb : r.adds ≤ big) :
  Cl Tryz.prog 125 (([] : List Value) ++ ([] : List Value) ++ ([.pointer (some ⟨b0,0,none⟩),.pointer (some ⟨b1,0,none⟩)] : List Value)).toArray w (fun u w2 => Ps w0 tv toks F' w2 bP below k r ∧ Bw F w w2 ∧ Var w2 b1 [.bool (isAt [⟨#[58,58]⟩] (sig1 r.rem))] 4) := by
 show Cl Tryz.prog 125 #[.pointer (some ⟨b0,0,none⟩),.pointer (some ⟨b1,0,none⟩)] w _
 have hbw := Bw.refl F w
 refine Cl.enter Tryz.func125 rfl Tryz.ntmps125 rfl rfl (.sr (.tq (t_load ty60 rfl (Cells.get (i := 0) hv_b0.cells rfl)) rfl (.tq (t_load ty60 rfl (Cells.get (i := 0) hv_b0.cells rfl)) rfl (.tq (t_makeFuncB (us := [.pointer (some ⟨bP,0,none⟩)]) (vs := []) rfl rfl) rfl ?_))))
 obtain ⟨s1,h1a,h1b⟩ := run_seq' hr
 refine Rg.wd trivial (w_call Tryz.call52 rfl (D_node hp (clo_expIdent hC) h1a (adds_le h1b hb))) rfl ?_
 rintro _ w1 ⟨hp1,hb1⟩
 replace hv_b0 := var_bw hv_b0 hb1 hF_b0
 replace hv_b1 := var_bw hv_b1 hb1 hF_b1
 replace hbw := hbw.trans (hb1.sub hsub)
 clear hp
 have hp := hp1
 clear hp1
 refine .done (Wp.block ?_)
 refine Wp.loop (ι := S × Nat × Bool) (fun i => [(0,.pointer (some ⟨b0,0,none⟩)),(1,.pointer (some ⟨b1,0,none⟩))])
  (fun i w' => Ps w0 tv toks F' w' bP below k i.1 ∧ Bw F w w' ∧ Var w' b0 [.pointer (some ⟨bP,0,none⟩)] 60 ∧ Var w' b1 [.bool i.2.2] 4 ∧ run body i.2.1 (.loop (fun t u _ _ => isAt [⟨#[58,58]⟩] t && !isAt [⟨#[42]⟩] u) (.seq .bump (.node 18 Cmd.expIdent))) i.1 = some r ∧ i.2.1 ≤ n ∧ (i.2.2 = true → isAt [⟨#[58,58]⟩] (sig1 i.1.rem) = true ∧ isAt [⟨#[42]⟩] (sig1 (left i.1.rem)) = true)) (fun i => 2 * i.2.1 + if i.2.2 = true then 0 else 1) (s1,n,false) (by repeat (first | exact .nil | refine .cons rfl ?_)) ⟨hp,hbw,hv_b0,hv_b1,h1b,Nat.le_refl _,fun h => by cases h⟩ ?_
 clear hp hv_b0 hv_b1 hbw
 rintro ⟨s',m,gl⟩ wl ⟨hp,hbw,hv_b0,hv_b1,hrun,hmn,hgl⟩
 simp only at hp hrun hmn hgl hv_b1
 cases gl with
 | true =>
  obtain ⟨hg1,hg2⟩ := hgl rfl
  refine .seq (.sr (.tq (t_load ty60 rfl (Cells.get (i := 0) hv_b0.cells rfl)) rfl (Rg.wd trivial (w_buildSlice (bs124_1 _) rfl) rfl ?_)))
  rintro _ w2 ⟨bt7,rfl,qt7,hx2,hvt7⟩
  replace hbw := hbw.trans (Bw.of hx2 fun z hz => hp.und z (hsub z hz))
  replace hp := hp.extw hx2
  replace hv_b0 := hv_b0.ext hx2
  replace hv_b1 := hv_b1.ext hx2
  refine Rg.wd trivial (w_call Tryz.call48 rfl (at_ok hC hp (texts := [⟨#[58,58]⟩]) hvt7 (by decide))) rfl ?_
  rintro _ w3 ⟨rfl,hx3⟩
  replace hbw := hbw.trans (Bw.of hx3 fun z hz => hp.und z (hsub z hz))
  replace hp := hp.extw hx3
  replace hv_b0 := hv_b0.ext hx3
  replace hv_b1 := hv_b1.ext hx3
  try replace hvt7 := hvt7.ext hx3
  rw [show (isAt [⟨#[58,58]⟩] (sig1 s'.rem)) = true from hg1]
  refine .mv rfl rfl (.gd (t_load ty4 rfl (Cells.get (i := 0) hv_b1.cells rfl)) rfl (.gd (t_notB rfl) rfl (.tq (t_pickT rfl rfl) rfl (.done (.condF rfl (Wp.exit ?_))))))
  have hte := run_loopF hrun (show S.test _ _ = false by simp only [S.test,hg1,hg2]; rfl)
  subst hte
  exact ⟨[],trivial,hp,hbw,by rw [hg1]; exact hv_b1⟩
 | false =>
  refine .seq ?_
  cases haq1 : (isAt [⟨#[58,58]⟩] (sig1 s'.rem)) with
  | true =>
   refine .sr (.tq (t_load ty60 rfl (Cells.get (i := 0) hv_b0.cells rfl)) rfl (Rg.wd trivial (w_buildSlice (bs124_1 _) rfl) rfl ?_))
   rintro _ w2 ⟨bt7,rfl,qt7,hx2,hvt7⟩
   replace hbw := hbw.trans (Bw.of hx2 fun z hz => hp.und z (hsub z hz))
   replace hp := hp.extw hx2
   replace hv_b0 := hv_b0.ext hx2
   replace hv_b1 := hv_b1.ext hx2
   refine Rg.wd trivial (w_call Tryz.call48 rfl (at_ok hC hp (texts := [⟨#[58,58]⟩]) hvt7 (by decide))) rfl ?_
   rintro _ w3 ⟨rfl,hx3⟩
   replace hbw := hbw.trans (Bw.of hx3 fun z hz => hp.und z (hsub z hz))
   replace hp := hp.extw hx3
   replace hv_b0 := hv_b0.ext hx3
   replace hv_b1 := hv_b1.ext hx3
   try replace hvt7 := hvt7.ext hx3
   rw [show (isAt [⟨#[58,58]⟩] (sig1 s'.rem)) = true from haq1]
   refine .mv rfl rfl (.gd (t_load ty4 rfl (Cells.get (i := 0) hv_b1.cells rfl)) rfl (.gd (t_notB rfl) rfl (.tq (t_pickT rfl rfl) rfl (.done (.condT rfl (Wp.skip (Wp.block ?_)))))))
   cases haq2 : (isAt [⟨#[42]⟩] (sig1 (left s'.rem))) with
   | true =>
    refine .sr (.tq (t_load ty60 rfl (Cells.get (i := 0) hv_b0.cells rfl)) rfl (Rg.wd trivial (w_call Tryz.call49 rfl (lookahead_ok hC hp)) rfl ?_))
    rintro _ w4 ⟨bk14,rfl,hk14,hx4⟩
    replace hbw := hbw.trans (Bw.of hx4 fun z hz => hp.und z (hsub z hz))
    replace hp := hp.extw hx4
    replace hv_b0 := hv_b0.ext hx4
    replace hv_b1 := hv_b1.ext hx4
    try replace hvt7 := hvt7.ext hx4
    refine Rg.wd trivial (w_buildSlice (bs124_1 _) rfl) rfl ?_
    rintro _ w5 ⟨bt15,rfl,qt15,hx5,hvt15⟩
    replace hbw := hbw.trans (Bw.of hx5 fun z hz => hp.und z (hsub z hz))
    replace hp := hp.extw hx5
    replace hv_b0 := hv_b0.ext hx5
    replace hv_b1 := hv_b1.ext hx5
    try replace hvt7 := hvt7.ext hx5
    try replace hk14 := hk14.extw hx5
    refine Rg.wd trivial (w_call Tryz.call48 rfl (at_ok hC hk14 (texts := [⟨#[42]⟩]) hvt15 (by decide))) rfl ?_
    rintro _ w6 ⟨rfl,hx6⟩
    replace hbw := hbw.trans (Bw.of hx6 fun z hz => hp.und z (hsub z hz))
    replace hp := hp.extw hx6
    replace hv_b0 := hv_b0.ext hx6
    replace hv_b1 := hv_b1.ext hx6
    try replace hvt7 := hvt7.ext hx6
    try replace hvt15 := hvt15.ext hx6
    try replace hk14 := hk14.extw hx6
    rw [show (isAt [⟨#[42]⟩] (sig1 s'.look.rem)) = true from haq2]
    refine Rg.wn trivial (w_put hv_b1 rfl rfl rfl ty4 rfl rfl) ?_
    rintro _ w7 ⟨hu7,hvn⟩
    replace hbw := hbw.trans (Bw.upd hu7 hn_b1)
    replace hp := hp.updF hu7 hF_b1 hw_b1
    clear hv_b1
    have hv_b1 := hvn
    clear hvn
    replace hv_b0 := hv_b0.upd hu7 hne_b1_b0
    clear hvt7
    clear hvt15
    refine .done (.sr (.tq (t_load ty4 rfl (Cells.get (i := 0) hv_b1.cells rfl)) rfl (.tq (t_notB rfl) rfl (.done (.condF rfl (Wp.skip ?_))))))
    exact ⟨(s',m,true),by repeat (first | exact .nil | refine .cons rfl ?_),⟨hp,hbw,hv_b0,hv_b1,hrun,hmn,fun _ => ⟨haq1,haq2⟩⟩,by simp⟩
   | false =>
    refine .sr (.tq (t_load ty60 rfl (Cells.get (i := 0) hv_b0.cells rfl)) rfl (Rg.wd trivial (w_call Tryz.call49 rfl (lookahead_ok hC hp)) rfl ?_))
    rintro _ w4 ⟨bk14,rfl,hk14,hx4⟩
    replace hbw := hbw.trans (Bw.of hx4 fun z hz => hp.und z (hsub z hz))
    replace hp := hp.extw hx4
    replace hv_b0 := hv_b0.ext hx4
    replace hv_b1 := hv_b1.ext hx4
    try replace hvt7 := hvt7.ext hx4
    refine Rg.wd trivial (w_buildSlice (bs124_1 _) rfl) rfl ?_
    rintro _ w5 ⟨bt15,rfl,qt15,hx5,hvt15⟩
    replace hbw := hbw.trans (Bw.of hx5 fun z hz => hp.und z (hsub z hz))
    replace hp := hp.extw hx5
    replace hv_b0 := hv_b0.ext hx5
    replace hv_b1 := hv_b1.ext hx5
    try replace hvt7 := hvt7.ext hx5
    try replace hk14 := hk14.extw hx5
    refine Rg.wd trivial (w_call Tryz.call48 rfl (at_ok hC hk14 (texts := [⟨#[42]⟩]) hvt15 (by decide))) rfl ?_
    rintro _ w6 ⟨rfl,hx6⟩
    replace hbw := hbw.trans (Bw.of hx6 fun z hz => hp.und z (hsub z hz))
    replace hp := hp.extw hx6
    replace hv_b0 := hv_b0.ext hx6
    replace hv_b1 := hv_b1.ext hx6
    try replace hvt7 := hvt7.ext hx6
    try replace hvt15 := hvt15.ext hx6
    try replace hk14 := hk14.extw hx6
    rw [show (isAt [⟨#[42]⟩] (sig1 s'.look.rem)) = false from haq2]
    refine Rg.wn trivial (w_put hv_b1 rfl rfl rfl ty4 rfl rfl) ?_
    rintro _ w7 ⟨hu7,hvn⟩
    replace hbw := hbw.trans (Bw.upd hu7 hn_b1)
    replace hp := hp.updF hu7 hF_b1 hw_b1
    clear hv_b1
    have hv_b1 := hvn
    clear hvn
    replace hv_b0 := hv_b0.upd hu7 hne_b1_b0
    clear hvt7
    clear hvt15
    obtain ⟨m1,sZ,rfl,hbody,hrest⟩ := run_loopT hrun (show S.test _ _ = true by simp only [S.test,at1,ident,bne,haq1,haq2]; (try rfl))
    replace hbody := run_le hmn hbody
    refine .done (.sr (.tq (t_load ty4 rfl (Cells.get (i := 0) hv_b1.cells rfl)) rfl (.tq (t_notB rfl) rfl (.done (.condT rfl (.sr (.tq (t_load ty60 rfl (Cells.get (i := 0) hv_b0.cells rfl)) rfl ?_)))))))
    obtain ⟨s2,h2a,h2b⟩ := run_seq' hbody
    refine Rg.wd trivial (w_call Tryz.call55 rfl (D_bump hC hp h2a (adds_le h2b (adds_le hrest hb)))) rfl ?_
    rintro _ w8 ⟨hp1,hb8⟩
    replace hv_b0 := var_bw hv_b0 hb8 hF_b0
    replace hv_b1 := var_bw hv_b1 hb8 hF_b1
    replace hbw := hbw.trans (hb8.sub hsub)
    clear hp
    have hp := hp1
    clear hp1
    refine .done (Wp.region (.tq (t_load ty60 rfl (Cells.get (i := 0) hv_b0.cells rfl)) rfl (.tq (t_load ty60 rfl (Cells.get (i := 0) hv_b0.cells rfl)) rfl (.tq (t_makeFuncB (us := [.pointer (some ⟨bP,0,none⟩)]) (vs := []) rfl rfl) rfl (Rg.wd trivial (w_call Tryz.call52 rfl (D_node hp (clo_expIdent hC) h2b (adds_le hrest hb))) rfl ?_)))))
    rintro _ w9 ⟨hp1,hb9⟩
    replace hv_b0 := var_bw hv_b0 hb9 hF_b0
    replace hv_b1 := var_bw hv_b1 hb9 hF_b1
    replace hbw := hbw.trans (hb9.sub hsub)
    clear hp
    have hp := hp1
    clear hp1
    refine .done ?_
    exact ⟨(sZ,m1,false),by repeat (first | exact .nil | refine .cons rfl ?_),⟨hp,hbw,hv_b0,hv_b1,hrest,by simp only; omega,fun h => by cases h⟩,by simp⟩
  | false =>
   refine .sr (.tq (t_load ty60 rfl (Cells.get (i := 0) hv_b0.cells rfl)) rfl (Rg.wd trivial (w_buildSlice (bs124_1 _) rfl) rfl ?_))
   rintro _ w2 ⟨bt7,rfl,qt7,hx2,hvt7⟩
   replace hbw := hbw.trans (Bw.of hx2 fun z hz => hp.und z (hsub z hz))
   replace hp := hp.extw hx2
   replace hv_b0 := hv_b0.ext hx2
   replace hv_b1 := hv_b1.ext hx2
   refine Rg.wd trivial (w_call Tryz.call48 rfl (at_ok hC hp (texts := [⟨#[58,58]⟩]) hvt7 (by decide))) rfl ?_
   rintro _ w3 ⟨rfl,hx3⟩
   replace hbw := hbw.trans (Bw.of hx3 fun z hz => hp.und z (hsub z hz))
   replace hp := hp.extw hx3
   replace hv_b0 := hv_b0.ext hx3
   replace hv_b1 := hv_b1.ext hx3
   try replace hvt7 := hvt7.ext hx3
   rw [show (isAt [⟨#[58,58]⟩] (sig1 s'.rem)) = false from haq1]
   refine .mv rfl rfl (.so rfl rfl (.so rfl rfl (.tq (t_pickF rfl rfl) rfl (.done (.condF rfl (Wp.exit ?_))))))
   have hte := run_loopF hrun (show S.test _ _ = false by simp only [S.test,haq1]; rfl)
   subst hte
   exact ⟨[],trivial,hp,hbw,by rw [haq1]; exact hv_b1⟩
theorem N_use (hC : Cx w0 tv toks) (hD : ∀ m,m < n → DN w0 tv toks m) (hp : Ps w0 tv toks F w bP below k s) (hr : run body n (body .use) s = some r) (hb : r.adds ≤ big) :
  Cl Tryz.prog 104 #[.pointer (some ⟨bP,0,none⟩)] w (fun u w' => (Nm.use = Nm.statement → u = .bool r.flag) ∧ Ps w0 tv toks F w' bP below k r ∧ Bw F w w') := by
 have hbw := Bw.refl F w
 have hsub : ∀ z,F z → F z := fun z h => h
 have hbase := hp.base
 have hr : run body n (.seq (.node 17 (.seq (.node 18 Cmd.expIdent) (.loop (fun t u _ _ => isAt [⟨#[58,58]⟩] t && !isAt [⟨#[42]⟩] u) (.seq .bump (.node 18 Cmd.expIdent))))) (.seq (.cond (at1 [⟨#[58,58]⟩]) (.seq .bump .bump) (.cond (at1 [⟨#[97,115]⟩]) (.seq .bump Cmd.expIdent) .skip)) (Cmd.exp ⟨#[59]⟩))) s = some r := hr
 refine Cl.enter Tryz.func104 rfl Tryz.ntmps104 rfl rfl (.sr (Rg.wd trivial (w_boxed rfl rfl) rfl ?_))
 rintro _ w1 ⟨bx104_1,rfl,qbx104_1,hx1,hv_bx104_1⟩
 replace hbw := hbw.trans (Bw.of hx1 fun z hz => hp.und z (hsub z hz))
 obtain ⟨F_bx104_1,hp1,hF_bx104_1,hs1⟩ := hp.box hx1 qbx104_1 hv_bx104_1.lt
 clear hp
 have hp := hp1
 clear hp1
 replace hsub := fun z hz => hs1 z (hsub z hz)
 refine .done (.sr ?_)
 have hunc := hp.und
 have hbase1 := hp.base
 have hsub1 := hsub
 have hFp1 := hF_bx104_1
 have hlo_bx104_2 := hp.ext.le
 have hlt_bx104_2_bx104_1 := hv_bx104_1.lt
 have hun_bx104_2 := fun z hz => hp.und z (hsub z hz)
 refine Rg.wd trivial (w_new Tryz.zeroValue4 rfl) rfl ?_
 rintro _ w2 ⟨bx104_2,rfl,qbx104_2,hx2,hv_bx104_2⟩
 replace hbw := hbw.trans (Bw.of hx2 fun z hz => hp.und z (hsub z hz))
 obtain ⟨F_bx104_2,hp1,hF_bx104_2,hs2⟩ := hp.box hx2 qbx104_2 hv_bx104_2.lt
 clear hp
 have hp := hp1
 clear hp1
 replace hsub := fun z hz => hs2 z (hsub z hz)
 replace hv_bx104_1 := hv_bx104_1.ext hx2
 replace hF_bx104_1 := hs2 _ hF_bx104_1
 have hn_bx104_2 : ¬ F bx104_2 := fun hh => by have := hun_bx104_2 _ hh; omega
 have hw_bx104_2 : w0.heap.size ≤ bx104_2 := by omega
 have hne_bx104_2_bx104_1 : bx104_1 ≠ bx104_2 := by omega
 have hnc : ¬ F_bx104_1 bx104_2 := fun hh => by have := hunc _ hh; omega
 refine Rg.wn trivial (w_put hv_bx104_2 rfl rfl rfl ty4 rfl rfl) ?_
 rintro _ w3 ⟨hu3,hvn⟩
 replace hbw := hbw.trans (Bw.upd hu3 hn_bx104_2)
 replace hp := hp.updF hu3 hF_bx104_2 hw_bx104_2
 clear hv_bx104_2
 have hv_bx104_2 := hvn
 clear hvn
 replace hv_bx104_1 := hv_bx104_1.upd hu3 hne_bx104_2_bx104_1
 refine .done (.sr (.tq (t_load ty60 rfl (Cells.get (i := 0) hv_bx104_1.cells rfl)) rfl (.tq (t_makeFuncB (us := []) (vs := [.pointer (some ⟨bx104_1,0,none⟩),.pointer (some ⟨bx104_2,0,none⟩)]) rfl rfl) rfl ?_)))
 obtain ⟨s1,h1a,h1b⟩ := run_seq' hr
 obtain ⟨qn,hqn,hen⟩ := run_node' h1a
 have hqb : qn.adds ≤ big := by have := (adds_le h1b hb); rw [hen] at this; exact this
 refine Rg.wd trivial (w_call Tryz.call52 rfl (node_okX (F := F_bx104_1) (F' := F_bx104_2) (X := (fun w => Var w bx104_2 [.bool (isAt [⟨#[58,58]⟩] (sig1 qn.rem))] 4)) hs2 (fun a b hv hb => var_bw hv hb hF_bx104_2) Tryz.call125 hp (fun w1 hw1 hp1 => clo_125 hC hD (var_bw hv_bx104_1 hw1 hF_bx104_1) hF_bx104_1 (var_bw hv_bx104_2 hw1 hF_bx104_2) hF_bx104_2 hnc hw_bx104_2 hne_bx104_2_bx104_1 hs2 hbase1 hp1 hqn hqb) (run_adds hqn) hqb)) rfl ?_
 rintro _ w4 ⟨hp1,hb4,hvg⟩
 rw [← hen] at hp1
 have hqr : qn.rem = s1.rem := by rw [hen]
 simp only [hqr] at hvg
 replace hbw := hbw.trans (hb4.sub hsub1)
 replace hv_bx104_1 := var_bw hv_bx104_1 hb4 hFp1
 clear hv_bx104_2
 have hv_bx104_2 := hvg
 clear hp
 have hp := hp1
 clear hp1
 refine .done ?_
 obtain ⟨s2,h2a,h2b⟩ := run_seq' h1b
 refine .seq (Wp.block ?_)
 cases haq1 : (isAt [⟨#[58,58]⟩] (sig1 s1.rem)) with
 | true =>
  have hq2 := run_condT h2a haq1
  refine .sr (.tq (t_load ty4 rfl (Cells.get (i := 0) hv_bx104_2.cells rfl)) rfl ?_)
  rw [haq1]
  refine .as rfl rfl (.done (.condT rfl (.sr (.tq (t_load ty60 rfl (Cells.get (i := 0) hv_bx104_1.cells rfl)) rfl ?_))))
  obtain ⟨s3,h3a,h3b⟩ := run_seq' hq2
  refine Rg.wd trivial (w_call Tryz.call55 rfl (D_bump hC hp h3a (adds_le h3b (adds_le h2b hb)))) rfl ?_
  rintro _ w5 ⟨hp1,hb5⟩
  replace hv_bx104_1 := var_bw hv_bx104_1 hb5 hF_bx104_1
  replace hv_bx104_2 := var_bw hv_bx104_2 hb5 hF_bx104_2
  replace hbw := hbw.trans (hb5.sub hsub)
  clear hp
  have hp := hp1
  clear hp1
  refine .done (Wp.region (.tq (t_load ty60 rfl (Cells.get (i := 0) hv_bx104_1.cells rfl)) rfl (Rg.wd trivial (w_call Tryz.call55 rfl (D_bump hC hp h3b (adds_le h2b hb))) rfl ?_)))
  rintro _ w6 ⟨hp1,hb6⟩
  replace hv_bx104_1 := var_bw hv_bx104_1 hb6 hF_bx104_1
  replace hv_bx104_2 := var_bw hv_bx104_2 hb6 hF_bx104_2
  replace hbw := hbw.trans (hb6.sub hsub)
  clear hp
  have hp := hp1
  clear hp1
  refine .done (Wp.region (.tq (t_load ty60 rfl (Cells.get (i := 0) hv_bx104_1.cells rfl)) rfl (Rg.wd trivial (w_call Tryz.call110 rfl (D_exp hC hp h2b hb)) rfl ?_)))
  rintro _ w7 ⟨hp1,hb7⟩
  replace hv_bx104_1 := var_bw hv_bx104_1 hb7 hF_bx104_1
  replace hv_bx104_2 := var_bw hv_bx104_2 hb7 hF_bx104_2
  replace hbw := hbw.trans (hb7.sub hsub)
  clear hp
  have hp := hp1
  clear hp1
  refine .done ?_
  exact ⟨[],trivial,(fun h => by cases h),hp.sub hsub hbase,hbw⟩
 | false =>
  have hq2 := run_condF h2a haq1
  refine .sr (.tq (t_load ty4 rfl (Cells.get (i := 0) hv_bx104_2.cells rfl)) rfl ?_)
  rw [haq1]
  refine .as rfl rfl (.done (.condF rfl ?_))
  cases haq3 : (isAt [⟨#[97,115]⟩] (sig1 s1.rem)) with
  | true =>
   have hq4 := run_condT hq2 haq3
   refine .sr (.tq (t_load ty60 rfl (Cells.get (i := 0) hv_bx104_1.cells rfl)) rfl (Rg.wd trivial (w_buildSlice (bs124_1 _) rfl) rfl ?_))
   rintro _ w5 ⟨bt14,rfl,qt14,hx5,hvt14⟩
   replace hbw := hbw.trans (Bw.of hx5 fun z hz => hp.und z (hsub z hz))
   replace hp := hp.extw hx5
   replace hv_bx104_1 := hv_bx104_1.ext hx5
   replace hv_bx104_2 := hv_bx104_2.ext hx5
   obtain ⟨s3,h3a,h3b⟩ := run_seq' hq4
   obtain rfl := run_bump' h3a
   refine Rg.wd trivial (w_call Tryz.call54 rfl (acc_T hC hp (texts := [⟨#[97,115]⟩]) hvt14 (by decide) haq3 (adds_le h3b (adds_le h2b hb)))) rfl ?_
   rintro _ w6 ⟨rfl,hp1,hb6⟩
   replace hv_bx104_1 := var_bw hv_bx104_1 hb6 hF_bx104_1
   replace hv_bx104_2 := var_bw hv_bx104_2 hb6 hF_bx104_2
   replace hbw := hbw.trans (hb6.sub hsub)
   clear hp
   have hp := hp1
   clear hp1
   refine .as rfl rfl (.done (.condT rfl (Wp.region (.tq (t_load ty60 rfl (Cells.get (i := 0) hv_bx104_1.cells rfl)) rfl (Rg.wd trivial (w_call Tryz.call107 rfl (D_expIdent hC hp h3b (adds_le h2b hb))) rfl ?_)))))
   rintro _ w7 ⟨hp1,hb7⟩
   replace hv_bx104_1 := var_bw hv_bx104_1 hb7 hF_bx104_1
   replace hv_bx104_2 := var_bw hv_bx104_2 hb7 hF_bx104_2
   replace hbw := hbw.trans (hb7.sub hsub)
   clear hp
   have hp := hp1
   clear hp1
   refine .done (Wp.region (.tq (t_load ty60 rfl (Cells.get (i := 0) hv_bx104_1.cells rfl)) rfl (Rg.wd trivial (w_call Tryz.call110 rfl (D_exp hC hp h2b hb)) rfl ?_)))
   rintro _ w8 ⟨hp1,hb8⟩
   replace hv_bx104_1 := var_bw hv_bx104_1 hb8 hF_bx104_1
   replace hv_bx104_2 := var_bw hv_bx104_2 hb8 hF_bx104_2
   replace hbw := hbw.trans (hb8.sub hsub)
   clear hp
   have hp := hp1
   clear hp1
   refine .done ?_
   exact ⟨[],trivial,(fun h => by cases h),hp.sub hsub hbase,hbw⟩
  | false =>
   have hq4 := run_condF hq2 haq3
   obtain rfl := run_skip' hq4
   refine .sr (.tq (t_load ty60 rfl (Cells.get (i := 0) hv_bx104_1.cells rfl)) rfl (Rg.wd trivial (w_buildSlice (bs124_1 _) rfl) rfl ?_))
   rintro _ w5 ⟨bt14,rfl,qt14,hx5,hvt14⟩
   replace hbw := hbw.trans (Bw.of hx5 fun z hz => hp.und z (hsub z hz))
   replace hp := hp.extw hx5
   replace hv_bx104_1 := hv_bx104_1.ext hx5
   replace hv_bx104_2 := hv_bx104_2.ext hx5
   refine Rg.wd trivial (w_call Tryz.call54 rfl (acc_F hC hp (texts := [⟨#[97,115]⟩]) hvt14 (by decide) haq3)) rfl ?_
   rintro _ w6 ⟨rfl,hp1,hb6⟩
   replace hv_bx104_1 := var_bw hv_bx104_1 hb6 hF_bx104_1
   replace hv_bx104_2 := var_bw hv_bx104_2 hb6 hF_bx104_2
   replace hbw := hbw.trans (hb6.sub hsub)
   clear hp
   have hp := hp1
   clear hp1
   refine .as rfl rfl (.done (.condF rfl (Wp.skip (Wp.region (.tq (t_load ty60 rfl (Cells.get (i := 0) hv_bx104_1.cells rfl)) rfl (Rg.wd trivial (w_call Tryz.call110 rfl (D_exp hC hp h2b hb)) rfl ?_))))))
   rintro _ w7 ⟨hp1,hb7⟩
   replace hv_bx104_1 := var_bw hv_bx104_1 hb7 hF_bx104_1
   replace hv_bx104_2 := var_bw hv_bx104_2 hb7 hF_bx104_2
   replace hbw := hbw.trans (hb7.sub hsub)
   clear hp
   have hp := hp1
   clear hp1
   refine .done ?_
   exact ⟨[],trivial,(fun h => by cases h),hp.sub hsub hbase,hbw⟩
end
end Go.Proofs.YtcelfjbajdffkaaGreatDoor.Par
