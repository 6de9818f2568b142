/- The reparse package: the updater in memory; reusePrefix. Printed by r6/Vd.py. -/
import Derived.Test.YtcelfjbajdffkaaGreatDoorXr
import Derived.Test.YtcelfjbajdffkaaGreatDoorXf
set_option linter.unusedVariables false
set_option linter.unusedSimpArgs false
namespace Go.Proofs.YtcelfjbajdffkaaGreatDoor.Par
set_option maxRecDepth 20000
open Go.Gx Go.RowKit Go.Lib
open Lexi (Asc)
open Lexi (tok toks tcs tcs_at tcs_drop tcs_length TE)
theorem row_set {gs : List Gt} {g : Gt} {z sp : List Value} (hz : z.length = 3) : (encs Gt.cells gs ++ z ++ sp).take (gs.length * 3) ++ g.cells ++ (encs Gt.cells gs ++ z ++ sp).drop (gs.length * 3 + g.cells.length) = encs Gt.cells (gs ++ [g]) ++ sp := by
 have hl : (encs Gt.cells gs).length = gs.length * 3 := encs_len Gt.len _
 rw [encs_app,encs_one,← hl,Gt.len,List.append_assoc,List.append_assoc,List.take_left,List.drop_append,List.drop_eq_nil_of_le (by omega),List.nil_append,Nat.add_sub_cancel_left,List.drop_append,List.drop_eq_nil_of_le (by omega),List.nil_append,hz,Nat.sub_self,List.drop_zero,List.append_assoc]
theorem cells_left {w : World} {b o : Nat} {x y : List Value} (h : Cells w b o (x ++ y)) : Cells w b o x := fun i v hv => h i v (by rw [List.getElem?_append_left (List.getElem?_eq_some_iff.1 hv).1]; exact hv)
def Fz (w : World) (b : Nat) (nv : Value) : Fs := fun z => z < w.heap.size ∧ z ≠ b ∧ nv.ownBlock ≠ some z
def GoY (y : Nat → Prop) (w : World) (g : Gt) : Prop := GOk (fun z => z < w.heap.size ∧ ¬ y z) w g
theorem GoY.ext {y : Nat → Prop} {w w' : World} {g : Gt} (h : GoY y w g) (x : Ext w w') : GoY y w' g := (GOk.bw h (Bw.of x fun z hz => hz.1) fun z hz => hz).mono fun z hz => ⟨Nat.lt_of_lt_of_le hz.1 x.le,hz.2⟩
theorem GoY.go {y : Nat → Prop} {w : World} {g : Gt} (h : GoY y w g) : GoL w g := GOk.mono h fun z hz => hz.1
theorem GoL.y {y : Nat → Prop} {w : World} {g : Gt} (h : GoL w g) (hy : ∀ z,y z → w.heap.size ≤ z) : GoY y w g := GOk.mono h fun z hz => ⟨hz,fun e => by have hz : z < w.heap.size := hz; have := hy z e; omega⟩
theorem GoY.upd {y : Nat → Prop} {w w' : World} {b : Nat} {g : Gt} (h : GoY y w g) (hu : Upd b w w') (hb : y b) : GoY y w' g := (GOk.bw h (Bw.upd hu fun hh => hh.2 hb) fun z hz => hz).mono fun z hz => ⟨by rw [hu.size]; exact hz.1,hz.2⟩
def GsY (y : Nat → Prop) (w : World) (l : List Gt) : Prop := ∀ c ∈ l,GoY y w c
theorem GsY.ext {y : Nat → Prop} {w w' : World} {l : List Gt} (h : GsY y w l) (x : Ext w w') : GsY y w' l := fun c hc => (h c hc).ext x
structure Up (y : Nat → Prop) (wA w : World) (b : Nat) (ov tv nv : Value) (off sh st re : Int) (gs : List Gt) : Prop where
 ex : Ext wA w
 ge : wA.heap.size ≤ b
 hy : ∀ z,y z → z < wA.heap.size
 var : Var w b [ov,tv,.int .i64 off,.int .i64 sh,.int .i64 st,.int .i64 re,nv] 79
 row : w.ownsRow wA.heap.size 25 3 nv gs.length (encs Gt.cells gs)
 ok : ∀ g ∈ gs,GOk (fun z => Fz w b nv z ∧ ¬ y z) w g
 offb : ∀ z,nv.ownBlock = some z → z ≠ b
 few : gs.length ≤ 1000000
theorem Up.fz {y : Nat → Prop} {wA w : World} {b : Nat} {ov tv nv : Value} {off sh st re : Int} {gs : List Gt} (h : Up y wA w b ov tv nv off sh st re gs) : ∀ z,z < wA.heap.size → Fz w b nv z := fun z hz => ⟨Nat.lt_of_lt_of_le hz h.ex.le,by have := h.ge; omega,fun e => by have := own_ge h.row e; omega⟩
def GF (y : Nat → Prop) (w : World) (b : Nat) (nv : Value) (g : Gt) : Prop := GOk (fun z => Fz w b nv z ∧ ¬ y z) w g
theorem GF.one {y : Nat → Prop} {w : World} {b : Nat} {nv : Value} {g : Gt} (h : GF y w b nv g) : ∀ u ∈ g.cells,u.oneCell' = true := GOk.one h
theorem Up.base {y : Nat → Prop} {wA w : World} {b : Nat} {ov tv nv : Value} {off sh st re : Int} {gs : List Gt} (h : Up y wA w b ov tv nv off sh st re gs) {g : Gt} (hg : GoY y wA g) : GF y w b nv g :=
 (GOk.bw hg (Bw.of h.ex fun z hz => hz.1) fun z hz => hz).mono fun z hz => ⟨h.fz z hz.1,hz.2⟩
theorem GF.ext {y : Nat → Prop} {w w' : World} {b : Nat} {nv : Value} {g : Gt} (hg : GF y w b nv g) (x : Ext w w') : GF y w' b nv g :=
 (GOk.bw hg (Bw.of x fun z (hz : Fz w b nv z ∧ _) => hz.1.1) fun z hz => hz).mono fun z hz => ⟨⟨Nat.lt_of_lt_of_le hz.1.1 x.le,hz.1.2⟩,hz.2⟩
theorem GF.upd {y : Nat → Prop} {w w' : World} {b : Nat} {nv : Value} {g : Gt} (hg : GF y w b nv g) (hu : Upd b w w') : GF y w' b nv g :=
 (GOk.bw hg (Bw.upd hu fun (hh : Fz w b nv b ∧ _) => hh.1.2.1 rfl) fun z hz => hz).mono fun z hz => ⟨⟨by rw [hu.size]; exact hz.1.1,hz.1.2⟩,hz.2⟩
theorem Up.ext {y : Nat → Prop} {wA w w' : World} {b : Nat} {ov tv nv : Value} {off sh st re : Int} {gs : List Gt} (h : Up y wA w b ov tv nv off sh st re gs) (x : Ext w w') : Up y wA w' b ov tv nv off sh st re gs :=
 ⟨h.ex.ext x,h.ge,h.hy,h.var.ext x,own_ext h.row x,fun g hg => GF.ext (h.ok g hg) x,h.offb,h.few⟩
theorem Up.put {y : Nat → Prop} {wA w w' : World} {b : Nat} {ov tv nv ov' tv' : Value} {off sh st re off' sh' st' re' : Int} {gs : List Gt} (h : Up y wA w b ov tv nv off sh st re gs) (hu : Upd b w w') (hv : Var w' b [ov',tv',.int .i64 off',.int .i64 sh',.int .i64 st',.int .i64 re',nv] 79) : Up y wA w' b ov' tv' nv off' sh' st' re' gs :=
 ⟨h.ex.upd hu h.ge,h.ge,h.hy,hv,own_bw h.row (Bw.upd (F := fun z => z ≠ b) hu fun hh => hh rfl) h.offb,fun g hg => GF.upd (h.ok g hg) hu,h.offb,h.few⟩
theorem Up.shape {y : Nat → Prop} {wA w : World} {b : Nat} {ov tv nv : Value} {off sh st re : Int} {gs : List Gt} (h : Up y wA w b ov tv nv off sh st re gs) : ∃ p c,nv = .slice p gs.length c := by
 rcases own_wholeG h.row with ⟨e,h0⟩ | ⟨_,_,_,e,_⟩
 ·exact ⟨none,0,by rw [e,h0]⟩
 ·exact ⟨_,_,e⟩
theorem Up.fzv {y : Nat → Prop} {wA w : World} {b c t : Nat} {cs : List Value} {ov tv nv : Value} {off sh st re : Int} {gs : List Gt} (h : Up y wA w b ov tv nv off sh st re gs) (hv : Var w c cs t) (h1 : t ≠ 79) (h2 : t ≠ 25) : Fz w b nv c :=
 ⟨hv.lt,fun e => Var.ne hv h.var h1 e,fun e => own_notin h.row hv h2 (by rw [e]; simp)⟩
theorem Up.app {y : Nat → Prop} {wA w w' : World} {b : Nat} {ov tv nv v' : Value} {off sh st re : Int} {gs : List Gt} {news : List Value} (h : Up y wA w b ov tv nv off sh st re gs) (hap : AppR w 25 3 gs.length 1 nv (encs Gt.cells gs ++ news) v' w') :
  ∃ gk capk spk,v' = .slice (some ⟨gk,0,none⟩) (gs.length + 1) capk ∧ gs.length + 1 ≤ capk ∧ capk ≤ maxLen ∧ spk.length = (capk - (gs.length + 1)) * 3 ∧ Var w' gk (encs Gt.cells gs ++ news ++ spk) 25 ∧ wA.heap.size ≤ gk ∧ b ≠ gk ∧ Var w' b [ov,tv,.int .i64 off,.int .i64 sh,.int .i64 st,.int .i64 re,nv] 79 ∧ Bw (Fz w b nv) w w' ∧ (nv.ownBlock = some gk ∨ w.heap.size ≤ gk) := by
 obtain ⟨gk,capk,spk,rfl,h1,h2,h3,h4,h5⟩ := hap
 have hfr : nv.ownBlock = some gk ∨ w.heap.size ≤ gk := by
  rcases h5 with ⟨⟨c,e⟩,_⟩ | ⟨e,_⟩
  ·exact .inl (by rw [e]; rfl)
  ·exact .inr e
 have hne : b ≠ gk := fun e => by
  rcases hfr with e1 | e1
  ·exact h.offb _ e1 e.symm
  ·have := h.var.lt
   omega
 have hge : wA.heap.size ≤ gk := hfr.elim (fun e => own_ge h.row e) fun e => Nat.le_trans h.ex.le e
 refine ⟨gk,capk,spk,rfl,h1,h2,h3,h4,hge,hne,?_,?_,hfr⟩
 ·rcases h5 with ⟨_,hu⟩ | ⟨_,hx⟩
  ·exact h.var.upd hu hne
  ·exact h.var.ext hx
 ·rcases h5 with ⟨⟨c,e⟩,hu⟩ | ⟨_,hx⟩
  ·exact Bw.upd hu fun hh => hh.2.2 (by rw [e]; rfl)
  ·exact Bw.of hx fun z hz => hz.1
theorem Up.push {y : Nat → Prop} {wA w w' : World} {b : Nat} {ov tv nv : Value} {off sh st re : Int} {gs : List Gt} {g : Gt} {gk capk : Nat} {spk : List Value} (h : Up y wA w b ov tv nv off sh st re gs) (hg : GF y w b nv g) (hB : Bw (Fz w b nv) w w')
  (hv : Var w' b [ov,tv,.int .i64 off,.int .i64 sh,.int .i64 st,.int .i64 re,.slice (some ⟨gk,0,none⟩) (gs.length + 1) capk] 79) (h1 : gs.length + 1 ≤ capk) (h2 : capk ≤ maxLen) (h3 : spk.length = (capk - (gs.length + 1)) * 3) (hk : Var w' gk (encs Gt.cells (gs ++ [g]) ++ spk) 25) (hge : wA.heap.size ≤ gk) (hne : b ≠ gk) (hfr : nv.ownBlock = some gk ∨ w.heap.size ≤ gk) (hfew : gs.length + 1 ≤ 1000000) :
  Up y wA w' b ov tv (.slice (some ⟨gk,0,none⟩) (gs.length + 1) capk) off sh st re (gs ++ [g]) := by
 refine ⟨Bw.ext h.ex hB h.fz,h.ge,h.hy,hv,?_,fun g' hg' => ?_,fun z hz e => ?_,by simpa using hfew⟩
 ·rw [List.length_append,List.length_singleton]
  exact whole_ownG hge ((encs_len Gt.len _).trans (by simp)) h1 h2 h3 hk
 ·have hF : GF y w b nv g' := by
   rcases List.mem_append.1 hg' with hg' | hg'
   ·exact h.ok g' hg'
   ·obtain rfl : g' = g := by simpa using hg'
    exact hg
  refine (GOk.bw hF (hB.sub fun z hz => hz.1) fun z hz => hz).mono fun z hz => ⟨⟨Nat.lt_of_lt_of_le hz.1.1 hB.size,hz.1.2.1,fun e => ?_⟩,hz.2⟩
  have e : some gk = some z := e
  injection e with e
  subst e
  exact hfr.elim hz.1.2.2 fun h => by have := hz.1.1; omega
 ·have hz : some gk = some z := hz
  injection hz with hz
  exact hne (e ▸ hz.symm)
theorem Up.last {y : Nat → Prop} {wA w : World} {b : Nat} {ov tv nv : Value} {off sh st re : Int} {gs : List Gt} {g : Gt} (h : Up y wA w b ov tv nv off sh st re (gs ++ [g])) : ∃ gk cap sp,nv = .slice (some ⟨gk,0,none⟩) (gs.length + 1) cap ∧ gs.length + 1 ≤ cap ∧ cap ≤ maxLen ∧ sp.length = (cap - (gs.length + 1)) * 3 ∧ Var w gk (encs Gt.cells (gs ++ [g]) ++ sp) 25 ∧ wA.heap.size ≤ gk := by
 rcases own_wholeG h.row with ⟨_,h0⟩ | ⟨gk,cap,sp,e,h1,h2,h3,h4,h5⟩
 ·simp at h0
 ·rw [List.length_append,List.length_singleton] at e h2 h4
  exact ⟨gk,cap,sp,e,h2,h3,h4,h5,h1⟩
theorem Up.setLast {y : Nat → Prop} {wA w w' : World} {b gk cap : Nat} {ov tv : Value} {off sh st re : Int} {gs : List Gt} {z g : Gt} {sp : List Value} (h : Up y wA w b ov tv (.slice (some ⟨gk,0,none⟩) (gs.length + 1) cap) off sh st re (gs ++ [z])) (hg : GF y w b (.slice (some ⟨gk,0,none⟩) (gs.length + 1) cap) g) (h1 : gs.length + 1 ≤ cap) (h2 : cap ≤ maxLen) (h3 : sp.length = (cap - (gs.length + 1)) * 3) (hge : wA.heap.size ≤ gk) (hu : Upd gk w w') (hv : Var w' gk (encs Gt.cells (gs ++ [g]) ++ sp) 25) :
  Up y wA w' b ov tv (.slice (some ⟨gk,0,none⟩) (gs.length + 1) cap) off sh st re (gs ++ [g]) := by
 have hne : b ≠ gk := fun e => h.offb gk rfl e.symm
 refine ⟨h.ex.upd hu hge,h.ge,h.hy,h.var.upd hu hne,?_,fun g' hg' => ?_,h.offb,by have := h.few; simpa using this⟩
 ·rw [List.length_append,List.length_singleton]
  exact whole_ownG hge ((encs_len Gt.len _).trans (by simp)) h1 h2 h3 hv
 ·have hF : GF y w b (.slice (some ⟨gk,0,none⟩) (gs.length + 1) cap) g' := by
   rcases List.mem_append.1 hg' with hg' | hg'
   ·exact h.ok g' (List.mem_append_left _ hg')
   ·obtain rfl : g' = g := by simpa using hg'
    exact hg
  exact (GOk.bw hF (Bw.upd hu fun (hh : Fz w b _ gk ∧ _) => hh.1.2.2 rfl) fun z hz => hz).mono fun z hz => ⟨⟨by rw [hu.size]; exact hz.1.1,hz.1.2⟩,hz.2⟩
theorem kept_of {a : Int} {l : List Ch} {k : Nat} (h1 : ∀ i (h : i < l.length),i < k → l[i].keep a = true) (h2 : k ≤ l.length) (h3 : ∀ (h : k < l.length),l[k].keep a = false) : kept a l = k := by
 unfold kept
 induction l generalizing k with
 | nil => simp at h2 ⊢; omega
 | cons c l ih =>
  cases k with
  | zero =>
   have := h3 (by simp)
   simp only [List.getElem_cons_zero] at this
   simp [this]
  | succ k =>
   have h0 := h1 0 (by simp) (by omega)
   simp only [List.getElem_cons_zero] at h0
   simp only [List.takeWhile_cons,h0,if_true,List.length_cons]
   rw [ih (k := k) (fun i h hi => by have := h1 (i + 1) (by simpa using h) (by omega); simpa using this) (by simpa using h2) fun h => by have := h3 (by simpa using h); simpa using this]
theorem cms_at (s : ByteArray) (l : List Gt) (i : Nat) (h : i < (cms s 0 l).length) : (cms s 0 l)[i] = ⟨l[i]'(by rw [cms_length] at h; exact h),(txtL ((erL l).take i)).length,(txtL ((erL l).take (i + 1))).length,sw s (sw s (txtL ((erL l).take (i + 1))).length)⟩ := by
 have hl : i < l.length := by rw [cms_length] at h; exact h
 have hE : i < (erL l).length := by rw [erL_len]; exact hl
 have key : ∀ (l : List Gt) (o i : Nat) (h : i < l.length),(cms s o l)[i]? = some ⟨l[i],o + (txtL ((erL l).take i)).length,o + (txtL ((erL l).take (i + 1))).length,sw s (sw s (o + (txtL ((erL l).take (i + 1))).length))⟩ := by
  intro l
  induction l with
  | nil => intro o i h; simp at h
  | cons g l ih =>
   intro o i h
   cases i with
   | zero => simp [cms,erL,txtL]
   | succ i =>
    simp only [cms,List.getElem?_cons_succ,erL,List.take_succ_cons,txtL,List.length_append,List.getElem_cons_succ]
    rw [ih _ i (by simpa using h)]
    simp only [List.take_succ_cons,txtL,List.length_append,Nat.add_assoc]
 have := key l 0 i hl
 rw [List.getElem?_eq_getElem h] at this
 injection this with this
 rw [this]
 simp
theorem cms_ch (s : ByteArray) (l : List Gt) (i : Nat) (h : i < (chs s 0 (erL l)).length) : (chs s 0 (erL l))[i] = ((cms s 0 l)[i]'(by rw [cms_length]; rw [chs_length,erL_len] at h; exact h)).er := by
 simp only [← cms_er,List.getElem_map]
set_option maxHeartbeats 1000000 in
theorem prefix_ok {y : Nat → Prop} {wA w : World} {b : Nat} {ov tv : Value} {sh st a : Int} {s : ByteArray} {l : List Gt} (hU : Up y wA w b ov tv (.slice none 0 0) 0 sh st 0 []) (ho : SlC wA ov 6 l.length (encs Cm.cells (cms s 0 l))) (hg : GsY y wA l) (hl : l.length ≤ 500000) :
  Cl Tryz.prog 39 #[.pointer (some ⟨b,0,none⟩),.int .i64 a] w (fun u w' => ∃ nv,Up y wA w' b ov tv nv ((txtL ((erL l).take (kept a (chs s 0 (erL l))))).length : Nat) sh st (kept a (chs s 0 (erL l)) : Nat) (l.take (kept a (chs s 0 (erL l))))) := by
 have hUv := hU.var
 have hcl := cms_length s l 0
 have hkl := chs_length s (erL l) 0
 rw [erL_len] at hkl
 refine Cl.enter Tryz.func39 rfl Tryz.ntmps39 rfl rfl (.sr (.mv rfl rfl (.tq (t_nilCheck rfl) rfl (.tq (t_fieldAddr fa79_0 rfl) rfl (.tq (t_load ty75 rfl (Cells.get (i := 0) hUv.cells rfl)) rfl ?_)))))
 have hclo : SlC wA ov 6 (cms s 0 l).length (encs Cm.cells (cms s 0 l)) := by rw [hcl]; exact ho
 refine .tq (t_lenC hclo Tryz.underlying75 rfl) rfl (.mv rfl rfl (.done (Wp.block ?_)))
 have hUx : Up y wA w b ov tv (.slice none 0 0) ((txtL ((erL l).take 0)).length : Nat) sh st ((0 : Nat) : Int) (l.take 0) := by
  simpa [txtL] using hU
 refine Wp.loop (ι := Nat) (fun k => [(0,.pointer (some ⟨b,0,none⟩)),(1,.int .i64 a),(9,ov),(10,.int .i64 (cms s 0 l).length),(11,.int .i64 k)])
  (fun k w' => k ≤ l.length ∧ (∀ i (h : i < (chs s 0 (erL l)).length),i < k → (chs s 0 (erL l))[i].keep a = true) ∧ ∃ nv,Up y wA w' b ov tv nv ((txtL ((erL l).take k)).length : Nat) sh st (k : Nat) (l.take k)) (fun k => l.length - k) 0 (by repeat (first | exact .nil | refine .cons rfl ?_)) ⟨Nat.zero_le _,fun i _ h => absurd h (Nat.not_lt_zero _),_,hUx⟩ ?_
 clear hU hUv hUx
 rintro k w3 ⟨hk,hpre,nv,hU4⟩
 have hclw := hclo.ext hU4.ex
 by_cases hlt : k < l.length
 ·have hlc : k < (cms s 0 l).length := by omega
  have hlh : k < (chs s 0 (erL l)).length := by omega
  have hltE : k < (erL l).length := by rw [erL_len]; exact hlt
  have hat := cms_at s l k hlc
  have hch := cms_ch s l k hlh
  obtain ⟨c,hce⟩ : ∃ c,(cms s 0 l)[k] = c := ⟨_,rfl⟩
  rw [hce] at hat hch
  have hcg : c.g = l[k] := by rw [hat]
  have hcf : c.fin = (txtL ((erL l).take (k + 1))).length := by rw [hat]
  have hgc : GoY y wA c.g := hg _ (by rw [hcg]; exact List.getElem_mem hlt)
  have hkeep : (chs s 0 (erL l))[k].keep a = (decide ((c.look : Int) < a) && decide (c.g.er.kd < 100)) := by rw [hch]; rfl
  obtain ⟨⟨ck,ctx,ccv,ckids⟩,cs,cf,cl⟩ := c
  simp only at hcg hcf hgc hkeep
  have hg5 := hU4.base hgc
  obtain ⟨pc,cc,rfl⟩ := hU4.shape
  obtain ⟨cp,cn,ccc,rfl⟩ : ∃ p n c,ccv = .slice p n c := by
   cases hgc with
   | mk h1 _ _ _ =>
    obtain ⟨_,p,c,e,_⟩ := h1
    exact ⟨_,_,_,e⟩
  by_cases hlook : (cl : Int) < a
  ·skip
   by_cases htk : 100 ≤ ck
   ·skip
    refine .sr ?_
    first | refine .tq (t_lssT rfl rfl (by omega)) rfl ?_ | refine .tq (t_lssF rfl rfl (by omega)) rfl ?_ | refine .tq (t_lss rfl rfl) rfl ?_
    refine .done (.seq (.condT rfl (Wp.skip (.seq (Wp.block (.sr ?_))))))
    refine Rg.ix hclw trivial rfl rfl Tryz.underlying75 ty116 (by omega) rfl ?_
    intro bt13 ot13 ht13
    rw [Int.toNat_natCast,encs_at Cm.len _ k hlc,hce] at ht13
    refine .tq (t_loadA rfl ht13 (by exact ty116)) rfl ?_
    refine Rg.wd trivial (w_new Tryz.zeroValue116 rfl) rfl ?_
    rintro _ wab5 ⟨b5,rfl,qb5,hxab5,hvab5⟩
    refine Rg.wn trivial (w_put (cs := [.int .i64 ck,.string ctx,.slice cp cn ccc,.int .i64 cs,.int .i64 cf,.int .i64 cl]) hvab5 rfl rfl rfl (ty116) (rfl) (rfl)) ?_
    rintro _ w4 ⟨hub5,hvb5⟩
    have hx4 := hxab5.upd hub5 (Nat.le_of_eq qb5.symm)
    clear hvab5 hub5 hxab5
    replace hU4 := hU4.ext hx4
    replace hg5 := hg5.ext hx4
    replace ht13 := ht13.ext hx4
    clear qb5
    refine .done (.seq (.sr (.tq (t_fieldAddr fa116_3 rfl) rfl (.tq (t_load ty3 rfl (Cells.get (i := 5) hvb5.cells rfl)) rfl (.mv rfl rfl ?_)))))
    refine .tq (t_geqF rfl rfl (by omega)) rfl ?_
    refine .mv rfl rfl ?_
    first | refine .gd (t_fieldAddr fa116_0 rfl) rfl ?_ | refine .so rfl rfl ?_
    refine .gd (t_loadA rfl (cells_left (x := (Gt.mk ck ctx (.slice cp cn ccc) ckids).cells) hvb5.cells) (by exact ty25)) rfl ?_
    refine Rg.wd ⟨_,rfl,rfl⟩ (w_call Tryz.call76 rfl (isToken_ok (g := .mk ck ctx (.slice cp cn ccc) ckids))) rfl ?_
    rintro _ w5 ⟨rfl,hx5⟩
    replace hU4 := hU4.ext hx5
    replace hg5 := hg5.ext hx5
    replace ht13 := ht13.ext hx5
    replace hvb5 := hvb5.ext hx5
    rw [decide_eq_true (show 100 ≤ (Gt.mk ck ctx (.slice cp cn ccc) ckids).er.kd from htk)]
    first | refine .tq (t_pickT rfl rfl) rfl ?_ | refine .tq (t_pickF rfl rfl) rfl ?_
    refine .done (.condT rfl (Wp.ret ?_))
    have hkt := kept_of (k := k) hpre (by omega) fun _ => by rw [hkeep]; rw [decide_eq_false (show ¬ (Gt.mk ck ctx (.slice cp cn ccc) ckids).er.kd < 100 from by show ¬ ck < 100; omega),Bool.and_false]
    rw [hkt]
    exact ⟨[],trivial,_,hU4⟩
   ·skip
    have hkT : (chs s 0 (erL l))[k].keep a = true := by
     rw [hkeep,decide_eq_true hlook,decide_eq_true (show (Gt.mk ck ctx (.slice cp cn ccc) ckids).er.kd < 100 from by show ck < 100; omega)]
     rfl
    have hgl : (l.take k).length = k := by rw [List.length_take]; omega
    obtain ⟨i25,hi25,hz25,hsi25,hby25⟩ := inf25
    refine .sr ?_
    first | refine .tq (t_lssT rfl rfl (by omega)) rfl ?_ | refine .tq (t_lssF rfl rfl (by omega)) rfl ?_ | refine .tq (t_lss rfl rfl) rfl ?_
    refine .done (.seq (.condT rfl (Wp.skip (.seq (Wp.block (.sr ?_))))))
    refine Rg.ix hclw trivial rfl rfl Tryz.underlying75 ty116 (by omega) rfl ?_
    intro bt13 ot13 ht13
    rw [Int.toNat_natCast,encs_at Cm.len _ k hlc,hce] at ht13
    refine .tq (t_loadA rfl ht13 (by exact ty116)) rfl ?_
    refine Rg.wd trivial (w_new Tryz.zeroValue116 rfl) rfl ?_
    rintro _ wab5 ⟨b5,rfl,qb5,hxab5,hvab5⟩
    refine Rg.wn trivial (w_put (cs := [.int .i64 ck,.string ctx,.slice cp cn ccc,.int .i64 cs,.int .i64 cf,.int .i64 cl]) hvab5 rfl rfl rfl (ty116) (rfl) (rfl)) ?_
    rintro _ w4 ⟨hub5,hvb5⟩
    have hx4 := hxab5.upd hub5 (Nat.le_of_eq qb5.symm)
    clear hvab5 hub5 hxab5
    replace hU4 := hU4.ext hx4
    replace hg5 := hg5.ext hx4
    replace ht13 := ht13.ext hx4
    clear qb5
    refine .done (.seq (.sr (.tq (t_fieldAddr fa116_3 rfl) rfl (.tq (t_load ty3 rfl (Cells.get (i := 5) hvb5.cells rfl)) rfl (.mv rfl rfl ?_)))))
    refine .tq (t_geqF rfl rfl (by omega)) rfl ?_
    refine .mv rfl rfl ?_
    first | refine .gd (t_fieldAddr fa116_0 rfl) rfl ?_ | refine .so rfl rfl ?_
    refine .gd (t_loadA rfl (cells_left (x := (Gt.mk ck ctx (.slice cp cn ccc) ckids).cells) hvb5.cells) (by exact ty25)) rfl ?_
    refine Rg.wd ⟨_,rfl,rfl⟩ (w_call Tryz.call76 rfl (isToken_ok (g := .mk ck ctx (.slice cp cn ccc) ckids))) rfl ?_
    rintro _ w5 ⟨rfl,hx5⟩
    replace hU4 := hU4.ext hx5
    replace hg5 := hg5.ext hx5
    replace ht13 := ht13.ext hx5
    replace hvb5 := hvb5.ext hx5
    rw [decide_eq_false (show ¬ 100 ≤ (Gt.mk ck ctx (.slice cp cn ccc) ckids).er.kd from htk)]
    first | refine .tq (t_pickT rfl rfl) rfl ?_ | refine .tq (t_pickF rfl rfl) rfl ?_
    refine .done (.condF rfl (Wp.skip ?_))
    refine Wp.seq (Wp.cut (fun L w' => ∃ i_ : Unit,Sub ((fun _ => [(0,.pointer (some ⟨b,0,none⟩)),(1,.int .i64 a),(5,.pointer (some ⟨b5,0,none⟩)),(9,ov),(10,.int .i64 (cms s 0 l).length),(11,.int .i64 k)]) i_) L ∧ (fun _ w' => (∃ nv',Up y wA w' b ov tv nv' ((txtL ((erL l).take k)).length : Nat) sh st (k : Nat) ((l.take k) ++ [Gt.mk ck ctx (.slice cp cn ccc) ckids])) ∧ Var w' b5 [.int .i64 ck,.string ctx,.slice cp cn ccc,.int .i64 cs,.int .i64 cf,.int .i64 cl] 116) i_ w') ?_ ?_)
    ·skip
     refine Wp.drawB (fun w' => Var w' b [ov,tv,.int .i64 ((txtL ((erL l).take k)).length : Nat),.int .i64 sh,.int .i64 st,.int .i64 (k : Nat),.slice pc (l.take k).length cc] 79 ∧ Var w' b5 [.int .i64 ck,.string ctx,.slice cp cn ccc,.int .i64 cs,.int .i64 cf,.int .i64 cl] 116) 8 mixed ?_
     intro w6 hx6 hh6
     replace hU4 := hU4.ext hx6
     replace hg5 := hg5.ext hx6
     replace ht13 := ht13.ext hx6
     replace hvb5 := hvb5.ext hx6
     refine ⟨⟨hU4.var,hvb5⟩,?_⟩
     refine Qb.tameW (by kernel_rfl) 0 rfl (by kernel_rfl) trivial (tw_of fun wz => t_move rfl) rfl ?_
     refine Qb.tameW (by kernel_rfl) 1 rfl (by kernel_rfl) trivial (tw_of fun wz => t_nilCheck rfl) rfl ?_
     refine Qb.tameW (by kernel_rfl) 2 rfl (by kernel_rfl) trivial (tw_of fun wz => t_fieldAddr fa79_6 rfl) rfl ?_
     refine Qb.tame (by kernel_rfl) 3 rfl (by kernel_rfl) trivial (ts fun wz hkz => by exact t_load ty23 rfl (Cells.get (i := 6) hkz.1.cells rfl)) rfl ?_
     refine Qb.tameW (by kernel_rfl) 4 rfl (by kernel_rfl) trivial (tw_of fun wz => t_fieldAddr fa116_0 rfl) rfl ?_
     refine Qb.tame (by kernel_rfl) 5 rfl (by kernel_rfl) trivial (ts fun wz hkz => by exact t_loadA rfl (cells_left (x := (Gt.mk ck ctx (.slice cp cn ccc) ckids).cells) hkz.2.cells) (by exact ty25)) rfl ?_
     refine Qb.tame (by kernel_rfl) 6 rfl (by kernel_rfl) trivial (ts fun wz hkz => by exact t_lenS Tryz.underlying23 rfl) rfl ?_
     refine Qb.alt1 (i := 7) (by kernel_rfl) ?_
     refine ⟨_,_,rfl,rfl,trivial,w_buildSlice (bs23_1 _ _ _ _ _) rfl,rfl,fun _ _ hr => by obtain ⟨_,_,_,hr,_⟩ := hr; exact ⟨hU4.var.ext hr,hvb5.ext hr⟩,?_⟩
     rintro _ w7 ⟨bb,rfl,qbb,hx7,hvbb⟩
     replace hU4 := hU4.ext hx7
     replace hg5 := hg5.ext hx7
     replace ht13 := ht13.ext hx7
     replace hvb5 := hvb5.ext hx7
     refine Qb.bar (fun _ => True) 8 14 rfl (by kernel_rfl) rfl trivial (w_appendO Tryz.underlying23 hi25 hz25 hsi25 hby25 rfl rfl rfl (own_mono hU4.row (Nat.zero_le _)) (slc_var hvbb rfl) (by decide) (by decide) (by unfold maxLen; have := hU4.few; omega) (by have := hU4.few; omega)) rfl (fun _ _ _ => trivial) ?_
     rintro v2 wP hap
     obtain ⟨gk,capk,spk,rfl,hck,hmk,hlk,hvk,hgeA,hne,hvP,hB,hfr⟩ := hU4.app hap
     have hoE : 0 + (((l.take k)).length : Int).toNat * 3 = ((l.take k)).length * 3 := by omega
     have nGk : ¬ Fz w7 b (.slice pc (l.take k).length cc) gk := fun h => hfr.elim (fun e => h.2.2 e) fun e => by have := h.1; omega
     have nGP : ¬ Fz w7 b (.slice pc (l.take k).length cc) b := fun h => h.2.1 rfl
     have hKl : (encs Gt.cells ((l.take k)) ++ [Value.int .i64 0,Value.string ⟨#[]⟩,Value.slice none 0 0] ++ spk).length = ((l.take k)).length * 3 + 3 + spk.length := by rw [List.length_append,List.length_append,encs_len Gt.len]; rfl
     refine Qb.tameW (by kernel_rfl) 9 rfl (by kernel_rfl) trivial (tw_of fun wz => t_indexAddrL Tryz.underlying23 ty25 rfl rfl (by omega)) rfl ?_
     refine Qb.tameW (by kernel_rfl) 11 rfl (by kernel_rfl) trivial (tw_of fun wz => t_nilCheck rfl) rfl ?_
     refine Qb.tameW (by kernel_rfl) 12 rfl (by kernel_rfl) trivial (tw_of fun wz => t_fieldAddr fa79_6 rfl) rfl ?_
     refine Qb.alt2 (i := 10) (j := 13) (by kernel_rfl) ?_ ?_
     ·skip
      refine ⟨_,_,rfl,rfl,trivial,w_putAt (cs := (Gt.mk ck ctx (.slice cp cn ccc) ckids).cells) hvk rfl rfl rfl (by rw [Gt.len]; exact ty25) (by rw [hoE,hKl,Gt.len]; omega) hg5.one,rfl,fun _ _ h => trivial,?_⟩
      rintro _ wE ⟨huE,hvE⟩
      rw [hoE] at hvE
      replace hvE : Var wE gk (encs Gt.cells ((l.take k) ++ [Gt.mk ck ctx (.slice cp cn ccc) ckids]) ++ spk) 25 := (row_set (gs := (l.take k)) (g := Gt.mk ck ctx (.slice cp cn ccc) ckids) (z := [Value.int .i64 0,Value.string ⟨#[]⟩,Value.slice none 0 0]) (sp := spk) rfl) ▸ hvE
      clear hvk
      have hvk := hvE
      clear hvE
      replace hvP := hvP.upd huE hne
      replace hB := hB.trans (Bw.upd huE nGk)
      refine Qb.alt1 (i := 13) (by kernel_rfl) ?_
      refine ⟨_,_,rfl,rfl,trivial,w_putF hvP ty23 rfl rfl rfl rfl rfl,rfl,fun _ _ h => trivial,?_⟩
      rintro _ wS ⟨huS,hvS⟩
      simp only [List.set] at hvS
      clear hvP
      have hvP := hvS
      clear hvS
      replace hvk := hvk.upd huS (Ne.symm hne)
      replace hB := hB.trans (Bw.upd huS nGP)
      refine Qb.done (by kernel_rfl) ?_
      exact ⟨(),by repeat (first | exact .nil | refine .cons rfl ?_),⟨_,hU4.push hg5 hB hvP hck hmk hlk hvk hgeA hne hfr (by rw [hgl]; omega)⟩,var_bw hvb5 hB (hU4.fzv hvb5 (by decide) (by decide))⟩
     ·skip
      refine ⟨_,_,rfl,rfl,trivial,w_putF hvP ty23 rfl rfl rfl rfl rfl,rfl,fun _ _ h => trivial,?_⟩
      rintro _ wS ⟨huS,hvS⟩
      simp only [List.set] at hvS
      clear hvP
      have hvP := hvS
      clear hvS
      replace hvk := hvk.upd huS (Ne.symm hne)
      replace hB := hB.trans (Bw.upd huS nGP)
      refine Qb.alt1 (i := 10) (by kernel_rfl) ?_
      refine ⟨_,_,rfl,rfl,trivial,w_putAt (cs := (Gt.mk ck ctx (.slice cp cn ccc) ckids).cells) hvk rfl rfl rfl (by rw [Gt.len]; exact ty25) (by rw [hoE,hKl,Gt.len]; omega) hg5.one,rfl,fun _ _ h => trivial,?_⟩
      rintro _ wE ⟨huE,hvE⟩
      rw [hoE] at hvE
      replace hvE : Var wE gk (encs Gt.cells ((l.take k) ++ [Gt.mk ck ctx (.slice cp cn ccc) ckids]) ++ spk) 25 := (row_set (gs := (l.take k)) (g := Gt.mk ck ctx (.slice cp cn ccc) ckids) (z := [Value.int .i64 0,Value.string ⟨#[]⟩,Value.slice none 0 0]) (sp := spk) rfl) ▸ hvE
      clear hvk
      have hvk := hvE
      clear hvE
      replace hvP := hvP.upd huE hne
      replace hB := hB.trans (Bw.upd huE nGk)
      refine Qb.done (by kernel_rfl) ?_
      exact ⟨(),by repeat (first | exact .nil | refine .cons rfl ?_),⟨_,hU4.push hg5 hB hvP hck hmk hlk hvk hgeA hne hfr (by rw [hgl]; omega)⟩,var_bw hvb5 hB (hU4.fzv hvb5 (by decide) (by decide))⟩
    ·rintro L' wF ⟨_,hs,⟨nv',hU5⟩,hvb5⟩
     refine Wp.sub hs ?_
     rw [show l.take k ++ [Gt.mk ck ctx (.slice cp cn ccc) ckids] = l.take (k + 1) from by rw [List.take_succ_eq_append_getElem hlt,← hcg]] at hU5
     have hU5v := hU5.var
     refine .sr (.mv rfl rfl (.tq (t_fieldAddr fa116_2 rfl) rfl (.tq (t_load ty3 rfl (Cells.get (i := 4) hvb5.cells rfl)) rfl (.tq (t_nilCheck rfl) rfl (.tq (t_fieldAddr fa79_2 rfl) rfl (Rg.wn trivial (w_putF hU5v ty3 rfl rfl rfl rfl rfl) ?_))))))
     rintro _ w20 ⟨hu20,hv20⟩
     simp only [List.set] at hv20
     rw [hcf] at hv20
     replace hU5 := hU5.put hu20 hv20
     refine .done (Wp.region (.mv rfl rfl (.tq (t_nilCheck rfl) rfl (.tq (t_fieldAddr fa79_5 rfl) rfl (.tq (t_load ty3 rfl (Cells.get (i := 5) hv20.cells rfl)) rfl ?_)))))
     refine .tq (t_addI rfl rfl (by omega)) rfl ?_
     rw [show ((k : Int) + 1) = ((k + 1 : Nat) : Int) from rfl]
     refine .tq (t_nilCheck rfl) rfl (.tq (t_fieldAddr fa79_5 rfl) rfl (Rg.wn trivial (w_putF hv20 ty3 rfl rfl rfl rfl rfl) ?_))
     rintro _ w21 ⟨hu21,hv21⟩
     simp only [List.set] at hv21
     replace hU5 := hU5.put hu21 hv21
     refine .done (Wp.region ?_)
     first | refine .tq (t_addI rfl rfl (by omega)) rfl ?_ | refine .tq (t_add rfl rfl) rfl ?_
     refine .mv rfl rfl (.done ?_)
     exact ⟨k + 1,by repeat (first | exact .nil | refine .cons rfl ?_),⟨hlt,fun i h hi => by
      rcases Nat.lt_succ_iff_lt_or_eq.1 hi with hi | rfl
      ·exact hpre i h hi
      ·exact hkT,_,hU5⟩,by omega⟩
  ·skip
   refine .sr ?_
   first | refine .tq (t_lssT rfl rfl (by omega)) rfl ?_ | refine .tq (t_lssF rfl rfl (by omega)) rfl ?_ | refine .tq (t_lss rfl rfl) rfl ?_
   refine .done (.seq (.condT rfl (Wp.skip (.seq (Wp.block (.sr ?_))))))
   refine Rg.ix hclw trivial rfl rfl Tryz.underlying75 ty116 (by omega) rfl ?_
   intro bt13 ot13 ht13
   rw [Int.toNat_natCast,encs_at Cm.len _ k hlc,hce] at ht13
   refine .tq (t_loadA rfl ht13 (by exact ty116)) rfl ?_
   refine Rg.wd trivial (w_new Tryz.zeroValue116 rfl) rfl ?_
   rintro _ wab5 ⟨b5,rfl,qb5,hxab5,hvab5⟩
   refine Rg.wn trivial (w_put (cs := [.int .i64 ck,.string ctx,.slice cp cn ccc,.int .i64 cs,.int .i64 cf,.int .i64 cl]) hvab5 rfl rfl rfl (ty116) (rfl) (rfl)) ?_
   rintro _ w4 ⟨hub5,hvb5⟩
   have hx4 := hxab5.upd hub5 (Nat.le_of_eq qb5.symm)
   clear hvab5 hub5 hxab5
   replace hU4 := hU4.ext hx4
   replace hg5 := hg5.ext hx4
   replace ht13 := ht13.ext hx4
   clear qb5
   refine .done (.seq (.sr (.tq (t_fieldAddr fa116_3 rfl) rfl (.tq (t_load ty3 rfl (Cells.get (i := 5) hvb5.cells rfl)) rfl (.mv rfl rfl ?_)))))
   refine .tq (t_geqT rfl rfl (by omega)) rfl ?_
   refine .mv rfl rfl (.so rfl rfl (.so rfl rfl (.so rfl rfl ?_)))
   first | refine .tq (t_pickT rfl rfl) rfl ?_ | refine .tq (t_pickF rfl rfl) rfl ?_
   refine .done (.condT rfl (Wp.ret ?_))
   have hkt := kept_of (k := k) hpre (by omega) fun _ => by rw [hkeep]; rw [decide_eq_false hlook,Bool.false_and]
   rw [hkt]
   exact ⟨[],trivial,_,hU4⟩
 ·obtain rfl : k = l.length := by omega
  refine .sr ?_
  first | refine .tq (t_lssT rfl rfl (by omega)) rfl ?_ | refine .tq (t_lssF rfl rfl (by omega)) rfl ?_ | refine .tq (t_lss rfl rfl) rfl ?_
  refine .done (.seq (.condF rfl (Wp.exit ?_)))
  have hkt := kept_of (k := l.length) hpre (by omega) fun h => absurd h (by omega)
  rw [hkt]
  exact ⟨[],trivial,_,hU4⟩
end Go.Proofs.YtcelfjbajdffkaaGreatDoor.Par
namespace Go.Proofs.YtcelfjbajdffkaaGreatDoor.Par
set_option maxRecDepth 20000
open Go.Gx Go.RowKit Go.Lib
open Lexi (Asc)
open Lexi (tok toks tcs tcs_at tcs_drop tcs_length TE)
theorem Item.adds {l v : List Tok} {t : Tr} (hv : V l) (h : Item l t v) : ∃ n r,run body n (.call .item) ⟨l,[],false,0⟩ = some r ∧ r.kids = [t] ∧ r.rem = v ∧ r.adds ≤ 24 * B l ∧ t.cnt ≤ 24 * B l := by
 obtain ⟨hs,n,r,h1,h2,rfl⟩ := h
 have hj : J (.call .item) ⟨l,[],false,0⟩ ⟨1,0,10,7⟩ := (ends .item ⟨l,[],false,0⟩ hv hs).j
 obtain ⟨m,x,h3,new,g⟩ := hj
 obtain rfl := run_unique h1 h3
 have e : new = [t] := by have := g.kids; rw [h2] at this; simpa using this.symm
 have h4 := g.con
 have h5 := g.c1
 have h6 := g.cn
 rw [e] at h6
 simp only [cntL] at h4 h5 h6
 exact ⟨n,r,h1,h2,rfl,by omega,by omega⟩
def PItemR (w : World) (l : List Tok) (t : Tr) (v : List Tok) (u : Value) (w' : World) : Prop := ∃ (g : Gt) (n : Nat),u = .tuple #[.agg g.cells.toArray,.int .i64 n] ∧ g.er = t ∧ n ≤ l.length ∧ l.drop n = v ∧ GOk (fun z => w.heap.size ≤ z ∧ z < w'.heap.size) w' g ∧ Ext w w'
theorem pitem_eof {w : World} {tv : Value} {l : List Tok} (hA : Asc w) (hs : SlC w tv 2 l.length (encs tokc l)) (hl : l.length ≤ 2000) (hv : V l) (he : (sig1 l).1 = 100) :
  Cl Tryz.prog 79 #[tv] w (fun u w' => u = .tuple #[.agg #[.int .i64 0,.string ⟨#[]⟩,.slice none 0 0],.int .i64 0] ∧ Ext w w') := by
 have hx := Ext.refl w
 obtain ⟨tp,tl,tcap,rfl⟩ : ∃ tp tl tcap,tv = .slice tp tl tcap := by
  obtain ⟨_,p,cap,e,_⟩ := hs
  exact ⟨p,_,cap,e⟩
 refine Cl.enter Tryz.func79 rfl Tryz.ntmps79 rfl rfl (.sr (Rg.wd trivial (w_new Tryz.zeroValue25 rfl) rfl ?_))
 rintro _ w2 ⟨b2,rfl,q2,hx2,hv2⟩
 replace hx := hx.ext hx2
 have hx2b := hx
 have hl2 := hv2.lt
 have hC : Cx w2 (.slice tp tl tcap) l := ⟨hA.ext hx2b,hs.ext hx2b,by omega,hv⟩
 refine .as rfl rfl (.done (.sr (.mv rfl rfl (.tq (t_build (bd25_0 _) rfl) rfl (Rg.wd trivial (w_buildSlice (bs23_1 _ _ _ _ _) rfl) rfl ?_)))))
 rintro _ w3 ⟨b18,rfl,q18,hx3,hv18⟩
 refine .tq (t_build (bd62_0_2 _ _ _ _ _ _) rfl) rfl (Rg.wd trivial (w_boxed rfl rfl) rfl ?_)
 rintro _ w4 ⟨b20,rfl,q20,hx4,hv20⟩
 have hl18 := hv18.lt
 have hp : Ps w2 (.slice tp tl tcap) l (fun z => z < w2.heap.size) w4 b20 [] 1 ⟨l,[],false,0⟩ := by
  refine ⟨⟨b20,.slice (some ⟨b18,0,none⟩) 1 1,0,[⟨1,.slice none 0 0,[]⟩],fun _ => False⟩,⟨hx3.ext hx4,fun z hz => hz,fun z hz => Nat.lt_of_lt_of_le hz (hx3.ext hx4).le,fun z hz => hz.elim,hv20,whole_ownG (sp := []) (Nat.zero_le _) rfl (Nat.le_refl _) (by decide) rfl (hv18.ext hx4),fun f hf => ?_,fun f hf t ht => ?_,?_,fun b hb => ⟨fun hF => ?_,fun h => h⟩,fun z _ h => h⟩,rfl,rfl,Nat.zero_le _,rfl,fun f hf => ?_,Nat.le_refl _⟩
  ·obtain rfl : f = ⟨1,.slice none 0 0,[]⟩ := by simpa using hf
   exact ⟨rfl,.inl ⟨rfl,rfl⟩⟩
  ·obtain rfl : f = ⟨1,.slice none 0 0,[]⟩ := by simpa using hf
   cases ht
  ·simp [Pg.muts,Value.ownBlock]
   omega
  ·have := hx3.le
   simp [Pg.muts,Value.ownBlock] at hb
   omega
  ·obtain rfl : f = ⟨1,.slice none 0 0,[]⟩ := by simpa using hf
   exact Nat.le_refl _
 clear hv18 hv20
 have hv2c := (hv2.ext hx3).ext hx4
 have hx24 := hx3.ext hx4
 refine .as rfl rfl (.done (.seq (.sr (.mv rfl rfl (Rg.wd trivial (w_call Tryz.call25 rfl (atEOF_ok hC hp)) rfl ?_)))))
 rintro _ w5 ⟨rfl,hx5⟩
 replace hp := hp.extw hx5
 rw [show ((sig1 ({ rem := l,kids := [],flag := false,adds := 0 } : S).rem).1 == 100) = true from by simp [he]]
 refine .done (.condT rfl (.sr (.tq (t_build (bd25) rfl) rfl (Rg.wn trivial (w_put (hv2c.ext hx5) rfl rfl rfl ty25 rfl rfl) ?_))))
 rintro _ w6 ⟨hu6,hv6⟩
 refine .as rfl rfl (.done (Wp.ret ?_))
 exact ⟨[_,_],⟨⟨_,rfl,lv_agg hv6 ty25⟩,rfl,trivial⟩,rfl,((hx2b.ext hx24).ext hx5).upd hu6 (by omega)⟩
theorem pitem_ok {w : World} {tv : Value} {l v : List Tok} {t : Tr} (hA : Asc w) (hs : SlC w tv 2 l.length (encs tokc l)) (hl : l.length ≤ 2000) (hB : B l ≤ 2000) (hv : V l) (hi : Item l t v) :
  Cl Tryz.prog 79 #[tv] w (PItemR w l t v) := by
 have hx := Ext.refl w
 have he := hi.1
 obtain ⟨nf,rf,hrun,hrk,hrr,hra,_⟩ := hi.adds hv
 obtain ⟨tp,tl,tcap,rfl⟩ : ∃ tp tl tcap,tv = .slice tp tl tcap := by
  obtain ⟨_,p,cap,e,_⟩ := hs
  exact ⟨p,_,cap,e⟩
 refine Cl.enter Tryz.func79 rfl Tryz.ntmps79 rfl rfl (.sr (Rg.wd trivial (w_new Tryz.zeroValue25 rfl) rfl ?_))
 rintro _ w2 ⟨b2,rfl,q2,hx2,hv2⟩
 replace hx := hx.ext hx2
 have hx2b := hx
 have hl2 := hv2.lt
 have hC : Cx w2 (.slice tp tl tcap) l := ⟨hA.ext hx2b,hs.ext hx2b,by omega,hv⟩
 refine .as rfl rfl (.done (.sr (.mv rfl rfl (.tq (t_build (bd25_0 _) rfl) rfl (Rg.wd trivial (w_buildSlice (bs23_1 _ _ _ _ _) rfl) rfl ?_)))))
 rintro _ w3 ⟨b18,rfl,q18,hx3,hv18⟩
 refine .tq (t_build (bd62_0_2 _ _ _ _ _ _) rfl) rfl (Rg.wd trivial (w_boxed rfl rfl) rfl ?_)
 rintro _ w4 ⟨b20,rfl,q20,hx4,hv20⟩
 have hl18 := hv18.lt
 have hp : Ps w2 (.slice tp tl tcap) l (fun z => z < w2.heap.size) w4 b20 [] 1 ⟨l,[],false,0⟩ := by
  refine ⟨⟨b20,.slice (some ⟨b18,0,none⟩) 1 1,0,[⟨1,.slice none 0 0,[]⟩],fun _ => False⟩,⟨hx3.ext hx4,fun z hz => hz,fun z hz => Nat.lt_of_lt_of_le hz (hx3.ext hx4).le,fun z hz => hz.elim,hv20,whole_ownG (sp := []) (Nat.zero_le _) rfl (Nat.le_refl _) (by decide) rfl (hv18.ext hx4),fun f hf => ?_,fun f hf t ht => ?_,?_,fun b hb => ⟨fun hF => ?_,fun h => h⟩,fun z _ h => h⟩,rfl,rfl,Nat.zero_le _,rfl,fun f hf => ?_,Nat.le_refl _⟩
  ·obtain rfl : f = ⟨1,.slice none 0 0,[]⟩ := by simpa using hf
   exact ⟨rfl,.inl ⟨rfl,rfl⟩⟩
  ·obtain rfl : f = ⟨1,.slice none 0 0,[]⟩ := by simpa using hf
   cases ht
  ·simp [Pg.muts,Value.ownBlock]
   omega
  ·have := hx3.le
   simp [Pg.muts,Value.ownBlock] at hb
   omega
  ·obtain rfl : f = ⟨1,.slice none 0 0,[]⟩ := by simpa using hf
   exact Nat.le_refl _
 clear hv18 hv20
 have hv2c := (hv2.ext hx3).ext hx4
 have hx24 := hx3.ext hx4
 refine .as rfl rfl (.done (.seq (.sr (.mv rfl rfl (Rg.wd trivial (w_call Tryz.call25 rfl (atEOF_ok hC hp)) rfl ?_)))))
 rintro _ w5 ⟨rfl,hx5⟩
 replace hp := hp.extw hx5
 rw [show ((sig1 ({ rem := l,kids := [],flag := false,adds := 0 } : S).rem).1 == 100) = false from by simp [he]]
 refine .done (.condF rfl (Wp.skip (.sr (.mv rfl rfl ?_))))
 refine Rg.wd trivial (w_call Tryz.call26 rfl (D_call (fun k _ => DN_all hC k) hp hrun (by show _ ≤ 1000000000; omega))) rfl ?_
 rintro _ w6 ⟨_,hp6,hb6⟩
 have hxp := Ps.ext hp6
 have hv2d := var_bw (hv2c.ext hx5) hb6 hl2
 obtain ⟨g,hW,e0,hd,hpos,hm,hks,hfl⟩ := hp6
 obtain ⟨gP,sv,pos,frs,Q⟩ := g
 simp only at e0 hd hpos hm hks hfl
 subst e0
 obtain ⟨f,rfl,em⟩ : ∃ f,frs = [f] ∧ (f.kind,erL f.kids) = (1,rf.kids) := by
  rcases frs with _ | ⟨f,_ | ⟨f2,l2⟩⟩
  ·simp at hm
  ·exact ⟨f,rfl,by simpa using hm⟩
  ·simp at hm
 obtain ⟨fk,cv,kl⟩ := f
 injection em with e3 e4
 simp only at e3 e4
 subst e3
 rw [hrk] at e4
 obtain ⟨kg,rfl,e5⟩ : ∃ kg,kl = [kg] ∧ kg.er = t := by
  rcases kl with _ | ⟨kg,_ | ⟨k2,l2⟩⟩
  ·simp [erL] at e4
  ·exact ⟨kg,rfl,by simpa [erL] using e4⟩
  ·simp [erL] at e4
 have hvar := hW.var
 simp only at hvar
 obtain ⟨gs,caps,sps,es,_,gs1,gs2,gs3,hS⟩ : ∃ gs caps sps,sv = .slice (some ⟨gs,0,none⟩) 1 caps ∧ 0 ≤ gs ∧ 1 ≤ caps ∧ caps ≤ maxLen ∧ sps.length = (caps - 1) * 3 ∧ Var w6 gs (encs Fr.cells [(⟨1,cv,[kg]⟩ : Fr)] ++ sps) 25 := by
  rcases own_wholeG hW.stk with ⟨_,h0⟩ | h
  ·simp at h0
  ·exact h
 subst es
 have hcell : Cells w6 gs (0 + (0 : Int).toNat * 3) [.int .i64 1,.string nob,cv] := by
  have := hS.cells.sub 0 3
  exact this
 have hown := hW.kid ⟨1,cv,[kg]⟩ (by simp)
 obtain ⟨gc,capc,spc,ec,_,gc1,gc2,gc3,hK⟩ : ∃ gs caps sps,cv = .slice (some ⟨gs,0,none⟩) 1 caps ∧ 0 ≤ gs ∧ 1 ≤ caps ∧ caps ≤ maxLen ∧ sps.length = (caps - 1) * 3 ∧ Var w6 gs (encs Gt.cells [kg] ++ sps) 25 := by
  rcases own_wholeG hown with ⟨_,h0⟩ | h
  ·simp at h0
  ·exact h
 subst ec
 rw [encs_one] at hK
 have hkc : Cells w6 gc (0 + (0 : Int).toNat * 3) kg.cells := cells_left hK.cells
 have hcf : Cells w6 gs (0 + (0 : Int).toNat * 3 + 2) [.slice (some ⟨gc,0,none⟩) 1 capc] := by
  have := hcell.sub 2 1
  exact this
 have hok := hW.ok ⟨1,.slice (some ⟨gc,0,none⟩) 1 capc,[kg]⟩ (by simp) kg (by simp)
 have hfq := hW.fq
 have hund := hW.undQ
 have hge : GOk (fun z => w.heap.size ≤ z ∧ z < w6.heap.size ∧ z ≠ b2) w6 kg := by
  refine hok.mono fun z hz => ?_
  have h1 := hfq z
  have h2 := hx2b.le
  have h3 : ¬ z < w2.heap.size := fun h => h1 h hz
  have h4 := hund z hz
  exact ⟨by omega,h4,by omega⟩
 have hxx := hxp
 refine .done ?_
 refine Wp.seq (Wp.drawS (fun w' => Var w' gP [.slice tp tl tcap,.int .i64 pos,.slice (some ⟨gs,0,none⟩) 1 caps] 62 ∧ Cells w' gs (0 + (0 : Int).toNat * 3 + 2) [.slice (some ⟨gc,0,none⟩) 1 capc] ∧ Cells w' gc (0 + (0 : Int).toNat * 3) kg.cells) [0,1,2,3,4,5,6,7,8,9,10,11,12,13,14] [] mixed (by kernel_rfl) (by kernel_rfl) (by rfl) ?_)
 intro w7 hx7 hh7
 have hvar7 : Var w7 gP [.slice tp tl tcap,.int .i64 pos,.slice (some ⟨gs,0,none⟩) 1 caps] 62 := hvar.ext hx7
 have hcf7 := hcf.ext hx7
 have hkc7 := hkc.ext hx7
 have hv2e := hv2d.ext hx7
 have hx7 := hx7
 have n1 : gP ≠ b2 := Var.ne hvar7 hv2e (by decide)
 have n2 : gs ≠ b2 := fun e => by
  have h1 := (hW.off gs (by simp [Pg.muts,Value.ownBlock])).1
  exact h1 (by show gs < w2.heap.size; omega)
 have n3 : gc ≠ b2 := fun e => by
  have h1 := (hW.off gc (by simp [Pg.muts,Value.ownBlock])).1
  exact h1 (by show gc < w2.heap.size; omega)
 refine ⟨⟨hvar7,hcf7,hkc7⟩,?_⟩
 refine Rs.tm trivial rfl (ts fun wz hkz => by exact t_move rfl) rfl ?_
 refine Rs.tm trivial rfl (ts fun wz hkz => by exact t_nilCheck rfl) rfl ?_
 refine Rs.tm trivial rfl (ts fun wz hkz => by exact t_fieldAddr fa62_2 rfl) rfl ?_
 refine Rs.tm trivial rfl (ts fun wz hkz => by exact t_load ty23 rfl (Cells.get (i := 2) hkz.1.cells rfl)) rfl ?_
 refine Rs.tm trivial rfl (ts fun wz hkz => by exact t_indexAddrL Tryz.underlying23 ty25 rfl rfl (by decide)) rfl ?_
 refine Rs.tm trivial rfl (ts fun wz hkz => by exact t_fieldAddr fa25_2 rfl) rfl ?_
 refine Rs.tm trivial rfl (ts fun wz hkz => by exact t_load ty23 rfl (Cells.get (i := 0) hkz.2.1 rfl)) rfl ?_
 refine Rs.tm trivial rfl (ts fun wz hkz => by exact t_indexAddrL Tryz.underlying23 ty25 rfl rfl (by decide)) rfl ?_
 refine Rs.tm trivial rfl (ts fun wz hkz => by exact t_loadA rfl hkz.2.2 (by rw [Gt.len]; exact ty25)) rfl ?_
 refine Rs.tm trivial rfl (ts fun wz hkz => by exact t_move rfl) rfl ?_
 refine Rs.tm trivial rfl (ts fun wz hkz => by exact t_nilCheck rfl) rfl ?_
 refine Rs.tm trivial rfl (ts fun wz hkz => by exact t_fieldAddr fa62_1 rfl) rfl ?_
 refine Rs.tm trivial rfl (ts fun wz hkz => by exact t_load ty3 rfl (Cells.get (i := 1) hkz.1.cells rfl)) rfl ?_
 refine Rs.wn trivial rfl (w_put (cs := kg.cells) hv2e rfl rfl rfl (by rw [Gt.len]; exact ty25) (by rw [Gt.len]; rfl) (List.all_eq_true.2 hok.one)) (fun _ => fun _ _ h => ⟨hvar7.upd h.1 n1,hcf7.upd h.1 n2,hkc7.upd h.1 n3⟩) ?_
 rintro _ w8 ⟨hu8,hv8⟩
 refine Rs.tm trivial rfl (ts fun wz hkz => by exact t_assign rfl) rfl ?_
 refine Rs.done (Wp.ret ?_)
 have hgk : GOk (fun z => w.heap.size ≤ z ∧ z < w6.heap.size ∧ z ≠ b2) w8 kg := hge.bw (G := fun z => w.heap.size ≤ z ∧ z < w6.heap.size ∧ z ≠ b2) ((Bw.of hx7 fun z hz => hz.2.1).trans (Bw.upd hu8 fun hh => hh.2.2 rfl)) fun z hz => hz
 have l7 := hx7.le
 have l8 := hu8.size
 exact ⟨[_,_],⟨⟨_,rfl,lv_agg hv8 (by rw [Gt.len]; exact ty25)⟩,rfl,trivial⟩,kg,pos,rfl,e5,hpos,hd.trans hrr,hgk.mono fun z hz => ⟨hz.1,by have := hz.2.1; omega⟩,((hx2b.ext hxp).ext hx7).upd hu8 (by omega)⟩
end Go.Proofs.YtcelfjbajdffkaaGreatDoor.Par
namespace Go.Proofs.YtcelfjbajdffkaaGreatDoor.Par
set_option maxRecDepth 20000
open Go.Gx Go.RowKit Go.Lib
open Lexi (Asc)
open Lexi (tok toks tcs tcs_at tcs_drop tcs_length TE)
theorem tcs_take (l : List Tok) (k : Nat) : (tcs l).take (k * 2) = tcs (l.take k) := by
 induction l generalizing k with
 | nil => simp [tcs]
 | cons t l ih =>
  cases k with
  | zero => simp [tcs]
  | succ k =>
   simp only [tcs,List.take_succ_cons]
   rw [show (k + 1) * 2 = k * 2 + 1 + 1 from by omega,List.take_succ_cons,List.take_succ_cons,ih]
theorem encs_tcs (l : List Tok) : encs tokc l = tcs l := (tcs_encs l).symm
def tokG (t : Tok) : Gt := .mk t.1 t.2 (.slice none 0 0) []
theorem tokG_er (l : List Tok) : erL (l.map tokG) = l.map .tok := by
 rw [erL_map,List.map_map]
 rfl
theorem tokG_ok {y : Nat → Prop} {w : World} {b : Nat} {nv : Value} (t : Tok) : GF y w b nv (tokG t) := .mk ⟨rfl,none,0,rfl,Nat.le_refl _,.inl rfl⟩ rfl (fun b hb => by cases hb) fun g hg => absurd hg List.not_mem_nil
theorem idxC_ok {w : World} {v : Value} {a : List Cm} {b : Nat} {p : Cm → Bool} (hsa : SlC w v 6 a.length (encs Cm.cells a)) (ho : ∀ c ∈ a,(c.cells.all (·.oneCell')) = true)
  (hp : ∀ w1,Ext w w1 → ∀ m ∈ a,Cl Tryz.prog 78 #[.agg m.cells.toArray,.pointer (some ⟨b,0,none⟩)] w1 (fun u w2 => u = .bool (p m) ∧ Ext w1 w2)) (hlen : a.length < 4611686018427387904) :
  Cl Tryz.prog 77 #[v,.func (.func 78) #[] #[.pointer (some ⟨b,0,none⟩)]] w (fun u w' => u = .int .i64 (idx (a.findIdx? p)) ∧ Ext w w') := by
 have hx := Ext.refl w
 refine Cl.enter Tryz.func77 rfl Tryz.ntmps77 rfl rfl (.sr (.as rfl rfl (.done (.seq (.sr (.mv rfl rfl (.tq (t_lenC hsa Tryz.underlying75 rfl) rfl (.mv rfl rfl (.done (Wp.block ?_))))))))))
 refine Wp.loop (ι := Nat) (fun k => [(0,v),(1,.func (.func 78) #[] #[.pointer (some ⟨b,0,none⟩)]),(7,.int .i64 a.length),(8,.int .i64 k)])
  (fun k w' => k ≤ a.length ∧ (∀ j (h : j < a.length),j < k → p a[j] = false) ∧ Ext w w') (fun k => a.length - k) 0 (by repeat (first | exact .nil | refine .cons rfl ?_)) ⟨Nat.zero_le _,fun j _ h => absurd h (Nat.not_lt_zero _),hx⟩ ?_
 clear hx
 rintro k w3 ⟨hk,hno,hx⟩
 replace hsa := hsa.ext hx
 by_cases hlt : k < a.length
 ·cases hpk : p a[k] with
  | true =>
   refine .sr ?_
   first | refine .tq (t_lssT rfl rfl (by omega)) rfl ?_ | refine .tq (t_lssF rfl rfl (by omega)) rfl ?_ | refine .tq (t_lss rfl rfl) rfl ?_
   refine .done (.seq (.condT rfl (Wp.skip (.seq (Wp.block (.sr (.mv rfl rfl (.as rfl rfl (.done (.sr (.mv rfl rfl (.mv rfl rfl ?_))))))))))))
   refine .mv rfl rfl ?_
   refine Rg.ix hsa trivial rfl rfl Tryz.underlying75 ty116 (by omega) rfl ?_
   intro bt14 ot14 ht14
   rw [Int.toNat_natCast,encs_at Cm.len a k hlt] at ht14
   refine .tq (t_loadA rfl ht14 (by rw [Cm.len]; exact ty116)) rfl ?_
   refine Rg.wd trivial (w_callG (fst := []) (cap := [.pointer (some ⟨b,0,none⟩)]) rfl Tryz.call78 rfl (vs := [.agg (Cm.cells a[k]).toArray]) (hp _ hx a[k] (List.getElem_mem hlt))) rfl ?_
   rintro _ w1 ⟨rfl,hx1⟩
   replace hx := hx.ext hx1
   replace hsa := hsa.ext hx1
   replace ht14 := ht14.ext hx1
   rw [hpk]
   refine .done (.condT rfl (.sr (.mv rfl rfl (.as rfl rfl (.done (Wp.ret ?_))))))
   exact ⟨[_],⟨rfl,trivial⟩,by rw [List.findIdx?_eq_some_iff_getElem.2 ⟨hlt,hpk,fun j hj => by rw [hno j (by omega) hj]; decide⟩]; rfl,hx⟩
  | false =>
   refine .sr ?_
   first | refine .tq (t_lssT rfl rfl (by omega)) rfl ?_ | refine .tq (t_lssF rfl rfl (by omega)) rfl ?_ | refine .tq (t_lss rfl rfl) rfl ?_
   refine .done (.seq (.condT rfl (Wp.skip (.seq (Wp.block (.sr (.mv rfl rfl (.as rfl rfl (.done (.sr (.mv rfl rfl (.mv rfl rfl ?_))))))))))))
   refine .mv rfl rfl ?_
   refine Rg.ix hsa trivial rfl rfl Tryz.underlying75 ty116 (by omega) rfl ?_
   intro bt14 ot14 ht14
   rw [Int.toNat_natCast,encs_at Cm.len a k hlt] at ht14
   refine .tq (t_loadA rfl ht14 (by rw [Cm.len]; exact ty116)) rfl ?_
   refine Rg.wd trivial (w_callG (fst := []) (cap := [.pointer (some ⟨b,0,none⟩)]) rfl Tryz.call78 rfl (vs := [.agg (Cm.cells a[k]).toArray]) (hp _ hx a[k] (List.getElem_mem hlt))) rfl ?_
   rintro _ w1 ⟨rfl,hx1⟩
   replace hx := hx.ext hx1
   replace hsa := hsa.ext hx1
   replace ht14 := ht14.ext hx1
   rw [hpk]
   refine .done (.condF rfl (Wp.skip (Wp.region ?_)))
   first | refine .tq (t_addI rfl rfl (by omega)) rfl ?_ | refine .tq (t_add rfl rfl) rfl ?_
   refine .mv rfl rfl (.done ?_)
   exact ⟨k + 1,by repeat (first | exact .nil | refine .cons rfl ?_),⟨hlt,fun j h hj => by rcases Nat.lt_succ_iff_lt_or_eq.1 hj with c | c; exact hno j h c; subst c; exact hpk,hx⟩,by omega⟩
 ·skip
  refine .sr ?_
  first | refine .tq (t_lssT rfl rfl (by omega)) rfl ?_ | refine .tq (t_lssF rfl rfl (by omega)) rfl ?_ | refine .tq (t_lss rfl rfl) rfl ?_
  refine .done (.seq (.condF rfl (Wp.exit (.sr (.as rfl rfl (.done (Wp.ret ?_)))))))
  exact ⟨[_],⟨rfl,trivial⟩,by rw [List.findIdx?_eq_none_iff.2 fun x hx => by obtain ⟨j,hj,rfl⟩ := List.getElem_of_mem hx; exact hno j hj (by omega)]; rfl,hx⟩
theorem clo78_ok {w : World} {c : Cm} {b1 b : Nat} {ov tv nv : Value} {off sh st re : Int} (hv : Var w b [ov,tv,.int .i64 off,.int .i64 sh,.int .i64 st,.int .i64 re,nv] 79) (hv1 : Var w b1 [.pointer (some ⟨b,0,none⟩)] 74) (ho : (c.cells.all (·.oneCell')) = true) (hr : -1000000 ≤ off - sh ∧ off - sh ≤ 1000000) :
  Cl Tryz.prog 78 #[.agg c.cells.toArray,.pointer (some ⟨b1,0,none⟩)] w (fun u w' => u = .bool (decide ((c.start : Int) = off - sh)) ∧ Ext w w') := by
 have hx := Ext.refl w
 obtain ⟨⟨ck,ctx,ccv,ckids⟩,cs,cf,cl⟩ := c
 refine Cl.enter Tryz.func78 rfl Tryz.ntmps78 rfl rfl (.sr (Rg.wd trivial (w_boxed (cs := [.int .i64 ck,.string ctx,ccv,.int .i64 cs,.int .i64 cf,.int .i64 cl]) rfl rfl) rfl ?_))
 rintro _ w1 ⟨b2,rfl,q2,hx1,hv2⟩
 replace hx := hx.ext hx1
 replace hv := hv.ext hx1
 replace hv1 := hv1.ext hx1
 refine .as rfl rfl (.done ?_)
 refine Wp.seq (Wp.draw [0,1,2,3,4,5,6,7,8,9,10,11,12] [] mixed (by kernel_rfl) (by kernel_rfl) ?_)
 intro w2 hx2 _
 replace hx := hx.ext hx2
 replace hv := hv.ext hx2
 replace hv1 := hv1.ext hx2
 replace hv2 := hv2.ext hx2
 refine .tq (t_fieldAddr fa116_1 rfl) rfl (.tq (t_load ty3 rfl (Cells.get (i := 3) hv2.cells rfl)) rfl (.tq (t_load ty74 rfl (Cells.get (i := 0) hv1.cells rfl)) rfl (.tq (t_nilCheck rfl) rfl (.tq (t_fieldAddr fa79_2 rfl) rfl (.tq (t_load ty3 rfl (Cells.get (i := 2) hv.cells rfl)) rfl (.tq (t_load ty74 rfl (Cells.get (i := 0) hv1.cells rfl)) rfl (.tq (t_nilCheck rfl) rfl (.tq (t_fieldAddr fa79_3 rfl) rfl (.tq (t_load ty3 rfl (Cells.get (i := 3) hv.cells rfl)) rfl ?_)))))))))
 first | refine .tq (t_subI rfl rfl (by omega)) rfl ?_ | refine .tq (t_sub rfl rfl) rfl ?_
 first | refine .tq (t_eqlT rfl rfl (by omega)) rfl ?_ | refine .tq (t_eqlF rfl rfl (by omega)) rfl ?_ | refine .tq (t_eql rfl rfl) rfl ?_
 refine .as rfl rfl (.done (Wp.ret ?_))
 exact ⟨[_],⟨rfl,trivial⟩,rfl,hx⟩
section
variable {y : Nat → Prop} {wA w : World} {b : Nat} {ov tv nv : Value} {off sh st re : Int} {gs : List Gt}
theorem Up.fresh (hU : Up y wA w b ov tv nv off sh st re gs) {w' : World} (x : Ext w w') {g : Gt} (hg : GOk (fun z => w.heap.size ≤ z ∧ z < w'.heap.size) w' g) : GF y w' b nv g :=
 hg.mono fun z hz => ⟨⟨hz.2,by have := hU.var.lt; omega,fun e => by have := own_lt hU.row e; omega⟩,fun e => by have := hU.hy _ e; have := hU.ex.le; omega⟩
theorem parseEof_ok (hU : Up y wA w b ov tv nv off sh st re gs) {l : List Tok} (hs : SlC wA tv 2 l.length (tcs l)) (hA : Asc wA) (hl : l.length ≤ 2000) (hv : V l) (he : (sig1 l).1 = 100) (hf : gs.length ≤ 500000) :
  Cl Tryz.prog 42 #[.pointer (some ⟨b,0,none⟩)] w (fun u w' => ∃ nv',Up y wA w' b ov (.slice none 0 0) nv' off sh st re (gs ++ l.map tokG)) := by
 have hU4 := hU
 refine Cl.enter Tryz.func42 rfl Tryz.ntmps42 rfl rfl (.sr (.mv rfl rfl (.tq (t_nilCheck rfl) rfl (.tq (t_fieldAddr fa79_1 rfl) rfl (.tq (t_load ty49 rfl (Cells.get (i := 1) hU4.var.cells rfl)) rfl ?_)))))
 refine Rg.wd trivial (w_call Tryz.call79 rfl (pitem_eof (hA.ext hU4.ex) (by rw [encs_tcs]; exact hs.ext hU4.ex) hl hv he)) rfl ?_
 rintro _ w1 ⟨rfl,hx1⟩
 replace hU4 := hU4.ext hx1
 refine .mv rfl rfl (.tq (t_extract rfl rfl) rfl (.tq (t_extract rfl rfl) rfl (Rg.wd trivial (w_new Tryz.zeroValue25 rfl) rfl ?_)))
 rintro _ wab2 ⟨b2,rfl,qb2,hxab2,hvab2⟩
 refine Rg.wn trivial (w_put (cs := [.int .i64 0,.string ⟨#[]⟩,.slice none 0 0]) hvab2 rfl rfl rfl (ty25) (rfl) (rfl)) ?_
 rintro _ w2 ⟨hub2,hvb2⟩
 have hx2 := hxab2.upd hub2 (Nat.le_of_eq qb2.symm)
 clear hvab2 hub2 hxab2
 replace hU4 := hU4.ext hx2
 clear qb2
 refine .as rfl rfl (.done (.seq (.sr (.mv rfl rfl ?_))))
 first | refine .tq (t_eqlT rfl rfl (by omega)) rfl ?_ | refine .tq (t_eqlF rfl rfl (by omega)) rfl ?_ | refine .tq (t_eql rfl rfl) rfl ?_
 refine .done (.condT rfl (.seq (.sr (.mv rfl rfl (.tq (t_nilCheck rfl) rfl (.tq (t_fieldAddr fa79_1 rfl) rfl (.tq (t_load ty49 rfl (Cells.get (i := 1) hU4.var.cells rfl)) rfl (.tq (t_lenC (hs.ext hU4.ex) Tryz.underlying49 rfl) rfl (.mv rfl rfl (.done (Wp.block ?_)))))))))))
 have hUx : Up y wA w2 b ov tv nv off sh st re (gs ++ (l.take 0).map tokG) := by simpa using hU4
 refine Wp.loop (ι := Nat) (fun k => [(0,.pointer (some ⟨b,0,none⟩)),(21,tv),(22,.int .i64 l.length),(23,.int .i64 k)])
  (fun k w' => k ≤ l.length ∧ ∃ nv,Up y wA w' b ov tv nv off sh st re (gs ++ (l.take k).map tokG)) (fun k => l.length - k) 0 (by repeat (first | exact .nil | refine .cons rfl ?_)) ⟨Nat.zero_le _,_,hUx⟩ ?_
 clear hU hU4 hUx
 rintro k w3 ⟨hk,nv,hU4⟩
 have hs3 := hs.ext hU4.ex
 by_cases hlt : k < l.length
 ·have hg5 := tokG_ok (y := y) (w := w3) (b := b) (nv := nv) l[k]
  have hgl : (gs ++ (l.take k).map tokG).length = gs.length + k := by rw [List.length_append,List.length_map,List.length_take]; omega
  obtain ⟨pc,cc,rfl⟩ := hU4.shape
  obtain ⟨i25,hi25,hz25,hsi25,hby25⟩ := inf25
  refine .sr ?_
  first | refine .tq (t_lssT rfl rfl (by omega)) rfl ?_ | refine .tq (t_lssF rfl rfl (by omega)) rfl ?_ | refine .tq (t_lss rfl rfl) rfl ?_
  refine .done (.seq (.condT rfl (Wp.skip (.seq (Wp.block (.sr ?_))))))
  refine Rg.ix hs3 trivial rfl rfl Tryz.underlying49 ty55 (by omega) rfl ?_
  intro bt25 ot25 ht25
  rw [Int.toNat_natCast,tcs_at l k hlt] at ht25
  refine .tq (t_loadA rfl ht25 ty55) rfl (Rg.wd trivial (w_new Tryz.zeroValue55 rfl) rfl ?_)
  rintro _ wab5 ⟨b5,rfl,qb5,hxab5,hvab5⟩
  refine Rg.wn trivial (w_put (cs := [.int .i64 l[k].1,.string l[k].2]) hvab5 rfl rfl rfl (ty55) (rfl) (rfl)) ?_
  rintro _ w4 ⟨hub5,hvb5⟩
  have hx4 := hxab5.upd hub5 (Nat.le_of_eq qb5.symm)
  clear hvab5 hub5 hxab5
  replace hU4 := hU4.ext hx4
  replace hg5 := hg5.ext hx4
  replace ht25 := ht25.ext hx4
  clear qb5
  refine .done ?_
  refine Wp.cut (fun L w' => ∃ i_ : Unit,Sub ((fun _ => [(0,.pointer (some ⟨b,0,none⟩)),(21,tv),(22,.int .i64 l.length),(23,.int .i64 k)]) i_) L ∧ (fun _ w' => (∃ nv',Up y wA w' b ov tv nv' off sh st re ((gs ++ (l.take k).map tokG) ++ [tokG l[k]])) ∧ Var w' b5 [.int .i64 l[k].1,.string l[k].2] 55) i_ w') ?_ ?_
  ·skip
   refine Wp.drawB (fun w' => Var w' b [ov,tv,.int .i64 off,.int .i64 sh,.int .i64 st,.int .i64 re,.slice pc (gs ++ (l.take k).map tokG).length cc] 79 ∧ Var w' b5 [.int .i64 l[k].1,.string l[k].2] 55) 11 mixed ?_
   intro w5 hx5 hh5
   replace hU4 := hU4.ext hx5
   replace hg5 := hg5.ext hx5
   replace ht25 := ht25.ext hx5
   replace hvb5 := hvb5.ext hx5
   refine ⟨⟨hU4.var,hvb5⟩,?_⟩
   refine Qb.tameW (by kernel_rfl) 0 rfl (by kernel_rfl) trivial (tw_of fun wz => t_move rfl) rfl ?_
   refine Qb.tameW (by kernel_rfl) 1 rfl (by kernel_rfl) trivial (tw_of fun wz => t_nilCheck rfl) rfl ?_
   refine Qb.tameW (by kernel_rfl) 2 rfl (by kernel_rfl) trivial (tw_of fun wz => t_fieldAddr fa79_6 rfl) rfl ?_
   refine Qb.tame (by kernel_rfl) 3 rfl (by kernel_rfl) trivial (ts fun wz hkz => by exact t_load ty23 rfl (Cells.get (i := 6) hkz.1.cells rfl)) rfl ?_
   refine Qb.tameW (by kernel_rfl) 4 rfl (by kernel_rfl) trivial (tw_of fun wz => t_fieldAddr fa55_0 rfl) rfl ?_
   refine Qb.tame (by kernel_rfl) 5 rfl (by kernel_rfl) trivial (ts fun wz hkz => by exact t_load ty3 rfl (Cells.get (i := 0) hkz.2.cells rfl)) rfl ?_
   refine Qb.tameW (by kernel_rfl) 6 rfl (by kernel_rfl) trivial (tw_of fun wz => t_fieldAddr fa55_1 rfl) rfl ?_
   refine Qb.tame (by kernel_rfl) 7 rfl (by kernel_rfl) trivial (ts fun wz hkz => by exact t_load ty9 rfl (Cells.get (i := 1) hkz.2.cells rfl)) rfl ?_
   refine Qb.tameW (by kernel_rfl) 8 rfl (by kernel_rfl) trivial (tw_of fun wz => t_build (bd25_0_1 _ _) rfl) rfl ?_
   refine Qb.tame (by kernel_rfl) 9 rfl (by kernel_rfl) trivial (ts fun wz hkz => by exact t_lenS Tryz.underlying23 rfl) rfl ?_
   refine Qb.alt1 (i := 10) (by kernel_rfl) ?_
   refine ⟨_,_,rfl,rfl,trivial,w_buildSlice (bs23_1 _ _ _ _ _) rfl,rfl,fun _ _ hr => by obtain ⟨_,_,_,hr,_⟩ := hr; exact ⟨hU4.var.ext hr,hvb5.ext hr⟩,?_⟩
   rintro _ w6 ⟨bb,rfl,qbb,hx6,hvbb⟩
   replace hU4 := hU4.ext hx6
   replace hg5 := hg5.ext hx6
   replace ht25 := ht25.ext hx6
   replace hvb5 := hvb5.ext hx6
   refine Qb.bar (fun _ => True) 11 17 rfl (by kernel_rfl) rfl trivial (w_appendO Tryz.underlying23 hi25 hz25 hsi25 hby25 rfl rfl rfl (own_mono hU4.row (Nat.zero_le _)) (slc_var hvbb rfl) (by decide) (by decide) (by unfold maxLen; have := hU4.few; omega) (by have := hU4.few; omega)) rfl (fun _ _ _ => trivial) ?_
   rintro v2 wP hap
   obtain ⟨gk,capk,spk,rfl,hck,hmk,hlk,hvk,hgeA,hne,hvP,hB,hfr⟩ := hU4.app hap
   have hoE : 0 + (((gs ++ (l.take k).map tokG)).length : Int).toNat * 3 = ((gs ++ (l.take k).map tokG)).length * 3 := by omega
   have nGk : ¬ Fz w6 b (.slice pc (gs ++ (l.take k).map tokG).length cc) gk := fun h => hfr.elim (fun e => h.2.2 e) fun e => by have := h.1; omega
   have nGP : ¬ Fz w6 b (.slice pc (gs ++ (l.take k).map tokG).length cc) b := fun h => h.2.1 rfl
   have hKl : (encs Gt.cells ((gs ++ (l.take k).map tokG)) ++ [Value.int .i64 0,Value.string ⟨#[]⟩,Value.slice none 0 0] ++ spk).length = ((gs ++ (l.take k).map tokG)).length * 3 + 3 + spk.length := by rw [List.length_append,List.length_append,encs_len Gt.len]; rfl
   refine Qb.tameW (by kernel_rfl) 12 rfl (by kernel_rfl) trivial (tw_of fun wz => t_indexAddrL Tryz.underlying23 ty25 rfl rfl (by omega)) rfl ?_
   refine Qb.tameW (by kernel_rfl) 14 rfl (by kernel_rfl) trivial (tw_of fun wz => t_nilCheck rfl) rfl ?_
   refine Qb.tameW (by kernel_rfl) 15 rfl (by kernel_rfl) trivial (tw_of fun wz => t_fieldAddr fa79_6 rfl) rfl ?_
   refine Qb.alt2 (i := 13) (j := 16) (by kernel_rfl) ?_ ?_
   ·skip
    refine ⟨_,_,rfl,rfl,trivial,w_putAt (cs := (tokG l[k]).cells) hvk rfl rfl rfl (by rw [Gt.len]; exact ty25) (by rw [hoE,hKl,Gt.len]; omega) hg5.one,rfl,fun _ _ h => trivial,?_⟩
    rintro _ wE ⟨huE,hvE⟩
    rw [hoE] at hvE
    replace hvE : Var wE gk (encs Gt.cells ((gs ++ (l.take k).map tokG) ++ [tokG l[k]]) ++ spk) 25 := (row_set (gs := (gs ++ (l.take k).map tokG)) (g := tokG l[k]) (z := [Value.int .i64 0,Value.string ⟨#[]⟩,Value.slice none 0 0]) (sp := spk) rfl) ▸ hvE
    clear hvk
    have hvk := hvE
    clear hvE
    replace hvP := hvP.upd huE hne
    replace hB := hB.trans (Bw.upd huE nGk)
    refine Qb.alt1 (i := 16) (by kernel_rfl) ?_
    refine ⟨_,_,rfl,rfl,trivial,w_putF hvP ty23 rfl rfl rfl rfl rfl,rfl,fun _ _ h => trivial,?_⟩
    rintro _ wS ⟨huS,hvS⟩
    simp only [List.set] at hvS
    clear hvP
    have hvP := hvS
    clear hvS
    replace hvk := hvk.upd huS (Ne.symm hne)
    replace hB := hB.trans (Bw.upd huS nGP)
    refine Qb.done (by kernel_rfl) ?_
    exact ⟨(),by repeat (first | exact .nil | refine .cons rfl ?_),⟨_,hU4.push hg5 hB hvP hck hmk hlk hvk hgeA hne hfr (by rw [hgl]; omega)⟩,var_bw hvb5 hB (hU4.fzv hvb5 (by decide) (by decide))⟩
   ·skip
    refine ⟨_,_,rfl,rfl,trivial,w_putF hvP ty23 rfl rfl rfl rfl rfl,rfl,fun _ _ h => trivial,?_⟩
    rintro _ wS ⟨huS,hvS⟩
    simp only [List.set] at hvS
    clear hvP
    have hvP := hvS
    clear hvS
    replace hvk := hvk.upd huS (Ne.symm hne)
    replace hB := hB.trans (Bw.upd huS nGP)
    refine Qb.alt1 (i := 13) (by kernel_rfl) ?_
    refine ⟨_,_,rfl,rfl,trivial,w_putAt (cs := (tokG l[k]).cells) hvk rfl rfl rfl (by rw [Gt.len]; exact ty25) (by rw [hoE,hKl,Gt.len]; omega) hg5.one,rfl,fun _ _ h => trivial,?_⟩
    rintro _ wE ⟨huE,hvE⟩
    rw [hoE] at hvE
    replace hvE : Var wE gk (encs Gt.cells ((gs ++ (l.take k).map tokG) ++ [tokG l[k]]) ++ spk) 25 := (row_set (gs := (gs ++ (l.take k).map tokG)) (g := tokG l[k]) (z := [Value.int .i64 0,Value.string ⟨#[]⟩,Value.slice none 0 0]) (sp := spk) rfl) ▸ hvE
    clear hvk
    have hvk := hvE
    clear hvE
    replace hvP := hvP.upd huE hne
    replace hB := hB.trans (Bw.upd huE nGk)
    refine Qb.done (by kernel_rfl) ?_
    exact ⟨(),by repeat (first | exact .nil | refine .cons rfl ?_),⟨_,hU4.push hg5 hB hvP hck hmk hlk hvk hgeA hne hfr (by rw [hgl]; omega)⟩,var_bw hvb5 hB (hU4.fzv hvb5 (by decide) (by decide))⟩
  ·rintro L' wF ⟨_,hs,⟨nv',hU5⟩,hvb5⟩
   refine Wp.sub hs ?_
   rw [show (gs ++ (l.take k).map tokG) ++ [tokG l[k]] = gs ++ (l.take (k + 1)).map tokG from by rw [List.take_succ_eq_append_getElem hlt,List.map_append,List.append_assoc]; rfl] at hU5
   refine Wp.region ?_
   first | refine .tq (t_addI rfl rfl (by omega)) rfl ?_ | refine .tq (t_add rfl rfl) rfl ?_
   refine .mv rfl rfl (.done ?_)
   exact ⟨k + 1,by repeat (first | exact .nil | refine .cons rfl ?_),⟨hlt,_,hU5⟩,by omega⟩
 ·obtain rfl : k = l.length := by omega
  rw [List.take_length] at hU4
  refine .sr ?_
  first | refine .tq (t_lssT rfl rfl (by omega)) rfl ?_ | refine .tq (t_lssF rfl rfl (by omega)) rfl ?_ | refine .tq (t_lss rfl rfl) rfl ?_
  refine .done (.seq (.condF rfl (Wp.exit ?_)))
  have hU4v := hU4.var
  refine .sr (.mv rfl rfl (.tq (t_nilCheck rfl) rfl (.tq (t_fieldAddr fa79_1 rfl) rfl (Rg.wn trivial (w_putF hU4v ty49 rfl rfl rfl rfl rfl) ?_))))
  rintro _ w20 ⟨hu20,hv20⟩
  simp only [List.set] at hv20
  have hU5 := hU4.put hu20 hv20
  refine .done (Wp.ret ?_)
  exact ⟨[],trivial,_,hU5⟩
theorem parseItem_ok (hU : Up y wA w b ov tv nv off sh st re gs) {l v : List Tok} {t : Tr} (hs : SlC wA tv 2 l.length (tcs l)) (hA : Asc wA) (hl : l.length ≤ 2000) (hB : B l ≤ 2000) (hv : V l) (hi : Item l t v) (hf : gs.length ≤ 500000) (ho : -1000000 ≤ off ∧ off ≤ 1000000) :
  Cl Tryz.prog 42 #[.pointer (some ⟨b,0,none⟩)] w (fun u w' => ∃ nv' tv' g,Up y wA w' b ov tv' nv' (off + ((B l : Int) - B v)) sh st re (gs ++ [g]) ∧ g.er = t ∧ SlC wA tv' 2 v.length (tcs v)) := by
 have hU4 := hU
 refine Cl.enter Tryz.func42 rfl Tryz.ntmps42 rfl rfl (.sr (.mv rfl rfl (.tq (t_nilCheck rfl) rfl (.tq (t_fieldAddr fa79_1 rfl) rfl (.tq (t_load ty49 rfl (Cells.get (i := 1) hU4.var.cells rfl)) rfl ?_)))))
 refine Rg.wd trivial (w_call Tryz.call79 rfl (pitem_ok (hA.ext hU4.ex) (by rw [encs_tcs]; exact hs.ext hU4.ex) hl hB hv hi)) rfl ?_
 rintro _ w1 ⟨g,n,rfl,hge,hnl,hdr,hgk,hx1⟩
 replace hU4 := hU4.ext hx1
 have hg5 := hU.fresh hx1 hgk
 clear hgk
 have hgo := hg5.one
 refine .mv rfl rfl (.tq (t_extract rfl rfl) rfl (.tq (t_extract rfl rfl) rfl (Rg.wd trivial (w_new Tryz.zeroValue25 rfl) rfl ?_)))
 rintro _ wab2 ⟨b2,rfl,qb2,hxab2,hvab2⟩
 refine Rg.wn trivial (w_put (cs := g.cells) hvab2 rfl rfl rfl (by rw [Gt.len]; exact ty25) (by rw [Gt.len]; rfl) (List.all_eq_true.2 hgo)) ?_
 rintro _ w2 ⟨hub2,hvb2⟩
 have hx2 := hxab2.upd hub2 (Nat.le_of_eq qb2.symm)
 clear hvab2 hub2 hxab2
 replace hU4 := hU4.ext hx2
 replace hg5 := hg5.ext hx2
 clear qb2
 refine .as rfl rfl (.done (.seq ?_))
 have hn0 : n ≠ 0 := fun e => by
  subst e
  obtain ⟨u,hu,_,hune,_⟩ := hi.take hv
  rw [List.drop_zero] at hdr
  rw [hdr] at hu
  exact hune (by simpa using hu)
 refine .sr (.mv rfl rfl ?_)
 refine .tq (t_eqlF rfl rfl (by omega)) rfl ?_
 refine .done (.condF rfl (Wp.skip (.seq ?_)))
 have hs0 := hs
 refine .sr (.mv rfl rfl (.tq (t_nilCheck rfl) rfl (.tq (t_fieldAddr fa79_1 rfl) rfl (.tq (t_load ty49 rfl (Cells.get (i := 1) hU4.var.cells rfl)) rfl (.mv rfl rfl ?_)))))
 refine Rg.sl hs0 trivial rfl Tryz.underlying49 ty55 rfl rfl (by omega) rfl ?_
 intro vt51 ht510
 have ht51n : SlC wA vt51 2 (l.take n).length (tcs (l.take n)) := by
  have h := ht510
  rw [show (n : Int).toNat - Int.toNat 0 = n from by omega,show Int.toNat 0 * 2 = 0 from rfl,List.drop_zero,tcs_take] at h
  rw [List.length_take,Nat.min_eq_left hnl]
  exact h
 refine .tq (t_lenC ht51n Tryz.underlying49 rfl) rfl (.mv rfl rfl (.done (Wp.block ?_)))
 have hbs := B_app (l.take n) (l.drop n)
 rw [List.take_append_drop,hdr] at hbs
 have hnt : (l.take n).length = n := by rw [List.length_take]; omega
 have hst0 := ht51n
 have hUx : Up y wA w2 b ov tv nv (off + (B ((l.take n).take 0) : Nat)) sh st re gs := by simpa [B] using hU4
 refine Wp.loop (ι := Nat) (fun k => [(0,.pointer (some ⟨b,0,none⟩)),(2,.pointer (some ⟨b2,0,none⟩)),(3,.int .i64 n),(51,vt51),(52,.int .i64 (l.take n).length),(53,.int .i64 k)])
  (fun k w' => k ≤ (l.take n).length ∧ Up y wA w' b ov tv nv (off + (B ((l.take n).take k) : Nat)) sh st re gs ∧ Var w' b2 g.cells 25 ∧ GF y w' b nv g) (fun k => (l.take n).length - k) 0 (by repeat (first | exact .nil | refine .cons rfl ?_)) ⟨Nat.zero_le _,hUx,hvb2,hg5⟩ ?_
 clear hU hU4 hUx hvb2 hg5
 rintro k w3 ⟨hk,hU4,hvb2,hg5⟩
 by_cases hlt : k < (l.take n).length
 ·have hbt := B_take (l.take n) k hlt
  have hbl := B_app ((l.take n).take (k + 1)) ((l.take n).drop (k + 1))
  rw [List.take_append_drop] at hbl
  obtain ⟨tk,htk⟩ : ∃ tk,(l.take n)[k] = tk := ⟨_,rfl⟩
  rw [htk] at hbt
  refine .sr ?_
  first | refine .tq (t_lssT rfl rfl (by omega)) rfl ?_ | refine .tq (t_lssF rfl rfl (by omega)) rfl ?_ | refine .tq (t_lss rfl rfl) rfl ?_
  refine .done (.seq (.condT rfl (Wp.skip (.seq (Wp.block (.sr ?_))))))
  refine Rg.ix hst0 trivial rfl rfl Tryz.underlying49 ty55 (by omega) rfl ?_
  intro bt55 ot55 ht55
  replace ht55 := ht55.ext hU4.ex
  rw [Int.toNat_natCast,tcs_at (l.take n) k hlt,htk] at ht55
  refine .tq (t_loadA rfl ht55 ty55) rfl (Rg.wd trivial (w_new Tryz.zeroValue55 rfl) rfl ?_)
  rintro _ wab7 ⟨b7,rfl,qb7,hxab7,hvab7⟩
  refine Rg.wn trivial (w_put (cs := [.int .i64 tk.1,.string tk.2]) hvab7 rfl rfl rfl (ty55) (rfl) (rfl)) ?_
  rintro _ w4 ⟨hub7,hvb7⟩
  have hx4 := hxab7.upd hub7 (Nat.le_of_eq qb7.symm)
  clear hvab7 hub7 hxab7
  replace hU4 := hU4.ext hx4
  replace hvb2 := hvb2.ext hx4
  replace hg5 := hg5.ext hx4
  replace ht55 := ht55.ext hx4
  clear qb7
  refine .done ?_
  refine Wp.draw [0,1,2,3,4,5,6,7,8,9,10] [0] mixed (by kernel_rfl) (by kernel_rfl) ?_
  intro w5 hx5 _
  replace hU4 := hU4.ext hx5
  replace hvb2 := hvb2.ext hx5
  replace hg5 := hg5.ext hx5
  replace ht55 := ht55.ext hx5
  replace hvb7 := hvb7.ext hx5
  refine .mv rfl rfl (.tq (t_nilCheck rfl) rfl (.tq (t_fieldAddr fa79_2 rfl) rfl (.tq (t_load ty3 rfl (Cells.get (i := 2) hU4.var.cells rfl)) rfl (.tq (t_fieldAddr fa55_1 rfl) rfl (.tq (t_load ty9 rfl (Cells.get (i := 1) hvb7.cells rfl)) rfl (.tq (t_len Tryz.underlying9 rfl) rfl ?_))))))
  refine .tq (t_addI rfl rfl (by omega)) rfl ?_
  rw [show (off + (B ((l.take n).take k) : Nat) + (tk.2.size : Nat)) = off + (B ((l.take n).take (k + 1)) : Nat) from by omega]
  refine .tq (t_nilCheck rfl) rfl (.tq (t_fieldAddr fa79_2 rfl) rfl ?_)
  refine Rg.wnB trivial rfl (w_putF hU4.var ty3 rfl rfl rfl rfl rfl) (by rfl) ?_
  rintro _ w20 ⟨hu20,hv20⟩
  simp only [List.set] at hv20
  have n2 : b2 ≠ b := Var.ne hvb2 hU4.var (by decide)
  have hU5 := hU4.put hu20 hv20
  replace hvb2 := hvb2.upd hu20 n2
  replace hg5 := hg5.upd hu20
  refine .done (Wp.region ?_)
  first | refine .tq (t_addI rfl rfl (by omega)) rfl ?_ | refine .tq (t_add rfl rfl) rfl ?_
  refine .mv rfl rfl (.done ?_)
  exact ⟨k + 1,by repeat (first | exact .nil | refine .cons rfl ?_),⟨hlt,hU5,hvb2,hg5⟩,by omega⟩
 ·obtain rfl : k = (l.take n).length := by omega
  rw [List.take_length,show ((B (l.take n) : Nat) : Int) = (B l : Int) - B v from by omega] at hU4
  obtain ⟨i25,hi25,hz25,hsi25,hby25⟩ := inf25
  refine .sr ?_
  first | refine .tq (t_lssT rfl rfl (by omega)) rfl ?_ | refine .tq (t_lssF rfl rfl (by omega)) rfl ?_ | refine .tq (t_lss rfl rfl) rfl ?_
  refine .done (.seq (.condF rfl (Wp.exit ?_)))
  have hsr0 := hs
  refine .sr (.mv rfl rfl (.mv rfl rfl (.tq (t_nilCheck rfl) rfl (.tq (t_fieldAddr fa79_1 rfl) rfl (.tq (t_load ty49 rfl (Cells.get (i := 1) hU4.var.cells rfl)) rfl (.mv rfl rfl ?_))))))
  refine Rg.sl hsr0 trivial rfl Tryz.underlying49 ty55 rfl rfl (by omega) rfl ?_
  intro vt74 ht740
  have hv74 : SlC wA vt74 2 v.length (tcs v) := by
   have h := ht740
   simp only [Int.toNat_natCast,tcs_drop,hdr] at h
   have e : l.length - n = v.length := by rw [← hdr,List.length_drop]
   rw [e] at h
   rw [show (tcs v).take (v.length * 2) = tcs v from List.take_of_length_le (by rw [tcs_length]; exact Nat.le_refl _)] at h
   exact h
  obtain ⟨p74,l74,c74,rfl⟩ : ∃ p n c,vt74 = .slice p n c := by
   obtain ⟨_,p,c,e,_⟩ := hv74
   exact ⟨_,_,_,e⟩
  refine .tq (t_nilCheck rfl) rfl (.tq (t_fieldAddr fa79_1 rfl) rfl (Rg.wn trivial (w_putF hU4.var ty49 rfl rfl rfl rfl rfl) ?_))
  rintro _ w21 ⟨hu21,hv21⟩
  simp only [List.set] at hv21
  have n2 : b2 ≠ b := Var.ne hvb2 hU4.var (by decide)
  replace hU4 := hU4.put hu21 hv21
  replace hvb2 := hvb2.upd hu21 n2
  replace hg5 := hg5.upd hu21
  obtain ⟨pc,cc,rfl⟩ := hU4.shape
  refine .done ?_
  refine Wp.cut (fun L w' => ∃ i_ : Unit,Sub ((fun _ => [(0,.pointer (some ⟨b,0,none⟩))]) i_) L ∧ (fun _ w' => (∃ nv',Up y wA w' b ov (.slice p74 l74 c74) nv' (off + ((B l : Int) - B v)) sh st re (gs ++ [g]))) i_ w') ?_ ?_
  ·skip
   refine Wp.drawB (fun w' => Var w' b [ov,.slice p74 l74 c74,.int .i64 (off + ((B l : Int) - B v)),.int .i64 sh,.int .i64 st,.int .i64 re,.slice pc gs.length cc] 79 ∧ Var w' b2 g.cells 25) 7 mixed ?_
   intro w4 hx4 hh4
   replace hU4 := hU4.ext hx4
   replace hvb2 := hvb2.ext hx4
   replace hg5 := hg5.ext hx4
   refine ⟨⟨hU4.var,hvb2⟩,?_⟩
   refine Qb.tameW (by kernel_rfl) 0 rfl (by kernel_rfl) trivial (tw_of fun wz => t_move rfl) rfl ?_
   refine Qb.tameW (by kernel_rfl) 1 rfl (by kernel_rfl) trivial (tw_of fun wz => t_nilCheck rfl) rfl ?_
   refine Qb.tameW (by kernel_rfl) 2 rfl (by kernel_rfl) trivial (tw_of fun wz => t_fieldAddr fa79_6 rfl) rfl ?_
   refine Qb.tame (by kernel_rfl) 3 rfl (by kernel_rfl) trivial (ts fun wz hkz => by exact t_load ty23 rfl (Cells.get (i := 6) hkz.1.cells rfl)) rfl ?_
   refine Qb.tame (by kernel_rfl) 4 rfl (by kernel_rfl) trivial (ts fun wz hkz => by exact t_loadA rfl hkz.2.cells (by rw [Gt.len]; exact ty25)) rfl ?_
   refine Qb.tame (by kernel_rfl) 5 rfl (by kernel_rfl) trivial (ts fun wz hkz => by exact t_lenS Tryz.underlying23 rfl) rfl ?_
   refine Qb.alt1 (i := 6) (by kernel_rfl) ?_
   refine ⟨_,_,rfl,rfl,trivial,w_buildSlice (bs23_1 _ _ _ _ _) rfl,rfl,fun _ _ hr => by obtain ⟨_,_,_,hr,_⟩ := hr; exact ⟨hU4.var.ext hr,hvb2.ext hr⟩,?_⟩
   rintro _ w5 ⟨bb,rfl,qbb,hx5,hvbb⟩
   replace hU4 := hU4.ext hx5
   replace hvb2 := hvb2.ext hx5
   replace hg5 := hg5.ext hx5
   refine Qb.bar (fun _ => True) 7 13 rfl (by kernel_rfl) rfl trivial (w_appendO Tryz.underlying23 hi25 hz25 hsi25 hby25 rfl rfl rfl (own_mono hU4.row (Nat.zero_le _)) (slc_var hvbb rfl) (by decide) (by decide) (by unfold maxLen; have := hU4.few; omega) (by have := hU4.few; omega)) rfl (fun _ _ _ => trivial) ?_
   rintro v2 wP hap
   obtain ⟨gk,capk,spk,rfl,hck,hmk,hlk,hvk,hgeA,hne,hvP,hB,hfr⟩ := hU4.app hap
   have hoE : 0 + ((gs).length : Int).toNat * 3 = (gs).length * 3 := by omega
   have nGk : ¬ Fz w5 b (.slice pc gs.length cc) gk := fun h => hfr.elim (fun e => h.2.2 e) fun e => by have := h.1; omega
   have nGP : ¬ Fz w5 b (.slice pc gs.length cc) b := fun h => h.2.1 rfl
   have hKl : (encs Gt.cells (gs) ++ [Value.int .i64 0,Value.string ⟨#[]⟩,Value.slice none 0 0] ++ spk).length = (gs).length * 3 + 3 + spk.length := by rw [List.length_append,List.length_append,encs_len Gt.len]; rfl
   refine Qb.tameW (by kernel_rfl) 8 rfl (by kernel_rfl) trivial (tw_of fun wz => t_indexAddrL Tryz.underlying23 ty25 rfl rfl (by omega)) rfl ?_
   refine Qb.tameW (by kernel_rfl) 10 rfl (by kernel_rfl) trivial (tw_of fun wz => t_nilCheck rfl) rfl ?_
   refine Qb.tameW (by kernel_rfl) 11 rfl (by kernel_rfl) trivial (tw_of fun wz => t_fieldAddr fa79_6 rfl) rfl ?_
   refine Qb.alt2 (i := 9) (j := 12) (by kernel_rfl) ?_ ?_
   ·skip
    refine ⟨_,_,rfl,rfl,trivial,w_putAt (cs := g.cells) hvk rfl rfl rfl (by rw [Gt.len]; exact ty25) (by rw [hoE,hKl,Gt.len]; omega) hg5.one,rfl,fun _ _ h => trivial,?_⟩
    rintro _ wE ⟨huE,hvE⟩
    rw [hoE] at hvE
    replace hvE : Var wE gk (encs Gt.cells (gs ++ [g]) ++ spk) 25 := (row_set (gs := gs) (g := g) (z := [Value.int .i64 0,Value.string ⟨#[]⟩,Value.slice none 0 0]) (sp := spk) rfl) ▸ hvE
    clear hvk
    have hvk := hvE
    clear hvE
    replace hvP := hvP.upd huE hne
    replace hB := hB.trans (Bw.upd huE nGk)
    refine Qb.alt1 (i := 12) (by kernel_rfl) ?_
    refine ⟨_,_,rfl,rfl,trivial,w_putF hvP ty23 rfl rfl rfl rfl rfl,rfl,fun _ _ h => trivial,?_⟩
    rintro _ wS ⟨huS,hvS⟩
    simp only [List.set] at hvS
    clear hvP
    have hvP := hvS
    clear hvS
    replace hvk := hvk.upd huS (Ne.symm hne)
    replace hB := hB.trans (Bw.upd huS nGP)
    refine Qb.done (by kernel_rfl) ?_
    exact ⟨(),by repeat (first | exact .nil | refine .cons rfl ?_),⟨_,hU4.push hg5 hB hvP hck hmk hlk hvk hgeA hne hfr (by have := hU4.few; omega)⟩⟩
   ·skip
    refine ⟨_,_,rfl,rfl,trivial,w_putF hvP ty23 rfl rfl rfl rfl rfl,rfl,fun _ _ h => trivial,?_⟩
    rintro _ wS ⟨huS,hvS⟩
    simp only [List.set] at hvS
    clear hvP
    have hvP := hvS
    clear hvS
    replace hvk := hvk.upd huS (Ne.symm hne)
    replace hB := hB.trans (Bw.upd huS nGP)
    refine Qb.alt1 (i := 9) (by kernel_rfl) ?_
    refine ⟨_,_,rfl,rfl,trivial,w_putAt (cs := g.cells) hvk rfl rfl rfl (by rw [Gt.len]; exact ty25) (by rw [hoE,hKl,Gt.len]; omega) hg5.one,rfl,fun _ _ h => trivial,?_⟩
    rintro _ wE ⟨huE,hvE⟩
    rw [hoE] at hvE
    replace hvE : Var wE gk (encs Gt.cells (gs ++ [g]) ++ spk) 25 := (row_set (gs := gs) (g := g) (z := [Value.int .i64 0,Value.string ⟨#[]⟩,Value.slice none 0 0]) (sp := spk) rfl) ▸ hvE
    clear hvk
    have hvk := hvE
    clear hvE
    replace hvP := hvP.upd huE hne
    replace hB := hB.trans (Bw.upd huE nGk)
    refine Qb.done (by kernel_rfl) ?_
    exact ⟨(),by repeat (first | exact .nil | refine .cons rfl ?_),⟨_,hU4.push hg5 hB hvP hck hmk hlk hvk hgeA hne hfr (by have := hU4.few; omega)⟩⟩
  ·rintro L' wF ⟨_,hs,⟨nv',hU5⟩⟩
   exact ⟨[],trivial,nv',_,g,hU5,hge,hv74⟩
end
end Go.Proofs.YtcelfjbajdffkaaGreatDoor.Par
