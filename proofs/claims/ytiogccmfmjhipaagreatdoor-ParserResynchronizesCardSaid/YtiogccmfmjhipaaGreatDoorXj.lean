/- Tokens as plain data: white space or a comment put between two tokens. No program. -/
import Derived.Test.YtiogccmfmjhipaaGreatDoorXb
import Derived.Test.YtiogccmfmjhipaaGreatDoorXi
import Derived.Test.YtiogccmfmjhipaaGreatDoorXc
import Derived.Test.YtiogccmfmjhipaaGreatDoorXg
import Derived.Test.YtiogccmfmjhipaaGreatDoorXa
set_option linter.unusedVariables false
set_option linter.unusedSimpArgs false
namespace Go.Proofs.YtiogccmfmjhipaaGreatDoor.Lexi
def sgx (l : List (Int × ByteArray)) : List (Int × ByteArray) := l.filter fun t => !(t.1 == 101 || t.1 == 102)
def noteT : ByteArray := ⟨#[10,47,47,32,110,111,116,101,10]⟩
end Go.Proofs.YtiogccmfmjhipaaGreatDoor.Lexi
namespace Go.Proofs.YtiogccmfmjhipaaGreatDoor.Ast
open Par
open Lexi (toks bt)
structure Win (src src' : ByteArray) (d lo hi : Nat) : Prop where
 h1 : hi ≤ src.size
 h2 : hi + d ≤ src'.size
 eq : ∀ i,lo ≤ i → i < hi → bt src i = bt src' (i + d)
variable {src src' : ByteArray} {d : Nat}
theorem Win.sub {lo hi lo' hi' : Nat} (h : Win src src' d lo hi) (a : lo ≤ lo') (b : hi' ≤ hi) : Win src src' d lo' hi' :=
 ⟨by have := h.h1; omega,by have := h.h2; omega,fun i x y => h.eq i (by omega) (by omega)⟩
theorem byte_eq {s t : ByteArray} {i j : Nat} (hi : i < s.size) (hj : j < t.size) (h : bt s i = bt t j) : s.data.toList[i]? = t.data.toList[j]? := by
 have e1 : i < s.data.toList.length := by rw [Lexi.list_len]; exact hi
 have e2 : j < t.data.toList.length := by rw [Lexi.list_len]; exact hj
 unfold bt at h
 rw [List.getD_eq_getElem?_getD,List.getD_eq_getElem?_getD,List.getElem?_eq_getElem e1,List.getElem?_eq_getElem e2] at h
 rw [List.getElem?_eq_getElem e1,List.getElem?_eq_getElem e2]
 simp only [Option.getD_some] at h
 congr 1
 exact UInt8.toNat_inj.1 (by omega)
theorem Win.cut {lo hi : Nat} (h : Win src src' d lo hi) {a b : Int} (h1 : lo ≤ a) (h2 : a ≤ b) (h3 : b ≤ hi) : src.extract a.toNat b.toNat = src'.extract (a + d).toNat (b + d).toNat := by
 have k1 := h.h1
 have k2 := h.h2
 apply Lexi.by_list
 rw [Lexi.list_cut,Lexi.list_cut]
 apply List.ext_getElem?
 intro n
 rw [List.getElem?_take,List.getElem?_take,List.getElem?_drop,List.getElem?_drop]
 by_cases hn : n < b.toNat - a.toNat
 ·rw [if_pos hn,if_pos (by omega)]
  rw [show (a + (d : Int)).toNat + n = (a.toNat + n) + d from by omega]
  exact byte_eq (by omega) (by omega) (h.eq _ (by omega) (by omega))
 ·rw [if_neg hn,if_neg (by omega)]
structure PosSh (d : Nat) (h h' : Hd) : Prop where
 st : h'.st = h.st + d
 en : (h.en < 0 ∧ h'.en < 0) ∨ (0 ≤ h.en ∧ h'.en = h.en + d)
theorem PosSh.to {h h' g g' : Hd} (p : PosSh d h h') (a : g.st = h.st ∧ g.en = h.en) (b : g'.st = h'.st ∧ g'.en = h'.en) : PosSh d g g' := by
 obtain ⟨x,y⟩ := p
 exact ⟨by rw [a.1,b.1]; exact x,by rw [a.2,b.2]; exact y⟩
theorem PosSh.ext {h h' : Hd} (p : PosSh d h h') {s e : Int} (h0 : 0 ≤ e) : PosSh d (ext h s e) (ext h' (s + d) (e + d)) := by
 obtain ⟨x,y⟩ := p
 refine ⟨?_,.inr ⟨h0,rfl⟩⟩
 unfold Ast.ext
 simp only
 rcases y with ⟨y1,y2⟩ | ⟨y1,y2⟩
 ·rw [if_pos y1,if_pos y2]
 ·rw [if_neg (by omega),if_neg (by omega)]; exact x
theorem tokS_pos {h h' : Hd} (p : PosSh d h h') (off : Int) (ds ds' : List Dg) (k : Int) (x : ByteArray) (h0 : 0 ≤ off) : PosSh d (tokS h off ds k x).1 (tokS h' (off + d) ds' k x).1 ∧ (tokS h' (off + d) ds' k x).2.1 = (tokS h off ds k x).2.1 + d := by
 have he : off + (d : Int) + x.size = off + x.size + d := by omega
 have hp : 0 ≤ off + (x.size : Int) := by omega
 unfold tokS
 simp only [he]
 split
 ·exact ⟨p,rfl⟩
 split
 ·split
  ·exact ⟨p,rfl⟩
  ·exact ⟨p.ext hp,rfl⟩
 split
 ·exact ⟨(p.to ⟨(identH_same _ _ _).1,(identH_same _ _ _).2.1⟩ ⟨(identH_same _ _ _).1,(identH_same _ _ _).2.1⟩).ext hp,rfl⟩
 split
 ·exact ⟨(p.to ⟨rfl,rfl⟩ ⟨rfl,rfl⟩ : PosSh d (setV h (intOf x)) (setV h' (intOf x))).ext hp,rfl⟩
 split
 ·exact ⟨(p.to ⟨rfl,rfl⟩ ⟨rfl,rfl⟩ : PosSh d (setT h (unquoted x)) (setT h' (unquoted x))).ext hp,rfl⟩
 ·exact ⟨(p.to ⟨(flag_same _ _).1,(flag_same _ _).2.1⟩ ⟨(flag_same _ _).1,(flag_same _ _).2.1⟩).ext hp,rfl⟩
theorem tokS_nrm {h h' : Hd} (e : nrm h = nrm h') (s s' : Int) (ds ds' : List Dg) (k : Int) (x : ByteArray) (h0 : 0 ≤ s) (h1 : 0 ≤ s') : nrm (tokS h s ds k x).1 = nrm (tokS h' s' ds' k x).1 := by
 unfold tokS
 simp only
 split
 ·exact e
 split
 ·split
  ·exact e
  ·exact e
 split
 ·simp only [nrm_ext]
  rw [nrm_ident _ _ h0,nrm_ident _ _ h1,e]
 split
 ·simp only [nrm_ext]
  have : ∀ g : Hd,nrm (setV g (intOf x)) = setV (nrm g) (intOf x) := fun _ => rfl
  rw [this,this,e]
 split
 ·simp only [nrm_ext]
  have : ∀ g : Hd,nrm (setT g (unquoted x)) = setT (nrm g) (unquoted x) := fun _ => rfl
  rw [this,this,e]
 ·simp only [nrm_ext]
  rw [nrm_flag,nrm_flag,e]
structure AnSh (d : Nat) (a a' : An) : Prop where
 eq : bare a = bare a'
 st : a'.hd.st = a.hd.st + d
 en : a'.hd.en = a.hd.en + d
theorem nrm_kind {h h' : Hd} (e : nrm h = nrm h') : h.kind = h'.kind := (congrArg Hd.kind e : (nrm h).kind = (nrm h').kind)
mutual
theorem cvt_sh : ∀ (t : Tr) (off : Int) (ds ds' : List Dg),0 ≤ off → t.wf → kd t < 100 → Win src src' d off.toNat (off.toNat + t.txt.length) →
  AnSh d (cvt src t off ds).1 (cvt src' t (off + d) ds').1 ∧ (cvt src' t (off + d) ds').2.1 = (cvt src t off ds).2.1 + d
 | .mk k x ks,off,ds,ds',h0,hw,hk,W => by
  simp only [Tr.wf] at hw
  rcases hw with ⟨h1,_⟩ | ⟨_,_,hx,hl⟩
  ·exact absurd hk (by simp only [kd]; omega)
  subst hx
  have hlen : (Tr.mk k nob ks).txt.length = (txtL ks).length := by rw [Tr.txt]; show ([] ++ txtL ks).length = _; rw [List.nil_append]
  rw [hlen] at W
  obtain ⟨i,e,n,hkd⟩ := cvtL_inv src ks (hd0 k off) [] off ds off h0 ⟨Int.le_refl _,Int.le_refl _,by show (-1 : Int) ≤ off; omega,.inl (show (-1 : Int) < 0 by decide)⟩ hl
  obtain ⟨p1,p2,p3,p4⟩ := cvtL_sh ks (hd0 k off) (hd0 k (off + d)) [] [] off ds ds' h0 hl rfl rfl W
  have hp := p4 ⟨rfl,.inl ⟨(by decide : (-1 : Int) < 0),(by decide : (-1 : Int) < 0)⟩⟩
  rw [cvt,cvt]
  obtain ⟨r,hr⟩ : ∃ r,cvtL src ks (hd0 k off) [] off ds = r := ⟨_,rfl⟩
  obtain ⟨r',hr'⟩ : ∃ r,cvtL src' ks (hd0 k (off + d)) [] (off + d) ds' = r := ⟨_,rfl⟩
  rw [hr] at p1 p2 p3 hp i e ⊢
  rw [hr'] at p1 p2 p3 hp ⊢
  refine ⟨?_,p3⟩
  have hq : nrm (endH r.1) = nrm (endH r'.1) := p1
  have hst : (endH r'.1).st = (endH r.1).st + d := hp.st
  have hen : (endH r'.1).en = (endH r.1).en + d := by
   show max r'.1.en r'.1.st = max r.1.en r.1.st + d
   have h2 := hp.st
   have h3 := i.a
   have h5 := i.d
   rcases hp.en with ⟨h4,h5⟩ | ⟨h4,h5⟩
   ·rw [Int.max_eq_right (by omega),Int.max_eq_right (by omega)]; exact h2
   ·rcases i.d with c | c
    ·omega
    ·rw [Int.max_eq_left (by omega),Int.max_eq_left (by omega)]; exact h5
  have hk := nrm_kind hq
  have b1 : off ≤ (endH r.1).st := i.a
  have b2 : (endH r.1).st ≤ (endH r.1).en := Int.le_max_right _ _
  have b3 : (endH r.1).en ≤ off + (txtL ks).length := by
   rw [← e]
   exact Int.max_le.2 ⟨i.c,i.b⟩
  unfold finish fin
  simp only
  rw [← hk]
  by_cases c60 : (endH r.1).kind = 60
  ·rw [if_pos c60,if_pos c60]
   have p2' := p2
   rcases hns : r.2.1 with _ | ⟨a,l⟩ <;> rcases hns' : r'.2.1 with _ | ⟨a',l'⟩ <;> rw [hns,hns'] at p2'
   ·exact ⟨by simp only [bare,bareL]; rw [hq],hst,hen⟩
   ·cases p2'
   ·cases p2'
   ·obtain ⟨c,ks1⟩ := a
    obtain ⟨c',ks2⟩ := a'
    simp only [bareL] at p2'
    obtain ⟨e1,_⟩ := List.cons.inj p2'
    simp only [bare,An.mk.injEq] at e1
    refine ⟨?_,hst,hen⟩
    simp only [bare,An.mk.injEq]
    exact ⟨e1.1,e1.2⟩
  rw [if_neg c60,if_neg c60]
  by_cases c46 : (endH r.1).kind = 46
  ·rw [if_pos c46,if_pos c46]
   refine ⟨?_,hst,hen⟩
   simp only [bare,bareL,nrm]
   rw [hst,hen,W.cut (a := (endH r.1).st) (b := (endH r.1).en) (by omega) b2 (by omega)]
  ·rw [if_neg c46,if_neg c46]
   exact ⟨by simp only [bare]; rw [hq,p2],hst,hen⟩
theorem cvtL_sh : ∀ (l : List Tr) (h h' : Hd) (ns ns' : List An) (off : Int) (ds ds' : List Dg),0 ≤ off → wfL l → nrm h = nrm h' → bareL ns = bareL ns' → Win src src' d off.toNat (off.toNat + (txtL l).length) →
  nrm (cvtL src l h ns off ds).1 = nrm (cvtL src' l h' ns' (off + d) ds').1 ∧ bareL (cvtL src l h ns off ds).2.1 = bareL (cvtL src' l h' ns' (off + d) ds').2.1 ∧ (cvtL src' l h' ns' (off + d) ds').2.2.1 = (cvtL src l h ns off ds).2.2.1 + d ∧
  (PosSh d h h' → PosSh d (cvtL src l h ns off ds).1 (cvtL src' l h' ns' (off + d) ds').1)
 | [],h,h',ns,ns',off,ds,ds',h0,hw,e,en,W => by rw [cvtL,cvtL]; exact ⟨e,en,rfl,id⟩
 | t :: l,h,h',ns,ns',off,ds,ds',h0,hw,e,en,W => by
  rw [wfL] at hw
  have hlen : (txtL (t :: l)).length = t.txt.length + (txtL l).length := by rw [txtL,List.length_append]
  rw [hlen] at W
  rw [cvtL,cvtL]
  by_cases hk : 100 ≤ kd t
  ·rw [if_pos hk,if_pos hk]
   have ht : t.txt.length = (tx t).size := by
    obtain ⟨k,x,ks⟩ := t
    have hw1 := hw.1
    simp only [Tr.wf,kd] at hw1 hk
    rcases hw1 with ⟨_,hn⟩ | ⟨_,h2,_⟩
    ·subst hn
     simp only [Tr.txt,txtL,List.append_nil,tx]
     rw [Lexi.list_len]
    ·omega
   have a1 := tokS_nrm e off (off + d) ds ds' (kd t) (tx t) h0 (by omega)
   have a2 : (tokS h off ds (kd t) (tx t)).2.1 = off + (tx t).size := by
    unfold tokS
    simp only
    repeat' split
    all_goals rfl
   have a3 : (tokS h' (off + d) ds' (kd t) (tx t)).2.1 = off + (tx t).size + d := by
    have : (tokS h' (off + d) ds' (kd t) (tx t)).2.1 = off + d + (tx t).size := by
     unfold tokS
     simp only
     repeat' split
     all_goals rfl
    rw [this]
    omega
   simp only [a2,a3]
   obtain ⟨b1,b2,b3,b4⟩ := cvtL_sh l (tokS h off ds (kd t) (tx t)).1 (tokS h' (off + d) ds' (kd t) (tx t)).1 ns ns' (off + (tx t).size) (tokS h off ds (kd t) (tx t)).2.2 (tokS h' (off + d) ds' (kd t) (tx t)).2.2 (by omega) hw.2 a1 en (W.sub (by omega) (by omega))
   exact ⟨b1,b2,b3,fun p => b4 (tokS_pos p off ds ds' (kd t) (tx t) h0).1⟩
  ·rw [if_neg hk,if_neg hk]
   obtain ⟨⟨c1,c2,c3⟩,c4⟩ := cvt_sh t off ds ds' h0 hw.1 (by omega) (W.sub (Nat.le_refl _) (by omega))
   obtain ⟨d1,d2,d3,d4,_⟩ := cvt_inv src t off ds h0 hw.1 (by omega)
   simp only [c4]
   obtain ⟨b1,b2,b3,b4⟩ := cvtL_sh l (ext h (cvt src t off ds).1.hd.st (cvt src t off ds).1.hd.en) (ext h' (cvt src' t (off + d) ds').1.hd.st (cvt src' t (off + d) ds').1.hd.en) (ns ++ [(cvt src t off ds).1]) (ns' ++ [(cvt src' t (off + d) ds').1]) (cvt src t off ds).2.1 (cvt src t off ds).2.2 (cvt src' t (off + d) ds').2.2 (by omega) hw.2 e (by rw [bareL_app,bareL_app,en]; simp only [bareL]; rw [c1]) (W.sub (by omega) (by omega))
   refine ⟨b1,b2,b3,fun p => b4 ?_⟩
   rw [c2,c3]
   exact p.ext (by omega)
end
def kidsAt (src : ByteArray) : List Tr → Int → List An
 | [],_ => []
 | t :: l,off => if 100 ≤ kd t then kidsAt src l (off + (tx t).size) else bare (cvt src t off []).1 :: kidsAt src l (cvt src t off []).2.1
theorem tokS_ds (h : Hd) (s : Int) (ds ds' : List Dg) (k : Int) (x : ByteArray) : (tokS h s ds k x).1 = (tokS h s ds' k x).1 ∧ (tokS h s ds k x).2.1 = s + x.size ∧ (tokS h s ds' k x).2.1 = s + x.size := by
 unfold tokS
 simp only
 repeat' split
 all_goals exact ⟨rfl,rfl,rfl⟩
theorem fin_ds (h : Hd) (ns : List An) (ds ds' : List Dg) : (fin src h ns ds).1 = (fin src h ns ds').1 := by
 unfold fin
 split
 ·split <;> rfl
 split <;> rfl
mutual
theorem cvt_ds : ∀ (t : Tr) (off : Int) (ds ds' : List Dg),(cvt src t off ds).1 = (cvt src t off ds').1 ∧ (cvt src t off ds).2.1 = (cvt src t off ds').2.1
 | .mk k x ks,off,ds,ds' => by
  obtain ⟨a,b,c⟩ := cvtL_ds ks (hd0 k off) [] off ds ds'
  rw [cvt,cvt]
  unfold finish
  simp only
  exact ⟨by rw [a,b]; exact fin_ds _ _ _ _,c⟩
theorem cvtL_ds : ∀ (l : List Tr) (h : Hd) (ns : List An) (off : Int) (ds ds' : List Dg),(cvtL src l h ns off ds).1 = (cvtL src l h ns off ds').1 ∧ (cvtL src l h ns off ds).2.1 = (cvtL src l h ns off ds').2.1 ∧ (cvtL src l h ns off ds).2.2.1 = (cvtL src l h ns off ds').2.2.1
 | [],h,ns,off,ds,ds' => by rw [cvtL,cvtL]; exact ⟨rfl,rfl,rfl⟩
 | t :: l,h,ns,off,ds,ds' => by
  rw [cvtL,cvtL]
  split
  ·obtain ⟨a,b,c⟩ := tokS_ds h off ds ds' (kd t) (tx t)
   simp only [a,b,c]
   exact cvtL_ds l _ ns _ _ _
  ·obtain ⟨a,b⟩ := cvt_ds t off ds ds'
   simp only [a,b]
   exact cvtL_ds l _ _ _ _ _
end
theorem cvtL_kids : ∀ (l : List Tr) (h : Hd) (ns : List An) (off : Int) (ds : List Dg),bareL (cvtL src l h ns off ds).2.1 = bareL ns ++ kidsAt src l off
 | [],h,ns,off,ds => by rw [cvtL,kidsAt,List.append_nil]
 | t :: l,h,ns,off,ds => by
  rw [cvtL,kidsAt]
  split
  ·rw [cvtL_kids l,(tokS_ds h off ds ds (kd t) (tx t)).2.1]
  ·obtain ⟨a,b⟩ := cvt_ds (src := src) t off ds []
   rw [cvtL_kids l,bareL_app,a,b,List.append_assoc]
   rfl
theorem kidsAt_app : ∀ (a b : List Tr) (off : Int),0 ≤ off → wfL a → kidsAt src (a ++ b) off = kidsAt src a off ++ kidsAt src b (off + (txtL a).length)
 | [],b,off,h0,hw => by simp [kidsAt,txtL]
 | t :: l,b,off,h0,hw => by
  rw [wfL] at hw
  have hlen : (txtL (t :: l)).length = t.txt.length + (txtL l).length := by rw [txtL,List.length_append]
  rw [List.cons_append,kidsAt,kidsAt,hlen]
  by_cases hk : 100 ≤ kd t
  ·rw [if_pos hk,if_pos hk,kidsAt_app l b _ (by omega) hw.2]
   have ht : t.txt.length = (tx t).size := by
    obtain ⟨k,x,ks⟩ := t
    have hw1 := hw.1
    simp only [Tr.wf,kd] at hw1 hk
    rcases hw1 with ⟨_,hn⟩ | ⟨_,h2,_⟩
    ·subst hn
     simp only [Tr.txt,txtL,List.append_nil,tx]
     rw [Lexi.list_len]
    ·omega
   rw [ht,show off + ((tx t).size + (txtL l).length : Nat) = off + (tx t).size + (txtL l).length from by omega]
  ·rw [if_neg hk,if_neg hk]
   obtain ⟨d1,d2,d3,d4,_⟩ := cvt_inv src t off [] h0 hw.1 (by omega)
   rw [kidsAt_app l b _ (by omega) hw.2,d4,show off + (t.txt.length + (txtL l).length : Nat) = off + t.txt.length + (txtL l).length from by omega]
   rfl
theorem kidsAt_toks : ∀ (l : List Tok) (off : Int),V l → kidsAt src (l.map .tok) off = []
 | [],off,_ => rfl
 | t :: l,off,hv => by
  rw [List.map_cons,kidsAt,if_pos (show 100 ≤ kd (Tr.tok t) from Int.le_of_lt (hv t List.mem_cons_self).2)]
  exact kidsAt_toks l _ fun u hu => hv u (List.mem_cons_of_mem _ hu)
theorem kidsAt_sh : ∀ (l : List Tr) (off : Int),0 ≤ off → wfL l → Win src src' d off.toNat (off.toNat + (txtL l).length) → kidsAt src l off = kidsAt src' l (off + d) := fun l off h0 hw W => by
 obtain ⟨_,b,_⟩ := cvtL_sh l (hd0 0 0) (hd0 0 0) [] [] off [] [] h0 hw rfl rfl W
 rw [cvtL_kids,cvtL_kids] at b
 exact b
def An.kids : An → List An
 | .mk _ l => l
theorem file_kids (s : ByteArray) (ks : List Tr) (hw : wfL ks) : bareL (cvt s (.mk 1 nob ks) 0 []).1.kids = kidsAt s ks 0 := by
 obtain ⟨i,e,n,hkd⟩ := cvtL_inv s ks (hd0 1 0) [] 0 [] 0 (Int.le_refl _) ⟨Int.le_refl _,Int.le_refl _,by show (-1 : Int) ≤ 0; omega,.inl (show (-1 : Int) < 0 by decide)⟩ hw
 have hk : (endH (cvtL s ks (hd0 1 0) [] 0 []).1).kind = 1 := hkd
 rw [cvt]
 unfold finish fin
 simp only [hk]
 rw [if_neg (by decide),if_neg (by decide)]
 show bareL (cvtL s ks (hd0 1 0) [] 0 []).2.1 = _
 rw [cvtL_kids]
 rfl
end Go.Proofs.YtiogccmfmjhipaaGreatDoor.Ast
namespace Go.Proofs.YtiogccmfmjhipaaGreatDoor.Par
set_option maxRecDepth 20000
open Go.Gx Go.RowKit Go.Lib
open Lexi (Asc toks)
open Ast
def NoL (w : World) (g : Mn) : Prop := NOk (Lo w) w g
theorem NoL.ext {w w' : World} {g : Mn} (h : NoL w g) (x : Ext w w') : NoL w' g := (NOk.bw h (Bw.of x fun z hz => hz) fun z hz => hz).mono fun z hz => Nat.lt_of_lt_of_le hz x.le
theorem NoL.oneL {w : World} {g : Mn} (h : NoL w g) : (g.cells.all (·.oneCell')) = true := NOk.oneL h
theorem encs_df (ds : List Dg) : encs dgc ds = encs dfc (ds.map Dg.df) := by
 induction ds with
 | nil => rfl
 | cons d l ih => show dgc d ++ encs dgc l = dfc d.df ++ encs dfc (l.map Dg.df); rw [ih]; rfl
structure LvL (w : World) (lv : Value) (ds : List Dg) : Prop where
 sl : SlC w lv 5 ds.length (encs dgc ds)
 one : lv.oneCell' = true
theorem LvL.ext {w w' : World} {lv : Value} {ds : List Dg} (h : LvL w lv ds) (x : Ext w w') : LvL w' lv ds := ⟨h.sl.ext x,h.one⟩
theorem LvL.df {w : World} {lv : Value} {ds : List Dg} (h : LvL w lv ds) : SlC w lv 5 (ds.map Dg.df).length (encs dfc (ds.map Dg.df)) := by
 have := h.sl
 rw [encs_df] at this
 simpa using this
theorem parseA_no {w w' : World} {s : ByteArray} {u lv : Value} {t : Tr} {mn : Mn} {ds : List Dg} {K : Fs} (h : ParseA w s u w' t mn lv ds K) : NoL w' mn ∧ LvL w' lv ds := ⟨h.ok.mono fun z hz => (h.lo z hz).2,h.sl,h.one⟩
theorem er_ext {w w' : World} (h : Er w) (x : Ext w w') : Er w' := by
 obtain ⟨a,b,h⟩ := h
 exact ⟨a,b,x.cell h⟩
def exS : ByteArray := ⟨#[99,111,110,115,116,32,99,58,32,105,110,116,32,61,32,59]⟩
theorem ex_run : ((run body 40 file ⟨toks exS,[],false,0⟩).map fun r => ((cvt exS (.mk 1 nob r.kids) 0 []).2.2,(cvt exS (.mk 1 nob r.kids) 0 []).1.kids.map fun a => a.hd.kind)) = some ([(1,14,14)],[8]) := by decide +kernel
theorem ex_ast {t : Tr} (h : Parsed exS t) : (cvt exS t 0 []).2.2 = [(1,14,14)] ∧ (cvt exS t 0 []).1.kids.map (fun a => a.hd.kind) = [8] := by
 have h1 := ex_run
 rw [Option.map_eq_some_iff] at h1
 obtain ⟨r,h2,h3⟩ := h1
 have h4 := Parsed.unique h ⟨_,r,h2,rfl⟩
 rw [h4]
 exact ⟨congrArg Prod.fst h3,congrArg Prod.snd h3⟩
theorem astOf_kids (s : ByteArray) (t : Tr) : (astOf s t).kids = (cvt s t 0 []).1.kids := by
 unfold astOf
 cases (cvt s t 0 []).1
 rfl
theorem sortD_one (d : Dg) : sortD [d] = [d] := List.length_eq_one_iff.1 (sortD_length [d]) |>.elim fun a h => by
 have hp : (sortD [d]).Perm [d] := List.mergeSort_perm _ _
 exact List.perm_singleton.1 hp
theorem example_ok {w : World} (hA0 : Asc w) (hE0 : Er w) : Cl Tryz.prog 15 #[] w (fun u w' => u = .bool true ∧ Ext w w') := by
 have hx := Ext.refl w
 refine Cl.enter Tryz.func15 rfl Tryz.ntmps15 rfl rfl (.sr (.a2 rfl (.done (.sr ?_))))
 refine Rg.wd trivial (w_call Tryz.call18 rfl (astParse_ok (s := exS) (by decide) (hA0.ext hx) (er_ext hE0 hx))) rfl ?_
 rintro _ w1 ⟨t,mn,lv,ds,K,A⟩
 have hx1 := A.ext
 obtain ⟨hn,hl⟩ := (parseA_no A)
 have hue := A.ue
 subst hue
 have hdd := A.dse
 have her := A.er
 obtain ⟨ed,ek⟩ := ex_ast A.pt
 rw [ed,sortD_one,cmpL_one] at hdd
 subst hdd
 have hkk : mn.er.kids.map (fun a => a.hd.kind) = [8] := by rw [her,astOf_kids]; exact ek
 have hno := hn.oneL
 clear A
 replace hx := hx.ext hx1
 refine .m2 rfl (.t2 (t_extract rfl rfl) (.t2 (t_extract rfl rfl) (.t2 (t_extract rfl rfl) (Rg.wd trivial (w_new Tryz.zeroValue27 rfl) rfl ?_))))
 rintro _ wab1 ⟨b1,rfl,qb1,hxab1,hvab1⟩
 refine Rg.wn trivial (w_put (cs := mn.cells) hvab1 rfl rfl rfl (by rw [Mn.len]; exact ty27) (by rw [Mn.len]; rfl) (hno)) ?_
 rintro _ w2 ⟨hub1,hvb1⟩
 have hx2 := hxab1.upd hub1 (Nat.le_of_eq qb1.symm)
 clear hvab1 hub1 hxab1
 replace hx := hx.ext hx2
 replace hn := hn.ext hx2
 replace hl := hl.ext hx2
 clear qb1
 refine .a2 rfl (.a2 rfl (.done ?_))
 obtain ⟨h,cv,kids⟩ := mn
 obtain ⟨hs,hone⟩ : SlC _ cv 7 kids.length (encs Mn.cells kids) ∧ cv.oneCell' = true := by cases hn with | mk a b c d => exact ⟨a,b⟩
 have hkids : ∃ k1,kids = [k1] ∧ k1.hd.kind = 8 := by
  have h0 : (mnL kids).map (fun a => a.hd.kind) = [8] := hkk
  rw [mnL_map] at h0
  rcases kids with _ | ⟨k1,_ | ⟨k2,l⟩⟩
  ·cases h0
  ·refine ⟨k1,rfl,?_⟩
   simp only [List.map_cons,List.map_nil,List.cons.injEq,and_true] at h0
   cases k1
   exact h0
  ·simp at h0
 obtain ⟨k1,rfl,hk8⟩ := hkids
 have hk1l : [k1].length = 1 := rfl
 refine .sr (.m2 rfl (.t2 (t_eqlT rfl rfl rfl) (.m2 rfl (.g2 (t_fieldAddr fa27_6 rfl) (.g2 (t_load ty25 rfl (hvb1.g 6 rfl)) (.g2 (t_lenC hs Tryz.underlying25 rfl) ?_))))))
 refine .g2 (t_eqlT rfl rfl (by simp)) ?_
 refine .t2 (t_pickT rfl rfl) (.m2 rfl (.g2 (t_fieldAddr fa27_6 rfl) (.g2 (t_load ty25 rfl (hvb1.g 6 rfl)) ?_)))
 refine Rg.ix hs ⟨_,rfl,rfl⟩ rfl rfl Tryz.underlying25 ty27 (by omega) rfl ?_
 intro bt20 ot20 ht20
 rw [show ((encs Mn.cells [k1]).drop ((0 : Int).toNat * 7)).take 7 = k1.cells from by cases k1; rfl] at ht20
 refine .g2 (t_fieldAddr fa27_0 rfl) ?_
 refine .g2 (t_load ty3 rfl (Cells.get (i := 0) (v := .int .i64 k1.hd.kind) ht20 (by cases k1; rfl))) ?_
 refine .g2 (t_eqlT rfl rfl hk8) (.t2 (t_pickT rfl rfl) (.m2 rfl (.g2 (t_move rfl) (.g2 (t_build (bd80_0_2_3 _ _ _) rfl) (Rg.wd ⟨_,rfl,rfl⟩ (w_buildSlice (bs28_1 _ _ _ _ _) rfl) rfl ?_)))))
 rintro _ w3 ⟨bb,rfl,qb,hx3,hvb⟩
 replace hx := hx.ext hx3
 replace hn := hn.ext hx3
 replace hl := hl.ext hx3
 replace hvb1 := hvb1.ext hx3
 replace ht20 := ht20.ext hx3
 refine Rg.wd ⟨_,rfl,rfl⟩ (w_call Tryz.call40 rfl (equalD_ok (xs := [Dg.df (1,14,14)]) (ys := [Dg.df (1,14,14)]) hl.df (slc_var hvb rfl) (by decide))) rfl ?_
 rintro _ w4 ⟨⟨bq,rfl,hbq⟩,hx4⟩
 replace hx := hx.ext hx4
 replace hn := hn.ext hx4
 replace hl := hl.ext hx4
 replace hvb1 := hvb1.ext hx4
 replace ht20 := ht20.ext hx4
 replace hvb := hvb.ext hx4
 obtain rfl := hbq.2 rfl
 refine .t2 (t_pickT rfl rfl) (.a2 rfl (.done (Wp.ret ?_)))
 exact ⟨[_],⟨rfl,trivial⟩,rfl,hx⟩
end Go.Proofs.YtiogccmfmjhipaaGreatDoor.Par
namespace Go.Proofs.YtiogccmfmjhipaaGreatDoor.Par
set_option maxRecDepth 20000
open Go.Gx Go.RowKit Go.Lib
open Lexi (Asc toks catT tcs tcs_at)
open Ast
mutual
def core : An → An
 | .mk h ks => .mk ⟨h.kind,h.value,h.text,0,0,0⟩ (coreL ks)
def coreL : List An → List An
 | [] => []
 | a :: l => core a :: coreL l
end
mutual
def anc : An → Nat
 | .mk _ ks => ancL ks + 1
def ancL : List An → Nat
 | [] => 0
 | a :: l => anc a + ancL l
end
theorem coreL_map (l : List An) : coreL l = l.map core := by
 induction l with
 | nil => rfl
 | cons a l ih => simp [coreL,ih]
mutual
theorem core_bare : ∀ a,core (bare a) = core a
 | .mk h ks => by rw [bare,core,core,core_bareL ks]; rfl
theorem core_bareL : ∀ l,coreL (bareL l) = coreL l
 | [] => rfl
 | a :: l => by rw [bareL,coreL,coreL,core_bare a,core_bareL l]
end
theorem ancL_len (l : List An) : l.length ≤ ancL l := by
 induction l with
 | nil => exact Nat.le_refl _
 | cons a l ih => cases a; simp only [ancL,anc,List.length_cons]; omega
theorem ancL_mem {l : List An} {a : An} (h : a ∈ l) : anc a ≤ ancL l := by
 induction l with
 | nil => cases h
 | cons b l ih =>
  rcases List.mem_cons.1 h with rfl | h
  ·simp only [ancL]; omega
  ·have := ih h; simp only [ancL]; omega
theorem ancL_app (a b : List An) : ancL (a ++ b) = ancL a + ancL b := by
 induction a with
 | nil => simp [ancL]
 | cons x a ih => simp only [List.cons_append,ancL,ih]; omega
theorem fin_anc (src : ByteArray) (h : Hd) (ns : List An) (ds : List Dg) : anc (fin src h ns ds).1 ≤ ancL ns + 1 := by
 unfold fin
 split
 ·split
  ·simp only [anc,ancL]; omega
  ·simp only [anc,ancL]; omega
 split
 ·simp only [anc,ancL]; omega
 ·simp only [anc]; omega
mutual
theorem cvt_anc (src : ByteArray) : ∀ (t : Tr) (off : Int) (ds : List Dg),anc (cvt src t off ds).1 ≤ t.cnt
 | .mk k x ks,off,ds => by
  rw [cvt,Tr.cnt]
  have h1 := fin_anc src (endH (cvtL src ks (hd0 k off) [] off ds).1) (cvtL src ks (hd0 k off) [] off ds).2.1 (cvtL src ks (hd0 k off) [] off ds).2.2.2
  have h2 := cvtL_anc src ks (hd0 k off) [] off ds
  simp only [ancL] at h2
  show anc (fin _ _ _ _).1 ≤ _
  omega
theorem cvtL_anc (src : ByteArray) : ∀ (l : List Tr) (h : Hd) (ns : List An) (off : Int) (ds : List Dg),ancL (cvtL src l h ns off ds).2.1 ≤ ancL ns + cntL l
 | [],h,ns,off,ds => by rw [cvtL]; simp [cntL]
 | t :: l,h,ns,off,ds => by
  rw [cvtL,cntL]
  split
  ·have := cvtL_anc src l (tokS h off ds (kd t) (tx t)).1 ns (tokS h off ds (kd t) (tx t)).2.1 (tokS h off ds (kd t) (tx t)).2.2
   simp only
   omega
  ·have h1 := cvt_anc src t off ds
   have h2 := cvtL_anc src l (ext h (cvt src t off ds).1.hd.st (cvt src t off ds).1.hd.en) (ns ++ [(cvt src t off ds).1]) (cvt src t off ds).2.1 (cvt src t off ds).2.2
   rw [ancL_app] at h2
   simp only [ancL] at h2
   simp only
   omega
end
theorem astOf_anc (s : ByteArray) (t : Tr) : anc (astOf s t) ≤ t.cnt := by
 have := cvt_anc s t 0 []
 unfold astOf
 cases h : (cvt s t 0 []).1 with
 | mk a ks => rw [h] at this; exact this
theorem mnL_at (l : List Mn) (k : Nat) (h : k < l.length) : (mnL l)[k]'(by rw [mnL_len]; exact h) = l[k].er := by simp [mnL_map]
theorem equal_ok : ∀ (n : Nat) (g h : Mn),anc g.er ≤ n → anc g.er ≤ 1000000 → ∀ (w : World),NoL w g → NoL w h → Cl Tryz.prog 19 #[.agg g.cells.toArray,.agg h.cells.toArray] w (fun u w' => (∃ b,u = .bool b ∧ (b = true ↔ core g.er = core h.er)) ∧ Ext w w') := by
 intro n
 induction n with
 | zero =>
  intro g h hn
  cases g
  simp [Mn.er,anc] at hn
 | succ n ih =>
  intro g h hn hc w hg hh
  obtain ⟨a,c1,l1⟩ := g
  obtain ⟨b,c2,l2⟩ := h
  cases hg with
  | mk hs1 h1 hb1 hk1 =>
   cases hh with
   | mk hs2 h2 hb2 hk2 =>
    simp only [Mn.er,anc] at hn hc
    have hlenk := ancL_len (mnL l1)
    rw [mnL_len] at hlenk
    have hx := Ext.refl w
    have o1 := Hd.one a h1
    have o2 := Hd.one b h2
    by_cases e1 : a.kind = b.kind
    ·by_cases e2 : a.value = b.value
     ·by_cases e3 : a.text = b.text
      ·by_cases e4 : l1.length = l2.length
       ·skip
        refine Cl.enter Tryz.func19 rfl Tryz.ntmps19 rfl rfl ?_
        have hs10 := hs1
        have hs20 := hs2
        refine .sr (Rg.wd trivial (w_boxed (cs := a.cells c1) rfl rfl) rfl ?_)
        rintro _ w1 ⟨b2,rfl,q2,hx1,hv2⟩
        replace hx := hx.ext hx1
        refine Rg.wd trivial (w_boxed (cs := b.cells c2) rfl rfl) rfl ?_
        rintro _ w2 ⟨b3,rfl,q3,hx2,hv3⟩
        replace hx := hx.ext hx2
        replace hv2 := hv2.ext hx2
        refine .a2 rfl (.done (.seq (.sr (.t2 (t_fieldAddr fa27_0 rfl) (.t2 (t_load ty3 rfl (hv2.g 0 rfl)) (.t2 (t_fieldAddr fa27_0 rfl) (.t2 (t_load ty3 rfl (hv3.g 0 rfl)) (.t2 (t_neqF rfl rfl e1) (.m2 rfl (.g2 (t_fieldAddr fa27_1 rfl) (.g2 (t_load ty3 rfl (hv2.g 1 rfl)) (.g2 (t_fieldAddr fa27_1 rfl) ?_))))))))))))
        refine .g2 (t_load ty3 rfl (hv3.g 1 rfl)) (.g2 (t_neqF rfl rfl e2) (.t2 (t_pickF rfl rfl) (.m2 rfl (.g2 (t_fieldAddr fa27_2 rfl) (.g2 (t_load ty9 rfl (hv2.g 2 rfl)) (.g2 (t_fieldAddr fa27_2 rfl) (.g2 (t_load ty9 rfl (hv3.g 2 rfl)) (.g2 (t_sneqF rfl rfl e3) (.t2 (t_pickF rfl rfl) (.m2 rfl (.g2 (t_fieldAddr fa27_6 rfl) (.g2 (t_load ty25 rfl (hv2.g 6 rfl)) ?_))))))))))))
        refine .g2 (t_lenC hs10 Tryz.underlying25 rfl) (.g2 (t_fieldAddr fa27_6 rfl) (.g2 (t_load ty25 rfl (hv3.g 6 rfl)) (.g2 (t_lenC hs20 Tryz.underlying25 rfl) ?_)))
        refine .g2 (t_neqF rfl rfl (by omega)) ?_
        refine .t2 (t_pickF rfl rfl) (.done (.condF rfl (Wp.skip (.seq (.sr (.t2 (t_fieldAddr fa27_6 rfl) (.t2 (t_load ty25 rfl (hv2.g 6 rfl)) (.t2 (t_lenC hs10 Tryz.underlying25 rfl) (.m2 rfl (.done (Wp.block ?_)))))))))))
        refine Wp.loop (ι := Nat) (fun k => [(2,.pointer (some ⟨b2,0,none⟩)),(3,.pointer (some ⟨b3,0,none⟩)),(36,.int .i64 l1.length),(37,.int .i64 k)])
         (fun k w' => k ≤ l1.length ∧ (coreL (mnL l1)).take k = (coreL (mnL l2)).take k ∧ Ext w w' ∧ Var w' b2 (a.cells c1) 27 ∧ Var w' b3 (b.cells c2) 27) (fun k => l1.length - k) 0 (by repeat (first | exact .nil | refine .cons rfl ?_)) ⟨Nat.zero_le _,rfl,hx,hv2,hv3⟩ ?_
        clear hx hv2 hv3
        rintro k w9 ⟨hk,he,hx,hv2,hv3⟩
        have hcl1 : (coreL (mnL l1)).length = l1.length := by simp [coreL_map,mnL_len]
        have hcl2 : (coreL (mnL l2)).length = l2.length := by simp [coreL_map,mnL_len]
        by_cases hlt : k < l1.length
        ·have hlt2 : k < l2.length := by omega
         have hem : (coreL (mnL l1))[k]'(by omega) = core l1[k].er := by simp [coreL_map,mnL_map]
         have hem2 : (coreL (mnL l2))[k]'(by omega) = core l2[k].er := by simp [coreL_map,mnL_map]
         have hcm : anc l1[k].er ≤ ancL (mnL l1) := ancL_mem (by rw [← mnL_at l1 k hlt]; exact List.getElem_mem _)
         by_cases heq : core l1[k].er = core l2[k].er
         ·skip
          refine .sr ?_
          refine .t2 (t_lssT rfl rfl (by omega)) ?_
          refine .done (.seq (.condT rfl (Wp.skip (.seq (Wp.block (.sr (.m2 rfl (.a2 rfl (.done ?_)))))))))
          refine Wp.seq (Wp.draw [0,1,2,3,4,5,6,7,8,9,10,11] [] mixed (by kernel_rfl) (by kernel_rfl) ?_)
          intro w21 hx21 _
          replace hx := hx.ext hx21
          replace hv2 := hv2.ext hx21
          replace hv3 := hv3.ext hx21
          refine .t2 (t_fieldAddr fa27_6 rfl) (.t2 (t_load ty25 rfl (hv2.g 6 rfl)) (.m2 rfl ?_))
          refine Rg.ix hs10 trivial rfl rfl Tryz.underlying25 ty27 (by omega) rfl ?_
          intro bt43 ot43 ht43
          replace ht43 := ht43.ext hx
          rw [Int.toNat_natCast,encs_at Mn.len l1 k hlt] at ht43
          refine .t2 (t_loadA rfl ht43 (by rw [Mn.len]; exact ty27)) ?_
          refine .t2 (t_fieldAddr fa27_6 rfl) (.t2 (t_load ty25 rfl (hv3.g 6 rfl)) (.m2 rfl ?_))
          refine Rg.ix hs20 trivial rfl rfl Tryz.underlying25 ty27 (by omega) rfl ?_
          intro bt48 ot48 ht48
          replace ht48 := ht48.ext hx
          rw [Int.toNat_natCast,encs_at Mn.len l2 k hlt2] at ht48
          refine .t2 (t_loadA rfl ht48 (by rw [Mn.len]; exact ty27)) ?_
          refine Rg.wdB trivial rfl (w_call Tryz.call19 rfl (ih l1[k] l2[k] (by omega) (by omega) _ (NoL.ext (hk1 _ (List.getElem_mem hlt)) hx) (NoL.ext (hk2 _ (List.getElem_mem hlt2)) hx))) rfl (fun _ _ h => h.2) ?_
          rintro _ w22 ⟨⟨bb,rfl,hbb⟩,hx22⟩
          replace hx := hx.ext hx22
          replace hv2 := hv2.ext hx22
          replace hv3 := hv3.ext hx22
          replace ht43 := ht43.ext hx22
          replace ht48 := ht48.ext hx22
          obtain rfl : bb = true := by
           exact hbb.2 heq
          refine .t2 (t_notB rfl) (.done (.condF rfl (Wp.skip (Wp.region ?_))))
          refine .t2 (t_addI rfl rfl (by omega)) ?_
          refine .m2 rfl (.done ?_)
          exact ⟨k + 1,by repeat (first | exact .nil | refine .cons rfl ?_),⟨hlt,by rw [List.take_succ_eq_append_getElem (by omega),List.take_succ_eq_append_getElem (by omega),he,hem,hem2,heq],hx,hv2,hv3⟩,by omega⟩
         ·skip
          refine .sr ?_
          refine .t2 (t_lssT rfl rfl (by omega)) ?_
          refine .done (.seq (.condT rfl (Wp.skip (.seq (Wp.block (.sr (.m2 rfl (.a2 rfl (.done ?_)))))))))
          refine Wp.seq (Wp.draw [0,1,2,3,4,5,6,7,8,9,10,11] [] mixed (by kernel_rfl) (by kernel_rfl) ?_)
          intro w21 hx21 _
          replace hx := hx.ext hx21
          replace hv2 := hv2.ext hx21
          replace hv3 := hv3.ext hx21
          refine .t2 (t_fieldAddr fa27_6 rfl) (.t2 (t_load ty25 rfl (hv2.g 6 rfl)) (.m2 rfl ?_))
          refine Rg.ix hs10 trivial rfl rfl Tryz.underlying25 ty27 (by omega) rfl ?_
          intro bt43 ot43 ht43
          replace ht43 := ht43.ext hx
          rw [Int.toNat_natCast,encs_at Mn.len l1 k hlt] at ht43
          refine .t2 (t_loadA rfl ht43 (by rw [Mn.len]; exact ty27)) ?_
          refine .t2 (t_fieldAddr fa27_6 rfl) (.t2 (t_load ty25 rfl (hv3.g 6 rfl)) (.m2 rfl ?_))
          refine Rg.ix hs20 trivial rfl rfl Tryz.underlying25 ty27 (by omega) rfl ?_
          intro bt48 ot48 ht48
          replace ht48 := ht48.ext hx
          rw [Int.toNat_natCast,encs_at Mn.len l2 k hlt2] at ht48
          refine .t2 (t_loadA rfl ht48 (by rw [Mn.len]; exact ty27)) ?_
          refine Rg.wdB trivial rfl (w_call Tryz.call19 rfl (ih l1[k] l2[k] (by omega) (by omega) _ (NoL.ext (hk1 _ (List.getElem_mem hlt)) hx) (NoL.ext (hk2 _ (List.getElem_mem hlt2)) hx))) rfl (fun _ _ h => h.2) ?_
          rintro _ w22 ⟨⟨bb,rfl,hbb⟩,hx22⟩
          replace hx := hx.ext hx22
          replace hv2 := hv2.ext hx22
          replace hv3 := hv3.ext hx22
          replace ht43 := ht43.ext hx22
          replace ht48 := ht48.ext hx22
          obtain rfl : bb = false := by
           cases bb
           ·rfl
           ·exact absurd (hbb.1 rfl) heq
          refine .t2 (t_notB rfl) (.done (.condT rfl (.sr (.a2 rfl (.done (Wp.ret ?_))))))
          refine ⟨[_],⟨rfl,trivial⟩,⟨false,rfl,⟨fun e => by (cases e),fun e => ?_⟩⟩,hx⟩
          simp only [Mn.er,core,An.mk.injEq] at e
          exact absurd (by rw [← hem,← hem2]; simp only [e.2]) heq
        ·skip
         refine .sr ?_
         refine .t2 (t_lssF rfl rfl (by omega)) ?_
         refine .done (.seq (.condF rfl (Wp.exit (.sr (.a2 rfl (.done (Wp.ret ?_)))))))
         refine ⟨[_],⟨rfl,trivial⟩,⟨true,rfl,⟨fun _ => ?_,fun _ => rfl⟩⟩,hx⟩
         rw [show k = (coreL (mnL l1)).length from by omega,List.take_length,show (coreL (mnL l1)).length = (coreL (mnL l2)).length from by omega,List.take_length] at he
         simp only [Mn.er,core,e1,e2,e3,he]
       ·skip
        refine Cl.enter Tryz.func19 rfl Tryz.ntmps19 rfl rfl ?_
        have hs10 := hs1
        have hs20 := hs2
        refine .sr (Rg.wd trivial (w_boxed (cs := a.cells c1) rfl rfl) rfl ?_)
        rintro _ w1 ⟨b2,rfl,q2,hx1,hv2⟩
        replace hx := hx.ext hx1
        refine Rg.wd trivial (w_boxed (cs := b.cells c2) rfl rfl) rfl ?_
        rintro _ w2 ⟨b3,rfl,q3,hx2,hv3⟩
        replace hx := hx.ext hx2
        replace hv2 := hv2.ext hx2
        refine .a2 rfl (.done (.seq (.sr (.t2 (t_fieldAddr fa27_0 rfl) (.t2 (t_load ty3 rfl (hv2.g 0 rfl)) (.t2 (t_fieldAddr fa27_0 rfl) (.t2 (t_load ty3 rfl (hv3.g 0 rfl)) (.t2 (t_neqF rfl rfl e1) (.m2 rfl (.g2 (t_fieldAddr fa27_1 rfl) (.g2 (t_load ty3 rfl (hv2.g 1 rfl)) (.g2 (t_fieldAddr fa27_1 rfl) ?_))))))))))))
        refine .g2 (t_load ty3 rfl (hv3.g 1 rfl)) (.g2 (t_neqF rfl rfl e2) (.t2 (t_pickF rfl rfl) (.m2 rfl (.g2 (t_fieldAddr fa27_2 rfl) (.g2 (t_load ty9 rfl (hv2.g 2 rfl)) (.g2 (t_fieldAddr fa27_2 rfl) (.g2 (t_load ty9 rfl (hv3.g 2 rfl)) (.g2 (t_sneqF rfl rfl e3) (.t2 (t_pickF rfl rfl) (.m2 rfl (.g2 (t_fieldAddr fa27_6 rfl) (.g2 (t_load ty25 rfl (hv2.g 6 rfl)) ?_))))))))))))
        refine .g2 (t_lenC hs10 Tryz.underlying25 rfl) (.g2 (t_fieldAddr fa27_6 rfl) (.g2 (t_load ty25 rfl (hv3.g 6 rfl)) (.g2 (t_lenC hs20 Tryz.underlying25 rfl) ?_)))
        refine .g2 (t_neqT rfl rfl (by omega)) ?_
        refine .t2 (t_pickF rfl rfl) (.done (.condT rfl (.sr (.a2 rfl (.done (Wp.ret ?_))))))
        refine ⟨[_],⟨rfl,trivial⟩,⟨false,rfl,⟨fun e => by (cases e),fun e => ?_⟩⟩,hx⟩
        simp only [Mn.er,core,An.mk.injEq,Hd.mk.injEq] at e
        exact absurd (by have := congrArg List.length e.2; simpa [coreL_map,mnL_len] using this) e4
      ·skip
       refine Cl.enter Tryz.func19 rfl Tryz.ntmps19 rfl rfl (.sr (Rg.wd trivial (w_boxed (cs := a.cells c1) rfl rfl) rfl ?_))
       rintro _ w1 ⟨b2,rfl,q2,hx1,hv2⟩
       replace hx := hx.ext hx1
       refine Rg.wd trivial (w_boxed (cs := b.cells c2) rfl rfl) rfl ?_
       rintro _ w2 ⟨b3,rfl,q3,hx2,hv3⟩
       replace hx := hx.ext hx2
       replace hv2 := hv2.ext hx2
       refine .a2 rfl (.done (.seq (.sr (.t2 (t_fieldAddr fa27_0 rfl) (.t2 (t_load ty3 rfl (hv2.g 0 rfl)) (.t2 (t_fieldAddr fa27_0 rfl) (.t2 (t_load ty3 rfl (hv3.g 0 rfl)) (.t2 (t_neqF rfl rfl e1) (.m2 rfl (.g2 (t_fieldAddr fa27_1 rfl) (.g2 (t_load ty3 rfl (hv2.g 1 rfl)) (.g2 (t_fieldAddr fa27_1 rfl) ?_))))))))))))
       refine .g2 (t_load ty3 rfl (hv3.g 1 rfl)) (.g2 (t_neqF rfl rfl e2) (.t2 (t_pickF rfl rfl) (.m2 rfl (.g2 (t_fieldAddr fa27_2 rfl) (.g2 (t_load ty9 rfl (hv2.g 2 rfl)) (.g2 (t_fieldAddr fa27_2 rfl) (.g2 (t_load ty9 rfl (hv3.g 2 rfl)) (.g2 (t_sneqT rfl rfl e3) (.t2 (t_pickF rfl rfl) (.m2 rfl (.so rfl rfl (.so rfl rfl ?_))))))))))))
       refine .so rfl rfl (.so rfl rfl (.so rfl rfl (.so rfl rfl (.so rfl rfl (.t2 (t_pickT rfl rfl) (.done (.condT rfl (.sr (.a2 rfl (.done (Wp.ret ?_)))))))))))
       refine ⟨[_],⟨rfl,trivial⟩,⟨false,rfl,⟨fun e => by (cases e),fun e => ?_⟩⟩,hx⟩
       simp only [Mn.er,core,An.mk.injEq,Hd.mk.injEq] at e
       exact absurd e.1.2.2.1 e3
     ·skip
      refine Cl.enter Tryz.func19 rfl Tryz.ntmps19 rfl rfl (.sr (Rg.wd trivial (w_boxed (cs := a.cells c1) rfl rfl) rfl ?_))
      rintro _ w1 ⟨b2,rfl,q2,hx1,hv2⟩
      replace hx := hx.ext hx1
      refine Rg.wd trivial (w_boxed (cs := b.cells c2) rfl rfl) rfl ?_
      rintro _ w2 ⟨b3,rfl,q3,hx2,hv3⟩
      replace hx := hx.ext hx2
      replace hv2 := hv2.ext hx2
      refine .a2 rfl (.done (.seq (.sr (.t2 (t_fieldAddr fa27_0 rfl) (.t2 (t_load ty3 rfl (hv2.g 0 rfl)) (.t2 (t_fieldAddr fa27_0 rfl) (.t2 (t_load ty3 rfl (hv3.g 0 rfl)) (.t2 (t_neqF rfl rfl e1) (.m2 rfl (.g2 (t_fieldAddr fa27_1 rfl) (.g2 (t_load ty3 rfl (hv2.g 1 rfl)) (.g2 (t_fieldAddr fa27_1 rfl) ?_))))))))))))
      refine .g2 (t_load ty3 rfl (hv3.g 1 rfl)) (.g2 (t_neqT rfl rfl e2) (.t2 (t_pickF rfl rfl) (.m2 rfl (.so rfl rfl (.so rfl rfl (.so rfl rfl (.so rfl rfl (.so rfl rfl (.t2 (t_pickT rfl rfl) (.m2 rfl (.so rfl rfl (.so rfl rfl ?_))))))))))))
      refine .so rfl rfl (.so rfl rfl (.so rfl rfl (.so rfl rfl (.so rfl rfl (.t2 (t_pickT rfl rfl) (.done (.condT rfl (.sr (.a2 rfl (.done (Wp.ret ?_)))))))))))
      refine ⟨[_],⟨rfl,trivial⟩,⟨false,rfl,⟨fun e => by (cases e),fun e => ?_⟩⟩,hx⟩
      simp only [Mn.er,core,An.mk.injEq,Hd.mk.injEq] at e
      exact absurd e.1.2.1 e2
    ·skip
     refine Cl.enter Tryz.func19 rfl Tryz.ntmps19 rfl rfl (.sr (Rg.wd trivial (w_boxed (cs := a.cells c1) rfl rfl) rfl ?_))
     rintro _ w1 ⟨b2,rfl,q2,hx1,hv2⟩
     replace hx := hx.ext hx1
     refine Rg.wd trivial (w_boxed (cs := b.cells c2) rfl rfl) rfl ?_
     rintro _ w2 ⟨b3,rfl,q3,hx2,hv3⟩
     replace hx := hx.ext hx2
     replace hv2 := hv2.ext hx2
     refine .a2 rfl (.done (.seq (.sr (.t2 (t_fieldAddr fa27_0 rfl) (.t2 (t_load ty3 rfl (hv2.g 0 rfl)) (.t2 (t_fieldAddr fa27_0 rfl) (.t2 (t_load ty3 rfl (hv3.g 0 rfl)) (.t2 (t_neqT rfl rfl e1) (.m2 rfl (.so rfl rfl (.so rfl rfl (.so rfl rfl ?_))))))))))))
     refine .so rfl rfl (.so rfl rfl (.t2 (t_pickT rfl rfl) (.m2 rfl (.so rfl rfl (.so rfl rfl (.so rfl rfl (.so rfl rfl (.so rfl rfl (.t2 (t_pickT rfl rfl) (.m2 rfl (.so rfl rfl (.so rfl rfl ?_))))))))))))
     refine .so rfl rfl (.so rfl rfl (.so rfl rfl (.so rfl rfl (.so rfl rfl (.t2 (t_pickT rfl rfl) (.done (.condT rfl (.sr (.a2 rfl (.done (Wp.ret ?_)))))))))))
     refine ⟨[_],⟨rfl,trivial⟩,⟨false,rfl,⟨fun e => by (cases e),fun e => ?_⟩⟩,hx⟩
     simp only [Mn.er,core,An.mk.injEq,Hd.mk.injEq] at e
     exact absurd e.1.1 e1
end Go.Proofs.YtiogccmfmjhipaaGreatDoor.Par
namespace Go.Proofs.YtiogccmfmjhipaaGreatDoor.Par
set_option maxRecDepth 20000
open Go.Gx Go.RowKit Go.Lib
open Lexi (Asc toks catT tcs tcs_at tcs_drop tcs_length tcs_append sgx noteT)
open Ast
structure Kept (w : World) (s : ByteArray) (t : Tr) (mn : Mn) (lv : Value) (ds : List Dg) : Prop where
 pt : Parsed s t
 er : mn.er = astOf s t
 dse : ds = cmpL (sortD (cvt s t 0 []).2.2)
 ok : NoL w mn
 lv : LvL w lv ds
theorem Kept.ext {w w' : World} {s : ByteArray} {t : Tr} {mn : Mn} {lv : Value} {ds : List Dg} (h : Kept w s t mn lv ds) (x : Ext w w') : Kept w' s t mn lv ds := ⟨h.pt,h.er,h.dse,h.ok.ext x,h.lv.ext x⟩
theorem parseA_kept {w w' : World} {s : ByteArray} {u lv : Value} {t : Tr} {mn : Mn} {ds : List Dg} {K : Fs} (h : ParseA w s u w' t mn lv ds K) : Kept w' s t mn lv ds := ⟨h.pt,h.er,h.dse,(parseA_no h).1,(parseA_no h).2⟩
end Go.Proofs.YtiogccmfmjhipaaGreatDoor.Par
namespace Go.Proofs.YtiogccmfmjhipaaGreatDoor.Lexi
theorem toks_ws {a b : ByteArray} (hb : 0 < b.size) (hs : isSp (bt b 0) = false) (h : ∀ i,i < a.size → isSp (bt a i) = true) : ∃ x,toks (a ++ nl ++ b) = (101,x) :: toks b := by
 have hsz : (a ++ nl ++ b).size = a.size + 1 + b.size := by rw [ByteArray.size_append,ByteArray.size_append,nl_size]
 have h0 : scan isSp b 0 = 0 := scan_unique (Nat.le_refl _) (Nat.zero_le _) (fun k a c => by omega) (fun _ => hs)
 have h1 := run_nl (b := b) h
 rw [h0] at h1
 have h2 : isSp (bt (a ++ nl ++ b) 0) = true := by
  by_cases ha : 0 < a.size
  ·rw [bt_app_l (by rw [ByteArray.size_append]; omega),bt_app_l ha]; exact h 0 ha
  ·rw [bt_app_l (by rw [ByteArray.size_append,nl_size]; omega),show (0 : Nat) = a.size + 0 from by omega,bt_app_r,bt_nl]; rfl
 refine ⟨(a ++ nl ++ b).extract 0 (a.size + (1 + 0)),?_⟩
 rw [toks_cons (by omega),tok_sp h2,h1]
 congr 1
 show toks ((a ++ nl ++ b).extract (a.size + (1 + 0)) (a ++ nl ++ b).size) = _
 rw [show a.size + (1 + 0) = (a ++ nl).size + 0 from by rw [ByteArray.size_append,nl_size],tail_past,full]
theorem toks_nl {b : ByteArray} (hb : 0 < b.size) (hs : isSp (bt b 0) = false) : ∀ a : ByteArray,∃ A W0 W,toks a = A ++ W0 ∧ toks (a ++ nl ++ b) = A ++ (W ++ toks b) ∧ (∀ t ∈ W0,t.1 = 101) ∧ (∀ t ∈ W,t.1 = 101) := by
 refine induct_size fun a ih => ?_
 have hsz : (a ++ nl ++ b).size = a.size + 1 + b.size := by rw [ByteArray.size_append,ByteArray.size_append,nl_size]
 by_cases ha : a.size = 0
 ·obtain ⟨x,hx⟩ := toks_ws (a := a) hb hs (fun i hi => by omega)
  exact ⟨[],[],[(101,x)],toks_nil ha,hx,fun t ht => absurd ht List.not_mem_nil,fun t ht => by rw [List.mem_singleton.1 ht]⟩
 ·have h0 : 0 < a.size := by omega
  have hin := tok_in h0
  have hrest : (a ++ nl ++ b).extract (tok a).1 (a ++ nl ++ b).size = a.extract (tok a).1 a.size ++ nl ++ b := by
   rw [ByteArray.append_assoc,tail_app hin.2,ByteArray.append_assoc]
  have hhead : (a ++ nl ++ b).extract 0 (tok a).1 = a.extract 0 (tok a).1 := by rw [ByteArray.append_assoc,head_app hin.2]
  have hbt : ∀ i,i < a.size → bt (a ++ nl ++ b) i = bt a i := fun i hi => by rw [ByteArray.append_assoc,bt_app_l hi]
  have hmid : bt (a ++ nl ++ b) a.size = 10 := by
   rw [bt_app_l (by rw [ByteArray.size_append,nl_size]; omega),show a.size = a.size + 0 from rfl,bt_app_r,bt_nl]
  have go : tok (a ++ nl ++ b) = tok a → ∃ A W0 W,toks a = A ++ W0 ∧ toks (a ++ nl ++ b) = A ++ (W ++ toks b) ∧ (∀ t ∈ W0,t.1 = 101) ∧ (∀ t ∈ W,t.1 = 101) := fun e => by
   obtain ⟨A,W0,W,e1,e2,e3,e4⟩ := ih (a.extract (tok a).1 a.size) (by rw [size_tail]; omega)
   refine ⟨((tok a).2,a.extract 0 (tok a).1) :: A,W0,W,?_,?_,e3,e4⟩
   ·rw [toks_cons h0,e1]; rfl
   ·rw [toks_cons (s := a ++ nl ++ b) (by omega),e,hhead,hrest,e2]; rfl
  by_cases c1 : isSp (bt a 0) = true
  ·have et := tok_sp c1
   obtain ⟨k1,k2,k3,k4⟩ := scan_spec isSp a 0
   have k2 := k2 (Nat.zero_le _)
   by_cases hf : scan isSp a 0 = a.size
   ·obtain ⟨x,hx⟩ := toks_ws (a := a) hb hs (fun i hi => k3 i (Nat.zero_le _) (by omega))
    refine ⟨[],[(101,a)],[(101,x)],?_,hx,fun t ht => by rw [List.mem_singleton.1 ht],fun t ht => by rw [List.mem_singleton.1 ht]⟩
    rw [toks_cons h0,et,hf,full,toks_nil (by rw [size_tail]; omega)]
    rfl
   ·refine go ?_
    rw [et,tok_sp (by rw [hbt 0 h0]; exact c1)]
    congr 1
    exact scan_unique (Nat.zero_le _) (by omega) (fun k x y => by rw [hbt k (by omega)]; exact k3 k x y) (fun _ => by rw [hbt _ (by omega)]; exact k4 (by omega))
  ·refine go (tok_local h0 (tok_ns c1) fun i hi => ?_)
   by_cases hi2 : i < a.size
   ·rw [bz_in (by omega),bz_in hi2,hbt i hi2]
   ·rw [show i = a.size from by omega,bz_in (by omega),hmid,bz_out (Nat.le_refl _)]
end Go.Proofs.YtiogccmfmjhipaaGreatDoor.Lexi
namespace Go.Proofs.YtiogccmfmjhipaaGreatDoor.Par
open Ast
open Lexi (toks bt nl)
theorem cvtL_triv {src : ByteArray} : ∀ (l : List Tok) (h : Hd) (ns : List An) (off : Int) (ds : List Dg),nsig l = 0 → cvtL src (l.map .tok) h ns off ds = (h,ns,off + (tt l).length,ds)
 | [],h,ns,off,ds,_ => by rw [List.map_nil,cvtL]; simp [tt]
 | t :: l,h,ns,off,ds,hn => by
  rw [nsig] at hn
  split at hn
  ·rename_i ht
   have hk := triv_kd ht
   rw [List.map_cons,cvtL,if_pos (show 100 ≤ kd (Tr.tok t) from by show 100 ≤ t.1; omega)]
   have e : tokS h off ds (kd (Tr.tok t)) (tx (Tr.tok t)) = (h,off + t.2.size,ds) := by
    unfold tokS
    simp only
    rw [if_pos (show kd (Tr.tok t) = 101 ∨ kd (Tr.tok t) = 102 from hk)]
    rfl
   rw [e]
   simp only
   rw [cvtL_triv l h ns _ ds hn]
   have e2 : (tt (t :: l)).length = t.2.size + (tt l).length := by
    simp only [tt,List.flatMap_cons,List.length_append]
    rw [Lexi.list_len]
   rw [e2]
   congr 3
   omega
  ·omega
theorem Item.cells8 {src : ByteArray} {ks : List Tr} {off : Int} (h0 : 0 ≤ off) (hw : wfL ks) (l : List Tok) (hl : nsig l = 0) : bare (cvt src (.mk 8 nob (l.map .tok ++ ks)) off []).1 = .mk (nrm (cvtL src ks (hd0 8 off) [] (off + (tt l).length) []).1) (bareL (cvtL src ks (hd0 8 off) [] (off + (tt l).length) []).2.1) := by
 have e1 : cvtL src (l.map .tok ++ ks) (hd0 8 off) [] off [] = cvtL src ks (hd0 8 off) [] (off + (tt l).length) [] := by
  rw [cvtL_app,cvtL_triv l _ _ _ _ hl]
 obtain ⟨_,_,_,hk⟩ := cvtL_inv src ks (hd0 8 off) [] (off + (tt l).length) [] off h0 ⟨Int.le_refl _,by show off ≤ _; omega,by show (-1 : Int) ≤ _; omega,.inl (show (-1 : Int) < 0 by decide)⟩ hw
 rw [cvt,e1]
 have hk2 : (endH (cvtL src ks (hd0 8 off) [] (off + (tt l).length) []).1).kind = 8 := hk
 unfold finish fin
 simp only [hk2]
 rw [if_neg (by decide),if_neg (by decide)]
 rw [bare]
 rfl
theorem resync {a b : ByteArray} {x y z : Tr} (hx : Parsed a x) (hy : Parsed b y) (hz : Parsed (a ++ nl ++ b) z) (hb : sig1 (toks b) = constT) (hb0 : 0 < b.size) (hbs : Lexi.isSp (bt b 0) = false) (hp : NoPub (toks a)) :
  bareL (cvt (a ++ nl ++ b) z 0 []).1.kids = bareL (cvt a x 0 []).1.kids ++ bareL (cvt b y 0 []).1.kids := by
 obtain ⟨A,W0,W,e1,e2,hW0,hW⟩ := Lexi.toks_nl hb0 hbs a
 have hsz : (a ++ nl ++ b).size = a.size + 1 + b.size := by rw [ByteArray.size_append,ByteArray.size_append,Lexi.nl_size]
 have w0 : nsig W0 = 0 := nsig0 fun t ht => by rw [hW0 t ht]; rfl
 have w1 : nsig W = 0 := nsig0 fun t ht => by rw [hW t ht]; rfl
 have lx := hx.small.len
 have ly := hy.small.len
 have lz := hz.small.len
 have wx := hx.small.wf
 have wy := hy.small.wf
 have wz := hz.small.wf
 obtain ⟨X,rfl,fX⟩ := hx.fileK
 obtain ⟨Y,rfl,fY⟩ := hy.fileK
 obtain ⟨Z,rfl,fZ⟩ := hz.fileK
 have wfo : ∀ {l : List Tr},(Tr.mk 1 nob l).wf → wfL l := fun h => by
  rw [Tr.wf] at h
  rcases h with ⟨h,_⟩ | ⟨_,_,_,h⟩
  ·omega
  ·exact h
 have txo : ∀ l : List Tr,(Tr.mk 1 nob l).txt.length = (txtL l).length := fun l => by rw [Tr.txt]; show ([] ++ txtL l).length = _; rw [List.nil_append]
 rw [txo] at lx ly lz
 have wX := wfo wx
 have wY := wfo wy
 have wZ := wfo wz
 rw [file_kids _ _ wX,file_kids _ _ wY,file_kids _ _ wZ]
 have hV := toks_V a
 have hpA : NoPub A := fun u v e hn => by
  have := hp u (v ++ W0) (by rw [e1,e,List.append_assoc]) (by rw [nsig_w w0]; exact hn)
  rwa [sig1_w w0] at this
 obtain ⟨I,q2,rfl,hq2,hI,⟨u,rfl,hu⟩,wI,hF⟩ := fX.app hV e1 w0 hpA
 cases fY with
 | done h => rw [hb] at h; cases h
 | @item _ v t1 R h k =>
  have hL : nsig (q2 ++ W) = 0 := by rw [nsig_app,hq2,w1]
  obtain ⟨hlead,ks1,rfl⟩ := h.lead hb hL
  have hK : FileK (q2 ++ (W ++ toks b)) (lead (q2 ++ W) (.mk 8 nob ks1) :: R) := by
   rw [← List.append_assoc]
   exact .item hlead k
  have hz2 := hF (W ++ toks b) _ (by rw [sig1_app0 w1]; exact hb) hK
  rw [← e2] at hz2
  obtain rfl := fZ.unique hz2
  rw [wfL] at wY
  have w8 : wfL ks1 := by
   have := wY.1
   rw [Tr.wf] at this
   rcases this with ⟨h,_⟩ | ⟨_,_,_,h⟩
   ·omega
   ·exact h
  -- lengths
  have hIlen : (txtL I).length ≤ a.size := by rw [txtL_app,List.length_append] at lx; omega
  obtain ⟨LL,hLL⟩ : ∃ LL,(tt (q2 ++ W)).length = LL := ⟨_,rfl⟩
  have t8 : (Tr.mk 8 nob ks1).txt.length = (txtL ks1).length := by rw [Tr.txt]; show ([] ++ txtL ks1).length = _; rw [List.nil_append]
  have tl8 : (lead (q2 ++ W) (.mk 8 nob ks1)).txt.length = LL + (txtL ks1).length := by
   rw [lead,Tr.txt]
   show ([] ++ txtL _).length = _
   rw [List.nil_append,txtL_app,List.length_append,txt_toks,hLL]
  rw [txtL_app,List.length_append,txtL,List.length_append,tl8] at lz
  rw [txtL,List.length_append,t8] at ly
  have hd : (txtL I).length + LL = a.size + 1 := by omega
  -- the first items
  have hVq : V (q2 ++ W0) := by
   have := hV
   rw [e1,List.append_assoc] at this
   exact (V_app this).2
  rw [kidsAt_app (src := a) I _ 0 (Int.le_refl _) wI,kidsAt_toks _ _ hVq,List.append_nil,kidsAt_app (src := a ++ nl ++ b) I _ 0 (Int.le_refl _) wI]
  have hW1 : Win a (a ++ nl ++ b) 0 0 (txtL I).length := ⟨hIlen,by omega,fun i _ hi => by
   rw [Nat.add_zero,ByteArray.append_assoc,Lexi.bt_app_l (by omega)]⟩
  have k1 := kidsAt_sh I 0 (Int.le_refl _) wI (by simpa using hW1)
  rw [show (0 : Int) + ((0 : Nat) : Int) = 0 from rfl] at k1
  rw [k1]
  congr 1
  -- the const item and the later ones
  have hk8 : ¬ 100 ≤ kd (lead (q2 ++ W) (.mk 8 nob ks1)) := by show ¬ (100 : Int) ≤ 8; decide
  have hk8' : ¬ 100 ≤ kd (Tr.mk 8 nob ks1) := by show ¬ (100 : Int) ≤ 8; decide
  rw [kidsAt,if_neg hk8,kidsAt,if_neg hk8']
  have hW2 : Win b (a ++ nl ++ b) (a.size + 1) 0 b.size := ⟨Nat.le_refl _,by omega,fun i _ hi => by
   rw [show i + (a.size + 1) = (a ++ nl).size + i from by rw [ByteArray.size_append,Lexi.nl_size]; omega,Lexi.bt_app_r]⟩
  obtain ⟨I2,hI2⟩ : ∃ q : Nat,(txtL I).length = q := ⟨_,rfl⟩
  rw [hI2] at hd lz ⊢
  have o0 : (0 : Int) + (I2 : Int) = I2 := by omega
  rw [o0]
  have hc := cvtL_sh (src := b) (src' := a ++ nl ++ b) (d := a.size + 1) ks1 (hd0 8 0) (hd0 8 (I2 : Int)) [] [] 0 [] [] (Int.le_refl _) w8 rfl rfl (by
   refine hW2.sub (Nat.zero_le _) ?_
   show (0 : Int).toNat + _ ≤ _
   simp only [Int.toNat_zero]
   omega)
  have f1 := Item.cells8 (src := a ++ nl ++ b) (ks := ks1) (off := (I2 : Int)) (by omega) w8 (q2 ++ W) hL
  have f2 := Item.cells8 (src := b) (ks := ks1) (off := 0) (Int.le_refl _) w8 [] rfl
  rw [hLL] at f1
  have e8 : (I2 : Int) + (LL : Int) = 0 + ((a.size + 1 : Nat) : Int) := by omega
  rw [e8] at f1
  simp only [List.map_nil,List.nil_append,tt,List.flatMap_nil,List.length_nil] at f2
  rw [show (0 : Int) + ((0 : Nat) : Int) = 0 from rfl] at f2
  have g1 : bare (cvt (a ++ nl ++ b) (lead (q2 ++ W) (.mk 8 nob ks1)) (I2 : Int) []).1 = bare (cvt b (.mk 8 nob ks1) 0 []).1 := by
   rw [lead,f1,f2,hc.1,hc.2.1]
  rw [g1]
  congr 1
  -- the later ones
  have wl8 : (lead (q2 ++ W) (.mk 8 nob ks1)).wf := by
   have := (wfL_app.1 wZ).2
   exact this.1
  obtain ⟨_,_,_,d4,_⟩ := cvt_inv (a ++ nl ++ b) (lead (q2 ++ W) (.mk 8 nob ks1)) (I2 : Int) [] (by omega) wl8 (by show (8 : Int) < 100; decide)
  obtain ⟨_,_,_,d5,_⟩ := cvt_inv b (.mk 8 nob ks1) 0 [] (Int.le_refl _) wY.1 (by show (8 : Int) < 100; decide)
  rw [d4,d5,tl8,t8]
  have k2 := kidsAt_sh (src := b) (src' := a ++ nl ++ b) (d := a.size + 1) R (0 + ((txtL ks1).length : Int)) (by omega) wY.2 (hW2.sub (Nat.zero_le _) (by omega))
  rw [k2]
  congr 1
  omega
end Go.Proofs.YtiogccmfmjhipaaGreatDoor.Par
namespace Go.Proofs.YtiogccmfmjhipaaGreatDoor.Lexi
open Go.Lib
def lit (s : ByteArray) : Nat → Nat → Bool → Option Nat
 | 0,_,_ => none
 | f + 1,i,e => if bz s i = 10 then none else if bz s i = 34 ∧ e = false then some (i + 1) else lit s f (i + 1) (decide (bz s i = 92) && !e)
theorem lit_str (s : ByteArray) : ∀ (f i : Nat),s.size - i < f → lit s f i false = str s i
 | f + 1,i,hf => by
  unfold lit
  by_cases h1 : bz s i = 10
  ·rw [if_pos h1,str_nl h1]
  ·have hi := bz_lt h1
   rw [if_neg h1]
   by_cases h2 : bz s i = 34
   ·rw [if_pos ⟨h2,rfl⟩,str_q h2]
   ·rw [if_neg (fun h => h2 h.1),str_step h1 h2]
    by_cases h3 : bz s i = 92
    ·simp only [h3,decide_true,Bool.not_false,Bool.and_true]
     by_cases h4 : bz s (i + 1) = 10
     ·rw [if_neg (fun h => h.2 h4),str_nl h4]
      cases f with
      | zero => rfl
      | succ f => unfold lit; rw [if_pos h4]
     ·have hi2 := bz_lt h4
      rw [if_pos ⟨trivial,h4⟩]
      obtain ⟨f,rfl⟩ : ∃ g,f = g + 1 := ⟨f - 1,by omega⟩
      unfold lit
      rw [if_neg h4,if_neg (fun h => by cases h.2)]
      simp only [Bool.not_true,Bool.and_false]
      exact lit_str s f (i + 2) (by omega)
    ·rw [if_neg (fun h => h3 h.1)]
     simp only [h3,decide_false,Bool.false_and]
     exact lit_str s f (i + 1) (by omega)
def oneList : List ByteArray := oneText.data.toList.map fun b => ⟨#[b]⟩
def puncts : List ByteArray := [⟨#[58,58]⟩,⟨#[61,62]⟩,⟨#[45,62]⟩,⟨#[61,61]⟩,⟨#[38,38]⟩,⟨#[124,124]⟩,⟨#[40]⟩,⟨#[41]⟩,⟨#[123]⟩,⟨#[125]⟩,⟨#[91]⟩,⟨#[93]⟩,⟨#[60]⟩,⟨#[62]⟩,⟨#[44]⟩,⟨#[59]⟩,⟨#[58]⟩,⟨#[46]⟩,⟨#[61]⟩,⟨#[43]⟩,⟨#[45]⟩,⟨#[42]⟩,⟨#[47]⟩,⟨#[33]⟩,⟨#[38]⟩,⟨#[124]⟩]
theorem puncts_eq : puncts = twoList ++ oneList := by decide +kernel
def pm (s p : ByteArray) : Bool := decide (p.size ≤ s.size) && decide (s.extract 0 p.size = p)
theorem two_size {p : ByteArray} (h : p ∈ twoList) : p.size = 2 := by
 have h2 : (twoList.all fun x => decide (x.size = 2)) = true := by decide +kernel
 exact of_decide_eq_true (List.all_eq_true.1 h2 _ h)
theorem one_size {p : ByteArray} (h : p ∈ oneList) : p.size = 1 := by
 obtain ⟨b,_,rfl⟩ := List.mem_map.1 h
 rfl
theorem two_iff {s : ByteArray} (hs : 1 ≤ s.size) : (bz s 1 ≠ 10 ∧ isTwo (s.extract 0 2) = true) ↔ ∃ p ∈ twoList,pm s p = true := by
 constructor
 ·rintro ⟨_,h⟩
  have hm := (containsS_iff _ _).1 h
  have hz := two_size hm
  refine ⟨_,hm,?_⟩
  rw [ByteArray.size_extract] at hz
  have hs2 : 2 ≤ s.size := by omega
  have e : (s.extract 0 2).size = 2 := by rw [ByteArray.size_extract]; omega
  simp only [pm,e,hs2,decide_true,Bool.true_and]
 ·rintro ⟨p,hm,hp⟩
  have hz := two_size hm
  simp only [pm,hz,Bool.and_eq_true,decide_eq_true_eq] at hp
  have ht : isTwo (s.extract 0 2) = true := (containsS_iff _ _).2 (by rw [hp.2]; exact hm)
  exact ⟨two_nl ht (by omega),ht⟩
theorem one_iff {s : ByteArray} (hs : 1 ≤ s.size) : isOne (bt s 0) = true ↔ ∃ p ∈ oneList,pm s p = true := by
 have key : ∀ (l : List UInt8) (c : UInt8),0 ≤ Lib.indexByte l c ↔ c ∈ l := by
  intro l
  induction l with
  | nil => intro c; simp [Lib.indexByte]
  | cons x l ih =>
   intro c
   have := ih c
   unfold Lib.indexByte
   by_cases h : x = c
   ·simp [h]
   ·simp only [List.mem_cons,Ne.symm h,false_or,← this]
    have h2 : (x == c) = false := by simpa using h
    simp only [h2]
    simp
    split <;> omega
 obtain ⟨b,l,hbl⟩ : ∃ b l,s.data.toList = b :: l := by
  cases h : s.data.toList with
  | nil => have := list_len s; rw [h] at this; simp at this; omega
  | cons b l => exact ⟨b,l,rfl⟩
 have hb : bt s 0 = (b.toNat : Int) := by unfold bt; rw [hbl]; rfl
 have he : s.extract 0 1 = ⟨#[b]⟩ := by
  apply by_list
  rw [list_front,hbl]
  rfl
 unfold isOne
 rw [decide_eq_true_iff,hb,key]
 have hu : ((b.toNat : Int).toNat.toUInt8) = b := by
  rw [Int.toNat_natCast]
  exact UInt8.ofNat_toNat
 rw [hu]
 constructor
 ·intro h
  refine ⟨⟨#[b]⟩,List.mem_map.2 ⟨b,h,rfl⟩,?_⟩
  simp only [pm,Bool.and_eq_true,decide_eq_true_eq]
  exact ⟨hs,he⟩
 ·rintro ⟨p,hm,hp⟩
  obtain ⟨c,hc,rfl⟩ := List.mem_map.1 hm
  simp only [pm,Bool.and_eq_true,decide_eq_true_eq] at hp
  have e : (⟨#[b]⟩ : ByteArray) = ⟨#[c]⟩ := by rw [← he]; exact hp.2
  injection e with e
  injection e with e
  injection e with e
  rw [e]
  exact hc
theorem punct_tok {s : ByteArray} (hs : 1 ≤ s.size) : (if bz s 1 ≠ 10 ∧ isTwo (s.extract 0 2) = true then ((2 : Nat),(107 : Int)) else if isOne (bt s 0) = true then (1,107) else (1,108)) = (match puncts.find? (pm s) with | some p => (p.size,107) | none => (1,108)) := by
 rw [puncts_eq,List.find?_append]
 by_cases h2 : bz s 1 ≠ 10 ∧ isTwo (s.extract 0 2) = true
 ·rw [if_pos h2]
  obtain ⟨p,hm,hp⟩ := (two_iff hs).1 h2
  cases hf : twoList.find? (pm s) with
  | none => exact absurd hp (by simpa using List.find?_eq_none.1 hf p hm)
  | some q =>
   have := two_size (List.mem_of_find?_eq_some hf)
   simp [this]
 ·rw [if_neg h2]
  have hn : twoList.find? (pm s) = none := List.find?_eq_none.2 fun p hm hp => h2 ((two_iff hs).2 ⟨p,hm,hp⟩)
  rw [hn]
  simp only [Option.none_or]
  by_cases h1 : isOne (bt s 0) = true
  ·rw [if_pos h1]
   obtain ⟨p,hm,hp⟩ := (one_iff hs).1 h1
   cases hf : oneList.find? (pm s) with
   | none => exact absurd hp (by simpa using List.find?_eq_none.1 hf p hm)
   | some q =>
    have := one_size (List.mem_of_find?_eq_some hf)
    simp [this]
  ·rw [if_neg h1]
   have hn : oneList.find? (pm s) = none := List.find?_eq_none.2 fun p hm hp => h1 ((one_iff hs).2 ⟨p,hm,hp⟩)
   rw [hn]
def kws : List ByteArray := [⟨#[117,115,101]⟩,⟨#[112,117,98]⟩,⟨#[97,115]⟩,⟨#[102,110]⟩,⟨#[115,116,114,117,99,116]⟩,⟨#[101,110,117,109]⟩,⟨#[116,114,97,105,116]⟩,⟨#[105,109,112,108]⟩,⟨#[102,111,114]⟩,⟨#[99,111,110,115,116]⟩,⟨#[109,97,99,114,111]⟩,⟨#[108,101,116]⟩,⟨#[109,117,116]⟩,⟨#[119,104,105,108,101]⟩,⟨#[114,101,116,117,114,110]⟩,⟨#[109,97,116,99,104]⟩,⟨#[105,102]⟩,⟨#[101,108,115,101]⟩,⟨#[110,101,119]⟩,⟨#[116,114,117,101]⟩,⟨#[102,97,108,115,101]⟩,⟨#[116,121,112,101]⟩]
theorem kws_eq : kws = kwList := by decide +kernel
theorem tok_ref {s : ByteArray} (h : 0 < s.size) : tok s =
  if 0 < scan isSp s 0 then ((scan isSp s 0 : Nat),(101 : Int)) else if bz s 0 = 47 ∧ bz s 1 = 47 then (scan noNl s 0,102) else if 0 < scan isDg s 0 then (scan isDg s 0,105)
  else if 0 < scan isId s 0 then (scan isId s 0,if isKw (s.extract 0 (scan isId s 0)) then 104 else 103)
  else if bt s 0 = 34 then (match str s 1 with | some j => (j,106) | none => (scan noNl s 0,108))
  else match puncts.find? (pm s) with | some p => (p.size,107) | none => (1,108) := by
 have key : ∀ p : Int → Bool,(0 < scan p s 0) ↔ p (bt s 0) = true := fun p => by
  constructor
  ·intro hp
   obtain ⟨_,_,k3,_⟩ := scan_spec p s 0
   exact k3 0 (Nat.le_refl _) hp
  ·exact scan_pos h
 rw [← punct_tok h]
 unfold tok
 simp only [key]
 by_cases h1 : isSp (bt s 0) = true
 ·rw [if_pos h1,if_pos h1]
 rw [if_neg h1,if_neg h1]
 by_cases h2 : bz s 0 = 47 ∧ bz s 1 = 47
 ·rw [if_pos h2,if_pos h2]
 rw [if_neg h2,if_neg h2]
 by_cases h3 : isLt (bt s 0) = true
 ·have h4 : ¬ isDg (bt s 0) = true := by
   intro h4
   simp [isLt,isDg] at h3 h4
   omega
  have h6 : isId (bt s 0) = true := by simp [isId,h3]
  rw [if_pos h3,if_neg h4,if_pos h6]
 rw [if_neg h3]
 by_cases h4 : isDg (bt s 0) = true
 ·rw [if_pos h4,if_pos h4]
 have h6 : ¬ isId (bt s 0) = true := by simp [isId,h3,h4]
 rw [if_neg h4,if_neg h4,if_neg h6]
 by_cases h5 : bt s 0 = 34
 ·rw [if_pos h5,if_pos h5,scan_next (p := noNl) (i := 0) h (by rw [h5]; rfl)]
  cases str s 1 <;> rfl
 ·rw [if_neg h5,if_neg h5]
theorem cm_iff {s : ByteArray} : (bz s 0 = 47 ∧ bz s 1 = 47) ↔ (1 < s.size ∧ s.extract 0 2 = ⟨#[47,47]⟩) := by
 have hl := list_len s
 constructor
 ·rintro ⟨h0,h1⟩
  have i1 : 1 < s.size := bz_lt (by rw [h1]; decide)
  rw [bz_in (by omega)] at h0
  rw [bz_in i1] at h1
  refine ⟨i1,?_⟩
  apply by_list
  rw [list_front]
  unfold bt at h0 h1
  match hd : s.data.toList with
  | [] => rw [hd] at hl; simp at hl; omega
  | [x] => rw [hd] at hl; simp at hl; omega
  | x :: y :: r =>
   rw [hd] at h0 h1
   have e0 : x = 47 := UInt8.toNat_inj.1 (by have : (x.toNat : Int) = 47 := h0; show x.toNat = 47; omega)
   have e1 : y = 47 := UInt8.toNat_inj.1 (by have : (y.toNat : Int) = 47 := h1; show y.toNat = 47; omega)
   rw [e0,e1]
   rfl
 ·rintro ⟨i1,he⟩
  rw [bz_in (by omega),bz_in i1]
  have h2 : (s.extract 0 2).data.toList = [47,47] := by rw [he]
  rw [list_front] at h2
  unfold bt
  match hd : s.data.toList with
  | [] => rw [hd] at hl; simp at hl; omega
  | [x] => rw [hd] at hl; simp at hl; omega
  | x :: y :: r =>
   rw [hd] at h2
   injection h2 with e0 h2
   injection h2 with e1 h2
   rw [e0,e1]
   exact ⟨rfl,rfl⟩
end Go.Proofs.YtiogccmfmjhipaaGreatDoor.Lexi
namespace Go.Proofs.YtiogccmfmjhipaaGreatDoor.Lexi
set_option maxRecDepth 20000
open Go.Gx Go.RowKit Go.Lib
open Par (lv_agg)
theorem isWord_ok {w : World} {c : Int} : Cl Tryz.prog 192 #[.int .u8 c] w (fun u w' => u = .bool (isId c) ∧ w = w') := by
 have hc : (97 ≤ c ∧ c ≤ 122) ∨ 122 < c ∨ (65 ≤ c ∧ c ≤ 90) ∨ (90 < c ∧ c < 97 ∧ c = 95) ∨ (90 < c ∧ c < 97 ∧ c ≠ 95) ∨ (57 < c ∧ c < 65) ∨ (48 ≤ c ∧ c ≤ 57) ∨ c < 48 := by omega
 rcases hc with h | h | h | h | h | h | h | h
 all_goals
  refine Cl.enter Tryz.func192 rfl Tryz.ntmps192 rfl rfl (.sr (.a2 rfl (.done (.sr (.m2 rfl ?_)))))
  first | refine .tq (t_geqT rfl rfl (by omega)) rfl ?_ | refine .tq (t_geqF rfl rfl (by omega)) rfl ?_ | refine .tq (t_geq rfl rfl) rfl ?_
  refine .m2 rfl ?_
  first | refine .gd (t_move rfl) rfl ?_ | refine .so rfl rfl ?_
  first | refine .gd (t_leqT rfl rfl (by omega)) rfl ?_ | refine .gd (t_leqF rfl rfl (by omega)) rfl ?_ | refine .gd (t_leq rfl rfl) rfl ?_ | refine .so rfl rfl ?_
  first | refine .tq (t_pickT rfl rfl) rfl ?_ | refine .tq (t_pickF rfl rfl) rfl ?_
  refine .m2 rfl ?_
  first | refine .gd (t_move rfl) rfl ?_ | refine .so rfl rfl ?_
  first | refine .gd (t_geqT rfl rfl (by omega)) rfl ?_ | refine .gd (t_geqF rfl rfl (by omega)) rfl ?_ | refine .gd (t_geq rfl rfl) rfl ?_ | refine .so rfl rfl ?_
  first | refine .gd (t_move rfl) rfl ?_ | refine .so rfl rfl ?_
  first | refine .gd (t_move rfl) rfl ?_ | refine .so rfl rfl ?_
  first | refine .gd (t_leqT rfl rfl (by omega)) rfl ?_ | refine .gd (t_leqF rfl rfl (by omega)) rfl ?_ | refine .gd (t_leq rfl rfl) rfl ?_ | refine .so rfl rfl ?_
  first | refine .gd (t_pickT rfl rfl) rfl ?_ | refine .gd (t_pickF rfl rfl) rfl ?_ | refine .so rfl rfl ?_
  first | refine .tq (t_pickT rfl rfl) rfl ?_ | refine .tq (t_pickF rfl rfl) rfl ?_
  refine .m2 rfl ?_
  first | refine .gd (t_move rfl) rfl ?_ | refine .so rfl rfl ?_
  first | refine .gd (t_eqlT rfl rfl (by omega)) rfl ?_ | refine .gd (t_eqlF rfl rfl (by omega)) rfl ?_ | refine .gd (t_eql rfl rfl) rfl ?_ | refine .so rfl rfl ?_
  first | refine .tq (t_pickT rfl rfl) rfl ?_ | refine .tq (t_pickF rfl rfl) rfl ?_
  refine .m2 rfl ?_
  first | refine .gd (t_move rfl) rfl ?_ | refine .so rfl rfl ?_
  first | refine .gd (t_geqT rfl rfl (by omega)) rfl ?_ | refine .gd (t_geqF rfl rfl (by omega)) rfl ?_ | refine .gd (t_geq rfl rfl) rfl ?_ | refine .so rfl rfl ?_
  first | refine .gd (t_move rfl) rfl ?_ | refine .so rfl rfl ?_
  first | refine .gd (t_move rfl) rfl ?_ | refine .so rfl rfl ?_
  first | refine .gd (t_leqT rfl rfl (by omega)) rfl ?_ | refine .gd (t_leqF rfl rfl (by omega)) rfl ?_ | refine .gd (t_leq rfl rfl) rfl ?_ | refine .so rfl rfl ?_
  first | refine .gd (t_pickT rfl rfl) rfl ?_ | refine .gd (t_pickF rfl rfl) rfl ?_ | refine .so rfl rfl ?_
  first | refine .tq (t_pickT rfl rfl) rfl ?_ | refine .tq (t_pickF rfl rfl) rfl ?_
  refine .a2 rfl (.done (Wp.ret ?_))
  exact ⟨[_],⟨rfl,trivial⟩,congrArg Value.bool (by simp [isId,isLt,isDg]; omega),rfl⟩
theorem run0_ok {w : World} {s : ByteArray} (hs : s.size ≤ 2000) : Cl Tryz.prog 121 #[.string s,.int .i64 0] w (fun u w' => u = .int .i64 (scan isSp s 0) ∧ w = w') := by
 refine Cl.enter Tryz.func121 rfl Tryz.ntmps121 rfl rfl (.sr (.a2 rfl (.done (.seq (.sr (.a2 rfl (.done (Wp.block ?_))))))))
 refine Wp.loop (ι := Nat) (fun i => [(0,.string s),(1,.int .i64 0),(5,.int .i64 i)])
  (fun i w' => i ≤ s.size ∧ (∀ k,0 ≤ k → k < i → isSp (bt s k) = true) ∧ w = w') (fun i => s.size - i) 0 (by repeat (first | exact .nil | refine .cons rfl ?_)) ⟨Nat.zero_le _,fun k _ h => absurd h (Nat.not_lt_zero _),rfl⟩ ?_
 rintro i _ ⟨hi,hall,rfl⟩
 by_cases hlt : i < s.size
 ·obtain ⟨c,hc⟩ : ∃ c,bt s i = c := ⟨_,rfl⟩
  cases hp : isSp c with
  | true =>
   have hd : c = 32 ∨ c = 9 ∨ c = 10 ∨ c = 13 := by simp [isSp] at hp; omega
   rcases hd with h | h | h | h
   all_goals
    refine .seq (.sr (.m2 rfl (.m2 rfl (.t2 (t_len Tryz.underlying9 rfl) ?_))))
    refine .t2 (t_lssT rfl rfl (by omega)) ?_
    refine .done (.condT rfl (Wp.skip (.seq (Wp.block (.sr (.m2 rfl (.m2 rfl ?_)))))))
    refine .t2 (t_index Tryz.underlying9 rfl rfl (by omega)) ?_
    rw [show ((s.data.toList.getD ((i : Nat) : Int).toNat 0).toNat : Int) = c from hc]
    refine .a2 rfl (.done (.sr (.m2 rfl ?_)))
    first | refine .tq (t_neqT rfl rfl (by omega)) rfl ?_ | refine .tq (t_neqF rfl rfl (by omega)) rfl ?_ | refine .tq (t_neq rfl rfl) rfl ?_
    refine .a2 rfl (.done (.seq (.sr (.m2 rfl (.done (Wp.block (.sr ?_)))))))
    refine .t2 (t_eqlT rfl rfl (by omega)) ?_
    refine .a2 rfl (.done (.condT rfl (Wp.region (.m2 rfl ?_))))
    first | refine .tq (t_eqlT rfl rfl (by omega)) rfl ?_ | refine .tq (t_eqlF rfl rfl (by omega)) rfl ?_ | refine .tq (t_eql rfl rfl) rfl ?_
    refine .m2 rfl ?_
    first | refine .gd (t_move rfl) rfl ?_ | refine .so rfl rfl ?_
    first | refine .gd (t_eqlT rfl rfl (by omega)) rfl ?_ | refine .gd (t_eqlF rfl rfl (by omega)) rfl ?_ | refine .gd (t_eql rfl rfl) rfl ?_ | refine .so rfl rfl ?_
    first | refine .tq (t_pickT rfl rfl) rfl ?_ | refine .tq (t_pickF rfl rfl) rfl ?_
    refine .m2 rfl ?_
    first | refine .gd (t_move rfl) rfl ?_ | refine .so rfl rfl ?_
    first | refine .gd (t_eqlT rfl rfl (by omega)) rfl ?_ | refine .gd (t_eqlF rfl rfl (by omega)) rfl ?_ | refine .gd (t_eql rfl rfl) rfl ?_ | refine .so rfl rfl ?_
    first | refine .tq (t_pickT rfl rfl) rfl ?_ | refine .tq (t_pickF rfl rfl) rfl ?_
    refine .m2 rfl ?_
    first | refine .gd (t_move rfl) rfl ?_ | refine .so rfl rfl ?_
    first | refine .gd (t_eqlT rfl rfl (by omega)) rfl ?_ | refine .gd (t_eqlF rfl rfl (by omega)) rfl ?_ | refine .gd (t_eql rfl rfl) rfl ?_ | refine .so rfl rfl ?_
    first | refine .tq (t_pickT rfl rfl) rfl ?_ | refine .tq (t_pickF rfl rfl) rfl ?_
    refine .a2 rfl (.done (.sr (.m2 rfl (.t2 (t_notB rfl) (.done (.condF rfl (Wp.skip (Wp.region (.m2 rfl ?_)))))))))
    refine .t2 (t_addI rfl rfl (by omega)) ?_
    refine .a2 rfl (.done ?_)
    exact ⟨i + 1,by repeat (first | exact .nil | refine .cons rfl ?_),⟨hlt,fun k _ hk => by rcases Nat.lt_succ_iff_lt_or_eq.1 hk with hk | rfl; exact hall k (Nat.zero_le _) hk; rw [hc]; exact hp,rfl⟩,by omega⟩
  | false =>
   have hd : (c ≠ 32 ∧ c ≠ 9 ∧ c ≠ 10 ∧ c ≠ 13) ∨ False := by simp [isSp] at hp; omega
   rcases hd with h | h
   all_goals try exact h.elim
   all_goals
    refine .seq (.sr (.m2 rfl (.m2 rfl (.t2 (t_len Tryz.underlying9 rfl) ?_))))
    refine .t2 (t_lssT rfl rfl (by omega)) ?_
    refine .done (.condT rfl (Wp.skip (.seq (Wp.block (.sr (.m2 rfl (.m2 rfl ?_)))))))
    refine .t2 (t_index Tryz.underlying9 rfl rfl (by omega)) ?_
    rw [show ((s.data.toList.getD ((i : Nat) : Int).toNat 0).toNat : Int) = c from hc]
    refine .a2 rfl (.done (.sr (.m2 rfl ?_)))
    refine .t2 (t_neqT rfl rfl (by omega)) ?_
    refine .a2 rfl (.done (.seq (.sr (.m2 rfl (.done (Wp.block (.sr ?_)))))))
    refine .t2 (t_eqlT rfl rfl (by omega)) ?_
    refine .a2 rfl (.done (.condT rfl (Wp.region (.m2 rfl ?_))))
    refine .t2 (t_eqlF rfl rfl (by omega)) ?_
    refine .m2 rfl (.g2 (t_move rfl) ?_)
    refine .g2 (t_eqlF rfl rfl (by omega)) ?_
    refine .t2 (t_pickF rfl rfl) (.m2 rfl (.g2 (t_move rfl) ?_))
    refine .g2 (t_eqlF rfl rfl (by omega)) ?_
    refine .t2 (t_pickF rfl rfl) (.m2 rfl (.g2 (t_move rfl) ?_))
    refine .g2 (t_eqlF rfl rfl (by omega)) ?_
    refine .t2 (t_pickF rfl rfl) (.a2 rfl (.done (.sr (.m2 rfl (.t2 (t_notB rfl) (.done (.condT rfl (.sr (.m2 rfl (.a2 rfl (.done (Wp.ret ?_))))))))))))
    exact ⟨[_],⟨rfl,trivial⟩,by rw [scan_unique (p := isSp) (i := 0) (j := i) (Nat.zero_le _) hi hall fun _ => by rw [hc]; exact hp]; rfl,rfl⟩
 ·have hk : i = s.size := by omega
  subst hk
  refine .seq (.sr (.m2 rfl (.m2 rfl (.t2 (t_len Tryz.underlying9 rfl) ?_))))
  refine .t2 (t_lssF rfl rfl (by omega)) ?_
  refine .done (.condF rfl (Wp.exit (.sr (.m2 rfl (.t2 (t_len Tryz.underlying9 rfl) (.a2 rfl (.done (Wp.ret ?_))))))))
  exact ⟨[_],⟨rfl,trivial⟩,by rw [scan_unique (p := isSp) (i := 0) (j := s.size) (Nat.zero_le _) (Nat.le_refl _) hall fun h => absurd h (Nat.lt_irrefl _)]; rfl,rfl⟩
theorem run1_ok {w : World} {s : ByteArray} (hs : s.size ≤ 2000) : Cl Tryz.prog 121 #[.string s,.int .i64 1] w (fun u w' => u = .int .i64 (scan noNl s 0) ∧ w = w') := by
 refine Cl.enter Tryz.func121 rfl Tryz.ntmps121 rfl rfl (.sr (.a2 rfl (.done (.seq (.sr (.a2 rfl (.done (Wp.block ?_))))))))
 refine Wp.loop (ι := Nat) (fun i => [(0,.string s),(1,.int .i64 1),(5,.int .i64 i)])
  (fun i w' => i ≤ s.size ∧ (∀ k,0 ≤ k → k < i → noNl (bt s k) = true) ∧ w = w') (fun i => s.size - i) 0 (by repeat (first | exact .nil | refine .cons rfl ?_)) ⟨Nat.zero_le _,fun k _ h => absurd h (Nat.not_lt_zero _),rfl⟩ ?_
 rintro i _ ⟨hi,hall,rfl⟩
 by_cases hlt : i < s.size
 ·obtain ⟨c,hc⟩ : ∃ c,bt s i = c := ⟨_,rfl⟩
  cases hp : noNl c with
  | true =>
   have hd : c ≠ 10 ∨ False := by simp [noNl] at hp; omega
   rcases hd with h | h
   all_goals try exact h.elim
   all_goals
    refine .seq (.sr (.m2 rfl (.m2 rfl (.t2 (t_len Tryz.underlying9 rfl) ?_))))
    refine .t2 (t_lssT rfl rfl (by omega)) ?_
    refine .done (.condT rfl (Wp.skip (.seq (Wp.block (.sr (.m2 rfl (.m2 rfl ?_)))))))
    refine .t2 (t_index Tryz.underlying9 rfl rfl (by omega)) ?_
    rw [show ((s.data.toList.getD ((i : Nat) : Int).toNat 0).toNat : Int) = c from hc]
    refine .a2 rfl (.done (.sr (.m2 rfl ?_)))
    refine .t2 (t_neqT rfl rfl (by omega)) ?_
    refine .a2 rfl (.done (.seq (.sr (.m2 rfl (.done (Wp.block (.sr ?_)))))))
    refine .t2 (t_eqlF rfl rfl (by omega)) ?_
    refine .a2 rfl (.done (.condF rfl (.sr ?_)))
    refine .t2 (t_eqlF rfl rfl (by omega)) ?_
    refine .a2 rfl (.done (.condF rfl (.sr ?_)))
    refine .t2 (t_eqlF rfl rfl (by omega)) ?_
    refine .a2 rfl (.done (.condF rfl (Wp.skip (.sr (.m2 rfl (.t2 (t_notB rfl) (.done (.condF rfl (Wp.skip (Wp.region (.m2 rfl ?_)))))))))))
    refine .t2 (t_addI rfl rfl (by omega)) ?_
    refine .a2 rfl (.done ?_)
    exact ⟨i + 1,by repeat (first | exact .nil | refine .cons rfl ?_),⟨hlt,fun k _ hk => by rcases Nat.lt_succ_iff_lt_or_eq.1 hk with hk | rfl; exact hall k (Nat.zero_le _) hk; rw [hc]; exact hp,rfl⟩,by omega⟩
  | false =>
   have hd : c = 10 ∨ False := by simp [noNl] at hp; omega
   rcases hd with h | h
   all_goals try exact h.elim
   all_goals
    refine .seq (.sr (.m2 rfl (.m2 rfl (.t2 (t_len Tryz.underlying9 rfl) ?_))))
    refine .t2 (t_lssT rfl rfl (by omega)) ?_
    refine .done (.condT rfl (Wp.skip (.seq (Wp.block (.sr (.m2 rfl (.m2 rfl ?_)))))))
    refine .t2 (t_index Tryz.underlying9 rfl rfl (by omega)) ?_
    rw [show ((s.data.toList.getD ((i : Nat) : Int).toNat 0).toNat : Int) = c from hc]
    refine .a2 rfl (.done (.sr (.m2 rfl ?_)))
    refine .t2 (t_neqF rfl rfl (by omega)) ?_
    refine .a2 rfl (.done (.seq (.sr (.m2 rfl (.done (Wp.block (.sr ?_)))))))
    refine .t2 (t_eqlF rfl rfl (by omega)) ?_
    refine .a2 rfl (.done (.condF rfl (.sr ?_)))
    refine .t2 (t_eqlF rfl rfl (by omega)) ?_
    refine .a2 rfl (.done (.condF rfl (.sr ?_)))
    refine .t2 (t_eqlF rfl rfl (by omega)) ?_
    refine .a2 rfl (.done (.condF rfl (Wp.skip (.sr (.m2 rfl (.t2 (t_notB rfl) (.done (.condT rfl (.sr (.m2 rfl (.a2 rfl (.done ?_))))))))))))
    refine Wp.ret ?_
    exact ⟨[_],⟨rfl,trivial⟩,by rw [scan_unique (p := noNl) (i := 0) (j := i) (Nat.zero_le _) hi hall fun _ => by rw [hc]; exact hp]; rfl,rfl⟩
 ·have hk : i = s.size := by omega
  subst hk
  refine .seq (.sr (.m2 rfl (.m2 rfl (.t2 (t_len Tryz.underlying9 rfl) ?_))))
  refine .t2 (t_lssF rfl rfl (by omega)) ?_
  refine .done (.condF rfl (Wp.exit (.sr (.m2 rfl (.t2 (t_len Tryz.underlying9 rfl) (.a2 rfl (.done (Wp.ret ?_))))))))
  exact ⟨[_],⟨rfl,trivial⟩,by rw [scan_unique (p := noNl) (i := 0) (j := s.size) (Nat.zero_le _) (Nat.le_refl _) hall fun h => absurd h (Nat.lt_irrefl _)]; rfl,rfl⟩
theorem run2_ok {w : World} {s : ByteArray} (hs : s.size ≤ 2000) : Cl Tryz.prog 121 #[.string s,.int .i64 2] w (fun u w' => u = .int .i64 (scan isId s 0) ∧ w = w') := by
 refine Cl.enter Tryz.func121 rfl Tryz.ntmps121 rfl rfl (.sr (.a2 rfl (.done (.seq (.sr (.a2 rfl (.done (Wp.block ?_))))))))
 refine Wp.loop (ι := Nat) (fun i => [(0,.string s),(1,.int .i64 2),(5,.int .i64 i)])
  (fun i w' => i ≤ s.size ∧ (∀ k,0 ≤ k → k < i → isId (bt s k) = true) ∧ w = w') (fun i => s.size - i) 0 (by repeat (first | exact .nil | refine .cons rfl ?_)) ⟨Nat.zero_le _,fun k _ h => absurd h (Nat.not_lt_zero _),rfl⟩ ?_
 rintro i _ ⟨hi,hall,rfl⟩
 by_cases hlt : i < s.size
 ·obtain ⟨c,hc⟩ : ∃ c,bt s i = c := ⟨_,rfl⟩
  cases hp : isId c with
  | true =>
   have hd : True ∨ False := by exact .inl trivial
   rcases hd with h | h
   all_goals try exact h.elim
   all_goals
    refine .seq (.sr (.m2 rfl (.m2 rfl (.t2 (t_len Tryz.underlying9 rfl) ?_))))
    refine .t2 (t_lssT rfl rfl (by omega)) ?_
    refine .done (.condT rfl (Wp.skip (.seq (Wp.block (.sr (.m2 rfl (.m2 rfl ?_)))))))
    refine .t2 (t_index Tryz.underlying9 rfl rfl (by omega)) ?_
    rw [show ((s.data.toList.getD ((i : Nat) : Int).toNat 0).toNat : Int) = c from hc]
    refine .a2 rfl (.done (.sr (.m2 rfl (.t2 (t_neq rfl rfl) (.a2 rfl (.done (.seq (.sr (.m2 rfl (.done (Wp.block (.sr ?_))))))))))))
    refine .t2 (t_eqlF rfl rfl (by omega)) ?_
    refine .a2 rfl (.done (.condF rfl (.sr ?_)))
    refine .t2 (t_eqlT rfl rfl (by omega)) ?_
    refine .a2 rfl (.done (.condT rfl (Wp.region (.m2 rfl (Rg.wd trivial (w_call Tryz.call192 rfl isWord_ok) rfl ?_)))))
    rintro _ _ ⟨rfl,rfl⟩
    rw [hp]
    refine .a2 rfl (.done (.sr (.m2 rfl (.t2 (t_notB rfl) (.done (.condF rfl (Wp.skip (Wp.region (.m2 rfl ?_)))))))))
    refine .t2 (t_addI rfl rfl (by omega)) ?_
    refine .a2 rfl (.done ?_)
    exact ⟨i + 1,by repeat (first | exact .nil | refine .cons rfl ?_),⟨hlt,fun k _ hk => by rcases Nat.lt_succ_iff_lt_or_eq.1 hk with hk | rfl; exact hall k (Nat.zero_le _) hk; rw [hc]; exact hp,rfl⟩,by omega⟩
  | false =>
   have hd : True ∨ False := by exact .inl trivial
   rcases hd with h | h
   all_goals try exact h.elim
   all_goals
    refine .seq (.sr (.m2 rfl (.m2 rfl (.t2 (t_len Tryz.underlying9 rfl) ?_))))
    refine .t2 (t_lssT rfl rfl (by omega)) ?_
    refine .done (.condT rfl (Wp.skip (.seq (Wp.block (.sr (.m2 rfl (.m2 rfl ?_)))))))
    refine .t2 (t_index Tryz.underlying9 rfl rfl (by omega)) ?_
    rw [show ((s.data.toList.getD ((i : Nat) : Int).toNat 0).toNat : Int) = c from hc]
    refine .a2 rfl (.done (.sr (.m2 rfl (.t2 (t_neq rfl rfl) (.a2 rfl (.done (.seq (.sr (.m2 rfl (.done (Wp.block (.sr ?_))))))))))))
    refine .t2 (t_eqlF rfl rfl (by omega)) ?_
    refine .a2 rfl (.done (.condF rfl (.sr ?_)))
    refine .t2 (t_eqlT rfl rfl (by omega)) ?_
    refine .a2 rfl (.done (.condT rfl (Wp.region (.m2 rfl (Rg.wd trivial (w_call Tryz.call192 rfl isWord_ok) rfl ?_)))))
    rintro _ _ ⟨rfl,rfl⟩
    rw [hp]
    refine .a2 rfl (.done (.sr (.m2 rfl (.t2 (t_notB rfl) (.done (.condT rfl (.sr (.m2 rfl (.a2 rfl (.done (Wp.ret ?_)))))))))))
    exact ⟨[_],⟨rfl,trivial⟩,by rw [scan_unique (p := isId) (i := 0) (j := i) (Nat.zero_le _) hi hall fun _ => by rw [hc]; exact hp]; rfl,rfl⟩
 ·have hk : i = s.size := by omega
  subst hk
  refine .seq (.sr (.m2 rfl (.m2 rfl (.t2 (t_len Tryz.underlying9 rfl) ?_))))
  refine .t2 (t_lssF rfl rfl (by omega)) ?_
  refine .done (.condF rfl (Wp.exit (.sr (.m2 rfl (.t2 (t_len Tryz.underlying9 rfl) (.a2 rfl (.done (Wp.ret ?_))))))))
  exact ⟨[_],⟨rfl,trivial⟩,by rw [scan_unique (p := isId) (i := 0) (j := s.size) (Nat.zero_le _) (Nat.le_refl _) hall fun h => absurd h (Nat.lt_irrefl _)]; rfl,rfl⟩
theorem run3_ok {w : World} {s : ByteArray} (hs : s.size ≤ 2000) : Cl Tryz.prog 121 #[.string s,.int .i64 3] w (fun u w' => u = .int .i64 (scan isDg s 0) ∧ w = w') := by
 refine Cl.enter Tryz.func121 rfl Tryz.ntmps121 rfl rfl (.sr (.a2 rfl (.done (.seq (.sr (.a2 rfl (.done (Wp.block ?_))))))))
 refine Wp.loop (ι := Nat) (fun i => [(0,.string s),(1,.int .i64 3),(5,.int .i64 i)])
  (fun i w' => i ≤ s.size ∧ (∀ k,0 ≤ k → k < i → isDg (bt s k) = true) ∧ w = w') (fun i => s.size - i) 0 (by repeat (first | exact .nil | refine .cons rfl ?_)) ⟨Nat.zero_le _,fun k _ h => absurd h (Nat.not_lt_zero _),rfl⟩ ?_
 rintro i _ ⟨hi,hall,rfl⟩
 by_cases hlt : i < s.size
 ·obtain ⟨c,hc⟩ : ∃ c,bt s i = c := ⟨_,rfl⟩
  cases hp : isDg c with
  | true =>
   have hd : (48 ≤ c ∧ c ≤ 57) ∨ False := by simp [isDg] at hp; omega
   rcases hd with h | h
   all_goals try exact h.elim
   all_goals
    refine .seq (.sr (.m2 rfl (.m2 rfl (.t2 (t_len Tryz.underlying9 rfl) ?_))))
    refine .t2 (t_lssT rfl rfl (by omega)) ?_
    refine .done (.condT rfl (Wp.skip (.seq (Wp.block (.sr (.m2 rfl (.m2 rfl ?_)))))))
    refine .t2 (t_index Tryz.underlying9 rfl rfl (by omega)) ?_
    rw [show ((s.data.toList.getD ((i : Nat) : Int).toNat 0).toNat : Int) = c from hc]
    refine .a2 rfl (.done (.sr (.m2 rfl ?_)))
    refine .t2 (t_neqT rfl rfl (by omega)) ?_
    refine .a2 rfl (.done (.seq (.sr (.m2 rfl (.done (Wp.block (.sr ?_)))))))
    refine .t2 (t_eqlF rfl rfl (by omega)) ?_
    refine .a2 rfl (.done (.condF rfl (.sr ?_)))
    refine .t2 (t_eqlF rfl rfl (by omega)) ?_
    refine .a2 rfl (.done (.condF rfl (.sr ?_)))
    refine .t2 (t_eqlT rfl rfl (by omega)) ?_
    refine .a2 rfl (.done (.condT rfl (Wp.region (.m2 rfl ?_))))
    refine .t2 (t_geqT rfl rfl (by omega)) ?_
    refine .m2 rfl (.g2 (t_move rfl) ?_)
    refine .g2 (t_leqT rfl rfl (by omega)) ?_
    refine .t2 (t_pickT rfl rfl) (.a2 rfl (.done (.sr (.m2 rfl (.t2 (t_notB rfl) (.done (.condF rfl (Wp.skip (Wp.region (.m2 rfl ?_))))))))))
    refine .t2 (t_addI rfl rfl (by omega)) ?_
    refine .a2 rfl (.done ?_)
    exact ⟨i + 1,by repeat (first | exact .nil | refine .cons rfl ?_),⟨hlt,fun k _ hk => by rcases Nat.lt_succ_iff_lt_or_eq.1 hk with hk | rfl; exact hall k (Nat.zero_le _) hk; rw [hc]; exact hp,rfl⟩,by omega⟩
  | false =>
   have hd : c < 48 ∨ 57 < c := by simp [isDg] at hp; omega
   rcases hd with h | h
   all_goals
    refine .seq (.sr (.m2 rfl (.m2 rfl (.t2 (t_len Tryz.underlying9 rfl) ?_))))
    refine .t2 (t_lssT rfl rfl (by omega)) ?_
    refine .done (.condT rfl (Wp.skip (.seq (Wp.block (.sr (.m2 rfl (.m2 rfl ?_)))))))
    refine .t2 (t_index Tryz.underlying9 rfl rfl (by omega)) ?_
    rw [show ((s.data.toList.getD ((i : Nat) : Int).toNat 0).toNat : Int) = c from hc]
    refine .a2 rfl (.done (.sr (.m2 rfl ?_)))
    first | refine .tq (t_neqT rfl rfl (by omega)) rfl ?_ | refine .tq (t_neqF rfl rfl (by omega)) rfl ?_ | refine .tq (t_neq rfl rfl) rfl ?_
    refine .a2 rfl (.done (.seq (.sr (.m2 rfl (.done (Wp.block (.sr ?_)))))))
    refine .t2 (t_eqlF rfl rfl (by omega)) ?_
    refine .a2 rfl (.done (.condF rfl (.sr ?_)))
    refine .t2 (t_eqlF rfl rfl (by omega)) ?_
    refine .a2 rfl (.done (.condF rfl (.sr ?_)))
    refine .t2 (t_eqlT rfl rfl (by omega)) ?_
    refine .a2 rfl (.done (.condT rfl (Wp.region (.m2 rfl ?_))))
    first | refine .tq (t_geqT rfl rfl (by omega)) rfl ?_ | refine .tq (t_geqF rfl rfl (by omega)) rfl ?_ | refine .tq (t_geq rfl rfl) rfl ?_
    refine .m2 rfl ?_
    first | refine .gd (t_move rfl) rfl ?_ | refine .so rfl rfl ?_
    first | refine .gd (t_leqT rfl rfl (by omega)) rfl ?_ | refine .gd (t_leqF rfl rfl (by omega)) rfl ?_ | refine .gd (t_leq rfl rfl) rfl ?_ | refine .so rfl rfl ?_
    first | refine .tq (t_pickT rfl rfl) rfl ?_ | refine .tq (t_pickF rfl rfl) rfl ?_
    refine .a2 rfl (.done (.sr (.m2 rfl (.t2 (t_notB rfl) (.done (.condT rfl (.sr (.m2 rfl (.a2 rfl (.done (Wp.ret ?_)))))))))))
    exact ⟨[_],⟨rfl,trivial⟩,by rw [scan_unique (p := isDg) (i := 0) (j := i) (Nat.zero_le _) hi hall fun _ => by rw [hc]; exact hp]; rfl,rfl⟩
 ·have hk : i = s.size := by omega
  subst hk
  refine .seq (.sr (.m2 rfl (.m2 rfl (.t2 (t_len Tryz.underlying9 rfl) ?_))))
  refine .t2 (t_lssF rfl rfl (by omega)) ?_
  refine .done (.condF rfl (Wp.exit (.sr (.m2 rfl (.t2 (t_len Tryz.underlying9 rfl) (.a2 rfl (.done (Wp.ret ?_))))))))
  exact ⟨[_],⟨rfl,trivial⟩,by rw [scan_unique (p := isDg) (i := 0) (j := s.size) (Nat.zero_le _) (Nat.le_refl _) hall fun h => absurd h (Nat.lt_irrefl _)]; rfl,rfl⟩
theorem literal_ok {w : World} {s : ByteArray} (hs : s.size ≤ 2000) : Cl Tryz.prog 124 #[.string s] w (fun u w' => u = .int .i64 ((str s 1).getD 0 : Nat) ∧ w = w') := by
 refine Cl.enter Tryz.func124 rfl Tryz.ntmps124 rfl rfl (.sr (.a2 rfl (.done (.sr (.a2 rfl (.done (.seq (.sr (.a2 rfl (.done (Wp.block ?_)))))))))))
 refine Wp.loop (ι := Nat × Bool) (fun j => [(0,.string s),(3,.bool j.2),(4,.int .i64 j.1)])
  (fun j w' => (∃ f,s.size - j.1 < f ∧ lit s f j.1 j.2 = str s 1) ∧ w = w') (fun j => s.size - j.1) (1,false) (by repeat (first | exact .nil | refine .cons rfl ?_)) ⟨⟨s.size + 1,by simp only; omega,lit_str s _ 1 (by omega)⟩,rfl⟩ ?_
 rintro ⟨i,e⟩ _ ⟨⟨f,hf,hl⟩,rfl⟩
 simp only at hf hl ⊢
 obtain ⟨f,rfl⟩ : ∃ g,f = g + 1 := ⟨f - 1,by omega⟩
 unfold lit at hl
 by_cases hlt : i < s.size
 ·obtain ⟨c,hc⟩ : ∃ c,bt s i = c := ⟨_,rfl⟩
  rw [bz_in hlt,hc] at hl
  by_cases h10 : c = 10
  ·skip
   refine .seq (.sr (.m2 rfl (.m2 rfl (.t2 (t_len Tryz.underlying9 rfl) ?_))))
   refine .t2 (t_lssT rfl rfl (by omega)) ?_
   refine .m2 rfl (.g2 (t_move rfl) (.g2 (t_move rfl) ?_))
   refine .g2 (t_index Tryz.underlying9 rfl rfl (by omega)) ?_
   rw [show ((s.data.toList.getD ((i : Nat) : Int).toNat 0).toNat : Int) = c from hc]
   refine .g2 (t_neqF rfl rfl h10) (.t2 (t_pickT rfl rfl) (.done (.condF rfl (Wp.exit (.sr (.a2 rfl (.done (Wp.ret ?_))))))))
   rw [if_pos h10] at hl
   exact ⟨[_],⟨rfl,trivial⟩,by rw [← hl]; rfl,rfl⟩
  ·rw [if_neg h10] at hl
   by_cases hq : c = 34 ∧ e = false
   ·obtain ⟨hq1,rfl⟩ := hq
    rw [if_pos ⟨hq1,rfl⟩] at hl
    refine .seq (.sr (.m2 rfl (.m2 rfl (.t2 (t_len Tryz.underlying9 rfl) ?_))))
    refine .t2 (t_lssT rfl rfl (by omega)) ?_
    refine .m2 rfl (.g2 (t_move rfl) (.g2 (t_move rfl) ?_))
    refine .g2 (t_index Tryz.underlying9 rfl rfl (by omega)) ?_
    rw [show ((s.data.toList.getD ((i : Nat) : Int).toNat 0).toNat : Int) = c from hc]
    refine .g2 (t_neqT rfl rfl h10) (.t2 (t_pickT rfl rfl) (.done (.condT rfl (Wp.skip (.seq (Wp.block (.seq (.sr (.m2 rfl (.m2 rfl ?_))))))))))
    refine .t2 (t_index Tryz.underlying9 rfl rfl (by omega)) ?_
    rw [show ((s.data.toList.getD ((i : Nat) : Int).toNat 0).toNat : Int) = c from hc]
    refine .t2 (t_eqlT rfl rfl (by omega)) ?_
    refine .m2 rfl (.g2 (t_move rfl) (.g2 (t_notB rfl) (.t2 (t_pickT rfl rfl) (.done (.condT rfl (.sr (.m2 rfl ?_)))))))
    refine .t2 (t_addI rfl rfl (by omega)) ?_
    refine .a2 rfl (.done (Wp.ret ?_))
    exact ⟨[_],⟨rfl,trivial⟩,by rw [← hl]; simp [tup],rfl⟩
   ·rw [if_neg hq] at hl
    have hd : ((c = 34 ∧ e = true) ∨ (c = 92 ∧ e = true) ∨ (c ≠ 34 ∧ c ≠ 92)) ∨ (c = 92 ∧ e = false) := by
     cases e <;> simp at hq ⊢ <;> omega
    rcases hd with hd | ⟨h,rfl⟩
    ·rcases hd with ⟨h,rfl⟩ | ⟨h,rfl⟩ | h
     all_goals
      refine .seq (.sr (.m2 rfl (.m2 rfl (.t2 (t_len Tryz.underlying9 rfl) ?_))))
      refine .t2 (t_lssT rfl rfl (by omega)) ?_
      refine .m2 rfl (.g2 (t_move rfl) (.g2 (t_move rfl) ?_))
      refine .g2 (t_index Tryz.underlying9 rfl rfl (by omega)) ?_
      rw [show ((s.data.toList.getD ((i : Nat) : Int).toNat 0).toNat : Int) = c from hc]
      refine .g2 (t_neqT rfl rfl h10) (.t2 (t_pickT rfl rfl) (.done (.condT rfl (Wp.skip (.seq (Wp.block (.seq (.sr (.m2 rfl (.m2 rfl ?_))))))))))
      refine .t2 (t_index Tryz.underlying9 rfl rfl (by omega)) ?_
      rw [show ((s.data.toList.getD ((i : Nat) : Int).toNat 0).toNat : Int) = c from hc]
      first | refine .tq (t_eqlT rfl rfl (by omega)) rfl ?_ | refine .tq (t_eqlF rfl rfl (by omega)) rfl ?_ | refine .tq (t_eql rfl rfl) rfl ?_
      refine .m2 rfl ?_
      first | refine .gd (t_move rfl) rfl ?_ | refine .so rfl rfl ?_
      first | refine .gd (t_notB rfl) rfl ?_ | refine .so rfl rfl ?_
      first | refine .tq (t_pickT rfl rfl) rfl ?_ | refine .tq (t_pickF rfl rfl) rfl ?_
      refine .done (.condF rfl (Wp.skip (Wp.region (.m2 rfl (.m2 rfl ?_)))))
      refine .t2 (t_index Tryz.underlying9 rfl rfl (by omega)) ?_
      rw [show ((s.data.toList.getD ((i : Nat) : Int).toNat 0).toNat : Int) = c from hc]
      first | refine .tq (t_eqlT rfl rfl (by omega)) rfl ?_ | refine .tq (t_eqlF rfl rfl (by omega)) rfl ?_ | refine .tq (t_eql rfl rfl) rfl ?_
      refine .m2 rfl ?_
      first | refine .gd (t_move rfl) rfl ?_ | refine .so rfl rfl ?_
      first | refine .gd (t_notB rfl) rfl ?_ | refine .so rfl rfl ?_
      first | refine .tq (t_pickT rfl rfl) rfl ?_ | refine .tq (t_pickF rfl rfl) rfl ?_
      refine .a2 rfl (.done (Wp.region (.m2 rfl ?_)))
      refine .t2 (t_addI rfl rfl (by omega)) ?_
      refine .a2 rfl (.done ?_)
      exact ⟨(i + 1,false),by repeat (first | exact .nil | refine .cons rfl ?_),⟨⟨f,by simp only; omega,by rw [← hl]; simp [h]⟩,rfl⟩,by simp only; omega⟩
    ·skip
     refine .seq (.sr (.m2 rfl (.m2 rfl (.t2 (t_len Tryz.underlying9 rfl) ?_))))
     refine .t2 (t_lssT rfl rfl (by omega)) ?_
     refine .m2 rfl (.g2 (t_move rfl) (.g2 (t_move rfl) ?_))
     refine .g2 (t_index Tryz.underlying9 rfl rfl (by omega)) ?_
     rw [show ((s.data.toList.getD ((i : Nat) : Int).toNat 0).toNat : Int) = c from hc]
     refine .g2 (t_neqT rfl rfl h10) (.t2 (t_pickT rfl rfl) (.done (.condT rfl (Wp.skip (.seq (Wp.block (.seq (.sr (.m2 rfl (.m2 rfl ?_))))))))))
     refine .t2 (t_index Tryz.underlying9 rfl rfl (by omega)) ?_
     rw [show ((s.data.toList.getD ((i : Nat) : Int).toNat 0).toNat : Int) = c from hc]
     refine .t2 (t_eqlF rfl rfl (by omega)) ?_
     refine .m2 rfl (.so rfl rfl (.so rfl rfl (.t2 (t_pickF rfl rfl) (.done (.condF rfl (Wp.skip (Wp.region (.m2 rfl (.m2 rfl ?_)))))))))
     refine .t2 (t_index Tryz.underlying9 rfl rfl (by omega)) ?_
     rw [show ((s.data.toList.getD ((i : Nat) : Int).toNat 0).toNat : Int) = c from hc]
     refine .t2 (t_eqlT rfl rfl (by omega)) ?_
     refine .m2 rfl (.g2 (t_move rfl) (.g2 (t_notB rfl) (.t2 (t_pickT rfl rfl) (.a2 rfl (.done (Wp.region (.m2 rfl ?_)))))))
     refine .t2 (t_addI rfl rfl (by omega)) ?_
     refine .a2 rfl (.done ?_)
     exact ⟨(i + 1,true),by repeat (first | exact .nil | refine .cons rfl ?_),⟨⟨f,by simp only; omega,by rw [← hl]; simp [h]⟩,rfl⟩,by simp only; omega⟩
 ·rw [bz_out (by omega),if_pos rfl] at hl
  refine .seq (.sr (.m2 rfl (.m2 rfl (.t2 (t_len Tryz.underlying9 rfl) ?_))))
  refine .t2 (t_lssF rfl rfl (by omega)) ?_
  refine .m2 rfl (.so rfl rfl (.so rfl rfl (.so rfl rfl (.so rfl rfl (.t2 (t_pickF rfl rfl) (.done (.condF rfl (Wp.exit (.sr (.a2 rfl (.done (Wp.ret ?_))))))))))))
  exact ⟨[_],⟨rfl,trivial⟩,by rw [← hl]; rfl,rfl⟩
theorem rcontains_ok {w : World} {v : Value} {zs : List ByteArray} {x : ByteArray} (hz : SlC w v 1 zs.length (zs.map .string)) (hl : zs.length ≤ 1000000) : Cl Tryz.prog 122 #[v,.string x] w (fun u w' => u = .bool (Lib.containsS zs x) ∧ w = w') := by
 refine Cl.enter Tryz.func122 rfl Tryz.ntmps122 rfl rfl (.sr (.a2 rfl (.done (.seq (.sr (.m2 rfl (.t2 (t_lenC hz Tryz.underlying38 rfl) (.m2 rfl (.done (Wp.block ?_))))))))))
 refine Wp.loop (ι := Nat) (fun k => [(1,.string x),(7,v),(8,.int .i64 zs.length),(9,.int .i64 k)])
  (fun k w' => k ≤ zs.length ∧ (∀ j (h : j < zs.length),j < k → x ≠ zs[j]) ∧ w = w') (fun k => zs.length - k) 0 (by repeat (first | exact .nil | refine .cons rfl ?_)) ⟨Nat.zero_le _,fun j _ h => absurd h (Nat.not_lt_zero _),rfl⟩ ?_
 rintro k _ ⟨hk,hno,rfl⟩
 by_cases hlt : k < zs.length
 ·by_cases he : x = zs[k]
  ·skip
   refine .sr ?_
   refine .t2 (t_lssT rfl rfl (by omega)) ?_
   refine .done (.seq (.condT rfl (Wp.skip (.seq (Wp.block (.sr ?_))))))
   refine Rg.ix hz trivial rfl rfl Tryz.underlying38 ty9 (by omega) rfl ?_
   intro bt11 ot11 ht11
   rw [Int.toNat_natCast,Nat.mul_one,show ((zs.map Value.string).drop k).take 1 = [.string zs[k]] from by rw [List.drop_eq_getElem_cons (by simpa using hlt)]; simp] at ht11
   refine .t2 (t_load ty9 rfl (Cells.get (i := 0) ht11 rfl)) (.a2 rfl (.done (.sr (.m2 rfl (.m2 rfl (.t2 (t_seqlT rfl rfl he) (.done (.condT rfl (.sr (.a2 rfl (.done (Wp.ret ?_))))))))))))
   exact ⟨[_],⟨rfl,trivial⟩,by rw [(containsS_iff _ _).2 (he ▸ List.getElem_mem hlt)]; rfl,rfl⟩
  ·skip
   refine .sr ?_
   refine .t2 (t_lssT rfl rfl (by omega)) ?_
   refine .done (.seq (.condT rfl (Wp.skip (.seq (Wp.block (.sr ?_))))))
   refine Rg.ix hz trivial rfl rfl Tryz.underlying38 ty9 (by omega) rfl ?_
   intro bt11 ot11 ht11
   rw [Int.toNat_natCast,Nat.mul_one,show ((zs.map Value.string).drop k).take 1 = [.string zs[k]] from by rw [List.drop_eq_getElem_cons (by simpa using hlt)]; simp] at ht11
   refine .t2 (t_load ty9 rfl (Cells.get (i := 0) ht11 rfl)) (.a2 rfl (.done (.sr (.m2 rfl (.m2 rfl (.t2 (t_seqlF rfl rfl he) (.done (.condF rfl (Wp.skip (Wp.region ?_))))))))))
   refine .t2 (t_addI rfl rfl (by omega)) ?_
   refine .m2 rfl (.done ?_)
   exact ⟨k + 1,by repeat (first | exact .nil | refine .cons rfl ?_),⟨hlt,fun j h hj => by rcases Nat.lt_succ_iff_lt_or_eq.1 hj with c | c; exact hno j h c; subst c; exact he,rfl⟩,by omega⟩
 ·skip
  refine .sr ?_
  refine .t2 (t_lssF rfl rfl (by omega)) ?_
  refine .done (.seq (.condF rfl (Wp.exit (.sr (.a2 rfl (.done (Wp.ret ?_)))))))
  have hn : Lib.containsS zs x = false := by
   cases hc : Lib.containsS zs x with
   | false => rfl
   | true =>
    obtain ⟨j,hj,e⟩ := List.getElem_of_mem ((containsS_iff _ _).1 hc)
    exact absurd e.symm (hno j hj (by omega))
  exact ⟨[_],⟨rfl,trivial⟩,by rw [hn]; rfl,rfl⟩
theorem rkeys_ok {w : World} : Cl Tryz.prog 123 #[] w (fun u w' => (∃ b,u = .slice (some ⟨b,0,none⟩) kws.length kws.length ∧ Var w' b (kws.map .string) 9) ∧ Ext w w') := by
 refine Cl.enter Tryz.func123 rfl Tryz.ntmps123 rfl rfl (.sr (.a2 rfl (.done (.sr (Rg.wd trivial (w_buildSlice (bs38_22 _ _ _ _ _ _ _ _ _ _ _ _ _ _ _ _ _ _ _ _ _ _) rfl) rfl ?_)))))
 rintro _ w1 ⟨b1,rfl,q1,hx1,hv1⟩
 refine .a2 rfl (.done (Wp.ret ?_))
 exact ⟨[_],⟨rfl,trivial⟩,⟨b1,rfl,hv1⟩,hx1⟩
theorem rpuncts_ok {w : World} : Cl Tryz.prog 125 #[] w (fun u w' => (∃ b,u = .slice (some ⟨b,0,none⟩) puncts.length puncts.length ∧ Var w' b (puncts.map .string) 9) ∧ Ext w w') := by
 refine Cl.enter Tryz.func125 rfl Tryz.ntmps125 rfl rfl (.sr (.a2 rfl (.done (.sr (Rg.wd trivial (w_buildSlice (bs38_26 _ _ _ _ _ _ _ _ _ _ _ _ _ _ _ _ _ _ _ _ _ _ _ _ _ _) rfl) rfl ?_)))))
 rintro _ w1 ⟨b1,rfl,q1,hx1,hv1⟩
 refine .a2 rfl (.done (Wp.ret ?_))
 exact ⟨[_],⟨rfl,trivial⟩,⟨b1,rfl,hv1⟩,hx1⟩
theorem clo80_ok {w : World} {k : Int} {n b : Nat} {s : ByteArray} (hv : Var w b [.string s] 9) (hn : n ≤ s.size) : Cl Tryz.prog 120 #[.int .i64 k,.int .i64 n,.pointer (some ⟨b,0,none⟩)] w (fun u w' => u = .agg #[.int .i64 k,.string (s.extract 0 n)] ∧ Ext w w') := by
 have hx := Ext.refl w
 refine Cl.enter Tryz.func120 rfl Tryz.ntmps120 rfl rfl (.sr (Rg.wd trivial (w_new Tryz.zeroValue91 rfl) rfl ?_))
 rintro _ w1 ⟨b5,rfl,q5,hx1,hv5⟩
 replace hx := hx.ext hx1
 replace hv := hv.ext hx1
 have q5b : w.heap.size ≤ b5 := by omega
 refine .done (.sr (.m2 rfl (.t2 (t_load ty9 rfl (hv.g 0 rfl)) (.m2 rfl ?_))))
 refine .t2 (t_sliceS Tryz.underlying9 rfl rfl rfl (by omega)) ?_
 refine .t2 (t_build (bd91_0_1 _ _) rfl) (Rg.wn trivial (w_put (cs := [.int .i64 k,.string (s.extract 0 n)]) hv5 rfl rfl rfl ty91 rfl rfl) ?_)
 rintro _ w9 ⟨hu9,hv9⟩
 refine .done (Wp.ret ?_)
 exact ⟨[_],⟨⟨_,rfl,lv_agg hv9 ty91⟩,trivial⟩,rfl,hx.upd hu9 q5b⟩
end Go.Proofs.YtiogccmfmjhipaaGreatDoor.Lexi
