/- Arenas of shared trees as plain data: inserting, reading back, what is shared. No program. -/
import Derived.Test.YtcelfjbajdffkaaGreatDoorXe
import Derived.Test.YtcelfjbajdffkaaGreatDoorXf
import Derived.Test.YtcelfjbajdffkaaGreatDoorXc
import Derived.Test.YtcelfjbajdffkaaGreatDoorXb
import Derived.Test.YtcelfjbajdffkaaGreatDoorXa
import Derived.Test.YtcelfjbajdffkaaGreatDoorXj
set_option linter.unusedVariables false
set_option linter.unusedSimpArgs false
namespace Go.Proofs.YtcelfjbajdffkaaGreatDoor.Par
structure Gn where
 kind : Int
 width : Int
 text : ByteArray
 kids : List Nat
deriving DecidableEq
def wd (a : List Gn) (c : Nat) : Int := ((a[c]?).map Gn.width).getD 0
def wsum (a : List Gn) (l : List Nat) : Int := (l.map (wd a)).sum
def findN (a : List Gn) (n : Gn) : Option Nat := a.findIdx? fun m => decide (m = n)
mutual
def ins : Tr → List Gn → Nat × List Gn
 | .mk k t ks,a => match findN (insL ks a).2.2 ⟨k,t.size + (insL ks a).2.1,t,(insL ks a).1⟩ with
  | some i => (i,(insL ks a).2.2)
  | none => ((insL ks a).2.2.length,(insL ks a).2.2 ++ [⟨k,t.size + (insL ks a).2.1,t,(insL ks a).1⟩])
def insL : List Tr → List Gn → List Nat × Int × List Gn
 | [],a => ([],0,a)
 | t :: l,a => ((ins t a).1 :: (insL l (ins t a).2).1,wd (ins t a).2 (ins t a).1 + (insL l (ins t a).2).2.1,(insL l (ins t a).2).2.2)
end
mutual
def Rd (a : List Gn) : Tr → Nat → Prop
 | .mk k t ks,i => ∃ w is,a[i]? = some ⟨k,w,t,is⟩ ∧ RdL a ks is
def RdL (a : List Gn) : List Tr → List Nat → Prop
 | [],is => is = []
 | t :: l,is => ∃ i is',is = i :: is' ∧ Rd a t i ∧ RdL a l is'
end
structure NodeOk (a : List Gn) (i : Nat) (n : Gn) : Prop where
 below : ∀ c ∈ n.kids,c < i
 width : n.width = n.text.size + wsum a n.kids
 small : 0 ≤ n.width ∧ n.width ≤ 1000000
 form : if 100 ≤ n.kind then n.kids = [] else n.text = nob
structure Valid (a : List Gn) : Prop where
 node : ∀ i n,a[i]? = some n → NodeOk a i n
 nodup : a.Nodup
theorem Valid.nil : Valid [] := ⟨fun i n h => by simp at h,List.nodup_nil⟩
theorem wd_pre {a b : List Gn} {c : Nat} (h : c < a.length) : wd (a ++ b) c = wd a c := by
 unfold wd
 rw [List.getElem?_append_left h]
theorem wsum_pre {a b : List Gn} {l : List Nat} (h : ∀ c ∈ l,c < a.length) : wsum (a ++ b) l = wsum a l := by
 unfold wsum
 congr 1
 exact List.map_congr_left fun c hc => wd_pre (h c hc)
theorem wd_nonneg {a : List Gn} (h : Valid a) (c : Nat) : 0 ≤ wd a c := by
 unfold wd
 cases e : a[c]? with
 | none => simp
 | some n => simpa using (h.node c n e).small.1
theorem wsum_nonneg {a : List Gn} (h : Valid a) : ∀ l : List Nat,0 ≤ wsum a l
 | [] => by simp [wsum]
 | c :: l => by
  have := wsum_nonneg h l
  have := wd_nonneg h c
  simp only [wsum,List.map_cons,List.sum_cons] at *
  omega
theorem wsum_cons {a : List Gn} {c : Nat} {l : List Nat} : wsum a (c :: l) = wd a c + wsum a l := by simp [wsum]
theorem wsum_app {a : List Gn} {l m : List Nat} : wsum a (l ++ m) = wsum a l + wsum a m := by simp [wsum]
theorem findN_some {a : List Gn} {n : Gn} {i : Nat} (h : findN a n = some i) : a[i]? = some n ∧ i < a.length := by
 unfold findN at h
 obtain ⟨hi,h1,_⟩ := List.findIdx?_eq_some_iff_getElem.1 h
 exact ⟨by rw [List.getElem?_eq_getElem hi]; simpa using h1,hi⟩
theorem findN_none {a : List Gn} {n : Gn} (h : findN a n = none) : n ∉ a := by
 unfold findN at h
 rw [List.findIdx?_eq_none_iff] at h
 intro hm
 have := h n hm
 simp at this
theorem findN_of {a : List Gn} {n : Gn} {i : Nat} (hn : a.Nodup) (h : a[i]? = some n) : findN a n = some i := by
 cases e : findN a n with
 | none => exact absurd (List.mem_of_getElem? h) (findN_none e)
 | some j =>
  obtain ⟨h1,h2⟩ := findN_some e
  obtain ⟨hi,h3⟩ := List.getElem?_eq_some_iff.1 h
  obtain ⟨hj,h4⟩ := List.getElem?_eq_some_iff.1 h1
  have key := List.pairwise_iff_getElem.1 hn
  rcases Nat.lt_trichotomy i j with hij | hij | hij
  ·exact absurd (h3.trans h4.symm) (key i j hi hj hij)
  ·rw [hij]
  ·exact absurd (h4.trans h3.symm) (key j i hj hi hij)
mutual
theorem Rd.mono {a b : List Gn} : ∀ {t : Tr} {i : Nat},Rd a t i → Rd (a ++ b) t i
 | .mk k t ks,i,h => by
  obtain ⟨w,is,h1,h2⟩ := h
  exact ⟨w,is,by rw [List.getElem?_append_left (List.getElem?_eq_some_iff.1 h1).1]; exact h1,RdL.mono h2⟩
theorem RdL.mono {a b : List Gn} : ∀ {l : List Tr} {is : List Nat},RdL a l is → RdL (a ++ b) l is
 | [],is,h => h
 | t :: l,is,h => by
  obtain ⟨i,is',e,h1,h2⟩ := h
  exact ⟨i,is',e,Rd.mono h1,RdL.mono h2⟩
end
mutual
theorem Rd.unique {a : List Gn} : ∀ {t u : Tr} {i : Nat},Rd a t i → Rd a u i → t = u
 | .mk k t ks,.mk k' t' ks',i,h,h' => by
  obtain ⟨w,is,h1,h2⟩ := h
  obtain ⟨w',is',h1',h2'⟩ := h'
  rw [h1] at h1'
  injection h1' with h1'
  injection h1' with e1 e2 e3 e4
  subst e1 e3 e4
  rw [RdL.unique h2 h2']
theorem RdL.unique {a : List Gn} : ∀ {l m : List Tr} {is : List Nat},RdL a l is → RdL a m is → l = m
 | [],[],is,h,h' => rfl
 | [],u :: m,is,h,h' => by
  obtain ⟨i,is',e,_⟩ := h'
  have h : is = [] := h
  rw [h] at e
  cases e
 | t :: l,[],is,h,h' => by
  obtain ⟨i,is',e,_⟩ := h
  have h' : is = [] := h'
  rw [h'] at e
  cases e
 | t :: l,u :: m,is,h,h' => by
  obtain ⟨i,is1,e,h1,h2⟩ := h
  obtain ⟨j,is2,e',h1',h2'⟩ := h'
  rw [e] at e'
  injection e' with e1 e2
  subst e1 e2
  rw [Rd.unique h1 h1',RdL.unique h2 h2']
end
theorem Rd.lt {a : List Gn} {t : Tr} {i : Nat} (h : Rd a t i) : i < a.length := by
 cases t
 obtain ⟨w,is,h1,_⟩ := h
 exact (List.getElem?_eq_some_iff.1 h1).1
theorem RdL.lt {a : List Gn} : ∀ {l : List Tr} {is : List Nat},RdL a l is → ∀ c ∈ is,c < a.length
 | [],is,h,c,hc => by
  have h : is = [] := h
  rw [h] at hc
  cases hc
 | t :: l,is,h,c,hc => by
  obtain ⟨i,is1,rfl,h1,h2⟩ := h
  rcases List.mem_cons.1 hc with rfl | hc
  ·exact h1.lt
  ·exact RdL.lt h2 c hc
mutual
theorem Rd.width {a : List Gn} (hv : Valid a) : ∀ {t : Tr} {i : Nat},Rd a t i → wd a i = t.txt.length
 | .mk k t ks,i,h => by
  obtain ⟨w,is,h1,h2⟩ := h
  have := (hv.node i _ h1).width
  have e := RdL.width hv h2
  simp only at this
  unfold wd
  rw [h1]
  simp only [Option.map_some,Option.getD_some,Tr.txt,List.length_append]
  rw [this,e]
  simp
theorem RdL.width {a : List Gn} (hv : Valid a) : ∀ {l : List Tr} {is : List Nat},RdL a l is → wsum a is = (txtL l).length
 | [],is,h => by
  have h : is = [] := h
  rw [h]
  rfl
 | t :: l,is,h => by
  obtain ⟨i,is1,rfl,h1,h2⟩ := h
  rw [wsum_cons,Rd.width hv h1,RdL.width hv h2]
  simp [txtL]
end
theorem Valid.snoc {a : List Gn} {n : Gn} (h : Valid a) (hn : n ∉ a) (ho : NodeOk a a.length n) : Valid (a ++ [n]) := by
 refine ⟨fun i m hm => ?_,?_⟩
 ·rcases Nat.lt_or_ge i a.length with hi | hi
  ·rw [List.getElem?_append_left hi] at hm
   have := h.node i m hm
   exact ⟨this.below,by rw [wsum_pre fun c hc => Nat.lt_trans (this.below c hc) hi]; exact this.width,this.small,this.form⟩
  ·rw [List.getElem?_append_right hi] at hm
   have h0 : i - a.length = 0 := by
    have := (List.getElem?_eq_some_iff.1 hm).1
    simp at this
    omega
   rw [h0] at hm
   simp only [List.getElem?_cons_zero,Option.some.injEq] at hm
   subst hm
   obtain rfl : i = a.length := by omega
   exact ⟨ho.below,by rw [wsum_pre ho.below]; exact ho.width,ho.small,ho.form⟩
 ·exact List.nodup_append.2 ⟨h.nodup,by simp,fun x hx y hy e => by simp at hy; exact hn (by rw [← hy,← e]; exact hx)⟩
mutual
theorem ins_ok : ∀ (t : Tr) (a : List Gn),Valid a → t.wf → t.txt.length ≤ 1000000 → Valid (ins t a).2 ∧ (∃ b,(ins t a).2 = a ++ b) ∧ Rd (ins t a).2 t (ins t a).1 ∧ (ins t a).2.length ≤ a.length + t.cnt
 | .mk k t ks,a,hv,hw,hl => by
  have hwk : wfL ks := by
   rcases hw with ⟨_,e⟩ | ⟨_,_,_,h⟩
   ·rw [e]; trivial
   ·exact h
  have hlk : (txtL ks).length ≤ 1000000 := by
   simp only [Tr.txt,List.length_append] at hl
   omega
  obtain ⟨v1,⟨b,e1⟩,r1,w1,c1⟩ := insL_ok ks a hv hwk hlk
  have hwidth : (insL ks a).2.1 = (txtL ks).length := by rw [w1]; exact RdL.width v1 r1
  unfold ins
  simp only [Tr.cnt]
  split
  ·rename_i i hf
   obtain ⟨h1,h2⟩ := findN_some hf
   exact ⟨v1,⟨b,e1⟩,⟨_,_,h1,r1⟩,by simp only; omega⟩
  ·rename_i hf
   refine ⟨v1.snoc (findN_none hf) ⟨r1.lt,by simp only; rw [w1],?_,?_⟩,⟨b ++ [⟨k,t.size + (insL ks a).2.1,t,(insL ks a).1⟩],by simp only; rw [← List.append_assoc,← e1]⟩,⟨_,_,List.getElem?_concat_length ..,r1.mono⟩,by simp only [List.length_append,List.length_singleton]; omega⟩
   ·simp only
    rw [hwidth]
    simp only [Tr.txt,List.length_append,Array.length_toList,ByteArray.size_data] at hl
    omega
   ·simp only
    rcases hw with ⟨h100,e⟩ | ⟨_,h100,e,_⟩
    ·rw [if_pos (by omega),e]
     rfl
    ·rw [if_neg (by omega)]
     exact e
theorem insL_ok : ∀ (l : List Tr) (a : List Gn),Valid a → wfL l → (txtL l).length ≤ 1000000 → Valid (insL l a).2.2 ∧ (∃ b,(insL l a).2.2 = a ++ b) ∧ RdL (insL l a).2.2 l (insL l a).1 ∧ (insL l a).2.1 = wsum (insL l a).2.2 (insL l a).1 ∧ (insL l a).2.2.length ≤ a.length + cntL l
 | [],a,hv,hw,hl => ⟨hv,⟨[],by simp [insL]⟩,rfl,rfl,by simp [insL]⟩
 | t :: l,a,hv,hw,hl => by
  simp only [txtL,List.length_append] at hl
  obtain ⟨v1,⟨b,e1⟩,r1,c1⟩ := ins_ok t a hv hw.1 (by omega)
  obtain ⟨v2,⟨b2,e2⟩,r2,w2,c2⟩ := insL_ok l (ins t a).2 v1 hw.2 (by omega)
  unfold insL
  simp only [cntL]
  refine ⟨v2,⟨b ++ b2,by rw [e2,e1,List.append_assoc]⟩,⟨_,_,rfl,by rw [e2]; exact r1.mono,r2⟩,?_,by omega⟩
  rw [wsum_cons,w2]
  congr 1
  rw [e2,wd_pre r1.lt]
end
mutual
theorem ins_same : ∀ {t : Tr} {a : List Gn} {i : Nat},Valid a → Rd a t i → ins t a = (i,a)
 | .mk k t ks,a,i,hv,h => by
  obtain ⟨w,is,h1,h2⟩ := h
  have e := insL_same hv h2
  have hw := (hv.node i _ h1).width
  simp only at hw
  unfold ins
  rw [e]
  simp only
  rw [← hw,findN_of hv.nodup h1]
theorem insL_same : ∀ {l : List Tr} {a : List Gn} {is : List Nat},Valid a → RdL a l is → insL l a = (is,wsum a is,a)
 | [],a,is,hv,h => by
  have h : is = [] := h
  rw [h]
  rfl
 | t :: l,a,is,hv,h => by
  obtain ⟨i,is1,rfl,h1,h2⟩ := h
  have e1 := ins_same hv h1
  unfold insL
  rw [e1]
  simp only
  rw [insL_same hv h2,wsum_cons]
end
theorem Rd.inj {a : List Gn} {t : Tr} {i j : Nat} (hv : Valid a) (h : Rd a t i) (h' : Rd a t j) : i = j := by
 have := (ins_same hv h).symm.trans (ins_same hv h')
 exact (Prod.mk.inj this).1
end Go.Proofs.YtcelfjbajdffkaaGreatDoor.Par
namespace Go.Proofs.YtcelfjbajdffkaaGreatDoor.Par
set_option maxRecDepth 20000
open Go.Gx Go.RowKit Go.Lib
open Lexi (Asc)
structure Gc where
 kind : Int
 width : Int
 text : ByteArray
 cv : Value
 kids : List Nat
def Gc.er (n : Gc) : Gn := ⟨n.kind,n.width,n.text,n.kids⟩
def Gc.cells (n : Gc) : List Value := [.int .i64 n.kind,.int .i64 n.width,.string n.text,n.cv]
theorem Gc.len (n : Gc) : n.cells.length = 4 := rfl
def ints (l : List Nat) : List Value := l.map fun (k : Nat) => (.int .i64 k : Value)
theorem ints_len (l : List Nat) : (ints l).length = l.length := by simp [ints]
theorem ints_one (l : List Nat) : ∀ u ∈ ints l,u.oneCell' = true := by
 intro u hu
 obtain ⟨k,_,rfl⟩ := List.mem_map.1 hu
 rfl
structure NOk (Q : Fs) (w : World) (n : Gc) : Prop where
 slc : SlC w n.cv 1 n.kids.length (ints n.kids)
 one : n.cv.oneCell' = true
 inn : blkIn Q n.cv
 nil : n.kids = [] → n.cv = .slice none 0 0
 few : n.kids.length ≤ 1000000
theorem NOk.bw {Q R : Fs} {w w' : World} {n : Gc} (h : NOk Q w n) (k : Bw R w w') (hs : ∀ z,Q z → R z) : NOk R w' n := ⟨slC_bw h.slc k (h.inn.mono hs),h.one,h.inn.mono hs,h.nil,h.few⟩
theorem NOk.ext {Q : Fs} {w w' : World} {n : Gc} (h : NOk Q w n) (x : Ext w w') : NOk Q w' n := ⟨h.slc.ext x,h.one,h.inn,h.nil,h.few⟩
theorem Gc.one {Q : Fs} {w : World} {n : Gc} (h : NOk Q w n) : ∀ u ∈ n.cells,u.oneCell' = true := by
 intro u hu
 simp only [Gc.cells,List.mem_cons,List.not_mem_nil,or_false] at hu
 rcases hu with rfl | rfl | rfl | rfl
 ·rfl
 ·rfl
 ·rfl
 ·exact h.one
theorem ints_at (l : List Nat) (i : Nat) (h : i < l.length) : ((ints l).drop (i * 1)).take 1 = [.int .i64 l[i]] := by
 rw [Nat.mul_one,List.drop_eq_getElem_cons (by rw [ints_len]; exact h)]
 simp [ints]
def idx : Option Nat → Int
 | some i => i
 | none => -1
theorem eqInts_ok {w : World} {v1 v2 : Value} {l m : List Nat} (hs0 : SlC w v1 1 l.length (ints l)) (hz0 : SlC w v2 1 m.length (ints m)) (hlen : l.length < 4611686018427387904) :
  Cl Tryz.prog 116 #[v1,v2] w (fun u w' => u = .bool (decide (l = m)) ∧ Ext w w') := by
 have hx := Ext.refl w
 by_cases hl : l.length = m.length
 ·skip
  refine Cl.enter Tryz.func116 rfl Tryz.ntmps116 rfl rfl ?_
  refine .sr ?_
  refine .as rfl rfl ?_
  refine .done ?_
  refine .seq ?_
  refine .sr ?_
  refine .mv rfl rfl ?_
  refine .tq (t_lenC hs0 Tryz.underlying51 rfl) rfl ?_
  refine .mv rfl rfl ?_
  refine .tq (t_lenC hz0 Tryz.underlying51 rfl) rfl ?_
  first | refine .tq (t_neqT rfl rfl (by omega)) rfl ?_ | refine .tq (t_neqF rfl rfl (by omega)) rfl ?_ | refine .tq (t_neq rfl rfl) rfl ?_
  refine .done ?_
  refine .condF rfl ?_
  refine Wp.skip ?_
  refine .seq ?_
  refine .sr ?_
  refine .mv rfl rfl ?_
  refine .tq (t_lenC hs0 Tryz.underlying51 rfl) rfl ?_
  refine .mv rfl rfl ?_
  refine .done ?_
  refine Wp.block ?_
  refine Wp.loop (ι := Nat) (fun k => [(0,v1),(1,v2),(12,.int .i64 l.length),(13,.int .i64 k)])
   (fun k w' => k ≤ l.length ∧ l.take k = m.take k ∧ Ext w w') (fun k => l.length - k) 0 (by repeat (first | exact .nil | refine .cons rfl ?_)) ⟨Nat.zero_le _,rfl,hx⟩ ?_
  clear hx
  rintro k w3 ⟨hk,he,hx⟩
  by_cases hlt : k < l.length
  ·have hlt2 : k < m.length := by omega
   by_cases hlm : l[k] = m[k]
   ·skip
    refine .sr ?_
    first | refine .tq (t_lssT rfl rfl (by omega)) rfl ?_ | refine .tq (t_lssF rfl rfl (by omega)) rfl ?_ | refine .tq (t_lss rfl rfl) rfl ?_
    refine .done ?_
    refine .seq ?_
    refine .condT rfl ?_
    refine Wp.skip ?_
    refine .seq ?_
    refine Wp.block ?_
    refine .sr ?_
    refine .mv rfl rfl ?_
    refine .as rfl rfl ?_
    refine .done ?_
    refine Wp.seq (Wp.draw [0,1,2,3,4,5,6,7,8] [] mixed (by kernel_rfl) (by kernel_rfl) ?_)
    intro w1 hx1 _
    replace hx := hx.ext hx1
    refine .mv rfl rfl ?_
    refine .mv rfl rfl ?_
    refine Rg.ix hs0 trivial rfl rfl Tryz.underlying51 ty3 (by omega) rfl ?_
    intro bt18 ot18 ht18
    replace ht18 := ht18.ext hx
    rw [Int.toNat_natCast,ints_at l k hlt] at ht18
    refine .tq (t_load ty3 rfl (Cells.get (i := 0) ht18 rfl)) rfl ?_
    refine .mv rfl rfl ?_
    refine .mv rfl rfl ?_
    refine Rg.ix hz0 trivial rfl rfl Tryz.underlying51 ty3 (by omega) rfl ?_
    intro bt22 ot22 ht22
    replace ht22 := ht22.ext hx
    rw [Int.toNat_natCast,ints_at m k hlt2] at ht22
    refine .tq (t_load ty3 rfl (Cells.get (i := 0) ht22 rfl)) rfl ?_
    first | refine .tq (t_neqT rfl rfl (by omega)) rfl ?_ | refine .tq (t_neqF rfl rfl (by omega)) rfl ?_ | refine .tq (t_neq rfl rfl) rfl ?_
    refine .done ?_
    refine .condF rfl ?_
    refine Wp.skip ?_
    refine Wp.region ?_
    first | refine .tq (t_addI rfl rfl (by omega)) rfl ?_ | refine .tq (t_add rfl rfl) rfl ?_
    refine .mv rfl rfl ?_
    refine .done ?_
    exact ⟨k + 1,by repeat (first | exact .nil | refine .cons rfl ?_),⟨hlt,by rw [List.take_succ_eq_append_getElem hlt,List.take_succ_eq_append_getElem hlt2,he,hlm],hx⟩,by omega⟩
   ·skip
    refine .sr ?_
    first | refine .tq (t_lssT rfl rfl (by omega)) rfl ?_ | refine .tq (t_lssF rfl rfl (by omega)) rfl ?_ | refine .tq (t_lss rfl rfl) rfl ?_
    refine .done ?_
    refine .seq ?_
    refine .condT rfl ?_
    refine Wp.skip ?_
    refine .seq ?_
    refine Wp.block ?_
    refine .sr ?_
    refine .mv rfl rfl ?_
    refine .as rfl rfl ?_
    refine .done ?_
    refine Wp.seq (Wp.draw [0,1,2,3,4,5,6,7,8] [] mixed (by kernel_rfl) (by kernel_rfl) ?_)
    intro w1 hx1 _
    replace hx := hx.ext hx1
    refine .mv rfl rfl ?_
    refine .mv rfl rfl ?_
    refine Rg.ix hs0 trivial rfl rfl Tryz.underlying51 ty3 (by omega) rfl ?_
    intro bt18 ot18 ht18
    replace ht18 := ht18.ext hx
    rw [Int.toNat_natCast,ints_at l k hlt] at ht18
    refine .tq (t_load ty3 rfl (Cells.get (i := 0) ht18 rfl)) rfl ?_
    refine .mv rfl rfl ?_
    refine .mv rfl rfl ?_
    refine Rg.ix hz0 trivial rfl rfl Tryz.underlying51 ty3 (by omega) rfl ?_
    intro bt22 ot22 ht22
    replace ht22 := ht22.ext hx
    rw [Int.toNat_natCast,ints_at m k hlt2] at ht22
    refine .tq (t_load ty3 rfl (Cells.get (i := 0) ht22 rfl)) rfl ?_
    first | refine .tq (t_neqT rfl rfl (by omega)) rfl ?_ | refine .tq (t_neqF rfl rfl (by omega)) rfl ?_ | refine .tq (t_neq rfl rfl) rfl ?_
    refine .done ?_
    refine .condT rfl ?_
    refine .sr ?_
    refine .as rfl rfl ?_
    refine .done ?_
    refine Wp.ret ?_
    exact ⟨[_],⟨rfl,trivial⟩,by rw [decide_eq_false (fun e => hlm (by subst e; rfl))]; rfl,hx⟩
  ·have hkl : k = l.length := by omega
   rw [hkl,List.take_length,hl,List.take_length] at he
   refine .sr ?_
   first | refine .tq (t_lssT rfl rfl (by omega)) rfl ?_ | refine .tq (t_lssF rfl rfl (by omega)) rfl ?_ | refine .tq (t_lss rfl rfl) rfl ?_
   refine .done ?_
   refine .seq ?_
   refine .condF rfl ?_
   refine Wp.exit ?_
   refine .sr ?_
   refine .as rfl rfl ?_
   refine .done ?_
   refine Wp.ret ?_
   exact ⟨[_],⟨rfl,trivial⟩,by rw [decide_eq_true he]; rfl,hx⟩
 ·skip
  refine Cl.enter Tryz.func116 rfl Tryz.ntmps116 rfl rfl ?_
  refine .sr ?_
  refine .as rfl rfl ?_
  refine .done ?_
  refine .seq ?_
  refine .sr ?_
  refine .mv rfl rfl ?_
  refine .tq (t_lenC hs0 Tryz.underlying51 rfl) rfl ?_
  refine .mv rfl rfl ?_
  refine .tq (t_lenC hz0 Tryz.underlying51 rfl) rfl ?_
  first | refine .tq (t_neqT rfl rfl (by omega)) rfl ?_ | refine .tq (t_neqF rfl rfl (by omega)) rfl ?_ | refine .tq (t_neq rfl rfl) rfl ?_
  refine .done ?_
  refine .condT rfl ?_
  refine .sr ?_
  refine .as rfl rfl ?_
  refine .done ?_
  refine Wp.ret ?_
  exact ⟨[_],⟨rfl,trivial⟩,by rw [decide_eq_false (fun e => hl (by rw [e]))]; rfl,hx⟩
theorem equal_ok {Q R : Fs} {w : World} {m n : Gc} (hm : NOk Q w m) (hn : NOk R w n) (hlen : m.kids.length < 4611686018427387904) :
  Cl Tryz.prog 66 #[.agg m.cells.toArray,.agg n.cells.toArray] w (fun u w' => u = .bool (decide (m.er = n.er)) ∧ Ext w w') := by
 have hx := Ext.refl w
 have hms := hm.slc
 have hns := hn.slc
 obtain ⟨k1,w1,t1,c1,l1⟩ := m
 obtain ⟨k2,w2,t2,c2,l2⟩ := n
 simp only at hms hns hlen
 by_cases h1 : k1 = k2
 ·by_cases h2 : w1 = w2
  ·by_cases h3 : t1 = t2
   ·skip
    refine Cl.enter Tryz.func66 rfl Tryz.ntmps66 rfl rfl ?_
    refine .sr ?_
    refine Rg.wd trivial (w_boxed rfl rfl) rfl ?_
    rintro _ w1 ⟨b2,rfl,q2,hx1,hv2⟩
    replace hx := hx.ext hx1
    replace hms := hms.ext hx1
    replace hns := hns.ext hx1
    have hc2 := hv2.cells
    clear hv2
    refine Rg.wd trivial (w_boxed rfl rfl) rfl ?_
    rintro _ w2 ⟨b3,rfl,q3,hx2,hv3⟩
    replace hx := hx.ext hx2
    replace hms := hms.ext hx2
    replace hns := hns.ext hx2
    replace hc2 := hc2.ext hx2
    have hc3 := hv3.cells
    clear hv3
    refine .as rfl rfl ?_
    refine .done ?_
    refine .sr ?_
    refine .tq (t_fieldAddr fa103_0 rfl) rfl ?_
    refine .tq (t_load ty3 rfl (by apply Cells.get (i := 0); (case h => assumption); rfl)) rfl ?_
    refine .tq (t_fieldAddr fa103_0 rfl) rfl ?_
    refine .tq (t_load ty3 rfl (by apply Cells.get (i := 0); (case h => assumption); rfl)) rfl ?_
    refine .tq (t_eqlT rfl rfl h1) rfl ?_
    refine .mv rfl rfl ?_
    first | refine .gd (t_fieldAddr fa103_1 rfl) rfl ?_ | refine .so rfl rfl ?_
    first | refine .gd (t_load ty3 rfl (by apply Cells.get (i := 1); (case h => assumption); rfl)) rfl ?_ | refine .so rfl rfl ?_
    first | refine .gd (t_fieldAddr fa103_1 rfl) rfl ?_ | refine .so rfl rfl ?_
    first | refine .gd (t_load ty3 rfl (by apply Cells.get (i := 1); (case h => assumption); rfl)) rfl ?_ | refine .so rfl rfl ?_
    refine .gd (t_eqlT rfl rfl h2) rfl ?_
    refine .tq (t_pickT rfl rfl) rfl ?_
    refine .mv rfl rfl ?_
    first | refine .gd (t_fieldAddr fa103_2 rfl) rfl ?_ | refine .so rfl rfl ?_
    first | refine .gd (t_load ty9 rfl (by apply Cells.get (i := 2); (case h => assumption); rfl)) rfl ?_ | refine .so rfl rfl ?_
    first | refine .gd (t_fieldAddr fa103_2 rfl) rfl ?_ | refine .so rfl rfl ?_
    first | refine .gd (t_load ty9 rfl (by apply Cells.get (i := 2); (case h => assumption); rfl)) rfl ?_ | refine .so rfl rfl ?_
    refine .gd (t_seqlT rfl rfl h3) rfl ?_
    refine .tq (t_pickT rfl rfl) rfl ?_
    refine .mv rfl rfl ?_
    first | refine .gd (t_fieldAddr fa103_3 rfl) rfl ?_ | refine .so rfl rfl ?_
    first | refine .gd (t_load ty51 rfl (by apply Cells.get (i := 3); (case h => assumption); rfl)) rfl ?_ | refine .so rfl rfl ?_
    first | refine .gd (t_fieldAddr fa103_3 rfl) rfl ?_ | refine .so rfl rfl ?_
    first | refine .gd (t_load ty51 rfl (by apply Cells.get (i := 3); (case h => assumption); rfl)) rfl ?_ | refine .so rfl rfl ?_
    refine Rg.wd ⟨_,rfl,rfl⟩ (w_call Tryz.call116 rfl (eqInts_ok hms hns hlen)) rfl ?_
    rintro _ w3 ⟨rfl,hx3⟩
    replace hx := hx.ext hx3
    replace hms := hms.ext hx3
    replace hns := hns.ext hx3
    replace hc2 := hc2.ext hx3
    replace hc3 := hc3.ext hx3
    refine .tq (t_pickT rfl rfl) rfl ?_
    refine .as rfl rfl ?_
    refine .done ?_
    refine Wp.ret ?_
    refine ⟨[_],⟨rfl,trivial⟩,?_,hx⟩
    subst h1 h2 h3
    show Value.bool (decide (l1 = l2)) = _
    simp [Gc.er]
   ·skip
    refine Cl.enter Tryz.func66 rfl Tryz.ntmps66 rfl rfl ?_
    refine .sr ?_
    refine Rg.wd trivial (w_boxed rfl rfl) rfl ?_
    rintro _ w1 ⟨b2,rfl,q2,hx1,hv2⟩
    replace hx := hx.ext hx1
    replace hms := hms.ext hx1
    replace hns := hns.ext hx1
    have hc2 := hv2.cells
    clear hv2
    refine Rg.wd trivial (w_boxed rfl rfl) rfl ?_
    rintro _ w2 ⟨b3,rfl,q3,hx2,hv3⟩
    replace hx := hx.ext hx2
    replace hms := hms.ext hx2
    replace hns := hns.ext hx2
    replace hc2 := hc2.ext hx2
    have hc3 := hv3.cells
    clear hv3
    refine .as rfl rfl ?_
    refine .done ?_
    refine .sr ?_
    refine .tq (t_fieldAddr fa103_0 rfl) rfl ?_
    refine .tq (t_load ty3 rfl (by apply Cells.get (i := 0); (case h => assumption); rfl)) rfl ?_
    refine .tq (t_fieldAddr fa103_0 rfl) rfl ?_
    refine .tq (t_load ty3 rfl (by apply Cells.get (i := 0); (case h => assumption); rfl)) rfl ?_
    refine .tq (t_eqlT rfl rfl h1) rfl ?_
    refine .mv rfl rfl ?_
    first | refine .gd (t_fieldAddr fa103_1 rfl) rfl ?_ | refine .so rfl rfl ?_
    first | refine .gd (t_load ty3 rfl (by apply Cells.get (i := 1); (case h => assumption); rfl)) rfl ?_ | refine .so rfl rfl ?_
    first | refine .gd (t_fieldAddr fa103_1 rfl) rfl ?_ | refine .so rfl rfl ?_
    first | refine .gd (t_load ty3 rfl (by apply Cells.get (i := 1); (case h => assumption); rfl)) rfl ?_ | refine .so rfl rfl ?_
    refine .gd (t_eqlT rfl rfl h2) rfl ?_
    refine .tq (t_pickT rfl rfl) rfl ?_
    refine .mv rfl rfl ?_
    first | refine .gd (t_fieldAddr fa103_2 rfl) rfl ?_ | refine .so rfl rfl ?_
    first | refine .gd (t_load ty9 rfl (by apply Cells.get (i := 2); (case h => assumption); rfl)) rfl ?_ | refine .so rfl rfl ?_
    first | refine .gd (t_fieldAddr fa103_2 rfl) rfl ?_ | refine .so rfl rfl ?_
    first | refine .gd (t_load ty9 rfl (by apply Cells.get (i := 2); (case h => assumption); rfl)) rfl ?_ | refine .so rfl rfl ?_
    refine .gd (t_seqlF rfl rfl h3) rfl ?_
    refine .tq (t_pickT rfl rfl) rfl ?_
    refine .mv rfl rfl ?_
    refine .so rfl rfl ?_
    refine .so rfl rfl ?_
    refine .so rfl rfl ?_
    refine .so rfl rfl ?_
    refine .so rfl rfl ?_
    refine .tq (t_pickF rfl rfl) rfl ?_
    refine .as rfl rfl ?_
    refine .done ?_
    refine Wp.ret ?_
    exact ⟨[_],⟨rfl,trivial⟩,by rw [decide_eq_false (fun e => h3 (by injection e))]; rfl,hx⟩
  ·skip
   refine Cl.enter Tryz.func66 rfl Tryz.ntmps66 rfl rfl ?_
   refine .sr ?_
   refine Rg.wd trivial (w_boxed rfl rfl) rfl ?_
   rintro _ w1 ⟨b2,rfl,q2,hx1,hv2⟩
   replace hx := hx.ext hx1
   replace hms := hms.ext hx1
   replace hns := hns.ext hx1
   have hc2 := hv2.cells
   clear hv2
   refine Rg.wd trivial (w_boxed rfl rfl) rfl ?_
   rintro _ w2 ⟨b3,rfl,q3,hx2,hv3⟩
   replace hx := hx.ext hx2
   replace hms := hms.ext hx2
   replace hns := hns.ext hx2
   replace hc2 := hc2.ext hx2
   have hc3 := hv3.cells
   clear hv3
   refine .as rfl rfl ?_
   refine .done ?_
   refine .sr ?_
   refine .tq (t_fieldAddr fa103_0 rfl) rfl ?_
   refine .tq (t_load ty3 rfl (by apply Cells.get (i := 0); (case h => assumption); rfl)) rfl ?_
   refine .tq (t_fieldAddr fa103_0 rfl) rfl ?_
   refine .tq (t_load ty3 rfl (by apply Cells.get (i := 0); (case h => assumption); rfl)) rfl ?_
   refine .tq (t_eqlT rfl rfl h1) rfl ?_
   refine .mv rfl rfl ?_
   first | refine .gd (t_fieldAddr fa103_1 rfl) rfl ?_ | refine .so rfl rfl ?_
   first | refine .gd (t_load ty3 rfl (by apply Cells.get (i := 1); (case h => assumption); rfl)) rfl ?_ | refine .so rfl rfl ?_
   first | refine .gd (t_fieldAddr fa103_1 rfl) rfl ?_ | refine .so rfl rfl ?_
   first | refine .gd (t_load ty3 rfl (by apply Cells.get (i := 1); (case h => assumption); rfl)) rfl ?_ | refine .so rfl rfl ?_
   refine .gd (t_eqlF rfl rfl h2) rfl ?_
   refine .tq (t_pickT rfl rfl) rfl ?_
   refine .mv rfl rfl ?_
   refine .so rfl rfl ?_
   refine .so rfl rfl ?_
   refine .so rfl rfl ?_
   refine .so rfl rfl ?_
   refine .so rfl rfl ?_
   refine .tq (t_pickF rfl rfl) rfl ?_
   refine .mv rfl rfl ?_
   refine .so rfl rfl ?_
   refine .so rfl rfl ?_
   refine .so rfl rfl ?_
   refine .so rfl rfl ?_
   refine .so rfl rfl ?_
   refine .tq (t_pickF rfl rfl) rfl ?_
   refine .as rfl rfl ?_
   refine .done ?_
   refine Wp.ret ?_
   exact ⟨[_],⟨rfl,trivial⟩,by rw [decide_eq_false (fun e => h2 (by injection e))]; rfl,hx⟩
 ·skip
  refine Cl.enter Tryz.func66 rfl Tryz.ntmps66 rfl rfl ?_
  refine .sr ?_
  refine Rg.wd trivial (w_boxed rfl rfl) rfl ?_
  rintro _ w1 ⟨b2,rfl,q2,hx1,hv2⟩
  replace hx := hx.ext hx1
  replace hms := hms.ext hx1
  replace hns := hns.ext hx1
  have hc2 := hv2.cells
  clear hv2
  refine Rg.wd trivial (w_boxed rfl rfl) rfl ?_
  rintro _ w2 ⟨b3,rfl,q3,hx2,hv3⟩
  replace hx := hx.ext hx2
  replace hms := hms.ext hx2
  replace hns := hns.ext hx2
  replace hc2 := hc2.ext hx2
  have hc3 := hv3.cells
  clear hv3
  refine .as rfl rfl ?_
  refine .done ?_
  refine .sr ?_
  refine .tq (t_fieldAddr fa103_0 rfl) rfl ?_
  refine .tq (t_load ty3 rfl (by apply Cells.get (i := 0); (case h => assumption); rfl)) rfl ?_
  refine .tq (t_fieldAddr fa103_0 rfl) rfl ?_
  refine .tq (t_load ty3 rfl (by apply Cells.get (i := 0); (case h => assumption); rfl)) rfl ?_
  refine .tq (t_eqlF rfl rfl h1) rfl ?_
  refine .mv rfl rfl ?_
  refine .so rfl rfl ?_
  refine .so rfl rfl ?_
  refine .so rfl rfl ?_
  refine .so rfl rfl ?_
  refine .so rfl rfl ?_
  refine .tq (t_pickF rfl rfl) rfl ?_
  refine .mv rfl rfl ?_
  refine .so rfl rfl ?_
  refine .so rfl rfl ?_
  refine .so rfl rfl ?_
  refine .so rfl rfl ?_
  refine .so rfl rfl ?_
  refine .tq (t_pickF rfl rfl) rfl ?_
  refine .mv rfl rfl ?_
  refine .so rfl rfl ?_
  refine .so rfl rfl ?_
  refine .so rfl rfl ?_
  refine .so rfl rfl ?_
  refine .so rfl rfl ?_
  refine .tq (t_pickF rfl rfl) rfl ?_
  refine .as rfl rfl ?_
  refine .done ?_
  refine Wp.ret ?_
  exact ⟨[_],⟨rfl,trivial⟩,by rw [decide_eq_false (fun e => h1 (by injection e))]; rfl,hx⟩
theorem clo65_ok {Q R : Fs} {w : World} {m n : Gc} {b : Nat} (hm : NOk Q w m) (hn : NOk R w n) (hv : Var w b n.cells 103) (hlen : m.kids.length < 4611686018427387904) :
  Cl Tryz.prog 65 #[.agg m.cells.toArray,.pointer (some ⟨b,0,none⟩)] w (fun u w' => u = .bool (decide (m.er = n.er)) ∧ Ext w w') := by
 have hx := Ext.refl w
 have hcv := hv.cells
 refine Cl.enter Tryz.func65 rfl Tryz.ntmps65 rfl rfl ?_
 refine .sr ?_
 refine Rg.wd trivial (w_boxed rfl rfl) rfl ?_
 rintro _ w1 ⟨b2,rfl,q2,hx1,hv2⟩
 replace hx := hx.ext hx1
 replace hm := hm.ext hx1
 replace hn := hn.ext hx1
 replace hcv := hcv.ext hx1
 have hc2 := hv2.cells
 clear hv2
 refine .as rfl rfl ?_
 refine .done ?_
 refine .sr ?_
 refine .tq (t_loadA rfl hc2 (by exact ty103)) rfl ?_
 refine .tq (t_loadA rfl hcv (by exact ty103)) rfl ?_
 refine Rg.wd trivial (w_call Tryz.call66 rfl (equal_ok hm hn hlen)) rfl ?_
 rintro _ w2 ⟨rfl,hx2⟩
 replace hx := hx.ext hx2
 replace hm := hm.ext hx2
 replace hn := hn.ext hx2
 replace hcv := hcv.ext hx2
 replace hc2 := hc2.ext hx2
 refine .as rfl rfl ?_
 refine .done ?_
 refine Wp.ret ?_
 exact ⟨[_],⟨rfl,trivial⟩,rfl,hx⟩
theorem clo68_ok {Q R : Fs} {w : World} {m n : Gc} {b : Nat} (hm : NOk Q w m) (hn : NOk R w n) (hv : Var w b n.cells 103) (hlen : m.kids.length < 4611686018427387904) :
  Cl Tryz.prog 68 #[.agg m.cells.toArray,.pointer (some ⟨b,0,none⟩)] w (fun u w' => u = .bool (decide (m.er = n.er)) ∧ Ext w w') := by
 have hx := Ext.refl w
 have hcv := hv.cells
 refine Cl.enter Tryz.func68 rfl Tryz.ntmps68 rfl rfl ?_
 refine .sr ?_
 refine Rg.wd trivial (w_boxed rfl rfl) rfl ?_
 rintro _ w1 ⟨b2,rfl,q2,hx1,hv2⟩
 replace hx := hx.ext hx1
 replace hm := hm.ext hx1
 replace hn := hn.ext hx1
 replace hcv := hcv.ext hx1
 have hc2 := hv2.cells
 clear hv2
 refine .as rfl rfl ?_
 refine .done ?_
 refine .sr ?_
 refine .tq (t_loadA rfl hc2 (by exact ty103)) rfl ?_
 refine .tq (t_loadA rfl hcv (by exact ty103)) rfl ?_
 refine Rg.wd trivial (w_call Tryz.call66 rfl (equal_ok hm hn hlen)) rfl ?_
 rintro _ w2 ⟨rfl,hx2⟩
 replace hx := hx.ext hx2
 replace hm := hm.ext hx2
 replace hn := hn.ext hx2
 replace hcv := hcv.ext hx2
 replace hc2 := hc2.ext hx2
 refine .as rfl rfl ?_
 refine .done ?_
 refine Wp.ret ?_
 exact ⟨[_],⟨rfl,trivial⟩,rfl,hx⟩
theorem idxG_ok {w : World} {v : Value} {a : List Gc} {f : FuncId} {fst cap : List Value} {p : Gc → Bool} (hs0 : SlC w v 4 a.length (encs Gc.cells a)) (hcf : ∀ (args : Array Value) (w : World),(callFunc f args).run Tryz.prog w = .ok (.enter f args) w)
  (hp : ∀ w1,Ext w w1 → ∀ m ∈ a,Cl Tryz.prog f (fst ++ ([.agg (Gc.cells m).toArray] : List Value) ++ cap).toArray w1 (fun u w2 => u = .bool (p m) ∧ Ext w1 w2)) (hlen : a.length < 4611686018427387904) :
  Cl Tryz.prog 64 #[v,.func (.func f) fst.toArray cap.toArray] w (fun u w' => u = .int .i64 (idx (a.findIdx? p)) ∧ Ext w w') := by
 have hx := Ext.refl w
 refine Cl.enter Tryz.func64 rfl Tryz.ntmps64 rfl rfl ?_
 refine .sr ?_
 refine .as rfl rfl ?_
 refine .done ?_
 refine .seq ?_
 refine .sr ?_
 refine .mv rfl rfl ?_
 refine .tq (t_lenC hs0 Tryz.underlying30 rfl) rfl ?_
 refine .mv rfl rfl ?_
 refine .done ?_
 refine Wp.block ?_
 refine Wp.loop (ι := Nat) (fun k => [(0,v),(1,.func (.func f) fst.toArray cap.toArray),(7,.int .i64 a.length),(8,.int .i64 k)])
  (fun k w' => k ≤ a.length ∧ (∀ j (h : j < a.length),j < k → p a[j] = false) ∧ Ext w w') (fun k => a.length - k) 0 (by repeat (first | exact .nil | refine .cons rfl ?_)) ⟨Nat.zero_le _,fun j _ h => absurd h (Nat.not_lt_zero _),hx⟩ ?_
 clear hx
 rintro k w3 ⟨hk,hno,hx⟩
 by_cases hlt : k < a.length
 ·cases hpk : p a[k] with
  | true =>
   refine .sr ?_
   first | refine .tq (t_lssT rfl rfl (by omega)) rfl ?_ | refine .tq (t_lssF rfl rfl (by omega)) rfl ?_ | refine .tq (t_lss rfl rfl) rfl ?_
   refine .done ?_
   refine .seq ?_
   refine .condT rfl ?_
   refine Wp.skip ?_
   refine .seq ?_
   refine Wp.block ?_
   refine .sr ?_
   refine .mv rfl rfl ?_
   refine .as rfl rfl ?_
   refine .done ?_
   refine .sr ?_
   refine .mv rfl rfl ?_
   refine .mv rfl rfl ?_
   refine .mv rfl rfl ?_
   refine Rg.ix hs0 trivial rfl rfl Tryz.underlying30 ty103 (by omega) rfl ?_
   intro bt14 ot14 ht14
   replace ht14 := ht14.ext hx
   rw [Int.toNat_natCast,encs_at Gc.len a k hlt] at ht14
   refine .tq (t_loadA rfl ht14 (by exact ty103)) rfl ?_
   refine Rg.wd trivial (w_callG rfl hcf rfl (vs := [.agg (Gc.cells a[k]).toArray]) (hp _ hx a[k] (List.getElem_mem hlt))) rfl ?_
   rintro _ w1 ⟨rfl,hx1⟩
   replace hx := hx.ext hx1
   replace ht14 := ht14.ext hx1
   rw [hpk]
   refine .done ?_
   refine .condT rfl ?_
   refine .sr ?_
   refine .mv rfl rfl ?_
   refine .as rfl rfl ?_
   refine .done ?_
   refine Wp.ret ?_
   exact ⟨[_],⟨rfl,trivial⟩,by rw [List.findIdx?_eq_some_iff_getElem.2 ⟨hlt,hpk,fun j hj => by rw [hno j (by omega) hj]; decide⟩]; rfl,hx⟩
  | false =>
   refine .sr ?_
   first | refine .tq (t_lssT rfl rfl (by omega)) rfl ?_ | refine .tq (t_lssF rfl rfl (by omega)) rfl ?_ | refine .tq (t_lss rfl rfl) rfl ?_
   refine .done ?_
   refine .seq ?_
   refine .condT rfl ?_
   refine Wp.skip ?_
   refine .seq ?_
   refine Wp.block ?_
   refine .sr ?_
   refine .mv rfl rfl ?_
   refine .as rfl rfl ?_
   refine .done ?_
   refine .sr ?_
   refine .mv rfl rfl ?_
   refine .mv rfl rfl ?_
   refine .mv rfl rfl ?_
   refine Rg.ix hs0 trivial rfl rfl Tryz.underlying30 ty103 (by omega) rfl ?_
   intro bt14 ot14 ht14
   replace ht14 := ht14.ext hx
   rw [Int.toNat_natCast,encs_at Gc.len a k hlt] at ht14
   refine .tq (t_loadA rfl ht14 (by exact ty103)) rfl ?_
   refine Rg.wd trivial (w_callG rfl hcf rfl (vs := [.agg (Gc.cells a[k]).toArray]) (hp _ hx a[k] (List.getElem_mem hlt))) rfl ?_
   rintro _ w1 ⟨rfl,hx1⟩
   replace hx := hx.ext hx1
   replace ht14 := ht14.ext hx1
   rw [hpk]
   refine .done ?_
   refine .condF rfl ?_
   refine Wp.skip ?_
   refine Wp.region ?_
   first | refine .tq (t_addI rfl rfl (by omega)) rfl ?_ | refine .tq (t_add rfl rfl) rfl ?_
   refine .mv rfl rfl ?_
   refine .done ?_
   exact ⟨k + 1,by repeat (first | exact .nil | refine .cons rfl ?_),⟨hlt,fun j h hj => by rcases Nat.lt_succ_iff_lt_or_eq.1 hj with c | c; exact hno j h c; subst c; exact hpk,hx⟩,by omega⟩
 ·skip
  refine .sr ?_
  first | refine .tq (t_lssT rfl rfl (by omega)) rfl ?_ | refine .tq (t_lssF rfl rfl (by omega)) rfl ?_ | refine .tq (t_lss rfl rfl) rfl ?_
  refine .done ?_
  refine .seq ?_
  refine .condF rfl ?_
  refine Wp.exit ?_
  refine .sr ?_
  refine .as rfl rfl ?_
  refine .done ?_
  refine Wp.ret ?_
  exact ⟨[_],⟨rfl,trivial⟩,by rw [List.findIdx?_eq_none_iff.2 fun x hx => by obtain ⟨j,hj,rfl⟩ := List.getElem_of_mem hx; exact hno j hj (by omega)]; rfl,hx⟩
theorem hasG_ok {w : World} {v : Value} {a : List Gc} {f : FuncId} {fst cap : List Value} {p : Gc → Bool} (hs0 : SlC w v 4 a.length (encs Gc.cells a)) (hcf : ∀ (args : Array Value) (w : World),(callFunc f args).run Tryz.prog w = .ok (.enter f args) w)
  (hp : ∀ w1,Ext w w1 → ∀ m ∈ a,Cl Tryz.prog f (fst ++ ([.agg (Gc.cells m).toArray] : List Value) ++ cap).toArray w1 (fun u w2 => u = .bool (p m) ∧ Ext w1 w2)) (hlen : a.length < 4611686018427387904) (hno : ∀ m ∈ a,p m = false) :
  Cl Tryz.prog 67 #[v,.func (.func f) fst.toArray cap.toArray] w (fun u w' => u = .bool false ∧ Ext w w') := by
 have hx := Ext.refl w
 refine Cl.enter Tryz.func67 rfl Tryz.ntmps67 rfl rfl ?_
 refine .sr ?_
 refine .as rfl rfl ?_
 refine .done ?_
 refine .sr ?_
 refine .mv rfl rfl ?_
 refine .mv rfl rfl ?_
 refine Rg.wd trivial (w_call Tryz.call64 rfl (idxG_ok hs0 hcf hp hlen)) rfl ?_
 rintro _ w1 ⟨rfl,hx1⟩
 replace hx := hx.ext hx1
 rw [List.findIdx?_eq_none_iff.2 hno]
 refine .tq (t_geqF rfl rfl (by decide)) rfl ?_
 refine .as rfl rfl ?_
 refine .done ?_
 refine Wp.ret ?_
 exact ⟨[_],⟨rfl,trivial⟩,rfl,hx⟩
end Go.Proofs.YtcelfjbajdffkaaGreatDoor.Par
namespace Go.Proofs.YtcelfjbajdffkaaGreatDoor.Par
set_option maxRecDepth 20000
open Go.Gx Go.RowKit Go.Lib
open Lexi (Asc)
structure ArOk (Q : Fs) (w : World) (v : Value) (a : List Gc) : Prop where
 slc : SlC w v 4 a.length (encs Gc.cells a)
 ok : ∀ n ∈ a,NOk Q w n
 inn : blkIn Q v
 one : v.oneCell' = true
 nil : a = [] → v = .slice none 0 0
def ers (a : List Gc) : List Gn := a.map Gc.er
theorem ers_len (a : List Gc) : (ers a).length = a.length := by simp [ers]
theorem ers_at {a : List Gc} {i : Nat} (h : i < a.length) : (ers a)[i]? = some a[i].er := by simp [ers,h]
theorem ArOk.ext {Q : Fs} {w w' : World} {v : Value} {a : List Gc} (h : ArOk Q w v a) (x : Ext w w') : ArOk Q w' v a := ⟨h.slc.ext x,fun n hn => (h.ok n hn).ext x,h.inn,h.one,h.nil⟩
theorem ArOk.bw {Q R : Fs} {w w' : World} {v : Value} {a : List Gc} (h : ArOk Q w v a) (k : Bw R w w') (hs : ∀ z,Q z → R z) : ArOk R w' v a := ⟨slC_bw h.slc k (h.inn.mono hs),fun n hn => (h.ok n hn).bw k hs,h.inn.mono hs,h.one,h.nil⟩
theorem wd_at {a : List Gc} {c : Nat} (h : c < a.length) : wd (ers a) c = a[c].width := by
 unfold wd
 rw [ers_at h]
 rfl
theorem wsum_take {a : List Gn} (hv : Valid a) (l : List Nat) (k : Nat) : wsum a (l.take k) ≤ wsum a l := by
 have := wsum_app (a := a) (l := l.take k) (m := l.drop k)
 rw [List.take_append_drop] at this
 have := wsum_nonneg hv (l.drop k)
 omega
theorem t_sneqF {P : Program} {n : Nat} {L : Env} {w : World} {d : Option Tmp} {ty : TypeId} {pos : String} {af : Array Edge} {g : Option (Nat × Bool)} {t t' : TypeId} {x y : Operand} {u v : ByteArray} (hx : evO L x = some (.string u)) (hy : evO L y = some (.string v)) (h : u = v) : Tm P n ⟨d,.binOp .neq t x y t',ty,pos,af,g⟩ L w (.bool false) := by
 have := t_sneq (P := P) (n := n) (w := w) (d := d) (ty := ty) (pos := pos) (af := af) (g := g) (t := t) (t' := t') hx hy
 rwa [decide_eq_true h] at this
theorem t_sneqT {P : Program} {n : Nat} {L : Env} {w : World} {d : Option Tmp} {ty : TypeId} {pos : String} {af : Array Edge} {g : Option (Nat × Bool)} {t t' : TypeId} {x y : Operand} {u v : ByteArray} (hx : evO L x = some (.string u)) (hy : evO L y = some (.string v)) (h : u ≠ v) : Tm P n ⟨d,.binOp .neq t x y t',ty,pos,af,g⟩ L w (.bool true) := by
 have := t_sneq (P := P) (n := n) (w := w) (d := d) (ty := ty) (pos := pos) (af := af) (g := g) (t := t) (t' := t') hx hy
 rwa [decide_eq_false h] at this
theorem encs_take4 (l : List Gc) (i : Nat) : (encs Gc.cells l).take (i * 4) = encs Gc.cells (l.take i) := by
 induction l generalizing i with
 | nil => simp [encs]
 | cons a l ih =>
  cases i with
  | zero => simp [encs]
  | succ i =>
   rw [show encs Gc.cells (a :: l) = a.cells ++ encs Gc.cells l from List.flatMap_cons,List.take_succ_cons,show encs Gc.cells (a :: l.take i) = a.cells ++ encs Gc.cells (l.take i) from List.flatMap_cons,Nat.add_mul,Nat.one_mul,Nat.add_comm (i * 4) 4,← ih i]
   rw [show 4 = a.cells.length from rfl,List.take_length_add_append]
theorem isValid_ok {Q : Fs} {w : World} {v : Value} {a : List Gc} {i : Nat} (hA : ArOk Q w v a) (hv : Valid (ers a)) (hl : a.length ≤ 4000) (hi : i < a.length) :
  Cl Tryz.prog 33 #[v,.int .i64 i] w (fun u w' => u = .bool true ∧ Ext w w') := by
 have hx := Ext.refl w
 have hN := hv.node i _ (ers_at hi)
 have hs0 := hA.slc
 have hnd := hv.nodup
 have hni := hA.ok _ (List.getElem_mem hi)
 have hfew := hni.few
 obtain ⟨nd,hnd2⟩ : ∃ nd,a[i] = nd := ⟨_,rfl⟩
 rw [hnd2] at hN hni hfew
 have hcs0 := hni.slc
 refine Cl.enter Tryz.func33 rfl Tryz.ntmps33 rfl rfl ?_
 refine .sr ?_
 refine .as rfl rfl ?_
 refine .done ?_
 refine .sr ?_
 refine .mv rfl rfl ?_
 refine .mv rfl rfl ?_
 refine Rg.ix hs0 trivial rfl rfl Tryz.underlying30 ty103 (by omega) rfl ?_
 intro bt12 ot12 ht12
 replace ht12 := ht12.ext hx
 rw [Int.toNat_natCast,encs_at Gc.len a i hi,hnd2] at ht12
 refine .tq (t_loadA rfl ht12 (by exact ty103)) rfl ?_
 refine Rg.wd trivial (w_new Tryz.zeroValue103 rfl) rfl ?_
 rintro _ wa ⟨b5,rfl,qb5,hxa,hva⟩
 refine Rg.wn trivial (w_put hva rfl rfl rfl ty103 rfl (by simp only [Gc.cells,List.all_cons,hni.one,List.all_nil]; rfl)) ?_
 rintro _ w1 ⟨hu,hvb5⟩
 have hx1 := hxa.upd hu (Nat.le_of_eq qb5.symm)
 replace hx := hx.ext hx1
 clear hva hu
 have hcb5 := hvb5.cells
 refine .done ?_
 refine .sr ?_
 refine .tq (t_fieldAddr fa103_2 rfl) rfl ?_
 refine .tq (t_load ty9 rfl (Cells.get (i := 2) hcb5 rfl)) rfl ?_
 refine .tq (t_len Tryz.underlying9 rfl) rfl ?_
 refine .as rfl rfl ?_
 refine .done ?_
 refine .seq ?_
 refine .sr ?_
 refine .tq (t_fieldAddr fa103_3 rfl) rfl ?_
 refine .tq (t_load ty51 rfl (Cells.get (i := 3) hcb5 rfl)) rfl ?_
 refine .tq (t_lenC hcs0 Tryz.underlying51 rfl) rfl ?_
 refine .mv rfl rfl ?_
 refine .done ?_
 refine Wp.block ?_
 have hwid := hN.width
 have hsm := hN.small
 have hfm := hN.form
 refine Wp.loop (ι := Nat) (fun k => [(0,v),(1,.int .i64 i),(5,.pointer (some ⟨b5,0,none⟩)),(6,.int .i64 (nd.text.size + wsum (ers a) (nd.kids.take k))),(18,nd.cv),(19,.int .i64 nd.kids.length),(20,.int .i64 k)])
  (fun k w' => k ≤ nd.kids.length ∧ Ext w w' ∧ Var w' b5 nd.cells 103) (fun k => nd.kids.length - k) 0 (by simp only [List.take_zero,wsum,List.map_nil,List.sum_nil,Int.add_zero]; repeat (first | exact .nil | refine .cons rfl ?_)) ⟨Nat.zero_le _,hx,hvb5⟩ ?_
 clear hx hvb5 hcb5
 rintro k w3 ⟨hk,hx,hvb5⟩
 have hcb5 := hvb5.cells
 by_cases hlt : k < nd.kids.length
 ·have hck : nd.kids[k] < i := hN.below _ (List.getElem_mem hlt)
  have hckl : nd.kids[k] < a.length := Nat.lt_trans hck hi
  have hpar := wsum_take hv nd.kids k
  have hpar1 := wsum_take hv nd.kids (k + 1)
  have hstep : wsum (ers a) (nd.kids.take (k + 1)) = wsum (ers a) (nd.kids.take k) + a[nd.kids[k]].width := by
   rw [List.take_succ_eq_append_getElem hlt,wsum_app,← wd_at hckl]
   simp [wsum]
  have hpar0 := wsum_nonneg hv (nd.kids.take k)
  have hpar2 := wsum_nonneg hv (nd.kids.take (k + 1))
  simp only [Gc.er] at hwid hsm
  refine .sr ?_
  first | refine .tq (t_lssT rfl rfl (by omega)) rfl ?_ | refine .tq (t_lssF rfl rfl (by omega)) rfl ?_ | refine .tq (t_lss rfl rfl) rfl ?_
  refine .done ?_
  refine .seq ?_
  refine .condT rfl ?_
  refine Wp.skip ?_
  refine .seq ?_
  refine Wp.block ?_
  refine .sr ?_
  refine Rg.ix hcs0 trivial rfl rfl Tryz.underlying51 ty3 (by omega) rfl ?_
  intro bt22 ot22 ht22
  replace ht22 := ht22.ext hx
  rw [Int.toNat_natCast,ints_at nd.kids k hlt] at ht22
  refine .tq (t_load ty3 rfl (Cells.get (i := 0) ht22 rfl)) rfl ?_
  refine .as rfl rfl ?_
  refine .done ?_
  refine .seq ?_
  refine .sr ?_
  refine .mv rfl rfl ?_
  first | refine .tq (t_lssT rfl rfl (by omega)) rfl ?_ | refine .tq (t_lssF rfl rfl (by omega)) rfl ?_ | refine .tq (t_lss rfl rfl) rfl ?_
  refine .mv rfl rfl ?_
  first | refine .gd (t_move rfl) rfl ?_ | refine .so rfl rfl ?_
  first | refine .gd (t_move rfl) rfl ?_ | refine .so rfl rfl ?_
  first | refine .gd (t_geqT rfl rfl (by omega)) rfl ?_ | refine .gd (t_geqF rfl rfl (by omega)) rfl ?_ | refine .gd (t_geq rfl rfl) rfl ?_ | refine .so rfl rfl ?_
  first | refine .tq (t_pickT rfl rfl) rfl ?_ | refine .tq (t_pickF rfl rfl) rfl ?_
  refine .done ?_
  refine .condF rfl ?_
  refine Wp.skip ?_
  refine Wp.region ?_
  refine .mv rfl rfl ?_
  refine .mv rfl rfl ?_
  refine .mv rfl rfl ?_
  refine Rg.ix hs0 trivial rfl rfl Tryz.underlying30 ty103 (by omega) rfl ?_
  intro bt34 ot34 ht34
  replace ht34 := ht34.ext hx
  rw [Int.toNat_natCast,encs_at Gc.len a _ hckl] at ht34
  refine .tq (t_fieldAddr fa103_1 rfl) rfl ?_
  refine .tq (t_load ty3 rfl (Cells.get (i := 1) ht34 rfl)) rfl ?_
  refine .tq (t_addI rfl rfl (by omega)) rfl ?_
  refine .as rfl rfl ?_
  refine .done ?_
  refine Wp.region ?_
  first | refine .tq (t_addI rfl rfl (by omega)) rfl ?_ | refine .tq (t_add rfl rfl) rfl ?_
  refine .mv rfl rfl ?_
  refine .done ?_
  exact ⟨k + 1,by rw [hstep,← Int.add_assoc]; repeat (first | exact .nil | refine .cons rfl ?_),⟨hlt,hx,hvb5⟩,by omega⟩
 ·have hkl : k = nd.kids.length := by omega
  subst hkl
  by_cases h100 : 100 ≤ nd.kind
  ·rw [if_pos (by exact h100)] at hfm
   simp only [Gc.er] at hfm hwid
   have hk0 : nd.kids.length = 0 := by rw [hfm]; rfl
   refine .sr ?_
   first | refine .tq (t_lssT rfl rfl (by omega)) rfl ?_ | refine .tq (t_lssF rfl rfl (by omega)) rfl ?_ | refine .tq (t_lss rfl rfl) rfl ?_
   refine .done ?_
   refine .seq ?_
   refine .condF rfl ?_
   refine Wp.exit ?_
   refine .sr ?_
   refine .tq (t_fieldAddr fa103_0 rfl) rfl ?_
   refine .tq (t_load ty3 rfl (Cells.get (i := 0) hcb5 rfl)) rfl ?_
   refine .tq (t_geqT rfl rfl (by omega)) rfl ?_
   refine .as rfl rfl ?_
   refine .done ?_
   refine .seq ?_
   refine .sr ?_
   refine .tq (t_fieldAddr fa103_1 rfl) rfl ?_
   refine .tq (t_load ty3 rfl (Cells.get (i := 1) hcb5 rfl)) rfl ?_
   refine .mv rfl rfl ?_
   rw [List.take_length]
   refine .tq (t_neqF rfl rfl hwid) rfl ?_
   refine .mv rfl rfl ?_
   first | refine .gd (t_move rfl) rfl ?_ | refine .so rfl rfl ?_
   first | refine .gd (t_move rfl) rfl ?_ | refine .so rfl rfl ?_
   first | refine .gd (t_fieldAddr fa103_3 rfl) rfl ?_ | refine .so rfl rfl ?_
   refine .gd (t_load ty51 rfl (Cells.get (i := 3) hcb5 rfl)) rfl ?_
   first | refine .gd (t_lenC hcs0 Tryz.underlying51 rfl) rfl ?_ | refine .so rfl rfl ?_
   first | refine .gd (t_gtrT rfl rfl (by omega)) rfl ?_ | refine .gd (t_gtrF rfl rfl (by omega)) rfl ?_ | refine .gd (t_gtr rfl rfl) rfl ?_ | refine .so rfl rfl ?_
   first | refine .gd (t_pickT rfl rfl) rfl ?_ | refine .gd (t_pickF rfl rfl) rfl ?_ | refine .so rfl rfl ?_
   first | refine .tq (t_pickT rfl rfl) rfl ?_ | refine .tq (t_pickF rfl rfl) rfl ?_
   refine .mv rfl rfl ?_
   first | refine .gd (t_move rfl) rfl ?_ | refine .so rfl rfl ?_
   first | refine .gd (t_notB rfl) rfl ?_ | refine .so rfl rfl ?_
   first | refine .gd (t_move rfl) rfl ?_ | refine .so rfl rfl ?_
   refine .so rfl rfl ?_
   refine .so rfl rfl ?_
   refine .so rfl rfl ?_
   first | refine .gd (t_pickT rfl rfl) rfl ?_ | refine .gd (t_pickF rfl rfl) rfl ?_ | refine .so rfl rfl ?_
   first | refine .tq (t_pickT rfl rfl) rfl ?_ | refine .tq (t_pickF rfl rfl) rfl ?_
   refine .done ?_
   refine .condF rfl ?_
   refine Wp.skip ?_
   refine .sr ?_
   refine .mv rfl rfl ?_
   refine .mv rfl rfl ?_
   refine Rg.sl hs0 trivial rfl Tryz.underlying30 ty103 rfl rfl (by omega) rfl ?_
   intro vt66 ht660
   have hs66 : SlC w vt66 4 (a.take i).length (encs Gc.cells (a.take i)) := by
    have := ht660
    rw [show (i : Int).toNat - Int.toNat 0 = i from by omega,show Int.toNat 0 * 4 = 0 from rfl,List.drop_zero,encs_take4] at this
    rwa [show (a.take i).length = i from by rw [List.length_take]; omega]
   refine .tq (t_makeFuncB (us := []) (vs := [.pointer (some ⟨b5,0,none⟩)]) rfl rfl) rfl ?_
   have hnone : ∀ m ∈ a.take i,decide (m.er = nd.er) = false := fun m hm => decide_eq_false fun e => by
    obtain ⟨j,hj,rfl⟩ := List.getElem_of_mem hm
    have hji : j < i := by simp at hj; omega
    have hja : j < a.length := by omega
    have key := List.pairwise_iff_getElem.1 hnd j i (by rw [ers_len]; exact hja) (by rw [ers_len]; exact hi) hji
    apply key
    simp only [ers,List.getElem_map]
    rw [List.getElem_take] at e
    rw [hnd2]
    exact e
   refine Rg.wd trivial (w_call Tryz.call67 rfl (hasG_ok (p := fun m => decide (m.er = nd.er)) (f := 68) (fst := []) (cap := [.pointer (some ⟨b5,0,none⟩)]) (hs66.ext hx) Tryz.call68 (fun w9 hx9 m hm => clo68_ok ((hA.ok m (List.mem_of_mem_take hm)).ext (hx.ext hx9)) (hni.ext (hx.ext hx9)) (hvb5.ext hx9) (by have := (hA.ok m (List.mem_of_mem_take hm)).few; omega)) (by rw [List.length_take]; omega) hnone)) rfl ?_
   rintro _ w2 ⟨rfl,hx2⟩
   replace hx := hx.ext hx2
   replace hvb5 := hvb5.ext hx2
   replace hcb5 := hcb5.ext hx2
   refine .tq (t_notB rfl) rfl ?_
   refine .as rfl rfl ?_
   refine .done ?_
   refine Wp.ret ?_
   exact ⟨[_],⟨rfl,trivial⟩,rfl,hx⟩
  ·rw [if_neg (by exact h100)] at hfm
   simp only [Gc.er] at hfm hwid
   refine .sr ?_
   first | refine .tq (t_lssT rfl rfl (by omega)) rfl ?_ | refine .tq (t_lssF rfl rfl (by omega)) rfl ?_ | refine .tq (t_lss rfl rfl) rfl ?_
   refine .done ?_
   refine .seq ?_
   refine .condF rfl ?_
   refine Wp.exit ?_
   refine .sr ?_
   refine .tq (t_fieldAddr fa103_0 rfl) rfl ?_
   refine .tq (t_load ty3 rfl (Cells.get (i := 0) hcb5 rfl)) rfl ?_
   refine .tq (t_geqF rfl rfl (by omega)) rfl ?_
   refine .as rfl rfl ?_
   refine .done ?_
   refine .seq ?_
   refine .sr ?_
   refine .tq (t_fieldAddr fa103_1 rfl) rfl ?_
   refine .tq (t_load ty3 rfl (Cells.get (i := 1) hcb5 rfl)) rfl ?_
   refine .mv rfl rfl ?_
   rw [List.take_length]
   refine .tq (t_neqF rfl rfl hwid) rfl ?_
   refine .mv rfl rfl ?_
   first | refine .gd (t_move rfl) rfl ?_ | refine .so rfl rfl ?_
   first | refine .gd (t_move rfl) rfl ?_ | refine .so rfl rfl ?_
   refine .so rfl rfl ?_
   refine .so rfl rfl ?_
   refine .so rfl rfl ?_
   refine .so rfl rfl ?_
   first | refine .gd (t_pickT rfl rfl) rfl ?_ | refine .gd (t_pickF rfl rfl) rfl ?_ | refine .so rfl rfl ?_
   first | refine .tq (t_pickT rfl rfl) rfl ?_ | refine .tq (t_pickF rfl rfl) rfl ?_
   refine .mv rfl rfl ?_
   first | refine .gd (t_move rfl) rfl ?_ | refine .so rfl rfl ?_
   first | refine .gd (t_notB rfl) rfl ?_ | refine .so rfl rfl ?_
   first | refine .gd (t_move rfl) rfl ?_ | refine .so rfl rfl ?_
   first | refine .gd (t_fieldAddr fa103_2 rfl) rfl ?_ | refine .so rfl rfl ?_
   refine .gd (t_load ty9 rfl (Cells.get (i := 2) hcb5 rfl)) rfl ?_
   refine .gd (t_sneqF rfl rfl hfm) rfl ?_
   first | refine .gd (t_pickT rfl rfl) rfl ?_ | refine .gd (t_pickF rfl rfl) rfl ?_ | refine .so rfl rfl ?_
   first | refine .tq (t_pickT rfl rfl) rfl ?_ | refine .tq (t_pickF rfl rfl) rfl ?_
   refine .done ?_
   refine .condF rfl ?_
   refine Wp.skip ?_
   refine .sr ?_
   refine .mv rfl rfl ?_
   refine .mv rfl rfl ?_
   refine Rg.sl hs0 trivial rfl Tryz.underlying30 ty103 rfl rfl (by omega) rfl ?_
   intro vt66 ht660
   have hs66 : SlC w vt66 4 (a.take i).length (encs Gc.cells (a.take i)) := by
    have := ht660
    rw [show (i : Int).toNat - Int.toNat 0 = i from by omega,show Int.toNat 0 * 4 = 0 from rfl,List.drop_zero,encs_take4] at this
    rwa [show (a.take i).length = i from by rw [List.length_take]; omega]
   refine .tq (t_makeFuncB (us := []) (vs := [.pointer (some ⟨b5,0,none⟩)]) rfl rfl) rfl ?_
   have hnone : ∀ m ∈ a.take i,decide (m.er = nd.er) = false := fun m hm => decide_eq_false fun e => by
    obtain ⟨j,hj,rfl⟩ := List.getElem_of_mem hm
    have hji : j < i := by simp at hj; omega
    have hja : j < a.length := by omega
    have key := List.pairwise_iff_getElem.1 hnd j i (by rw [ers_len]; exact hja) (by rw [ers_len]; exact hi) hji
    apply key
    simp only [ers,List.getElem_map]
    rw [List.getElem_take] at e
    rw [hnd2]
    exact e
   refine Rg.wd trivial (w_call Tryz.call67 rfl (hasG_ok (p := fun m => decide (m.er = nd.er)) (f := 68) (fst := []) (cap := [.pointer (some ⟨b5,0,none⟩)]) (hs66.ext hx) Tryz.call68 (fun w9 hx9 m hm => clo68_ok ((hA.ok m (List.mem_of_mem_take hm)).ext (hx.ext hx9)) (hni.ext (hx.ext hx9)) (hvb5.ext hx9) (by have := (hA.ok m (List.mem_of_mem_take hm)).few; omega)) (by rw [List.length_take]; omega) hnone)) rfl ?_
   rintro _ w2 ⟨rfl,hx2⟩
   replace hx := hx.ext hx2
   replace hvb5 := hvb5.ext hx2
   replace hcb5 := hcb5.ext hx2
   refine .tq (t_notB rfl) rfl ?_
   refine .as rfl rfl ?_
   refine .done ?_
   refine Wp.ret ?_
   exact ⟨[_],⟨rfl,trivial⟩,rfl,hx⟩
end Go.Proofs.YtcelfjbajdffkaaGreatDoor.Par
namespace Go.Proofs.YtcelfjbajdffkaaGreatDoor.Par
set_option maxRecDepth 20000
open Go.Gx Go.RowKit Go.Lib
open Lexi (Asc)
theorem validateA_ok {Q : Fs} {w : World} {v : Value} {a : List Gc} (hA : ArOk Q w v a) (hv : Valid (ers a)) (hl : a.length ≤ 4000) :
  Cl Tryz.prog 15 #[.agg #[v]] w (fun u w' => u = .int .i64 0 ∧ Ext w w') := by
 have hx := Ext.refl w
 have hs0 := hA.slc
 have hone := hA.one
 refine Cl.enter Tryz.func15 rfl Tryz.ntmps15 rfl rfl ?_
 refine .sr ?_
 refine Rg.wd trivial (w_boxed (cs := [v]) rfl rfl) rfl ?_
 rintro _ w1 ⟨b1,rfl,q1,hx1,hv1⟩
 replace hx := hx.ext hx1
 have hc1 := hv1.cells
 clear hv1
 refine .as rfl rfl ?_
 refine .done ?_
 refine .seq ?_
 refine .sr ?_
 refine .tq (t_fieldAddr fa32_0 rfl) rfl ?_
 refine .tq (t_load ty30 rfl (by apply Cells.get (i := 0); (case h => assumption); rfl)) rfl ?_
 refine .tq (t_lenC hs0 Tryz.underlying30 rfl) rfl ?_
 first | refine .tq (t_gtrT rfl rfl (by omega)) rfl ?_ | refine .tq (t_gtrF rfl rfl (by omega)) rfl ?_ | refine .tq (t_gtr rfl rfl) rfl ?_
 refine .done ?_
 refine .condF rfl ?_
 refine Wp.skip ?_
 refine .seq ?_
 refine .sr ?_
 refine .tq (t_fieldAddr fa32_0 rfl) rfl ?_
 refine .tq (t_load ty30 rfl (by apply Cells.get (i := 0); (case h => assumption); rfl)) rfl ?_
 refine .tq (t_lenC hs0 Tryz.underlying30 rfl) rfl ?_
 refine .mv rfl rfl ?_
 refine .done ?_
 refine Wp.block ?_
 refine Wp.loop (ι := Nat) (fun k => [(1,.pointer (some ⟨b1,0,none⟩)),(10,.int .i64 a.length),(11,.int .i64 k)])
  (fun k w' => k ≤ a.length ∧ Ext w w' ∧ Cells w' b1 0 [v]) (fun k => a.length - k) 0 (by repeat (first | exact .nil | refine .cons rfl ?_)) ⟨Nat.zero_le _,hx,hc1⟩ ?_
 clear hx hc1
 rintro k w3 ⟨hk,hx,hc1⟩
 by_cases hlt : k < a.length
 ·skip
  refine .sr ?_
  first | refine .tq (t_lssT rfl rfl (by omega)) rfl ?_ | refine .tq (t_lssF rfl rfl (by omega)) rfl ?_ | refine .tq (t_lss rfl rfl) rfl ?_
  refine .done ?_
  refine .seq ?_
  refine .condT rfl ?_
  refine Wp.skip ?_
  refine .seq ?_
  refine Wp.block ?_
  refine .sr ?_
  refine .mv rfl rfl ?_
  refine .as rfl rfl ?_
  refine .done ?_
  refine .sr ?_
  refine .tq (t_fieldAddr fa32_0 rfl) rfl ?_
  refine .tq (t_load ty30 rfl (by apply Cells.get (i := 0); (case h => assumption); rfl)) rfl ?_
  refine .mv rfl rfl ?_
  refine Rg.wd trivial (w_call Tryz.call33 rfl (isValid_ok (hA.ext hx) hv hl hlt)) rfl ?_
  rintro _ w2 ⟨rfl,hx2⟩
  replace hx := hx.ext hx2
  replace hc1 := hc1.ext hx2
  refine .tq (t_notB rfl) rfl ?_
  refine .done ?_
  refine .condF rfl ?_
  refine Wp.skip ?_
  refine Wp.region ?_
  first | refine .tq (t_addI rfl rfl (by omega)) rfl ?_ | refine .tq (t_add rfl rfl) rfl ?_
  refine .mv rfl rfl ?_
  refine .done ?_
  exact ⟨k + 1,by repeat (first | exact .nil | refine .cons rfl ?_),⟨hlt,hx,hc1⟩,by omega⟩
 ·skip
  refine .sr ?_
  first | refine .tq (t_lssT rfl rfl (by omega)) rfl ?_ | refine .tq (t_lssF rfl rfl (by omega)) rfl ?_ | refine .tq (t_lss rfl rfl) rfl ?_
  refine .done ?_
  refine .seq ?_
  refine .condF rfl ?_
  refine Wp.exit ?_
  refine .sr ?_
  refine .as rfl rfl ?_
  refine .done ?_
  refine Wp.ret ?_
  exact ⟨[_],⟨rfl,trivial⟩,rfl,hx⟩
theorem idxT_no {w : World} {v : Value} {l : List Gt} {f : FuncId} {fst cap : List Value} {I : Nat → World → Prop} (hs : ∀ k w',I k w' → SlC w' v 3 l.length (encs Gt.cells l)) (hcf : ∀ (args : Array Value) (w : World),(callFunc f args).run Tryz.prog w = .ok (.enter f args) w)
  (hp : ∀ k (h : k < l.length) w1,I k w1 → Cl Tryz.prog f (fst ++ ([.agg (Gt.cells l[k]).toArray] : List Value) ++ cap).toArray w1 (fun u w2 => u = .bool false ∧ I (k + 1) w2)) (hlen : l.length < 4611686018427387904) (h0 : I 0 w) :
  Cl Tryz.prog 115 #[v,.func (.func f) fst.toArray cap.toArray] w (fun u w' => u = .int .i64 (-1) ∧ I l.length w') := by
 have hsw := hs 0 w h0
 refine Cl.enter Tryz.func115 rfl Tryz.ntmps115 rfl rfl ?_
 refine .sr ?_
 refine .as rfl rfl ?_
 refine .done ?_
 refine .seq ?_
 refine .sr ?_
 refine .mv rfl rfl ?_
 refine .tq (t_lenC hsw Tryz.underlying23 rfl) rfl ?_
 refine .mv rfl rfl ?_
 refine .done ?_
 refine Wp.block ?_
 refine Wp.loop (ι := Nat) (fun k => [(0,v),(1,.func (.func f) fst.toArray cap.toArray),(7,.int .i64 l.length),(8,.int .i64 k)])
  (fun k w' => k ≤ l.length ∧ I k w') (fun k => l.length - k) 0 (by repeat (first | exact .nil | refine .cons rfl ?_)) ⟨Nat.zero_le _,h0⟩ ?_
 rintro k w3 ⟨hk,hI⟩
 have hsk := hs k w3 hI
 by_cases hlt : k < l.length
 ·skip
  refine .sr ?_
  first | refine .tq (t_lssT rfl rfl (by omega)) rfl ?_ | refine .tq (t_lssF rfl rfl (by omega)) rfl ?_ | refine .tq (t_lss rfl rfl) rfl ?_
  refine .done ?_
  refine .seq ?_
  refine .condT rfl ?_
  refine Wp.skip ?_
  refine .seq ?_
  refine Wp.block ?_
  refine .sr ?_
  refine .mv rfl rfl ?_
  refine .as rfl rfl ?_
  refine .done ?_
  refine .sr ?_
  refine .mv rfl rfl ?_
  refine .mv rfl rfl ?_
  refine .mv rfl rfl ?_
  refine Rg.ix hsk trivial rfl rfl Tryz.underlying23 ty25 (by omega) rfl ?_
  intro bt14 ot14 ht14
  rw [Int.toNat_natCast,encs_at Gt.len l k hlt] at ht14
  refine .tq (t_loadA rfl ht14 (by rw [Gt.len]; exact ty25)) rfl ?_
  refine Rg.wd trivial (w_callG rfl hcf rfl (vs := [.agg (Gt.cells l[k]).toArray]) (hp k hlt _ hI)) rfl ?_
  rintro _ w4 ⟨rfl,hI2⟩
  refine .done ?_
  refine .condF rfl ?_
  refine Wp.skip ?_
  refine Wp.region ?_
  first | refine .tq (t_addI rfl rfl (by omega)) rfl ?_ | refine .tq (t_add rfl rfl) rfl ?_
  refine .mv rfl rfl ?_
  refine .done ?_
  exact ⟨k + 1,by repeat (first | exact .nil | refine .cons rfl ?_),⟨hlt,hI2⟩,by omega⟩
 ·obtain rfl : k = l.length := by omega
  refine .sr ?_
  first | refine .tq (t_lssT rfl rfl (by omega)) rfl ?_ | refine .tq (t_lssF rfl rfl (by omega)) rfl ?_ | refine .tq (t_lss rfl rfl) rfl ?_
  refine .done ?_
  refine .seq ?_
  refine .condF rfl ?_
  refine Wp.exit ?_
  refine .sr ?_
  refine .as rfl rfl ?_
  refine .done ?_
  refine Wp.ret ?_
  exact ⟨[_],⟨rfl,trivial⟩,rfl,hI⟩
theorem hasT_no {w : World} {v : Value} {l : List Gt} {f : FuncId} {fst cap : List Value} {I : Nat → World → Prop} (hs : ∀ k w',I k w' → SlC w' v 3 l.length (encs Gt.cells l)) (hcf : ∀ (args : Array Value) (w : World),(callFunc f args).run Tryz.prog w = .ok (.enter f args) w)
  (hp : ∀ k (h : k < l.length) w1,I k w1 → Cl Tryz.prog f (fst ++ ([.agg (Gt.cells l[k]).toArray] : List Value) ++ cap).toArray w1 (fun u w2 => u = .bool false ∧ I (k + 1) w2)) (hlen : l.length < 4611686018427387904) (h0 : I 0 w) :
  Cl Tryz.prog 59 #[v,.func (.func f) fst.toArray cap.toArray] w (fun u w' => u = .bool false ∧ I l.length w') := by
 refine Cl.enter Tryz.func59 rfl Tryz.ntmps59 rfl rfl ?_
 refine .sr ?_
 refine .as rfl rfl ?_
 refine .done ?_
 refine .sr ?_
 refine .mv rfl rfl ?_
 refine .mv rfl rfl ?_
 refine Rg.wd trivial (w_call Tryz.call115 rfl (idxT_no hs hcf hp hlen h0)) rfl ?_
 rintro _ w1 ⟨rfl,hI⟩
 refine .tq (t_geqF rfl rfl (by decide)) rfl ?_
 refine .as rfl rfl ?_
 refine .done ?_
 refine Wp.ret ?_
 exact ⟨[_],⟨rfl,trivial⟩,rfl,hI⟩
theorem cntL_take (l : List Tr) (k : Nat) (h : k < l.length) : cntL (l.take (k + 1)) = cntL (l.take k) + l[k].cnt := by
 rw [List.take_succ_eq_append_getElem h,cntL_app]
 simp [cntL]
theorem cntL_le (l : List Tr) (k : Nat) : cntL (l.take k) ≤ cntL l := by
 have := cntL_app (l.take k) (l.drop k)
 rw [List.take_append_drop] at this
 omega
theorem depL_mem {l : List Tr} {t : Tr} (h : t ∈ l) : t.dep ≤ depL l := by
 induction l with
 | nil => cases h
 | cons u l ih =>
  simp only [depL]
  rcases List.mem_cons.1 h with rfl | h
  ·exact Nat.le_max_left _ _
  ·exact Nat.le_trans (ih h) (Nat.le_max_right _ _)
theorem cntL_mem {l : List Tr} {t : Tr} (h : t ∈ l) : t.cnt ≤ cntL l := by
 induction l with
 | nil => cases h
 | cons u l ih =>
  simp only [cntL]
  rcases List.mem_cons.1 h with rfl | h
  ·exact Nat.le_add_right _ _
  ·exact Nat.le_trans (ih h) (Nat.le_add_left _ _)
theorem len_cntL (l : List Tr) : l.length ≤ cntL l := by
 induction l with
 | nil => exact Nat.le_refl _
 | cons t l ih =>
  cases t
  simp only [cntL,Tr.cnt,List.length_cons]
  omega
theorem erL_at (l : List Gt) (k : Nat) (h : k < l.length) : (erL l)[k]'(by rw [erL_len]; exact h) = l[k].er := by simp [erL_map]
theorem wfL_mem {l : List Tr} (h : wfL l) : ∀ t ∈ l,t.wf := by
 induction l with
 | nil => intro t ht; cases ht
 | cons u l ih =>
  intro t ht
  rcases List.mem_cons.1 ht with rfl | ht
  ·exact h.1
  ·exact ih h.2 t ht
abbrev Ex (w : World) (b : Nat) : Fs := fun z => z < w.heap.size ∧ z ≠ b
theorem exceeds_ok : ∀ (n : Nat) (g : Gt),g.er.cnt ≤ n → ∀ (F : Fs) (w : World) (dd : Int) (bl : Nat) (c : Int),GOk F w g → (∀ z,F z → z < w.heap.size ∧ z ≠ bl) → Var w bl [.int .i64 c] 3 → (g.er.cnt : Int) ≤ c → c ≤ 4000 → 0 ≤ dd → dd + g.er.dep ≤ 201 →
  Cl Tryz.prog 28 #[.agg g.cells.toArray,.int .i64 dd,.pointer (some ⟨bl,0,none⟩)] w (fun u w' => u = .bool false ∧ Var w' bl [.int .i64 (c - g.er.cnt)] 3 ∧ Bw (Ex w bl) w w') := by
 intro n
 induction n with
 | zero =>
  intro g hn
  cases g
  simp [Gt.er,Tr.cnt] at hn
 | succ n ih =>
  intro g hn F w dd bl c hg hF hvl hc hc4 hd0 hd
  obtain ⟨kk,tt0,cv,kids⟩ := g
  cases hg with
  | mk hs h1 hb hk =>
   simp only [Gt.er,Tr.cnt,Tr.dep] at hn hc hd ⊢
   have hx := Ext.refl w
   have hbl := hvl.lt
   have hlenk := len_cntL (erL kids)
   rw [erL_len] at hlenk
   refine Cl.enter Tryz.func28 rfl Tryz.ntmps28 rfl rfl ?_
   refine .sr ?_
   refine Rg.wd trivial (w_boxed (cs := [.int .i64 kk,.string tt0,cv]) rfl rfl) rfl ?_
   rintro _ w1 ⟨b3,rfl,q3,hx1,hv3⟩
   replace hx := hx.ext hx1
   replace hvl := hvl.ext hx1
   refine Rg.wd trivial (w_boxed rfl rfl) rfl ?_
   rintro _ w2 ⟨b4,rfl,q4,hx2,hv4⟩
   replace hx := hx.ext hx2
   replace hvl := hvl.ext hx2
   replace hv3 := hv3.ext hx2
   refine Rg.wd trivial (w_boxed rfl rfl) rfl ?_
   rintro _ w3 ⟨b5,rfl,q5,hx3,hv5⟩
   replace hx := hx.ext hx3
   replace hvl := hvl.ext hx3
   replace hv3 := hv3.ext hx3
   replace hv4 := hv4.ext hx3
   have h3l := hv3.lt
   have h4l := hv4.lt
   have h5l := hv5.lt
   have e1l := hx1.le
   have e2l := hx2.le
   refine .as rfl rfl ?_
   refine .done ?_
   refine .seq ?_
   refine .sr ?_
   refine .tq (t_load ty64 rfl (Cells.get (i := 0) hv5.cells rfl)) rfl ?_
   refine .tq (t_nilCheck rfl) rfl ?_
   refine .tq (t_load ty3 rfl (Cells.get (i := 0) hvl.cells rfl)) rfl ?_
   refine .tq (t_subI rfl rfl (by omega)) rfl ?_
   refine .tq (t_nilCheck rfl) rfl ?_
   refine Rg.wn trivial (w_put hvl rfl rfl rfl ty3 rfl rfl) ?_
   rintro _ w4 ⟨hu4,hvl4⟩
   have hsz4 := hu4.size
   have hb4 : Bw (Ex w bl) w w4 := (Bw.of hx fun z hz => hz.1).trans (Bw.upd hu4 fun hh => hh.2 rfl)
   replace hv3 := hv3.upd hu4 (by omega)
   replace hv4 := hv4.upd hu4 (by omega)
   replace hv5 := hv5.upd hu4 (by omega)
   clear hvl
   have hvl := hvl4
   clear hvl4
   refine .done ?_
   refine .sr ?_
   refine .tq (t_load ty64 rfl (Cells.get (i := 0) hv5.cells rfl)) rfl ?_
   refine .tq (t_nilCheck rfl) rfl ?_
   refine .tq (t_load ty3 rfl (Cells.get (i := 0) hvl.cells rfl)) rfl ?_
   refine .tq (t_lssF rfl rfl (by omega)) rfl ?_
   refine .mv rfl rfl ?_
   refine .gd (t_load ty3 rfl (Cells.get (i := 0) hv4.cells rfl)) rfl ?_
   refine .gd (t_gtrF rfl rfl (by omega)) rfl ?_
   first | refine .tq (t_pickT rfl rfl) rfl ?_ | refine .tq (t_pickF rfl rfl) rfl ?_
   refine .done ?_
   refine .condF rfl ?_
   refine Wp.skip ?_
   have hz4 : w.heap.size ≤ w4.heap.size := hb4.size
   have hF4 : ∀ z,F z → Ex w4 bl z := fun z hz => ⟨Nat.lt_of_lt_of_le (hF z hz).1 hz4,(hF z hz).2⟩
   have hsF : SlC w4 cv 3 kids.length (encs Gt.cells kids) := slC_bw hs hb4 fun b hbb => hF b (hb b hbb)
   have hkF : ∀ g ∈ kids,GOk F w4 g := fun g hg => ((hk g hg).bw (hb4.sub hF) fun z hz => hz)
   refine .sr ?_
   refine .tq (t_fieldAddr fa25_2 rfl) rfl ?_
   refine .tq (t_load ty23 rfl (Cells.get (i := 2) hv3.cells rfl)) rfl ?_
   refine .tq (t_makeFuncB (us := []) (vs := [.pointer (some ⟨b4,0,none⟩),.pointer (some ⟨b5,0,none⟩)]) rfl rfl) rfl ?_
   have hclo : ∀ k (hlt : k < kids.length) w1,Bw (Ex w4 bl) w4 w1 → Var w1 bl [.int .i64 (c - 1 - cntL ((erL kids).take k))] 3 → Cl Tryz.prog 60 #[.agg (Gt.cells kids[k]).toArray,.pointer (some ⟨b4,0,none⟩),.pointer (some ⟨b5,0,none⟩)] w1 (fun u w2 => u = .bool false ∧ Bw (Ex w4 bl) w4 w2 ∧ Var w2 bl [.int .i64 (c - 1 - cntL ((erL kids).take (k + 1)))] 3) := fun k hlt w1 q1 q2 => by
    have hltE : k < (erL kids).length := by rw [erL_len]; exact hlt
    have hst := cntL_take (erL kids) k hltE
    have hle := cntL_le (erL kids) (k + 1)
    have hem := erL_at kids k hlt
    rw [hem] at hst
    have hdm := depL_mem (List.getElem_mem hltE)
    rw [hem] at hdm
    have hbl1 := q2.lt
    have hgk := (hkF _ (List.getElem_mem hlt)).bw (q1.sub hF4) fun z hz => hz
    have hv4' := var_bw hv4 q1 ⟨hv4.lt,by omega⟩
    have hv5' := var_bw hv5 q1 ⟨hv5.lt,by omega⟩
    have hcnt1 : 1 ≤ cntL (erL kids) := by omega
    have hx := Ext.refl w1
    refine Cl.enter Tryz.func60 rfl Tryz.ntmps60 rfl rfl ?_
    refine .sr ?_
    refine Rg.wd trivial (w_boxed (cs := Gt.cells kids[k]) rfl rfl) rfl ?_
    rintro _ w1 ⟨b3,rfl,q3,hx1,hv3⟩
    replace hx := hx.ext hx1
    replace hv4' := hv4'.ext hx1
    replace hv5' := hv5'.ext hx1
    replace q2 := q2.ext hx1
    refine .as rfl rfl ?_
    refine .done ?_
    refine .sr ?_
    refine .tq (t_loadA rfl hv3.cells (by rw [Gt.len]; exact ty25)) rfl ?_
    refine .tq (t_load ty3 rfl (Cells.get (i := 0) hv4'.cells rfl)) rfl ?_
    refine .tq (t_addI rfl rfl (by omega)) rfl ?_
    refine .tq (t_load ty64 rfl (Cells.get (i := 0) hv5'.cells rfl)) rfl ?_
    refine Rg.wd trivial (w_call Tryz.call28 rfl (ih kids[k] (by omega) F _ (dd + 1) bl (c - 1 - cntL ((erL kids).take k)) (hgk.bw (Bw.of hx fun z hz => Nat.lt_of_lt_of_le (hF4 z hz).1 q1.size) fun z hz => hz) (fun z hz => ⟨Nat.lt_of_lt_of_le (hF4 z hz).1 (Nat.le_trans q1.size hx.le),(hF z hz).2⟩) q2 (by omega) (by omega) (by omega) (by omega))) rfl ?_
    rintro _ wz ⟨rfl,z1,z2⟩
    refine .as rfl rfl ?_
    refine .done ?_
    refine Wp.ret ?_
    refine ⟨[_],⟨rfl,trivial⟩,rfl,(q1.trans (Bw.of hx fun z hz => Nat.lt_of_lt_of_le hz.1 q1.size)).trans (z2.sub fun z hz => ⟨Nat.lt_of_lt_of_le hz.1 (Nat.le_trans q1.size hx.le),hz.2⟩),?_⟩
    rw [hst]
    rw [show c - 1 - ((cntL ((erL kids).take k) + kids[k].er.cnt : Nat) : Int) = c - 1 - cntL ((erL kids).take k) - kids[k].er.cnt from by omega]
    exact z1
   refine Rg.wd trivial (w_call Tryz.call59 rfl (hasT_no (f := 60) (fst := []) (cap := [.pointer (some ⟨b4,0,none⟩),.pointer (some ⟨b5,0,none⟩)]) (I := fun k w' => Bw (Ex w4 bl) w4 w' ∧ Var w' bl [.int .i64 (c - 1 - cntL ((erL kids).take k))] 3) (fun k w' ⟨q1,q2⟩ => slC_bw hsF q1 fun b hbb => hF4 b (hb b hbb)) Tryz.call60 (fun k hlt w1 ⟨q1,q2⟩ => hclo k hlt w1 q1 q2) (by omega) ⟨Bw.refl _ _,by simpa [cntL] using hvl⟩)) rfl ?_
   rintro _ w5 ⟨rfl,q1,q2⟩
   refine .as rfl rfl ?_
   refine .done ?_
   refine Wp.ret ?_
   refine ⟨[_],⟨rfl,trivial⟩,rfl,?_,hb4.trans (q1.sub fun z hz => ⟨Nat.lt_of_lt_of_le hz.1 hz4,hz.2⟩)⟩
   rw [show kids.length = (erL kids).length from (erL_len _).symm,List.take_length] at q2
   rw [show c - ((cntL (erL kids) + 1 : Nat) : Int) = c - 1 - cntL (erL kids) from by omega]
   exact q2
theorem isTree_ok : ∀ (n : Nat) (g : Gt),g.er.cnt ≤ n → ∀ (F : Fs) (w : World),GOk F w g → Und F w.heap.size → g.er.wf → g.er.cnt ≤ 4611686018427387000 →
  Cl Tryz.prog 29 #[.agg g.cells.toArray] w (fun u w' => u = .bool true ∧ Ext w w') := by
 intro n
 induction n with
 | zero =>
  intro g hn
  cases g
  simp [Gt.er,Tr.cnt] at hn
 | succ n ih =>
  intro g hn F w hg hF hw hc
  obtain ⟨kk,tt0,cv,kids⟩ := g
  cases hg with
  | mk hs0 h1 hb hk =>
   simp only [Gt.er,Tr.cnt] at hn hc
   have hx := Ext.refl w
   have hlenk := len_cntL (erL kids)
   rw [erL_len] at hlenk
   have hwk : wfL (erL kids) := by
    simp only [Gt.er,Tr.wf] at hw
    rcases hw with ⟨_,e⟩ | ⟨_,_,_,h⟩
    ·rw [e]; trivial
    ·exact h
   by_cases h100 : 100 ≤ kk
   ·have hform : kids.length = 0 := by
     simp only [Gt.er,Tr.wf] at hw
     rcases hw with ⟨_,e⟩ | ⟨_,_,e,_⟩
     ·rw [← erL_len,e]; rfl
     ·omega
    refine Cl.enter Tryz.func29 rfl Tryz.ntmps29 rfl rfl ?_
    refine .sr ?_
    refine Rg.wd trivial (w_boxed (cs := [.int .i64 kk,.string tt0,cv]) rfl rfl) rfl ?_
    rintro _ w1 ⟨b1,rfl,q1,hx1,hv1⟩
    replace hx := hx.ext hx1
    refine .as rfl rfl ?_
    refine .done ?_
    refine .sr ?_
    refine .tq (t_fieldAddr fa25_0 rfl) rfl ?_
    refine .tq (t_load ty3 rfl (Cells.get (i := 0) hv1.cells rfl)) rfl ?_
    refine .tq (t_geqT rfl rfl (by omega)) rfl ?_
    refine .as rfl rfl ?_
    refine .done ?_
    refine .seq ?_
    refine .sr ?_
    refine .mv rfl rfl ?_
    refine .mv rfl rfl ?_
    first | refine .gd (t_fieldAddr fa25_2 rfl) rfl ?_ | refine .so rfl rfl ?_
    refine .gd (t_load ty23 rfl (Cells.get (i := 2) hv1.cells rfl)) rfl ?_
    first | refine .gd (t_lenC hs0 Tryz.underlying23 rfl) rfl ?_ | refine .so rfl rfl ?_
    first | refine .gd (t_gtrT rfl rfl (by omega)) rfl ?_ | refine .gd (t_gtrF rfl rfl (by omega)) rfl ?_ | refine .gd (t_gtr rfl rfl) rfl ?_ | refine .so rfl rfl ?_
    first | refine .tq (t_pickT rfl rfl) rfl ?_ | refine .tq (t_pickF rfl rfl) rfl ?_
    refine .mv rfl rfl ?_
    first | refine .gd (t_move rfl) rfl ?_ | refine .so rfl rfl ?_
    first | refine .gd (t_notB rfl) rfl ?_ | refine .so rfl rfl ?_
    first | refine .gd (t_move rfl) rfl ?_ | refine .so rfl rfl ?_
    refine .so rfl rfl ?_
    refine .so rfl rfl ?_
    refine .so rfl rfl ?_
    first | refine .gd (t_pickT rfl rfl) rfl ?_ | refine .gd (t_pickF rfl rfl) rfl ?_ | refine .so rfl rfl ?_
    first | refine .tq (t_pickT rfl rfl) rfl ?_ | refine .tq (t_pickF rfl rfl) rfl ?_
    refine .done ?_
    refine .condF rfl ?_
    refine Wp.skip ?_
    refine .sr ?_
    refine .tq (t_fieldAddr fa25_2 rfl) rfl ?_
    refine .tq (t_load ty23 rfl (Cells.get (i := 2) hv1.cells rfl)) rfl ?_
    have hclo : ∀ k (hlt : k < kids.length) w1,Ext w w1 → Cl Tryz.prog 61 #[.agg (Gt.cells kids[k]).toArray] w1 (fun u w2 => u = .bool false ∧ Ext w w2) := fun k hlt w1 hx => by
     have hltE : k < (erL kids).length := by rw [erL_len]; exact hlt
     have hem := erL_at kids k hlt
     have hcm := cntL_mem (List.getElem_mem hltE)
     have hwm := wfL_mem hwk _ (List.getElem_mem hltE)
     rw [hem] at hcm hwm
     have hgk := hk _ (List.getElem_mem hlt)
     refine Cl.enter Tryz.func61 rfl Tryz.ntmps61 rfl rfl ?_
     refine .sr ?_
     refine Rg.wd trivial (w_boxed (cs := Gt.cells kids[k]) rfl rfl) rfl ?_
     rintro _ w1 ⟨b3,rfl,q3,hx1,hv3⟩
     replace hx := hx.ext hx1
     refine .as rfl rfl ?_
     refine .done ?_
     refine .sr ?_
     refine .tq (t_loadA rfl hv3.cells (by rw [Gt.len]; exact ty25)) rfl ?_
     refine Rg.wd trivial (w_call Tryz.call29 rfl (ih kids[k] (by omega) F _ (hgk.bw (Bw.of hx hF) fun z hz => hz) (fun z hz => Nat.lt_of_lt_of_le (hF z hz) hx.le) hwm (by omega))) rfl ?_
     rintro _ w2 ⟨rfl,hx2⟩
     replace hx := hx.ext hx2
     replace hv3 := hv3.ext hx2
     refine .tq (t_notB rfl) rfl ?_
     refine .as rfl rfl ?_
     refine .done ?_
     refine Wp.ret ?_
     exact ⟨[_],⟨rfl,trivial⟩,rfl,hx⟩
    refine Rg.wd trivial (w_call Tryz.call59 rfl (hasT_no (f := 61) (fst := []) (cap := []) (I := fun _ w' => Ext w w') (fun k w' q1 => hs0.ext q1) Tryz.call61 (fun k hlt w1 q1 => hclo k hlt w1 q1) (by omega) hx)) rfl ?_
    rintro _ w5 ⟨rfl,q1⟩
    refine .tq (t_notB rfl) rfl ?_
    refine .as rfl rfl ?_
    refine .done ?_
    refine Wp.ret ?_
    exact ⟨[_],⟨rfl,trivial⟩,rfl,q1⟩
   ·have hform : tt0 = nob := by
     simp only [Gt.er,Tr.wf] at hw
     rcases hw with ⟨_,e⟩ | ⟨_,_,e,_⟩
     ·omega
     ·exact e
    refine Cl.enter Tryz.func29 rfl Tryz.ntmps29 rfl rfl ?_
    refine .sr ?_
    refine Rg.wd trivial (w_boxed (cs := [.int .i64 kk,.string tt0,cv]) rfl rfl) rfl ?_
    rintro _ w1 ⟨b1,rfl,q1,hx1,hv1⟩
    replace hx := hx.ext hx1
    refine .as rfl rfl ?_
    refine .done ?_
    refine .sr ?_
    refine .tq (t_fieldAddr fa25_0 rfl) rfl ?_
    refine .tq (t_load ty3 rfl (Cells.get (i := 0) hv1.cells rfl)) rfl ?_
    refine .tq (t_geqF rfl rfl (by omega)) rfl ?_
    refine .as rfl rfl ?_
    refine .done ?_
    refine .seq ?_
    refine .sr ?_
    refine .mv rfl rfl ?_
    refine .mv rfl rfl ?_
    refine .so rfl rfl ?_
    refine .so rfl rfl ?_
    refine .so rfl rfl ?_
    refine .so rfl rfl ?_
    first | refine .tq (t_pickT rfl rfl) rfl ?_ | refine .tq (t_pickF rfl rfl) rfl ?_
    refine .mv rfl rfl ?_
    first | refine .gd (t_move rfl) rfl ?_ | refine .so rfl rfl ?_
    first | refine .gd (t_notB rfl) rfl ?_ | refine .so rfl rfl ?_
    first | refine .gd (t_move rfl) rfl ?_ | refine .so rfl rfl ?_
    first | refine .gd (t_fieldAddr fa25_1 rfl) rfl ?_ | refine .so rfl rfl ?_
    refine .gd (t_load ty9 rfl (Cells.get (i := 1) hv1.cells rfl)) rfl ?_
    refine .gd (t_sneqF rfl rfl hform) rfl ?_
    first | refine .gd (t_pickT rfl rfl) rfl ?_ | refine .gd (t_pickF rfl rfl) rfl ?_ | refine .so rfl rfl ?_
    first | refine .tq (t_pickT rfl rfl) rfl ?_ | refine .tq (t_pickF rfl rfl) rfl ?_
    refine .done ?_
    refine .condF rfl ?_
    refine Wp.skip ?_
    refine .sr ?_
    refine .tq (t_fieldAddr fa25_2 rfl) rfl ?_
    refine .tq (t_load ty23 rfl (Cells.get (i := 2) hv1.cells rfl)) rfl ?_
    have hclo : ∀ k (hlt : k < kids.length) w1,Ext w w1 → Cl Tryz.prog 61 #[.agg (Gt.cells kids[k]).toArray] w1 (fun u w2 => u = .bool false ∧ Ext w w2) := fun k hlt w1 hx => by
     have hltE : k < (erL kids).length := by rw [erL_len]; exact hlt
     have hem := erL_at kids k hlt
     have hcm := cntL_mem (List.getElem_mem hltE)
     have hwm := wfL_mem hwk _ (List.getElem_mem hltE)
     rw [hem] at hcm hwm
     have hgk := hk _ (List.getElem_mem hlt)
     refine Cl.enter Tryz.func61 rfl Tryz.ntmps61 rfl rfl ?_
     refine .sr ?_
     refine Rg.wd trivial (w_boxed (cs := Gt.cells kids[k]) rfl rfl) rfl ?_
     rintro _ w1 ⟨b3,rfl,q3,hx1,hv3⟩
     replace hx := hx.ext hx1
     refine .as rfl rfl ?_
     refine .done ?_
     refine .sr ?_
     refine .tq (t_loadA rfl hv3.cells (by rw [Gt.len]; exact ty25)) rfl ?_
     refine Rg.wd trivial (w_call Tryz.call29 rfl (ih kids[k] (by omega) F _ (hgk.bw (Bw.of hx hF) fun z hz => hz) (fun z hz => Nat.lt_of_lt_of_le (hF z hz) hx.le) hwm (by omega))) rfl ?_
     rintro _ w2 ⟨rfl,hx2⟩
     replace hx := hx.ext hx2
     replace hv3 := hv3.ext hx2
     refine .tq (t_notB rfl) rfl ?_
     refine .as rfl rfl ?_
     refine .done ?_
     refine Wp.ret ?_
     exact ⟨[_],⟨rfl,trivial⟩,rfl,hx⟩
    refine Rg.wd trivial (w_call Tryz.call59 rfl (hasT_no (f := 61) (fst := []) (cap := []) (I := fun _ w' => Ext w w') (fun k w' q1 => hs0.ext q1) Tryz.call61 (fun k hlt w1 q1 => hclo k hlt w1 q1) (by omega) hx)) rfl ?_
    rintro _ w5 ⟨rfl,q1⟩
    refine .tq (t_notB rfl) rfl ?_
    refine .as rfl rfl ?_
    refine .done ?_
    refine Wp.ret ?_
    exact ⟨[_],⟨rfl,trivial⟩,rfl,q1⟩
end Go.Proofs.YtcelfjbajdffkaaGreatDoor.Par
namespace Go.Proofs.YtcelfjbajdffkaaGreatDoor.Par
set_option maxRecDepth 20000
open Go.Gx Go.RowKit Go.Lib
open Lexi (Asc)
theorem cloneI_ok {w : World} {v : Value} {n : Nat} {cs : List Value} (hs : SlC w v 1 n cs) (hone : ∀ u ∈ cs,u.oneCell' = true) (hlen : n ≤ 1000000) :
  Cl Tryz.prog 63 #[v] w (fun u w' => w'.ownsRow w.heap.size 3 1 u n cs ∧ Ext w w' ∧ (v = .slice none 0 0 → u = .slice none 0 0)) := by
 obtain ⟨i,hi,hz,hsi,hby⟩ := inf3
 have hx := Ext.refl w
 obtain ⟨hcl,p,cap,rfl,hc1,hc2⟩ := id hs
 cases p with
 | none =>
  have h0 : cap = 0 := hc2.elim id fun ⟨b,o,h,_⟩ => by cases h
  obtain rfl : n = 0 := by omega
  obtain rfl : cs = [] := List.length_eq_zero_iff.1 (by omega)
  subst h0
  refine Cl.enter Tryz.func63 rfl Tryz.ntmps63 rfl rfl ?_
  refine .sr ?_
  refine .as rfl rfl ?_
  refine .done ?_
  refine .seq ?_
  refine .sr ?_
  refine .mv rfl rfl ?_
  refine .tq (t_slNil Tryz.underlying51 rfl rfl) rfl ?_
  refine .done ?_
  refine .condT rfl ?_
  refine .sr ?_
  refine .as rfl rfl ?_
  refine .done ?_
  refine Wp.ret ?_
  exact ⟨[_],⟨rfl,trivial⟩,own_nil _ _ _ _,hx,fun _ => rfl⟩
 | some ad =>
  refine Cl.enter Tryz.func63 rfl Tryz.ntmps63 rfl rfl ?_
  refine .sr ?_
  refine .as rfl rfl ?_
  refine .done ?_
  refine .seq ?_
  refine .sr ?_
  refine .mv rfl rfl ?_
  refine .tq (t_slNil Tryz.underlying51 rfl rfl) rfl ?_
  refine .done ?_
  refine .condF rfl ?_
  refine Wp.skip ?_
  refine .sr ?_
  refine Rg.wd trivial (w_buildSlice bs51_0 rfl) rfl ?_
  rintro _ wb ⟨bb,rfl,qb,hxb,hvb⟩
  replace hx := hx.ext hxb
  have hown : wb.ownsRow w.heap.size 3 1 (.slice (some ⟨bb,0,none⟩) 0 0) 0 [] := own_of_varS hvb (Nat.le_of_eq qb.symm) rfl (Nat.zero_le _)
  replace hs := hs.ext hxb
  refine .mv rfl rfl ?_
  refine Rg.wd trivial (w_appendC w.heap.size Tryz.underlying51 hi hz hsi hby rfl (by decide) rfl rfl hown hs hone (by unfold maxLen; omega) (by omega) hx.le) rfl ?_
  rintro v2 wc ⟨hown2,hgr,p2,l2,c2,rfl⟩
  replace hx := own_ext3 hx hown hgr
  rw [Nat.zero_add,List.nil_append] at hown2
  refine .as rfl rfl ?_
  refine .done ?_
  refine Wp.ret ?_
  exact ⟨[_],⟨rfl,trivial⟩,hown2,hx,fun e => by cases e⟩
theorem cloneG_ok {w : World} {v : Value} {n : Nat} {cs : List Value} (hs : SlC w v 4 n cs) (hone : ∀ u ∈ cs,u.oneCell' = true) (hlen : n ≤ 1000000) :
  Cl Tryz.prog 62 #[v] w (fun u w' => w'.ownsRow w.heap.size 103 4 u n cs ∧ Ext w w' ∧ (v = .slice none 0 0 → u = .slice none 0 0)) := by
 obtain ⟨i,hi,hz,hsi,hby⟩ := inf103
 have hx := Ext.refl w
 obtain ⟨hcl,p,cap,rfl,hc1,hc2⟩ := id hs
 cases p with
 | none =>
  have h0 : cap = 0 := hc2.elim id fun ⟨b,o,h,_⟩ => by cases h
  obtain rfl : n = 0 := by omega
  obtain rfl : cs = [] := List.length_eq_zero_iff.1 (by omega)
  subst h0
  refine Cl.enter Tryz.func62 rfl Tryz.ntmps62 rfl rfl ?_
  refine .sr ?_
  refine .as rfl rfl ?_
  refine .done ?_
  refine .seq ?_
  refine .sr ?_
  refine .mv rfl rfl ?_
  refine .tq (t_slNil Tryz.underlying30 rfl rfl) rfl ?_
  refine .done ?_
  refine .condT rfl ?_
  refine .sr ?_
  refine .as rfl rfl ?_
  refine .done ?_
  refine Wp.ret ?_
  exact ⟨[_],⟨rfl,trivial⟩,own_nil _ _ _ _,hx,fun _ => rfl⟩
 | some ad =>
  refine Cl.enter Tryz.func62 rfl Tryz.ntmps62 rfl rfl ?_
  refine .sr ?_
  refine .as rfl rfl ?_
  refine .done ?_
  refine .seq ?_
  refine .sr ?_
  refine .mv rfl rfl ?_
  refine .tq (t_slNil Tryz.underlying30 rfl rfl) rfl ?_
  refine .done ?_
  refine .condF rfl ?_
  refine Wp.skip ?_
  refine .sr ?_
  refine Rg.wd trivial (w_buildSlice bs30_0 rfl) rfl ?_
  rintro _ wb ⟨bb,rfl,qb,hxb,hvb⟩
  replace hx := hx.ext hxb
  have hown : wb.ownsRow w.heap.size 103 4 (.slice (some ⟨bb,0,none⟩) 0 0) 0 [] := own_of_varS hvb (Nat.le_of_eq qb.symm) rfl (Nat.zero_le _)
  replace hs := hs.ext hxb
  refine .mv rfl rfl ?_
  refine Rg.wd trivial (w_appendC w.heap.size Tryz.underlying30 hi hz hsi hby rfl (by decide) rfl rfl hown hs hone (by unfold maxLen; omega) (by omega) hx.le) rfl ?_
  rintro v2 wc ⟨hown2,hgr,p2,l2,c2,rfl⟩
  replace hx := own_ext3 hx hown hgr
  rw [Nat.zero_add,List.nil_append] at hown2
  refine .as rfl rfl ?_
  refine .done ?_
  refine Wp.ret ?_
  exact ⟨[_],⟨rfl,trivial⟩,hown2,hx,fun e => by cases e⟩
theorem own_ge {w : World} {v : Value} {B e size n b : Nat} {cs : List Value} (h : w.ownsRow B e size v n cs) (hb : v.ownBlock = some b) : B ≤ b := by
 rcases own_wholeG h with ⟨rfl,_⟩ | ⟨g,cap,sp,rfl,h1,_⟩
 ·cases hb
 ·cases hb
  exact h1
theorem NOk.mono {Q R : Fs} {w : World} {n : Gc} (h : NOk Q w n) (hs : ∀ z,Q z → R z) : NOk R w n := ⟨h.slc,h.one,h.inn.mono hs,h.nil,h.few⟩
theorem put_cv (l r : List Gc) (n : Gc) (cv : Value) (sp : List Value) : (encs Gc.cells (l ++ n :: r) ++ sp).take (l.length * 4 + 3) ++ [cv] ++ (encs Gc.cells (l ++ n :: r) ++ sp).drop (l.length * 4 + 3 + 1) = encs Gc.cells (l ++ { n with cv := cv } :: r) ++ sp := by
 have hl := encs_len Gc.len l
 have e : encs Gc.cells (l ++ n :: r) ++ sp = (encs Gc.cells l ++ [.int .i64 n.kind,.int .i64 n.width,.string n.text]) ++ (n.cv :: (encs Gc.cells r ++ sp)) := by
  rw [encs_app,show encs Gc.cells (n :: r) = n.cells ++ encs Gc.cells r from List.flatMap_cons]
  simp [Gc.cells]
 have h3 : (encs Gc.cells l ++ [.int .i64 n.kind,.int .i64 n.width,.string n.text] : List Value).length = l.length * 4 + 3 := by rw [List.length_append,hl]; rfl
 rw [e,List.take_left' h3,← List.drop_drop,List.drop_left' h3]
 rw [encs_app,show encs Gc.cells ({ n with cv := cv } :: r) = Gc.cells { n with cv := cv } ++ encs Gc.cells r from List.flatMap_cons]
 simp [Gc.cells]
structure ArW (F Q : Fs) (w : World) (bA : Nat) (v : Value) (a : List Gc) : Prop where
 var : Var w bA [v] 32
 own : w.ownsRow 0 103 4 v a.length (encs Gc.cells a)
 ok : ∀ n ∈ a,NOk Q w n
 und : Und F w.heap.size
 undQ : Und Q w.heap.size
 offA : ¬ F bA ∧ ¬ Q bA
 offV : ∀ b,v.ownBlock = some b → ¬ F b ∧ ¬ Q b ∧ b ≠ bA
 nil : a = [] → v = .slice none 0 0
def CloneR (w : World) (a : List Gc) (u : Value) (w' : World) : Prop := ∃ v' a' Q,u = .agg #[v'] ∧ ers a' = ers a ∧ w'.ownsRow w.heap.size 103 4 v' a'.length (encs Gc.cells a') ∧ (∀ n ∈ a',NOk Q w' n) ∧ (∀ z,Q z → w.heap.size ≤ z ∧ z < w'.heap.size ∧ some z ≠ v'.ownBlock) ∧ Ext w w' ∧ (a' = [] → v' = .slice none 0 0)
theorem cloneA_ok {P : Fs} {w : World} {v : Value} {a : List Gc} (hA : ArOk P w v a) (hP : Und P w.heap.size) (hl : a.length ≤ 4000) : Cl Tryz.prog 30 #[.agg #[v]] w (CloneR w a) := by
 have hx := Ext.refl w
 have hone := hA.one
 have hs := hA.slc
 have hcells : ∀ u ∈ encs Gc.cells a,u.oneCell' = true := fun u hu => by
  obtain ⟨m,hm,hu⟩ := List.mem_flatMap.1 hu
  exact Gc.one (hA.ok m hm) u hu
 refine Cl.enter Tryz.func30 rfl Tryz.ntmps30 rfl rfl ?_
 refine .sr ?_
 refine Rg.wd trivial (w_boxed (cs := [v]) rfl rfl) rfl ?_
 rintro _ w1 ⟨b1,rfl,q1,hx1,hv1⟩
 replace hx := hx.ext hx1
 replace hs := hs.ext hx1
 have hc1 := hv1.cells
 clear hv1
 refine Rg.wd trivial (w_new Tryz.zeroValue32 rfl) rfl ?_
 rintro _ w2 ⟨b2,rfl,q2,hx2,hv2⟩
 replace hx := hx.ext hx2
 replace hs := hs.ext hx2
 replace hc1 := hc1.ext hx2
 have hl2 := hv2.lt
 refine .done ?_
 refine .sr ?_
 refine .tq (t_fieldAddr fa32_0 rfl) rfl ?_
 refine .tq (t_load ty30 rfl (Cells.get (i := 0) hc1 rfl)) rfl ?_
 refine Rg.wd trivial (w_call Tryz.call62 rfl (cloneG_ok hs hcells (by omega))) rfl ?_
 rintro v1 w3 ⟨hown,hx3,hnil⟩
 replace hx := hx.ext hx3
 replace hs := hs.ext hx3
 replace hc1 := hc1.ext hx3
 replace hv2 := hv2.ext hx3
 obtain ⟨p1,n1,cp1,rfl⟩ : ∃ p n c,v1 = .slice p n c := by
  rcases own_wholeG hown with ⟨e,_⟩ | ⟨_,_,_,e,_⟩ <;> exact ⟨_,_,_,e⟩
 refine .tq (t_build (bd32_0 _ _ _) rfl) rfl ?_
 refine Rg.wd trivial (w_new Tryz.zeroValue32 rfl) rfl ?_
 have hown3 := hown
 rintro _ w4 ⟨b3,rfl,q3,hx4,hv3⟩
 replace hown := own_ext hown hx4
 replace hx := hx.ext hx4
 replace hs := hs.ext hx4
 replace hc1 := hc1.ext hx4
 replace hv2 := hv2.ext hx4
 have l1 := hx1.le
 have l2 := hx2.le
 have l3 := hx3.le
 have l4 := hx4.le
 refine Rg.wn trivial (w_put hv3 rfl rfl rfl ty32 rfl rfl) ?_
 have hl3 := hv3.lt
 have hngO : ∀ z,(Value.slice p1 n1 cp1).ownBlock = some z → z ≠ b3 ∧ w.heap.size ≤ z ∧ z < b3 ∧ z ≠ b2 := fun z hz => by
  have h1 := own_ge hown hz
  have h2 := own_lt hown3 hz
  omega
 rintro _ w5 ⟨hu5,hv3b⟩
 clear hv3
 have hv3 := hv3b
 clear hv3b
 replace hv2 := hv2.upd hu5 (by omega)
 have hx9 := hx.upd hu5 (by have := hx.le; omega)
 clear hx
 have hx := hx9
 clear hx9
 replace hown := own_bw hown (Bw.upd (F := fun z => z ≠ b3) hu5 fun hh => hh rfl) fun z hz => (hngO z hz).1
 refine .done ?_
 refine .seq ?_
 have hownS := own_slc hown
 refine .sr ?_
 refine .tq (t_fieldAddr fa32_0 rfl) rfl ?_
 refine .tq (t_load ty30 rfl (Cells.get (i := 0) hv3.cells rfl)) rfl ?_
 refine .tq (t_lenC hownS Tryz.underlying30 rfl) rfl ?_
 refine .mv rfl rfl ?_
 refine .done ?_
 refine Wp.block ?_
 refine Wp.loop (ι := List Gc) (fun l => [(2,.pointer (some ⟨b2,0,none⟩)),(3,.pointer (some ⟨b3,0,none⟩)),(11,.int .i64 a.length),(12,.int .i64 l.length)])
  (fun l w' => l.length ≤ a.length ∧ ers l = (ers a).take l.length ∧ w'.ownsRow w.heap.size 103 4 (.slice p1 n1 cp1) a.length (encs Gc.cells (l ++ a.drop l.length)) ∧ (∀ n ∈ l,NOk (fun z => w.heap.size ≤ z ∧ z < w'.heap.size ∧ some z ≠ (Value.slice p1 n1 cp1).ownBlock ∧ z ≠ b2) w' n) ∧ Var w' b2 [.slice none 0 0] 32 ∧ Var w' b3 [.slice p1 n1 cp1] 32 ∧ Ext w w') (fun l => a.length - l.length) [] (by repeat (first | exact .nil | refine .cons rfl ?_)) ⟨Nat.zero_le _,by simp [ers],⟨hown.1,hown.2.imp id fun ⟨g,cap,cur,e1,e2,e3⟩ => ⟨g,cap,cur,e1,by omega,e3⟩⟩,fun n hn => absurd hn List.not_mem_nil,hv2,hv3,hx⟩ ?_
 clear hx hv2 hv3 hown hownS
 rintro l w9 ⟨hk,hel,hown,hok,hv2,hv3,hx⟩
 have hb2b3 : b2 < b3 := by omega
 have hb2w : w.heap.size ≤ b2 := by omega
 by_cases hlt : l.length < a.length
 ·skip
  refine .sr ?_
  first | refine .tq (t_lssT rfl rfl (by omega)) rfl ?_ | refine .tq (t_lssF rfl rfl (by omega)) rfl ?_ | refine .tq (t_lss rfl rfl) rfl ?_
  refine .done ?_
  refine .seq ?_
  refine .condT rfl ?_
  refine Wp.skip ?_
  refine .seq ?_
  refine Wp.block ?_
  refine .sr ?_
  refine .mv rfl rfl ?_
  refine .as rfl rfl ?_
  refine .done ?_
  obtain ⟨g,cap,sp,ev,hgB,hcap,hmx,hsp,hv⟩ : ∃ g cap sp,Value.slice p1 n1 cp1 = .slice (some ⟨g,0,none⟩) a.length cap ∧ w.heap.size ≤ g ∧ a.length ≤ cap ∧ cap ≤ maxLen ∧ sp.length = (cap - a.length) * 4 ∧ Var w9 g (encs Gc.cells (l ++ a.drop l.length) ++ sp) 103 := by
   rcases own_wholeG hown with ⟨_,h0⟩ | h
   ·omega
   ·exact h
  injection ev with ev1 ev2 ev3
  subst ev1 ev2 ev3
  obtain ⟨nk,hnk⟩ : ∃ nk,a[l.length] = nk := ⟨_,rfl⟩
  have hnkok := hA.ok _ (List.getElem_mem hlt)
  rw [hnk] at hnkok
  have hdrop : a.drop l.length = nk :: a.drop (l.length + 1) := by rw [List.drop_eq_getElem_cons hlt,hnk]
  rw [hdrop] at hv
  have hgb3 : g ≠ b3 ∧ g ≠ b2 := ⟨(hngO g rfl).1,(hngO g rfl).2.2.2⟩
  
  refine Wp.draw [0,1,2,3,4,5,6,7,8,9,10,11,12] [0] mixed (by kernel_rfl) (by kernel_rfl) ?_
  intro w6 hx6 _
  replace hx := hx.ext hx6
  replace hv2 := hv2.ext hx6
  replace hv3 := hv3.ext hx6
  replace hv := hv.ext hx6
  have hxd := hx6
  have hx0 := hx
  have hcell : ∀ w',Var w' g (encs Gc.cells (l ++ nk :: a.drop (l.length + 1)) ++ sp) 103 → w'.cell? ⟨g,0 + (l.length : Int).toNat * 4 + 3,none⟩ = some nk.cv := fun w' h => by
   have h1 : (encs Gc.cells (l ++ nk :: a.drop (l.length + 1)) ++ sp)[l.length * 4 + 3]? = some nk.cv := by
    have hl4 := encs_len Gc.len l
    rw [encs_app,List.append_assoc,List.getElem?_append_right (by omega),hl4,show l.length * 4 + 3 - l.length * 4 = 3 by omega]
    rfl
   have := h.cells _ _ h1
   rw [Nat.zero_add] at this
   rw [show 0 + (l.length : Int).toNat * 4 + 3 = l.length * 4 + 3 by omega]
   exact this
  refine .tq (t_fieldAddr fa32_0 rfl) rfl ?_
  refine .tq (t_load ty30 rfl (Cells.get (i := 0) hv3.cells rfl)) rfl ?_
  refine .mv rfl rfl ?_
  refine .tq (t_fieldAddr fa32_0 rfl) rfl ?_
  refine .tq (t_load ty30 rfl (Cells.get (i := 0) hv3.cells rfl)) rfl ?_
  refine .mv rfl rfl ?_
  refine .tq (t_indexAddrL Tryz.underlying30 ty103 rfl rfl (by omega)) rfl ?_
  refine .tq (t_fieldAddr fa103_3 rfl) rfl ?_
  refine .tq (t_load ty51 rfl (hcell _ hv)) rfl ?_
  refine Rg.wdB trivial rfl (w_call Tryz.call63 rfl (cloneI_ok (hnkok.slc.ext hx) (ints_one _) hnkok.few)) rfl (fun _ _ h => h.2.1) ?_
  rintro u w7 ⟨hou,hx7,hun⟩
  obtain ⟨pu,nu,cu,rfl⟩ : ∃ p n c,u = .slice p n c := by
   rcases own_wholeG hou with ⟨e,_⟩ | ⟨_,_,_,e,_⟩ <;> exact ⟨_,_,_,e⟩
  have hgw := hv.lt
  have hb3w := hv3.lt
  have hb2w2 := hv2.lt
  replace hx := hx.ext hx7
  replace hv2 := hv2.ext hx7
  replace hv3 := hv3.ext hx7
  replace hv := hv.ext hx7
  refine .tq (t_indexAddrL Tryz.underlying30 ty103 rfl rfl (by omega)) rfl ?_
  refine .tq (t_fieldAddr fa103_3 rfl) rfl ?_
  refine Rg.wnB trivial rfl (w_putAt (cs := [.slice pu nu cu]) hv rfl rfl rfl ty51 (by simp only [List.length_append,encs_len Gc.len,List.length_cons,List.length_nil]; omega) (by intro u hu; simp at hu; subst hu; rfl)) (by rfl) ?_
  rintro _ w8 ⟨hu8,hv9⟩
  rw [show 0 + (l.length : Int).toNat * 4 + 3 = l.length * 4 + 3 by omega] at hv9
  try simp only [List.length_singleton] at hv9
  rw [put_cv] at hv9
  clear hv
  have hsz := hu8.size
  replace hv2 := hv2.upd hu8 hgb3.2.symm
  replace hv3 := hv3.upd hu8 hgb3.1.symm
  have hbw9 : Bw (fun z => z < w9.heap.size ∧ z ≠ g) w9 w8 := (Bw.of (hxd.ext hx7) fun z hz => hz.1).trans (Bw.upd hu8 fun hh => hh.2 rfl)
  have hsz9 := hbw9.size
  have hubl : ∀ b,(Value.slice pu nu cu).ownBlock = some b → w.heap.size ≤ b ∧ b < w8.heap.size ∧ b ≠ g ∧ b ≠ b2 := fun b hb => by
   have h1 := own_lt hou hb
   have h2 := own_ge hou hb
   have h3 := hxd.le
   have h4 := hx0.le
   omega
  refine .done ?_
  refine Wp.region ?_
  first | refine .tq (t_addI rfl rfl (by omega)) rfl ?_ | refine .tq (t_add rfl rfl) rfl ?_
  refine .mv rfl rfl ?_
  refine .done ?_
  refine ⟨l ++ [{ nk with cv := .slice pu nu cu }],by rw [List.length_append]; repeat (first | exact .nil | refine .cons rfl ?_),⟨by rw [List.length_append]; exact hlt,?_,?_,?_,hv2,hv3,hx.upd hu8 (by omega)⟩,by rw [List.length_append,List.length_singleton]; omega⟩
  ·rw [List.length_append,List.length_singleton]
   have : ers (l ++ [{ nk with cv := .slice pu nu cu }]) = ers l ++ [nk.er] := by simp [ers,Gc.er]
   rw [this,hel,List.take_succ_eq_append_getElem (by rw [ers_len]; exact hlt)]
   simp [ers,hnk]
  ·rw [List.length_append,List.length_singleton,List.append_assoc,List.singleton_append]
   exact whole_ownG hgB (by rw [encs_len Gc.len,List.length_append,List.length_cons,List.length_drop]; congr 1; omega) hcap hmx hsp hv9
  ·intro m hm
   rcases List.mem_append.1 hm with hm | hm
   ·refine ((hok m hm).bw (R := fun z => (w.heap.size ≤ z ∧ z < w9.heap.size ∧ some z ≠ (Value.slice (some ⟨g,0,none⟩) a.length cp1).ownBlock ∧ z ≠ b2)) (hbw9.sub fun z hz => ⟨hz.2.1,fun e => hz.2.2.1 (by rw [e]; rfl)⟩) fun z hz => hz).mono fun z hz => ⟨hz.1,by omega,hz.2.2⟩
   ·obtain rfl : m = { nk with cv := .slice pu nu cu } := by simpa using hm
    refine ⟨slC_bw (own_slc hou) (Bw.upd (F := fun z => z ≠ g) hu8 fun hh => hh rfl) fun b hb => (hubl b hb).2.2.1,rfl,fun b hb => ?_,fun e => hun (hnkok.nil e),hnkok.few⟩
    have := hubl b hb
    exact ⟨this.1,this.2.1,fun e => this.2.2.1 (Option.some.inj e),this.2.2.2⟩
 ·obtain hkl : l.length = a.length := by omega
  rw [List.drop_eq_nil_of_le (by omega),List.append_nil] at hown
  rw [hkl,← ers_len,List.take_length] at hel
  refine .sr ?_
  first | refine .tq (t_lssT rfl rfl (by omega)) rfl ?_ | refine .tq (t_lssF rfl rfl (by omega)) rfl ?_ | refine .tq (t_lss rfl rfl) rfl ?_
  refine .done ?_
  refine .seq ?_
  refine .condF rfl ?_
  refine Wp.exit ?_
  refine .sr ?_
  refine .tq (t_loadA rfl hv3.cells (by exact ty32)) rfl ?_
  refine Rg.wn trivial (w_put hv2 rfl rfl rfl ty32 rfl rfl) ?_
  rintro _ w10 ⟨hu10,hv10⟩
  have hs10 := hu10.size
  refine .done ?_
  refine Wp.ret ?_
  have hnb2 : ∀ z,(Value.slice p1 n1 cp1).ownBlock = some z → z ≠ b2 := fun z hz => (hngO z hz).2.2.2
  refine ⟨[_],⟨⟨_,rfl,lv_agg hv10 ty32⟩,trivial⟩,.slice p1 n1 cp1,l,(fun z => w.heap.size ≤ z ∧ z < w9.heap.size ∧ some z ≠ (Value.slice p1 n1 cp1).ownBlock ∧ z ≠ b2),rfl,hel,?_,fun m hm => (hok m hm).bw (Bw.upd (F := fun z => w.heap.size ≤ z ∧ z < w9.heap.size ∧ some z ≠ (Value.slice p1 n1 cp1).ownBlock ∧ z ≠ b2) hu10 fun hh => hh.2.2.2 rfl) fun z hz => hz,fun z hz => ⟨hz.1,by omega,hz.2.2.1⟩,hx.upd hu10 hb2w,fun e => hnil (hA.nil ?_)⟩
  ·rw [hkl]
   exact own_bw hown (Bw.upd (F := fun z => z ≠ b2) hu10 fun hh => hh rfl) hnb2
  ·rw [e] at hkl
   exact List.length_eq_zero_iff.1 hkl.symm
end Go.Proofs.YtcelfjbajdffkaaGreatDoor.Par
