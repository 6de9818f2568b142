/- The engine's rules, more: regions that draw, where stores into known blocks Z may come ahead of loads from others. Generic in the program. -/
import Derived.Test.YtlndmiegodcfjaaGreatDoorXa
import Derived.Recover
import Derived.RangeFuncSeq
import Derived.RangeFuncCalls
import Derived.Laws.IdiomRangeMap
import Derived.TacticsIn
import Derived.Lib.Overlaps
import Derived.Laws.Externs
import Derived.Shelf.Unicode.DecodeAny
import Derived.Lib.LastIndexByte
import Derived.Lib.Bytealg
import Derived.Shelf.Strings.Fields
import Derived.Shelf.Slices.Turned
import Derived.Shelf.Small.Strs
import Derived.Shelf.Strings.Prefix
import Derived.Ground.Names2Prog
import Derived.Ground.SlgnProg
import Derived.Test.YtlndmiegodcfjaaGreatDoorProg
set_option linter.unusedVariables false
set_option linter.unusedSimpArgs false
namespace Go.Gx
open Go.RowKit
section
variable {P : Program} {n : Nat} {N : Kn} {X : Exit → Kn} {L : Env} {w : World}
def TmZ (P : Program) (n : Nat) (Z : List Nat) (o : Oper) (L : Env) (w : World) (v : Value) : Prop :=
 ∀ a,Fr n a L → ∀ w',Kp Z w w' → (execOp a.eval o).run P w' = .ok (.value v) w'
theorem tz {Z : List Nat} {o : Oper} {v : Value} (h : ∀ w',Kp Z w w' → Tm P n o L w' v) : TmZ P n Z o L w v := fun a ha w' hk => h w' hk a ha w' (Below.refl _ _)
variable {aY : Array Oper} {Z : List Nat} {K : Kn} {dd : Tmp} {op : Op} {rest : List Oper} {v : Value} {ty : TypeId} {pos : String} {af : Array Edge} {g : Option (Nat × Bool)}
end
theorem B9 {w w1 w2 : World} {v : Value} {row : List Value} {e size n : Nat} (hx : Ext w w1) (h : w1.ownsRow w.heap.size e size v n row) (hg : w1.grownBy w2 v.ownBlock) : Ext w w2 :=
 Below.trans hx ((Below.refl _ w1).grown hg hx.le (fun k hk => (h.lt k hk).1))
theorem bX {w : World} {b e size n : Nat} {cs : List Value} (h : Var w b cs e) (hl : cs.length = n * size) : SlC w (.slice (some ⟨b,0,none⟩) n n) size n cs := ⟨hl,_,_,rfl,Nat.le_refl _,.inr ⟨b,0,rfl,h.cells⟩⟩
def Kb (B : Nat) (Z : List Nat) (w w' : World) : Prop := Below 0 w w' ∧ ∀ k,k < B → k ∉ Z → w'.heap[k]? = w.heap[k]?
section
variable {P : Program} {n : Nat} {N : Kn} {X : Exit → Kn} {L : Env} {w : World}
theorem Wp.cut {c : Code} (K : Kn) (h : Wp P n c K X L w) (k : ∀ L w,K L w → N L w) : Wp P n c N X L w := h.mono k fun _ _ _ h => h
def TmQ (P : Program) (n B : Nat) (Z : List Nat) (o : Oper) (L : Env) (w : World) (v : Value) : Prop :=
 ∀ a,Fr n a L → ∀ w',Kb B Z w w' → (execOp a.eval o).run P w' = .ok (.value v) w'
theorem tq {B : Nat} {Z : List Nat} {o : Oper} {v : Value} (h : ∀ w',Kb B Z w w' → Tm P n o L w' v) : TmQ P n B Z o L w v := fun a ha w' hk => h w' hk a ha w' (Below.refl _ _)
variable {aY : Array Oper} {K : Kn} {B : Nat} {Z : List Nat} {listed : Array Bool} {m : Nat}
end
section
variable {P : Program} {n : Nat} {N : Kn} {X : Exit → Kn} {L : Env} {w : World}
variable {aY : Array Oper} {Z bars : List Nat} {K : Kn} {dd : Tmp} {op : Op} {rest : List Oper} {v : Value} {ty : TypeId} {pos : String} {af : Array Edge} {g : Option (Nat × Bool)}
end
def TmS (P : Program) (n : Nat) (S : World → Prop) (o : Oper) (L : Env) (v : Value) : Prop :=
 ∀ a,Fr n a L → ∀ w',S w' → (execOp a.eval o).run P w' = .ok (.value v) w'
theorem ts {P : Program} {n : Nat} {L : Env} {S : World → Prop} {o : Oper} {v : Value} (h : ∀ w',S w' → Tm P n o L w' v) : TmS P n S o L v := fun a ha w' hk => h w' hk a ha w' (Below.refl _ _)
section
variable {P : Program} {n : Nat} {N : Kn} {X : Exit → Kn} {L : Env} {w : World}
inductive Rs (P : Program) (aY : Array Oper) (n : Nat) (S : World → Prop) (bars : List Nat) (K : Kn) : List Oper → Env → World → Prop
 | done {L : Env} {w : World} (h : K L w) : Rs P aY n S bars K [] L w
 | skip {o : Oper} {rest : List Oper} {L : Env} {w : World} (h : Hu aY o L ∨ wN aY o L) (hd : wD n o.dst = true) (k : Rs P aY n S bars K rest (lV o.dst undef L) w) : Rs P aY n S bars K (o :: rest) L w
 | tame {o : Oper} {rest : List Oper} {L : Env} {w : World} (v : Value) (hg : iV aY o L) (hw : cR o.op = false) (h : TmS P n S o L v) (hd : wD n o.dst = true)
   (k : Rs P aY n S bars K rest (lV o.dst v L) w) : Rs P aY n S bars K (o :: rest) L w
 | wild {o : Oper} {rest : List Oper} {L : Env} {w : World} (R : Value → World → Prop) (hg : iV aY o L) (hk : cR o.op = true) (h : Wl P n o L w R) (hz : bars.contains rest.length = false → ∀ v w',R v w' → S w') (hd : wD n o.dst = true)
   (k : ∀ v w',R v w' → Rs P aY n S bars K rest (lV o.dst v L) w') : Rs P aY n S bars K (o :: rest) L w
theorem Rs.any {aY : Array Oper} {S : World → Prop} {bars : List Nat} {K : Kn} (hs : Region.noSelect aY = true) (hb0 : ∀ m ∈ bars,m = 0) : ∀ (plan : List Nat) (L : Env) (w : World) (listed : Array Bool) (fuel : Nat),
  iW aY bars plan listed = true → plan.length ≤ fuel → fZ aY listed → (plan ≠ [] → S w) → Rs P aY n S bars K (dN aY plan) L w → ∀ a,Fr n a L →
  gA P aY (Tq n K X) S (bU aY bars plan) fuel listed a w := by
 intro plan
 induction plan with
 | nil =>
  intro L w listed fuel hp hf hcl hSw h a ha;have hr : Region.ready .any aY listed = [] := by simpa [iW] using hp
  cases h with
  | done h => exact kY hr ⟨_,ha,h⟩ _
 | cons i plan ih =>
  intro L w listed fuel hp hf hcl hSw h a ha;obtain ⟨fuel,rfl⟩ : ∃ m,fuel = m + 1 := ⟨fuel - 1,by simp at hf; omega⟩;have hS := hSw (by simp);have hf' : plan.length ≤ fuel := by simpa using hf
  simp only [iW,Bool.and_eq_true] at hp;obtain ⟨hp,hp'⟩ := hp
  cases ho : aY[i]? with
  | none => simp [ho] at hp
  | some o =>
   simp only [ho,Bool.and_eq_true] at hp;obtain ⟨hr,hp⟩ := hp;have hri : i ∈ Region.ready .any aY listed := by simpa using hr
   have hcl' := hcl.set hri;have hoo : aY.getD i default = o := by simp [Array.getD_eq_getD_getElem?,ho]
   have hlen : (dN aY plan).length = plan.length := by simp [dN]
   have hops : dN aY (i :: plan) = o :: dN aY plan := by simp only [dN,List.map_cons,hoo]
   rw [hops] at h;have tameCase : cR o.op = false → ∀ v,(∀ a,Fr n a L → YieldsIf P aY S o v a) → Rs P aY n S bars K (dN aY plan) (lV o.dst v L) w → wD n o.dst = true →
     gA P aY (Tq n K X) S (bU aY bars (i :: plan)) (fuel + 1) listed a w := by
    intro hk v hy k hd;rw [if_neg (by simp [hk])] at hp;simp only [Bool.and_eq_true,Bool.not_eq_true',Bool.or_eq_true] at hp;obtain ⟨⟨hfr,hnb⟩,hbar⟩ := hp;have hnext : bU aY bars (i :: plan) = bU aY bars plan := gX hnb;rw [hnext];refine kG ho (Region.noSelect_spec hs) (fun _ _ _ h => h) ?_ fuel listed a w (Region.free_spec ho hfr) hri hcl (hy a ha) hS (ih _ w _ fuel hp' hf' hcl' (fun _ => hS) k _ (ha.put hd _))
    rcases hbar with hbar | ⟨hne,hanc⟩
    ·have hb := Nat.eq_of_beq_eq_true hbar
     have hil := jO hri;exact ⟨by omega,fun l _ _ hm => by have := jO hm; omega⟩
    ·have hne' : bU aY bars plan ≠ i := fun e => by rw [e,Nat.beq_refl] at hne; cases hne
     refine ⟨hne',fun l hl hi hm => ?_⟩;have hself : ∀ j ∈ [bU aY bars plan],Anc aY (bU aY bars plan) j := fun j hj => by
      have hj' : j = bU aY bars plan := by simpa using hj
      rw [hj'];exact Anc.self
     have hA := kF (b := bU aY bars plan) (bU aY bars plan + 1) _ hself i (by simpa using hanc)
     rcases hl.anc hm hA with e | e
     ·exact hne' e.symm
     ·rw [hi] at e; cases e
   have wildCase : cR o.op = true → ∀ R : Value → World → Prop,Region.wanted o (yielded aY a.tmps) = true → Wl P n o L w R → (bars.contains plan.length = false → ∀ v w',R v w' → S w') → wD n o.dst = true →
     (∀ v w',R v w' → Rs P aY n S bars K (dN aY plan) (lV o.dst v L) w') → gA P aY (Tq n K X) S (bU aY bars (i :: plan)) (fuel + 1) listed a w := by
    intro hk R hg h hb hd k;rw [if_pos hk] at hp;have hrs : Region.ready .any aY listed = [i] := by simpa using hp
    refine ⟨fun h0 => (by rw [h0] at hrs; cases hrs),?_⟩;intro j hj;obtain rfl : j = i := by rw [hrs] at hj; simpa using hj
    unfold wpOp;simp only [ho];rw [if_pos hg];refine .inl (h a ha _ _ fun v w' hv => ?_);have hih := ih _ w' _ fuel hp' hf' hcl' (fun hne => by
     cases hbc : bars.contains plan.length with
     | true =>
      have h0 := hb0 _ (by simpa using hbc);exact absurd (List.eq_nil_of_length_eq_zero h0) hne
     | false => exact hb hbc v w' hv) (k v w' hv) _ (ha.put hd v)
    cases hbc : bars.contains plan.length with
    | true =>
     have hnext : bU aY bars (j :: plan) = j := jE hbc;rw [hnext];exact ⟨fun _ => eB _ _ _ _ hih,fun e => absurd rfl e⟩
    | false =>
     have hw := hb hbc v w' hv;have hnext : bU aY bars (j :: plan) = bU aY bars plan := gX hbc;rw [hnext];exact ⟨fun _ => eB _ _ _ _ hih,fun _ => ⟨hw,hih⟩⟩
   cases h with
   | skip h hd k =>
    cases hk : cR o.op with
    | false => exact tameCase hk undef (fun a ha => .inr ⟨h.elim (fun h => h.wanted ha) (fun h => h.wanted ha),rfl⟩) k hd
    | true =>
     rw [if_pos hk] at hp;have hrs : Region.ready .any aY listed = [i] := by simpa using hp
     refine ⟨fun h0 => (by rw [h0] at hrs; cases hrs),?_⟩;intro j hj;obtain rfl : j = i := by rw [hrs] at hj; simpa using hj
     unfold wpOp;simp only [ho];have hn : Region.wanted o (yielded aY a.tmps) = false := h.elim (fun h => h.wanted ha) (fun h => h.wanted ha);rw [if_neg (by simp [hn])];have hih := ih _ w _ fuel hp' hf' hcl' (fun _ => hS) k _ (ha.put hd _);refine ⟨fun _ => eB _ _ _ _ hih,fun e => ⟨hS,?_⟩⟩;have hnext : bU aY bars (j :: plan) = bU aY bars plan := by
      by_cases hbc : bars.contains plan.length = true
      ·exact absurd (jE hbc).symm e
      ·exact gX (by simpa using hbc)
     rw [hnext];exact hih
   | tame v hg hw h hd k => exact tameCase hw v (fun a ha => .inl ⟨hg.wanted ha,fun w' hw' => h a ha w' hw'⟩) k hd
   | wild R hg hk h hz hd k =>
    rw [hlen] at hz;exact wildCase hk R (hg.wanted ha) h hz hd k
theorem Wp.drawS {id : Nat} {aY : Array Oper} (S : World → Prop) (plan bars : List Nat) (hm : P.follows .mixedOrders = true) (hs : Region.noSelect aY = true)
  (hp : (iW aY bars plan (Array.replicate aY.size false) && Nat.ble plan.length aY.size) = true) (hb0 : bars.all (· == 0) = true)
  (h : ∀ w1,Ext w w1 → w1.heap = w.heap → S w1 ∧ Rs P aY n S bars N (dN aY plan) L w1) : Wp P n (.region id aY true) N X L w := fun a ha => by
 simp only [Bool.and_eq_true] at hp;obtain ⟨h1,h2⟩ := h _ (Ext.drew w) rfl;exact wp_region_any hm (eB _ _ _ _ (Rs.any hs (fun m hm => by simpa using List.all_eq_true.1 hb0 m hm) plan L w.drew _ aY.size hp.1 (Nat.le_of_ble_eq_true hp.2) (fZ.start aY) (fun _ => h1) h2 a ha))
variable {aY : Array Oper} {S : World → Prop} {bars : List Nat} {K : Kn} {dd : Tmp} {op : Op} {rest : List Oper} {v : Value} {ty : TypeId} {pos : String} {af : Array Edge} {g : Option (Nat × Bool)}
theorem Rs.tm (hg : iV aY ⟨some dd,op,ty,pos,af,g⟩ L) (hw : cR op = false) (h : TmS P n S ⟨some dd,op,ty,pos,af,g⟩ L v) (hd : Nat.blt dd n = true) (k : Rs P aY n S bars K rest ((dd,v) :: L) w) :
  Rs P aY n S bars K (⟨some dd,op,ty,pos,af,g⟩ :: rest) L w := .tame v hg hw h hd k
theorem Rs.wd {R : Value → World → Prop} (hg : iV aY ⟨some dd,op,ty,pos,af,g⟩ L) (hk : cR op = true) (h : Wl P n ⟨some dd,op,ty,pos,af,g⟩ L w R) (hd : Nat.blt dd n = true) (hz : bars.contains rest.length = false → ∀ v w',R v w' → S w')
  (k : ∀ v w',R v w' → Rs P aY n S bars K rest ((dd,v) :: L) w') : Rs P aY n S bars K (⟨some dd,op,ty,pos,af,g⟩ :: rest) L w := .wild R hg hk h hz hd k
theorem Rs.wn {R : Value → World → Prop} (hg : iV aY ⟨none,op,ty,pos,af,g⟩ L) (hk : cR op = true) (h : Wl P n ⟨none,op,ty,pos,af,g⟩ L w R) (hz : bars.contains rest.length = false → ∀ v w',R v w' → S w')
  (k : ∀ v w',R v w' → Rs P aY n S bars K rest L w') : Rs P aY n S bars K (⟨none,op,ty,pos,af,g⟩ :: rest) L w := .wild R hg hk h hz rfl k
end
theorem fU {w : World} {B e size n b t : Nat} {v : Value} {xs cs : List Value} (h : w.ownsRow B e size v n xs) (hv : Var w b cs t) (ht : t ≠ e) : b ∉ v.ownBlock.toList := fun hm => by
 cases hb : v.ownBlock with
 | none => rw [hb] at hm; simp at hm
 | some k =>
  rw [hb] at hm;obtain rfl : b = k := by simpa using hm
  obtain ⟨cs',hc⟩ := jP h hb.symm;exact wV hv ht _ hc
theorem Ext.tr {a b c : World} (h : Ext a b) (k : Ext b c) : Ext a c := h.trans (k.mono h.le)
section
variable {P : Program} {n : Nat} {N : Kn} {X : Exit → Kn} {L : Env} {w : World}
variable {aY : Array Oper} {S : World → Prop} {bars : List Nat} {K : Kn} {dd : Tmp} {op : Op} {rest : List Oper} {v : Value} {ty : TypeId} {pos : String} {af : Array Edge} {g : Option (Nat × Bool)}
end
section
variable {P : Program} {n : Nat} {N : Kn} {X : Exit → Kn} {L : Env} {w : World}
variable {aY : Array Oper} {K : Kn} {S : World → Prop} {listed : Array Bool} {m : Nat}
end
section
variable {P : Program} {n : Nat} {N : Kn} {X : Exit → Kn} {R : PanK} {L : Env} {w : World} {Q : Exit → Act → World → Prop} {ds : List Deferred}
variable {S : Exit → Act → List Frame → World → Prop} {cs : List Frame}
end
section
variable {P : Program} {n m : Nat} {L : Env} {w : World} {F : Fence} {Q : Exit → Act → World → Prop}
end
section
variable {P : Program} {n : Nat} {L : Env} {w : World}
end
section
variable {P : Program} {n : Nat} {L : Env} {w : World} {d : Option Tmp} {ty : TypeId} {pos : String} {af : Array Edge} {g : Option (Nat × Bool)}
end
section
variable {P : Program} {n : Nat} {L : Env} {w : World} {d : Option Tmp} {ty : TypeId} {pos : String} {af : Array Edge} {g : Option (Nat × Bool)}
theorem Ca {t e : TypeId} {x : Operand} {p : Option Addr} {l c : Nat} (hu : P.underlying t = some (.slice e)) (hx : cF L x = some (.slice p l c)) : Tm P n ⟨d,.call { callee := .builtin .cap,args := #[x],argTypes := #[t] },ty,pos,af,g⟩ L w (.int .i64 c) := fun a ha w' _ => by
 simp [execOp,resolve,invoke,builtin,ha.eval hx,Builtin.cap_,run_underlying hu,goInt]
theorem oV {t t' e : TypeId} {x y : Operand} {b o dl dc k size : Nat} {ag : Bool} {u : Value} {cur cs : List Value} (hu : P.underlying t = some (.slice e)) (ht : Ty P e size ag) (hv : Var w b cur e) (hx : cF L x = some (.slice (some ⟨b,o,none⟩) dl dc)) (hy : cF L y = some u) (hs : SlC w u size k cs)
  (hl : o + min k dl * size ≤ cur.length) (h1 : ∀ v ∈ cs.take (min k dl * size),v.oneCell' = true) :
  Wl P n ⟨d,.call { callee := .builtin .copy,args := #[x,y],argTypes := #[t,t'] },ty,pos,af,g⟩ L w (fun _ w' => Upd b w w' ∧ Var w' b (cur.take o ++ cs.take (min k dl * size) ++ cur.drop (o + min k dl * size)) e) := iD fun a hF => by
 obtain ⟨hl1,p,cap,rfl,hkc,hd⟩ := hs;obtain ⟨m,hm⟩ : ∃ m,min k dl = m := ⟨_,rfl⟩;have hm' : Nat.min k dl = m := hm;have hmk : m ≤ k := by omega
 simp only [hm] at hl ⊢;have hlt : (cs.take (m * size)).length = m * size := by
  rw [List.length_take,hl1];exact Nat.min_eq_left (Nat.mul_le_mul_right _ (hmk))
 have hfc : (Builtin.firstCells size (m) (.slice p k cap)).run P w = .ok (cs.take (m * size)).toArray w := by
  cases p with
  | none =>
   have hc : cap = 0 := hd.elim id fun ⟨b,o,h,_⟩ => by cases h
   have hk : k = 0 := by omega
   subst hk;have hm0 : m = 0 := by omega
   simp [Builtin.firstCells,hm0]
  | some ad =>
   refine run_firstCells_some w size _ ad _ _ _ hlt fun j v hj => ?_
   rcases hd with h0 | ⟨b',o',hp,hc⟩
   ·have hk : k = 0 := by omega
    subst hk;have hm0 : m = 0 := by omega
    subst hm0;simp at hj
   ·cases hp
    rw [dF];refine hc j v ?_;rw [List.getElem?_take] at hj
    split at hj
    ·exact hj
    ·cases hj
 have hst := run_storeCells_at (P := P) b o e (cs.take (m * size)) 0 cur.toArray w hv (by simp only [hlt]; simpa using hl) (fun v hv' => h1 v (by rw [hm]; exact hv'));simp only [Nat.add_zero,List.toList_toArray,hlt] at hst;refine ⟨goInt (m),w.setRow b (cur.take o ++ cs.take (m * size) ++ cur.drop (o + m * size)).toArray,?_,Upd.setRow _ _ _,?_⟩
 ·simp [execOp,resolve,invoke,builtin,hF.eval hx,hF.eval hy,Builtin.copy_,run_underlying hu,Builtin.lenOf,ht.sz,hm',hfc,hst]
 ·exact setRow_heap w b cur.toArray _ e _ hv
end
theorem bH {w : World} {B n e size : Nat} {v : Value} {xs : List Value} (h : w.ownsRow B e size v n xs) : (v = .slice none 0 0 ∧ n = 0) ∨ ∃ g cap sp,v = .slice (some ⟨g,0,none⟩) n cap ∧ B ≤ g ∧ n ≤ cap ∧ cap ≤ maxLen ∧ sp.length = (cap - n) * size ∧ Var w g (xs ++ sp) e := by
 obtain ⟨hl,h | ⟨g,cap,cur,rfl,hB,hc,h1,h2,h3,h4⟩⟩ := h
 ·exact .inl h
 ·refine .inr ⟨g,cap,cur.toList.drop (n * size),rfl,hB,h1,h2,?_,?_⟩
  ·rw [List.length_drop,Array.length_toList,h3,Nat.mul_sub_right_distrib]
  ·unfold Var
   rw [← h4,List.take_append_drop]
   simpa using hc
theorem bK {w : World} {B g n cap e size : Nat} {xs sp : List Value} (hB : B ≤ g) (hk : xs.length = n * size) (h1 : n ≤ cap) (h2 : cap ≤ maxLen) (hs : sp.length = (cap - n) * size) (hv : Var w g (xs ++ sp) e) : w.ownsRow B e size (.slice (some ⟨g,0,none⟩) n cap) n xs := by
 refine ⟨hk,.inr ⟨g,cap,(xs ++ sp).toArray,rfl,hB,hv,h1,h2,?_,?_⟩⟩
 ·simp [hk,hs]; rw [← Nat.add_mul]; congr 1; omega
 ·simp [← hk]
end Go.Gx
namespace Go.Proofs.YtlndmiegodcfjaaGreatDoor.Lexi
open Go.Lib
def bt (s : ByteArray) (i : Nat) : Int := ((s.data.toList.getD i 0).toNat : Int)
theorem mI (s : ByteArray) (k : Nat) : (s.extract 0 k).data.toList = s.data.toList.take k := by
 simp
def yT (s : ByteArray) (i : Nat) : Nat × Nat := decodeGo (s.extract i s.size)
theorem uT (n b0 b1 b2 b3 : Nat) : 1 ≤ (decodeN n b0 b1 b2 b3).2 := by
 unfold decodeN
 repeat' split
 all_goals simp
theorem wW (s : ByteArray) {i : Nat} (h : i < s.size) : 1 ≤ (yT s i).2 := by
 unfold yT decodeGo;rw [if_neg (by rw [ByteArray.size_extract]; omega),decode_at];exact uT _ _ _ _ _
def run (wd : Nat → Nat) (s : ByteArray) (c : Nat → Int → Bool) : Nat → Nat → Int → Nat × Int
 | 0,i,k => (i,k)
 | f + 1,i,k => if c i k then run wd s c f (i + (yT s i).2) (k + wd (yT s i).1) else (i,k)
def wX (off : Nat) : Nat → Int → Bool := fun i _ => decide (i < off)
def Cb (s : ByteArray) (col : Int) : Nat → Int → Bool := fun i c => decide (c < col) && decide (i < s.size) && decide (bt s i ≠ 10)
theorem yU {wd : Nat → Nat} {s : ByteArray} {off : Nat} (h : off ≤ s.size) : ∀ f i k,s.size - i ≤ f → off ≤ (run wd s (wX off) f i k).1 ∧ i ≤ (run wd s (wX off) f i k).1
 | 0,i,k,hf => by simp [run]; omega
 | f + 1,i,k,hf => by
  unfold run
  by_cases hi : i < off
  ·rw [if_pos (by simp [wX,hi])]
   have h1 := wW s (i := i) (by omega);have := yU (wd := wd) h f (i + (yT s i).2) (k + wd (yT s i).1) (by omega);exact ⟨this.1,by omega⟩
  ·rw [if_neg (by simp [wX,hi])]
   exact ⟨by simp only; omega,Nat.le_refl _⟩
theorem back {wd : Nat → Nat} (hw : ∀ r,1 ≤ wd r) {s : ByteArray} {off : Nat} {col : Int} (h : off ≤ s.size) : ∀ f i k,s.size - i ≤ f → (∀ j,i ≤ j → j < off → bt s j ≠ 10) → run wd s (wX off) f i k = (off,col) → run wd s (Cb s col) f i k = (off,col) ∧ k ≤ col ∧ (i < off → k < col)
 | 0,i,k,hf,hn,he => by
  simp only [run,Prod.mk.injEq] at he ⊢;obtain ⟨rfl,rfl⟩ := he;exact ⟨⟨rfl,rfl⟩,Int.le_refl _,fun h => absurd h (Nat.lt_irrefl _)⟩
 | f + 1,i,k,hf,hn,he => by
  unfold run at he ⊢
  by_cases hi : i < off
  ·rw [if_pos (by simp [wX,hi])] at he
   have h1 := wW s (i := i) (by omega);have hge := (yU (wd := wd) h f (i + (yT s i).2) (k + wd (yT s i).1) (by omega)).2;rw [he] at hge;obtain ⟨h2,h3,h4⟩ := back hw h f (i + (yT s i).2) (k + wd (yT s i).1) (by omega) (fun j h1 h2 => hn j (by omega) h2) he;have h5 := hw (yT s i).1;have h6 := hn i (Nat.le_refl _) hi;rw [if_pos (by simp only [Cb,Bool.and_eq_true,decide_eq_true_eq]; exact ⟨⟨by omega,by omega⟩,h6⟩)];exact ⟨h2,by omega,fun _ => by omega⟩
  ·rw [if_neg (by simp [wX,hi])] at he
   simp only [Prod.mk.injEq] at he;obtain ⟨rfl,rfl⟩ := he;rw [if_neg (by simp [Cb])];exact ⟨rfl,Int.le_refl _,fun h => absurd h (Nat.lt_irrefl _)⟩
theorem dT {wd : Nat → Nat} (hw : ∀ r,wd r ≤ 2) {s : ByteArray} {c : Nat → Int → Bool} (hc : ∀ i k,c i k = true → i < s.size) : ∀ f i k,k ≤ (run wd s c f i k).2 ∧ (run wd s c f i k).2 + 2 * i ≤ k + 2 * (run wd s c f i k).1
 | 0,i,k => by simp [run]
 | f + 1,i,k => by
  unfold run
  split
  ·rename_i h
   have h1 := dT hw hc f (i + (yT s i).2) (k + wd (yT s i).1);have h2 := wW s (hc i k h);have h3 := hw (yT s i).1;omega
  ·simp
end Go.Proofs.YtlndmiegodcfjaaGreatDoor.Lexi
namespace Go.Proofs.YtlndmiegodcfjaaGreatDoor.Lexi
def bz (s : ByteArray) (i : Nat) : Int := if i < s.size then bt s i else 10
theorem uU {s : ByteArray} {i : Nat} (h : i < s.size) : bz s i = bt s i := if_pos h
theorem wY {s : ByteArray} {i : Nat} (h : s.size ≤ i) : bz s i = 10 := if_neg (by omega)
theorem pL {s : ByteArray} {i : Nat} (h : bz s i ≠ 10) : i < s.size := by
 rcases Nat.lt_or_ge i s.size with h' | h'
 ·exact h'
 ·exact absurd (wY h') h
def xA (c : Int) : Bool := c == 32 || c == 9 || c == 10 || c == 13
def kH (c : Int) : Bool := (decide (97 ≤ c) && decide (c ≤ 122)) || (decide (65 ≤ c) && decide (c ≤ 90)) || c == 95
def lA (c : Int) : Bool := decide (48 ≤ c) && decide (c ≤ 57)
def pM (c : Int) : Bool := kH c || lA c
def lB (c : Int) : Bool := c != 10
def Ep (p : Int → Bool) (s : ByteArray) : Nat → Nat → Nat
 | 0,i => i
 | f + 1,i => if i < s.size then (if p (bt s i) then Ep p s f (i + 1) else i) else i
def gC (p : Int → Bool) (s : ByteArray) (i : Nat) : Nat := Ep p s (s.size - i) i
theorem uV (p : Int → Bool) (s : ByteArray) : ∀ f i,s.size - i ≤ f → i ≤ Ep p s f i ∧ (i ≤ s.size → Ep p s f i ≤ s.size) ∧ (∀ k,i ≤ k → k < Ep p s f i → p (bt s k) = true) ∧ (Ep p s f i < s.size → p (bt s (Ep p s f i)) = false)
 | 0,i,h => ⟨Nat.le_refl _,fun h => h,fun k h1 h2 => by simp only [Ep] at h2; omega,fun h2 => by simp only [Ep] at h2; omega⟩
 | f + 1,i,h => by
  unfold Ep
  by_cases hi : i < s.size
  ·rw [if_pos hi]
   cases hp : p (bt s i) with
   | true =>
    rw [if_pos rfl];obtain ⟨h1,h2,h3,h4⟩ := uV p s f (i + 1) (by omega);refine ⟨by omega,fun _ => h2 (by omega),fun k k1 k2 => ?_,h4⟩
    by_cases he : k = i
    ·subst he; exact hp
    ·exact h3 k (by omega) k2
   | false =>
    rw [if_neg (by simp)];exact ⟨Nat.le_refl _,fun h => h,fun k h1 h2 => by omega,fun _ => hp⟩
  ·rw [if_neg hi]
   exact ⟨Nat.le_refl _,fun h => h,fun k h1 h2 => by omega,fun h2 => absurd h2 hi⟩
theorem gY (p : Int → Bool) (s : ByteArray) (i : Nat) : i ≤ gC p s i ∧ (i ≤ s.size → gC p s i ≤ s.size) ∧ (∀ k,i ≤ k → k < gC p s i → p (bt s k) = true) ∧ (gC p s i < s.size → p (bt s (gC p s i)) = false) := uV p s _ i (Nat.le_refl _)
theorem lC {p : Int → Bool} {s : ByteArray} {i j : Nat} (h1 : i ≤ j) (h2 : j ≤ s.size) (h3 : ∀ k,i ≤ k → k < j → p (bt s k) = true) (h4 : j < s.size → p (bt s j) = false) : gC p s i = j := by
 obtain ⟨k1,k2,k3,k4⟩ := gY p s i;have k2 := k2 (by omega)
 rcases Nat.lt_trichotomy (gC p s i) j with h | h | h
 ·have a := h3 _ k1 h
  rw [k4 (by omega)] at a
  cases a
 ·exact h
 ·have a := k3 j h1 h
  rw [h4 (by omega)] at a
  cases a
theorem mV {p : Int → Bool} {s : ByteArray} {i : Nat} (h : i < s.size) (hp : p (bt s i) = true) : i < gC p s i := by
 obtain ⟨k1,k2,k3,k4⟩ := gY p s i
 rcases Nat.lt_or_ge i (gC p s i) with h' | h'
 ·exact h'
 ·have : gC p s i = i := by omega
  rw [this] at k4;rw [k4 h] at hp
  cases hp
def lD (s : ByteArray) : Nat → Nat → Option Nat
 | 0,_ => none
 | f + 1,i => if bz s i = 10 then none else if bz s i = 34 then some (i + 1) else if bz s i = 92 ∧ bz s (i + 1) ≠ 10 then lD s f (i + 2) else lD s f (i + 1)
theorem lR {s : ByteArray} : ∀ f g i,s.size - i < f → s.size - i < g → lD s f i = lD s g i
 | f + 1,g + 1,i,hf,hg => by
  unfold lD
  by_cases h : bz s i = 10
  ·rw [if_pos h,if_pos h]
  ·have := pL h
   rw [if_neg h,if_neg h,lR f g (i + 2) (by omega) (by omega),lR f g (i + 1) (by omega) (by omega)]
def Ah (s : ByteArray) (i : Nat) : Option Nat := lD s (s.size + 1) i
theorem nS {s : ByteArray} : ∀ f i j,lD s f i = some j → i < j ∧ j ≤ s.size ∧ ∀ t g,t.size - i < g → (∀ k,k < j → bz t k = bz s k) → lD t g i = some j
 | f + 1,i,j,h => by
  unfold lD at h
  by_cases h1 : bz s i = 10
  ·rw [if_pos h1] at h; cases h
  rw [if_neg h1] at h;have hi := pL h1
  by_cases h2 : bz s i = 34
  ·rw [if_pos h2] at h
   obtain rfl := Option.some.inj h;refine ⟨by omega,by omega,fun t g hg ht => ?_⟩;obtain ⟨g,rfl⟩ : ∃ g',g = g' + 1 := ⟨g - 1,by omega⟩;unfold lD;rw [ht i (by omega),if_neg h1,if_pos h2]
  rw [if_neg h2] at h
  by_cases h3 : bz s i = 92 ∧ bz s (i + 1) ≠ 10
  ·rw [if_pos h3] at h
   obtain ⟨a1,a2,a3⟩ := nS f (i + 2) j h;refine ⟨by omega,a2,fun t g hg ht => ?_⟩;obtain ⟨g,rfl⟩ : ∃ g',g = g' + 1 := ⟨g - 1,by omega⟩;have b1 : i < t.size := pL (by rw [ht i (by omega)]; exact h1);unfold lD;rw [ht i (by omega),ht (i + 1) (by omega),if_neg h1,if_neg h2,if_pos h3];exact a3 t g (by omega) ht
  ·rw [if_neg h3] at h
   obtain ⟨a1,a2,a3⟩ := nS f (i + 1) j h;refine ⟨by omega,a2,fun t g hg ht => ?_⟩;obtain ⟨g,rfl⟩ : ∃ g',g = g' + 1 := ⟨g - 1,by omega⟩;have b1 : i < t.size := pL (by rw [ht i (by omega)]; exact h1);have b2 : ¬ (bz t i = 92 ∧ bz t (i + 1) ≠ 10) := by
    rw [ht i (by omega)];intro hh
    by_cases hj : i + 1 < j
    ·rw [ht (i + 1) hj] at hh; exact h3 hh
    ·omega
   unfold lD;rw [if_neg b2,ht i (by omega),if_neg h1,if_neg h2];exact a3 t g (by omega) ht
def xB : ByteArray := ⟨#[117,115,101,32,112,117,98,32,97,115,32,102,110,32,115,116,114,117,99,116,32,101,110,117,109,32,116,114,97,105,116,32,105,109,112,108,32,102,111,114,32,99,111,110,115,116,32,109,97,99,114,111,32,108,101,116,32,109,117,116,32,119,104,105,108,101,32,114,101,116,117,114,110,32,109,97,116,99,104,32,105,102,32,101,108,115,101,32,110,101,119,32,116,114,117,101,32,102,97,108,115,101,32,116,121,112,101]⟩
def sP : ByteArray := ⟨#[58,58,32,61,62,32,45,62,32,61,61,32,38,38,32,124,124]⟩
def iN : ByteArray := ⟨#[40,41,123,125,91,93,60,62,44,59,58,46,61,43,45,42,47,33,38,124]⟩
def iX : List ByteArray := (Lib.fields xB.data.toList).map fun l => ⟨l.toArray⟩
def fL : List ByteArray := (Lib.fields sP.data.toList).map fun l => ⟨l.toArray⟩
def I9 (x : ByteArray) : Bool := Lib.containsS iX x
def uW (x : ByteArray) : Bool := Lib.containsS fL x
def Cc (c : Int) : Bool := decide (0 ≤ Lib.indexByte iN.data.toList c.toNat.toUInt8)
def tok (s : ByteArray) : Nat × Int :=
 if xA (bt s 0) then (gC xA s 0,101)
 else if bz s 0 = 47 ∧ bz s 1 = 47 then (gC lB s 0,102)
 else if kH (bt s 0) then (gC pM s 0,if I9 (s.extract 0 (gC pM s 0)) then 104 else 103)
 else if lA (bt s 0) then (gC lA s 0,105)
 else if bt s 0 = 34 then (match Ah s 1 with | some j => (j,106) | none => (gC lB s 1,108))
 else if bz s 1 ≠ 10 ∧ uW (s.extract 0 2) then (2,107)
 else if Cc (bt s 0) then (1,107) else (1,108)
theorem Ai {p : Int → Bool} {s : ByteArray} {i : Nat} (h : i < s.size) (hp : p (bt s i) = true) : gC p s i = gC p s (i + 1) := by
 obtain ⟨k1,k2,k3,k4⟩ := gY p s (i + 1);exact lC (by omega) (k2 (by omega)) (fun k a b => by
  by_cases he : k = i
  ·subst he; exact hp
  ·exact k3 k (by omega) b) k4
theorem kI {s : ByteArray} (h : 0 < s.size) : 1 ≤ (tok s).1 ∧ (tok s).1 ≤ s.size := by
 unfold tok;have hz := fun p => (gY p s 0).2.1 (Nat.zero_le _)
 split
 ·rename_i h1; exact ⟨mV h h1,hz _⟩
 ·rename_i h1
  split
  ·rename_i h2
   refine ⟨mV h ?_,hz _⟩;rw [uU h] at h2;rw [h2.1]; rfl
  ·split
   ·rename_i h3
    exact ⟨mV h (by unfold pM; rw [h3]; rfl),hz _⟩
   ·split
    ·rename_i h4; exact ⟨mV h h4,hz _⟩
    ·split
     ·cases hs : Ah s 1 with
      | some j =>
       obtain ⟨a1,a2,_⟩ := nS _ _ _ hs;exact ⟨by simp only; omega,a2⟩
      | none =>
       have a := gY lB s 1;exact ⟨a.1,a.2.1 h⟩
     ·split
      ·rename_i h6
       have := pL h6.1;exact ⟨by simp,by simp only; omega⟩
      ·split <;> exact ⟨by simp,h⟩
theorem sQ {s t : ByteArray} (h : s.data.toList = t.data.toList) : s = t := ByteArray.ext (Array.ext' h)
theorem uX (s : ByteArray) (a b : Nat) : (s.extract a b).data.toList = (s.data.toList.drop a).take (b - a) := by
 simp
theorem iY (s : ByteArray) : s.data.toList.length = s.size := by simp
theorem uY (a b : ByteArray) : (a ++ b).data.toList = a.data.toList ++ b.data.toList := by simp
theorem Aj (s : ByteArray) (n : Nat) : (s.extract n s.size).data.toList = s.data.toList.drop n := by
 rw [uX,List.take_of_length_le (by rw [List.length_drop,iY]; omega)]
theorem Cd {s : ByteArray} {n : Nat} (h : n ≤ s.size) : s.extract 0 n ++ s.extract n s.size = s := by
 apply sQ;rw [uY,mI,Aj,List.take_append_drop]
theorem eT (s : ByteArray) (n : Nat) : (s.extract n s.size).size = s.size - n := by rw [ByteArray.size_extract]; omega
theorem Ak {s : ByteArray} (h : s.size = 0) : s = ByteArray.empty := by
 apply sQ;have : s.data.toList.length = 0 := by rw [iY]; exact h
 rw [List.length_eq_zero_iff.1 this]; rfl
theorem full (s : ByteArray) : s.extract 0 s.size = s := by
 apply sQ;rw [mI,List.take_of_length_le (by rw [iY]; omega)]
def pN : Nat → ByteArray → List (Int × ByteArray)
 | 0,_ => []
 | f + 1,s => if s.size = 0 then [] else ((tok s).2,s.extract 0 (tok s).1) :: pN f (s.extract (tok s).1 s.size)
def aG (s : ByteArray) : List (Int × ByteArray) := pN s.size s
theorem pO : ∀ f g (s : ByteArray),s.size ≤ f → s.size ≤ g → pN f s = pN g s
 | 0,0,_,_,_ => rfl
 | 0,g + 1,s,hf,hg => by unfold pN; rw [if_pos (by omega)]
 | f + 1,0,s,hf,hg => by unfold pN; rw [if_pos (by omega)]
 | f + 1,g + 1,s,hf,hg => by
  unfold pN
  by_cases h : s.size = 0
  ·rw [if_pos h,if_pos h]
  ·have h1 := kI (s := s) (by omega)
   rw [if_neg h,if_neg h,pO f g _ (by rw [eT]; omega) (by rw [eT]; omega)]
theorem jQ {s : ByteArray} (h : s.size = 0) : aG s = [] := by unfold aG; rw [h]; rfl
theorem iR {s : ByteArray} (h : 0 < s.size) : aG s = ((tok s).2,s.extract 0 (tok s).1) :: aG (s.extract (tok s).1 s.size) := by
 have h1 := kI h;unfold aG;obtain ⟨f,hf⟩ : ∃ f,s.size = f + 1 := ⟨s.size - 1,by omega⟩;rw [hf]
 show (if s.size = 0 then [] else _) = _
 rw [if_neg (by omega),← hf,pO f (s.extract (tok s).1 s.size).size _ (by rw [eT]; omega) (Nat.le_refl _)]
def Al : List (Int × ByteArray) → ByteArray
 | [] => ByteArray.empty
 | t :: l => t.2 ++ Al l
theorem iE {P : ByteArray → Prop} (h : ∀ s,(∀ t,t.size < s.size → P t) → P s) (s : ByteArray) : P s := by
 have : ∀ n (s : ByteArray),s.size < n → P s := by
  intro n
  induction n with
  | zero => intro s hs; omega
  | succ n ih => intro s hs; exact h s fun t ht => ih t (by omega)
 exact this _ s (Nat.lt_succ_self _)
theorem Cf : ∀ s,Al (aG s) = s := iE fun s ih => by
 by_cases h : s.size = 0
 ·rw [jQ h,Ak h]; rfl
 ·have h1 := kI (s := s) (by omega)
  rw [iR (by omega),Al,ih _ (by rw [eT]; omega),Cd h1.2]
theorem Am : ∀ s,∀ t ∈ aG s,0 < t.2.size := iE fun s ih t ht => by
 by_cases h : s.size = 0
 ·rw [jQ h] at ht; cases ht
 ·have h1 := kI (s := s) (by omega)
  rw [iR (by omega)] at ht
  rcases List.mem_cons.1 ht with rfl | ht
  ·simp only [ByteArray.size_extract]; omega
  ·exact ih _ (by rw [eT]; omega) t ht
theorem uZ (s : ByteArray) : (aG s).length ≤ s.size := by
 revert s
 refine iE fun s ih => ?_
 by_cases h : s.size = 0
 ·rw [jQ h]; exact Nat.zero_le _
 ·have h1 := kI (s := s) (by omega)
  rw [iR (by omega),List.length_cons];have := ih (s.extract (tok s).1 s.size) (by rw [eT]; omega);rw [eT] at this;omega
end Go.Proofs.YtlndmiegodcfjaaGreatDoor.Lexi
namespace Go.Proofs
open Go.Shelf
def Tryz.lays137_ren : Go.Shelf.Ren := ⟨fun | 137 => 61 | 217 => 108 | 266 => 150 | n => n,fun | 9 => 9 | 5 => 5 | 3 => 3 | n => n,fun | n => n⟩
theorem Tryz.lays137 : Go.Proofs.Lays.n137 Tryz.prog Tryz.lays137_ren := {
 mixed := by kernel_rfl
 f137 := Tryz.func61.trans (congrArg some (by kernel_rfl))
 f217 := Tryz.func108.trans (congrArg some (by kernel_rfl))
 f266 := Tryz.func150.trans (congrArg some (by kernel_rfl))
 t3 := Tryz.underlying3
 a3 := Tryz.isAgg3
 z3 := Tryz.sizeOf3
 v3 := Tryz.zeroValue3
 t5 := Tryz.underlying5
 a5 := Tryz.isAgg5
 z5 := Tryz.sizeOf5
 v5 := Tryz.zeroValue5
 t9 := Tryz.underlying9
 a9 := Tryz.isAgg9
 z9 := Tryz.sizeOf9
 v9 := Tryz.zeroValue9 }
open Go.RowKit in
theorem Tryz.strings_IndexByte (s : ByteArray) (c : Int) (w : World) :
  Calls Tryz.prog 61 #[.string s,.int .u8 c] w fun e w' => e = .returned (.int .i64 (Lib.indexByte s.data.toList c.toNat.toUInt8)) ∧ w' = w := Any.strings_IndexByte Tryz.lays137 s c w
def Tryz.lays99_ren : Go.Shelf.Ren := ⟨fun | 99 => 52 | 206 => 104 | n => n,fun | 9 => 9 | 4 => 4 | 3 => 3 | n => n,fun | n => n⟩
theorem Tryz.lays99 : Go.Proofs.Lays.n99 Tryz.prog Tryz.lays99_ren := {
 mixed := by kernel_rfl
 f99 := Tryz.func52.trans (congrArg some (by kernel_rfl))
 f206 := Tryz.func104.trans (congrArg some (by kernel_rfl))
 t3 := Tryz.underlying3
 a3 := Tryz.isAgg3
 z3 := Tryz.sizeOf3
 v3 := Tryz.zeroValue3
 t4 := Tryz.underlying4
 a4 := Tryz.isAgg4
 z4 := Tryz.sizeOf4
 v4 := Tryz.zeroValue4
 t9 := Tryz.underlying9
 a9 := Tryz.isAgg9
 z9 := Tryz.sizeOf9
 v9 := Tryz.zeroValue9 }
open Go.RowKit Go.Lib in
theorem Tryz.strings_HasPrefix (s p : ByteArray) (w : World) :
  Calls Tryz.prog 52 #[.string s,.string p] w fun e w' => e = .returned (.bool (Lib.hasPrefix s.data.toList p.data.toList)) ∧ w' = w := Any.strings_HasPrefix Tryz.lays99 s p w
def Tryz.lays157_ren : Go.Shelf.Ren := ⟨fun | 157 => 106 | 229 => 148 | 199 => 149 | 261 => 186 | 311 => 217 | 312 => 218 | n => n,fun | 9 => 9 | 31 => 74 | 3 => 3 | 5 => 5 | 4 => 4 | 119 => 180 | 0 => 0 | 40 => 188 | 152 => 212 | 21 => 21 | 154 => 214 | 51 => 97 | 141 => 216 | 196 => 240 | 193 => 237 | 198 => 243 | 49 => 241 | 194 => 238 | 201 => 246 | 226 => 260 | 46 => 88 | 227 => 261 | n => n,fun | 0 => 0 | 6 => 1 | n => n⟩
theorem Tryz.lays157 : Go.Proofs.Lays.n157 Tryz.prog Tryz.lays157_ren := {
 mixed := by kernel_rfl
 f157 := Tryz.func106.trans (congrArg some (by kernel_rfl))
 f199 := Tryz.func149.trans (congrArg some (by kernel_rfl))
 f229 := Tryz.func148.trans (congrArg some (by kernel_rfl))
 f261 := Tryz.func186.trans (congrArg some (by kernel_rfl))
 f311 := Tryz.func217.trans (congrArg some (by kernel_rfl))
 f312 := Tryz.func218.trans (congrArg some (by kernel_rfl))
 t0 := Tryz.underlying0
 a0 := Tryz.isAgg0
 z0 := Tryz.sizeOf0
 v0 := Tryz.zeroValue0
 t3 := Tryz.underlying3
 a3 := Tryz.isAgg3
 z3 := Tryz.sizeOf3
 v3 := Tryz.zeroValue3
 t4 := Tryz.underlying4
 a4 := Tryz.isAgg4
 z4 := Tryz.sizeOf4
 v4 := Tryz.zeroValue4
 t5 := Tryz.underlying5
 a5 := Tryz.isAgg5
 z5 := Tryz.sizeOf5
 v5 := Tryz.zeroValue5
 t9 := Tryz.underlying9
 a9 := Tryz.isAgg9
 z9 := Tryz.sizeOf9
 v9 := Tryz.zeroValue9
 t21 := Tryz.underlying21
 a21 := Tryz.isAgg21
 z21 := Tryz.sizeOf21
 v21 := Tryz.zeroValue21
 t31 := Tryz.underlying74
 a31 := Tryz.isAgg74
 z31 := Tryz.sizeOf74
 v31 := Tryz.zeroValue74
 t40 := Tryz.underlying188
 a40 := Tryz.isAgg188
 z40 := Tryz.sizeOf188
 v40 := Tryz.zeroValue188
 t46 := Tryz.underlying88
 a46 := Tryz.isAgg88
 z46 := Tryz.sizeOf88
 v46 := Tryz.zeroValue88
 t49 := Tryz.underlying241
 a49 := Tryz.isAgg241
 z49 := Tryz.sizeOf241
 v49 := Tryz.zeroValue241
 t51 := Tryz.underlying97
 a51 := Tryz.isAgg97
 z51 := Tryz.sizeOf97
 v51 := Tryz.zeroValue97
 t119 := Tryz.underlying180
 a119 := Tryz.isAgg180
 z119 := Tryz.sizeOf180
 t141 := Tryz.underlying216
 a141 := Tryz.isAgg216
 z141 := Tryz.sizeOf216
 v141 := Tryz.zeroValue216
 t152 := Tryz.underlying212
 a152 := Tryz.isAgg212
 z152 := Tryz.sizeOf212
 v152 := Tryz.zeroValue212
 t154 := Tryz.underlying214
 a154 := Tryz.isAgg214
 z154 := Tryz.sizeOf214
 v154 := Tryz.zeroValue214
 t193 := Tryz.underlying237
 a193 := Tryz.isAgg237
 z193 := Tryz.sizeOf237
 v193 := Tryz.zeroValue237
 t194 := Tryz.underlying238
 a194 := Tryz.isAgg238
 z194 := Tryz.sizeOf238
 v194 := Tryz.zeroValue238
 t196 := Tryz.underlying240
 a196 := Tryz.isAgg240
 z196 := Tryz.sizeOf240
 v196 := Tryz.zeroValue240
 t198 := Tryz.underlying243
 a198 := Tryz.isAgg243
 z198 := Tryz.sizeOf243
 v198 := Tryz.zeroValue243
 t201 := Tryz.underlying246
 a201 := Tryz.isAgg246
 z201 := Tryz.sizeOf246
 v201 := Tryz.zeroValue246
 t226 := Tryz.underlying260
 a226 := Tryz.isAgg260
 z226 := Tryz.sizeOf260
 v226 := Tryz.zeroValue260
 t227 := Tryz.underlying261
 a227 := Tryz.isAgg261
 z227 := Tryz.sizeOf261
 v227 := Tryz.zeroValue261
 g0 := by kernel_rfl
 g6 := by kernel_rfl }
open Go.RowKit Go.Lib in
theorem Tryz.strings_Fields (s : ByteArray) (w : World) (hs : s.size < 4294967281) (hascii : ∀ (j : Nat) b,s.data.toList[j]? = some b → b.toNat < 128) (htab : Lib.TabIs Tryz.prog w "strings.asciiSpace" .u8 Lib.asciiSpaceTab) :
  Calls Tryz.prog 106 #[.string s] w fun e w' =>
   e = .returned (.slice (some ⟨w.heap.size,0,none⟩) (Lib.fields s.data.toList).length (Lib.fields s.data.toList).length) ∧ w' = w.alloc (.cells ((Lib.fields s.data.toList).map fun l => Value.string ⟨l.toArray⟩).toArray 9) := Any.strings_Fields Tryz.lays157 (by kernel_rfl) (by kernel_rfl) s w hs hascii htab
def Tryz.lays110_ren : Go.Shelf.Ren := ⟨fun | 110 => 57 | 109 => 105 | n => n,fun | 31 => 74 | 9 => 9 | 4 => 4 | 3 => 3 | 0 => 0 | n => n,fun | n => n⟩
theorem Tryz.lays110 : Go.Proofs.Lays.n110 Tryz.prog Tryz.lays110_ren := {
 mixed := by kernel_rfl
 f109 := Tryz.func105.trans (congrArg some (by kernel_rfl))
 f110 := Tryz.func57.trans (congrArg some (by kernel_rfl))
 t0 := Tryz.underlying0
 a0 := Tryz.isAgg0
 z0 := Tryz.sizeOf0
 v0 := Tryz.zeroValue0
 t3 := Tryz.underlying3
 a3 := Tryz.isAgg3
 z3 := Tryz.sizeOf3
 v3 := Tryz.zeroValue3
 t4 := Tryz.underlying4
 a4 := Tryz.isAgg4
 z4 := Tryz.sizeOf4
 v4 := Tryz.zeroValue4
 t9 := Tryz.underlying9
 a9 := Tryz.isAgg9
 z9 := Tryz.sizeOf9
 v9 := Tryz.zeroValue9
 t31 := Tryz.underlying74
 a31 := Tryz.isAgg74
 z31 := Tryz.sizeOf74
 v31 := Tryz.zeroValue74 }
open Go.Lib in
theorem Tryz.slices_Contains_string (b off n c : Nat) (zs : List ByteArray) (x : ByteArray) (w : World) (hz : n ≤ zs.length) (hbig : n ≤ 9223372036854775807) (hc : ∀ j,j < zs.length → w.cell? ⟨b,off + j,none⟩ = some (.string (zs.getD j ByteArray.empty))) :
  Calls Tryz.prog 57 #[.slice (some ⟨b,off,none⟩) n c,.string x] w fun e w' => e = .returned (.bool (Lib.containsS (zs.take n) x)) ∧ w' = w := Any.slices_Contains_string Tryz.lays110 b off n c zs x w hz hbig hc
end Go.Proofs
namespace Go.Proofs.YtlndmiegodcfjaaGreatDoor
open Go.Gx
theorem bA : Ty Tryz.prog 3 1 false := ⟨Tryz.sizeOf3,Tryz.isAgg3⟩
theorem uB : Ty Tryz.prog 4 1 false := ⟨Tryz.sizeOf4,Tryz.isAgg4⟩
theorem hY : Ty Tryz.prog 9 1 false := ⟨Tryz.sizeOf9,Tryz.isAgg9⟩
theorem iK : Ty Tryz.prog 24 1 false := ⟨Tryz.sizeOf24,Tryz.isAgg24⟩
theorem cC : Ty Tryz.prog 26 7 true := ⟨Tryz.sizeOf26,Tryz.isAgg26⟩
theorem Cg : Ty Tryz.prog 27 1 false := ⟨Tryz.sizeOf27,Tryz.isAgg27⟩
theorem Ja : Ty Tryz.prog 34 1 false := ⟨Tryz.sizeOf34,Tryz.isAgg34⟩
theorem Ez : Ty Tryz.prog 36 9 true := ⟨Tryz.sizeOf36,Tryz.isAgg36⟩
theorem mJ : Ty Tryz.prog 39 1 false := ⟨Tryz.sizeOf39,Tryz.isAgg39⟩
theorem mK : Ty Tryz.prog 43 2 true := ⟨Tryz.sizeOf43,Tryz.isAgg43⟩
theorem eH : Ty Tryz.prog 52 1 false := ⟨Tryz.sizeOf52,Tryz.isAgg52⟩
theorem dA : Ty Tryz.prog 54 3 true := ⟨Tryz.sizeOf54,Tryz.isAgg54⟩
theorem kT : Ty Tryz.prog 63 5 true := ⟨Tryz.sizeOf63,Tryz.isAgg63⟩
theorem mW : Ty Tryz.prog 74 1 false := ⟨Tryz.sizeOf74,Tryz.isAgg74⟩
theorem aL : Ty Tryz.prog 80 1 false := ⟨Tryz.sizeOf80,Tryz.isAgg80⟩
theorem vA : Ty Tryz.prog 118 1 false := ⟨Tryz.sizeOf118,Tryz.isAgg118⟩
theorem lW : Ty Tryz.prog 119 1 false := ⟨Tryz.sizeOf119,Tryz.isAgg119⟩
theorem aZ : FA Tryz.prog 26 0 0 := FA.mk2 Tryz.underlying26 rfl rfl rfl bA
theorem eZ : FA Tryz.prog 26 1 1 := FA.mk2 Tryz.underlying26 rfl rfl rfl bA
theorem fP : FA Tryz.prog 26 2 2 := FA.mk2 Tryz.underlying26 rfl rfl rfl hY
theorem eU : FA Tryz.prog 26 3 3 := FA.mk2 Tryz.underlying26 rfl rfl rfl bA
theorem dV : FA Tryz.prog 26 4 4 := FA.mk2 Tryz.underlying26 rfl rfl rfl bA
theorem gD : FA Tryz.prog 26 5 5 := FA.mk2 Tryz.underlying26 rfl rfl rfl bA
theorem eP : FA Tryz.prog 26 6 6 := FA.mk2 Tryz.underlying26 rfl rfl rfl iK
theorem xC : FA Tryz.prog 36 0 0 := FA.mk2 Tryz.underlying36 rfl rfl rfl cC
theorem Hz : FA Tryz.prog 36 1 7 := FA.mk2 Tryz.underlying36 rfl rfl rfl iK
theorem H0 : FA Tryz.prog 36 2 8 := FA.mk2 Tryz.underlying36 rfl rfl rfl Ja
theorem eV : FA Tryz.prog 43 0 0 := FA.mk2 Tryz.underlying43 rfl rfl rfl bA
theorem mL : FA Tryz.prog 43 1 1 := FA.mk2 Tryz.underlying43 rfl rfl rfl hY
theorem iZ : FA Tryz.prog 54 0 0 := FA.mk2 Tryz.underlying54 rfl rfl rfl bA
theorem gL : FA Tryz.prog 54 1 1 := FA.mk2 Tryz.underlying54 rfl rfl rfl hY
theorem gE : FA Tryz.prog 54 2 2 := FA.mk2 Tryz.underlying54 rfl rfl rfl eH
theorem Ch : FA Tryz.prog 59 0 0 := FA.mk2 Tryz.underlying59 rfl rfl rfl hY
theorem cQ : FA Tryz.prog 59 1 1 := FA.mk2 Tryz.underlying59 rfl rfl rfl bA
theorem sR : FA Tryz.prog 59 2 2 := FA.mk2 Tryz.underlying59 rfl rfl rfl Cg
theorem Ci : FA Tryz.prog 63 0 0 := FA.mk2 Tryz.underlying63 rfl rfl rfl bA
theorem Cj : FA Tryz.prog 63 1 1 := FA.mk2 Tryz.underlying63 rfl rfl rfl bA
theorem Ck : FA Tryz.prog 63 2 2 := FA.mk2 Tryz.underlying63 rfl rfl rfl bA
theorem Cm : FA Tryz.prog 63 3 3 := FA.mk2 Tryz.underlying63 rfl rfl rfl bA
theorem Cn : FA Tryz.prog 63 4 4 := FA.mk2 Tryz.underlying63 rfl rfl rfl hY
theorem xD : FA Tryz.prog 76 0 0 := FA.mk2 Tryz.underlying76 rfl rfl rfl mW
theorem gM : FA Tryz.prog 82 0 0 := FA.mk2 Tryz.underlying82 rfl rfl rfl mJ
theorem fA : FA Tryz.prog 82 1 1 := FA.mk2 Tryz.underlying82 rfl rfl rfl bA
theorem eI : FA Tryz.prog 82 2 2 := FA.mk2 Tryz.underlying82 rfl rfl rfl eH
theorem oW : FA Tryz.prog 121 0 0 := FA.mk2 Tryz.underlying121 rfl rfl rfl vA
theorem iO : FA Tryz.prog 121 1 1 := FA.mk2 Tryz.underlying121 rfl rfl rfl lW
theorem yV : Tryz.prog.underlying 118 = some (.pointer (Tryz.prog.pointee 118)) := by kernel_rfl
theorem lE (x1 : Int) (x2 : ByteArray) (x3 : Int) (x4 : Int) (x5 : Int) (w : World) : (Instr.build 26 [(0,.int .i64 x1),(2,.string x2),(3,.int .i64 x3),(4,.int .i64 x4),(5,.int .i64 x5)].toArray).run Tryz.prog w = .ok (.agg #[.int .i64 x1,.int .i64 0,.string x2,.int .i64 x3,.int .i64 x4,.int .i64 x5,.slice none 0 0]) w := by kernel_rfl
theorem sS (x1 : Int) (x2 : Int) (x3 : Int) (x4 : Int) (w : World) : (Instr.build 26 [(0,.int .i64 x1),(3,.int .i64 x2),(4,.int .i64 x3),(5,.int .i64 x4)].toArray).run Tryz.prog w = .ok (.agg #[.int .i64 x1,.int .i64 0,.string ⟨#[]⟩,.int .i64 x2,.int .i64 x3,.int .i64 x4,.slice none 0 0]) w := by kernel_rfl
theorem H1 (x1 : Int) (x2 : Int) (x3 : ByteArray) (x4 : Int) (x5 : Int) (x6 : Int) (x7 : Option Addr) (x8 : Nat) (x9 : Nat) (w : World) : (Instr.build 36 [(0,.agg #[.int .i64 x1,.int .i64 x2,.string x3,.int .i64 x4,.int .i64 x5,.int .i64 x6,.slice x7 x8 x9])].toArray).run Tryz.prog w = .ok (.agg #[.int .i64 x1,.int .i64 x2,.string x3,.int .i64 x4,.int .i64 x5,.int .i64 x6,.slice x7 x8 x9,.slice none 0 0,.slice none 0 0]) w := by kernel_rfl
theorem eQ (x1 : Int) (x2 : Int) (x3 : ByteArray) (x4 : Int) (x5 : Int) (x6 : Int) (x7 : Option Addr) (x8 : Nat) (x9 : Nat) (x10 : Option Addr) (x11 : Nat) (x12 : Nat) (x13 : Option Addr) (x14 : Nat) (x15 : Nat) (w : World) : (Instr.build 36 [(0,.agg #[.int .i64 x1,.int .i64 x2,.string x3,.int .i64 x4,.int .i64 x5,.int .i64 x6,.slice x7 x8 x9]),(1,.slice x10 x11 x12),(2,.slice x13 x14 x15)].toArray).run Tryz.prog w = .ok (.agg #[.int .i64 x1,.int .i64 x2,.string x3,.int .i64 x4,.int .i64 x5,.int .i64 x6,.slice x7 x8 x9,.slice x10 x11 x12,.slice x13 x14 x15]) w := by kernel_rfl
theorem H2 (x1 : Int) (w : World) : (Instr.build 43 [(0,.int .i64 x1)].toArray).run Tryz.prog w = .ok (.agg #[.int .i64 x1,.string ⟨#[]⟩]) w := by kernel_rfl
theorem Co (x1 : Int) (x2 : ByteArray) (w : World) : (Instr.build 43 [(0,.int .i64 x1),(1,.string x2)].toArray).run Tryz.prog w = .ok (.agg #[.int .i64 x1,.string x2]) w := by kernel_rfl
theorem aAa  (w : World) : (Instr.build 54 [].toArray).run Tryz.prog w = .ok (.agg #[.int .i64 0,.string ⟨#[]⟩,.slice none 0 0]) w := by kernel_rfl
theorem mM (x1 : Int) (w : World) : (Instr.build 54 [(0,.int .i64 x1)].toArray).run Tryz.prog w = .ok (.agg #[.int .i64 x1,.string ⟨#[]⟩,.slice none 0 0]) w := by kernel_rfl
theorem Cp (x1 : Int) (x2 : ByteArray) (w : World) : (Instr.build 54 [(0,.int .i64 x1),(1,.string x2)].toArray).run Tryz.prog w = .ok (.agg #[.int .i64 x1,.string x2,.slice none 0 0]) w := by kernel_rfl
theorem vB (x1 : Int) (x2 : Option Addr) (x3 : Nat) (x4 : Nat) (w : World) : (Instr.build 54 [(0,.int .i64 x1),(2,.slice x2 x3 x4)].toArray).run Tryz.prog w = .ok (.agg #[.int .i64 x1,.string ⟨#[]⟩,.slice x2 x3 x4]) w := by kernel_rfl
theorem H3 (x1 : ByteArray) (w : World) : (Instr.build 59 [(0,.string x1)].toArray).run Tryz.prog w = .ok (.agg #[.string x1,.int .i64 0,.slice none 0 0]) w := by kernel_rfl
theorem xE (x1 : Int) (x2 : Int) (x3 : Int) (w : World) : (Instr.build 63 [(0,.int .i64 x1),(2,.int .i64 x2),(3,.int .i64 x3)].toArray).run Tryz.prog w = .ok (.agg #[.int .i64 x1,.int .i64 0,.int .i64 x2,.int .i64 x3,.string ⟨#[]⟩]) w := by kernel_rfl
theorem xF (x1 : Option Addr) (x2 : Nat) (x3 : Nat) (x4 : Int) (x5 : Option Addr) (x6 : Nat) (x7 : Nat) (w : World) : (Instr.build 82 [(0,.slice x1 x2 x3),(1,.int .i64 x4),(2,.slice x5 x6 x7)].toArray).run Tryz.prog w = .ok (.agg #[.slice x1 x2 x3,.int .i64 x4,.slice x5 x6 x7]) w := by kernel_rfl
theorem Cq (x1 : Option Addr) (x2 : Nat) (x3 : Nat) (x4 : Option Addr) (x5 : Nat) (x6 : Nat) (w : World) : (Instr.build 82 [(0,.slice x1 x2 x3),(2,.slice x4 x5 x6)].toArray).run Tryz.prog w = .ok (.agg #[.slice x1 x2 x3,.int .i64 0,.slice x4 x5 x6]) w := by kernel_rfl
theorem mN (x1 : Int) (x2 : Int) (x3 : ByteArray) (x4 : Int) (x5 : Int) (x6 : Int) (x7 : Option Addr) (x8 : Nat) (x9 : Nat) (w : World) : (Instr.buildSlice 24 1 [(0,.agg #[.int .i64 x1,.int .i64 x2,.string x3,.int .i64 x4,.int .i64 x5,.int .i64 x6,.slice x7 x8 x9])].toArray).run Tryz.prog w = .ok (.slice (some ⟨w.heap.size,0,none⟩) 1 1) (w.alloc (.cells [.int .i64 x1,.int .i64 x2,.string x3,.int .i64 x4,.int .i64 x5,.int .i64 x6,.slice x7 x8 x9].toArray 26)) := by kernel_rfl
theorem H4 (x1 : Int) (x2 : Int) (x3 : Int) (x4 : Int) (x5 : ByteArray) (w : World) : (Instr.buildSlice 27 1 [(0,.agg #[.int .i64 x1,.int .i64 x2,.int .i64 x3,.int .i64 x4,.string x5])].toArray).run Tryz.prog w = .ok (.slice (some ⟨w.heap.size,0,none⟩) 1 1) (w.alloc (.cells [.int .i64 x1,.int .i64 x2,.int .i64 x3,.int .i64 x4,.string x5].toArray 63)) := by kernel_rfl
theorem H5 (x1 : Int) (x2 : Int) (x3 : ByteArray) (x4 : Int) (x5 : Int) (x6 : Int) (x7 : Option Addr) (x8 : Nat) (x9 : Nat) (x10 : Option Addr) (x11 : Nat) (x12 : Nat) (x13 : Option Addr) (x14 : Nat) (x15 : Nat) (w : World) : (Instr.buildSlice 32 1 [(0,.agg #[.int .i64 x1,.int .i64 x2,.string x3,.int .i64 x4,.int .i64 x5,.int .i64 x6,.slice x7 x8 x9,.slice x10 x11 x12,.slice x13 x14 x15])].toArray).run Tryz.prog w = .ok (.slice (some ⟨w.heap.size,0,none⟩) 1 1) (w.alloc (.cells [.int .i64 x1,.int .i64 x2,.string x3,.int .i64 x4,.int .i64 x5,.int .i64 x6,.slice x7 x8 x9,.slice x10 x11 x12,.slice x13 x14 x15].toArray 36)) := by kernel_rfl
theorem kJ (x1 : Int) (w : World) : (Instr.buildSlice 34 1 [(0,.int .i64 x1)].toArray).run Tryz.prog w = .ok (.slice (some ⟨w.heap.size,0,none⟩) 1 1) (w.alloc (.cells [.int .i64 x1].toArray 3)) := by kernel_rfl
theorem H6 (x1 : Int) (x2 : Int) (x3 : Int) (x4 : Int) (x5 : Int) (w : World) : (Instr.buildSlice 34 5 [(0,.int .i64 x1),(1,.int .i64 x2),(2,.int .i64 x3),(3,.int .i64 x4),(4,.int .i64 x5)].toArray).run Tryz.prog w = .ok (.slice (some ⟨w.heap.size,0,none⟩) 5 5) (w.alloc (.cells [.int .i64 x1,.int .i64 x2,.int .i64 x3,.int .i64 x4,.int .i64 x5].toArray 3)) := by kernel_rfl
theorem E0 (x1 : Int) (x2 : Int) (x3 : Int) (x4 : Int) (x5 : Int) (x6 : Int) (x7 : Int) (x8 : Int) (x9 : Int) (x10 : Int) (x11 : Int) (x12 : Int) (x13 : Int) (x14 : Int) (x15 : Int) (x16 : Int) (x17 : Int) (w : World) : (Instr.buildSlice 34 17 [(0,.int .i64 x1),(1,.int .i64 x2),(2,.int .i64 x3),(3,.int .i64 x4),(4,.int .i64 x5),(5,.int .i64 x6),(6,.int .i64 x7),(7,.int .i64 x8),(8,.int .i64 x9),(9,.int .i64 x10),(10,.int .i64 x11),(11,.int .i64 x12),(12,.int .i64 x13),(13,.int .i64 x14),(14,.int .i64 x15),(15,.int .i64 x16),(16,.int .i64 x17)].toArray).run Tryz.prog w = .ok (.slice (some ⟨w.heap.size,0,none⟩) 17 17) (w.alloc (.cells [.int .i64 x1,.int .i64 x2,.int .i64 x3,.int .i64 x4,.int .i64 x5,.int .i64 x6,.int .i64 x7,.int .i64 x8,.int .i64 x9,.int .i64 x10,.int .i64 x11,.int .i64 x12,.int .i64 x13,.int .i64 x14,.int .i64 x15,.int .i64 x16,.int .i64 x17].toArray 3)) := by kernel_rfl
theorem H7 (x1 : Int) (x2 : ByteArray) (w : World) : (Instr.buildSlice 39 1 [(0,.agg #[.int .i64 x1,.string x2])].toArray).run Tryz.prog w = .ok (.slice (some ⟨w.heap.size,0,none⟩) 1 1) (w.alloc (.cells [.int .i64 x1,.string x2].toArray 43)) := by kernel_rfl
theorem jH (x1 : Int) (x2 : ByteArray) (x3 : Option Addr) (x4 : Nat) (x5 : Nat) (w : World) : (Instr.buildSlice 52 1 [(0,.agg #[.int .i64 x1,.string x2,.slice x3 x4 x5])].toArray).run Tryz.prog w = .ok (.slice (some ⟨w.heap.size,0,none⟩) 1 1) (w.alloc (.cells [.int .i64 x1,.string x2,.slice x3 x4 x5].toArray 54)) := by kernel_rfl
theorem aT (x1 : ByteArray) (w : World) : (Instr.buildSlice 74 1 [(0,.string x1)].toArray).run Tryz.prog w = .ok (.slice (some ⟨w.heap.size,0,none⟩) 1 1) (w.alloc (.cells [.string x1].toArray 9)) := by kernel_rfl
theorem dE (x1 : ByteArray) (x2 : ByteArray) (w : World) : (Instr.buildSlice 74 2 [(0,.string x1),(1,.string x2)].toArray).run Tryz.prog w = .ok (.slice (some ⟨w.heap.size,0,none⟩) 2 2) (w.alloc (.cells [.string x1,.string x2].toArray 9)) := by kernel_rfl
theorem pP (x1 : ByteArray) (x2 : ByteArray) (x3 : ByteArray) (w : World) : (Instr.buildSlice 74 3 [(0,.string x1),(1,.string x2),(2,.string x3)].toArray).run Tryz.prog w = .ok (.slice (some ⟨w.heap.size,0,none⟩) 3 3) (w.alloc (.cells [.string x1,.string x2,.string x3].toArray 9)) := by kernel_rfl
theorem E1 (x1 : Int) (w : World) : (Instr.buildSlice 119 1 [(0,.int .u8 x1)].toArray).run Tryz.prog w = .ok (.slice (some ⟨w.heap.size,0,none⟩) 1 1) (w.alloc (.cells [.int .u8 x1].toArray 5)) := by kernel_rfl
theorem mX (x1 : Option Addr) (x2 : Nat) (x3 : Nat) (x4 : Option Addr) (x5 : Nat) (x6 : Nat) (x7 : Option Addr) (x8 : Nat) (x9 : Nat) (x10 : Option Addr) (x11 : Nat) (x12 : Nat) (x13 : Option Addr) (x14 : Nat) (x15 : Nat) (w : World) : (Instr.buildSlice 252 5 [(0,.slice x1 x2 x3),(1,.slice x4 x5 x6),(2,.slice x7 x8 x9),(3,.slice x10 x11 x12),(4,.slice x13 x14 x15)].toArray).run Tryz.prog w = .ok (.slice (some ⟨w.heap.size,0,none⟩) 5 5) (w.alloc (.cells [.slice x1 x2 x3,.slice x4 x5 x6,.slice x7 x8 x9,.slice x10 x11 x12,.slice x13 x14 x15].toArray 74)) := by kernel_rfl
theorem Jb : ∃ i,Tryz.prog.info? 3 = some i ∧ i.zero = some (.int .i64 0) ∧ i.size = 1 ∧ i.bytes = 8 := info_parts (by kernel_rfl)
theorem Jc : ∃ i,Tryz.prog.info? 5 = some i ∧ i.zero = some (.int .u8 0) ∧ i.size = 1 ∧ i.bytes = 1 := info_parts (by kernel_rfl)
theorem aAb : ∃ i,Tryz.prog.info? 9 = some i ∧ i.zero = some (.string ⟨#[]⟩) ∧ i.size = 1 ∧ i.bytes = 16 := info_parts (by kernel_rfl)
theorem Cr : ∃ i,Tryz.prog.info? 26 = some i ∧ i.zero = some (.agg #[.int .i64 0,.int .i64 0,.string ⟨#[]⟩,.int .i64 0,.int .i64 0,.int .i64 0,.slice none 0 0]) ∧ i.size = 7 ∧ i.bytes = 80 := info_parts (by kernel_rfl)
theorem Jd : ∃ i,Tryz.prog.info? 36 = some i ∧ i.zero = some (.agg #[.int .i64 0,.int .i64 0,.string ⟨#[]⟩,.int .i64 0,.int .i64 0,.int .i64 0,.slice none 0 0,.slice none 0 0,.slice none 0 0]) ∧ i.size = 9 ∧ i.bytes = 128 := info_parts (by kernel_rfl)
theorem Je : ∃ i,Tryz.prog.info? 43 = some i ∧ i.zero = some (.agg #[.int .i64 0,.string ⟨#[]⟩]) ∧ i.size = 2 ∧ i.bytes = 24 := info_parts (by kernel_rfl)
theorem rJ : ∃ i,Tryz.prog.info? 54 = some i ∧ i.zero = some (.agg #[.int .i64 0,.string ⟨#[]⟩,.slice none 0 0]) ∧ i.size = 3 ∧ i.bytes = 48 := info_parts (by kernel_rfl)
theorem Jf : ∃ i,Tryz.prog.info? 63 = some i ∧ i.zero = some (.agg #[.int .i64 0,.int .i64 0,.int .i64 0,.int .i64 0,.string ⟨#[]⟩]) ∧ i.size = 5 ∧ i.bytes = 48 := info_parts (by kernel_rfl)
theorem H8 : ∃ i,Tryz.prog.info? 121 = some i ∧ i.zero = some (.agg #[.pointer none,.slice none 0 0]) ∧ i.size = 2 ∧ i.bytes = 32 := info_parts (by kernel_rfl)
theorem mixed : Tryz.prog.follows .mixedOrders = true := by kernel_rfl
end Go.Proofs.YtlndmiegodcfjaaGreatDoor
