/- The engine's rules, more: rows at an offset, copies, clears and appends over a block known whole; maps known whole, with struct keys of three numbers. Generic in the program. -/
import Derived.Test.YtcelfjbajdffkaaGreatDoorXa
import Derived.Deep.AppendSrc
import Derived.Lib.AppendZerosOnto
import Derived.Laws.IdiomRangeMap
import Derived.Recover
import Derived.RangeFuncSeq
import Derived.RangeFuncCalls
import Derived.TacticsIn
import Derived.Lib.Overlaps
import Derived.Laws.Externs
set_option linter.unusedVariables false
set_option linter.unusedSimpArgs false
namespace Go.Gx
open Go.RowKit
open Go.ChangeMaps (setBlock heap_setBlock_same heap_setBlock_other)
section
variable {P : Program} {n : Nat} {L : Env} {w : World} {d : Option Tmp} {ty : TypeId} {pos : String} {af : Array Edge} {g : Option (Nat × Bool)}
theorem w_appendV {t e : TypeId} {i : TypeInfo} {x y : Operand} {b o m cap k size : Nat} {u : Value} {cur news : List Value} (ht : P.underlying t = some (.slice e)) (hi : P.info? e = some i) (hs : i.size = size) (hv : Var w b cur e) (hx : evO L x = some (.slice (some ⟨b,o,none⟩) m cap)) (hy : evO L y = some u) (hsl : SlC w u size k news)
  (h1 : ∀ v ∈ news,v.oneCell' = true) (hroom : m + k ≤ cap) (hfit : o + (m + k) * size ≤ cur.length) :
  Wl P n ⟨d,.call { callee := .builtin .append,args := #[x,y],argTypes := #[t,t] },ty,pos,af,g⟩ L w (fun v w' => v = .slice (some ⟨b,o,none⟩) (m + k) cap ∧ Upd b w w' ∧ Var w' b (cur.take (o + m * size) ++ news ++ cur.drop (o + m * size + news.length)) e) := w_run fun a hF => by
 obtain ⟨hl,p,c,rfl,hkc,hd⟩ := hsl
 have hfc : (Builtin.firstCells size k (.slice p k c)).run P w = .ok news.toArray w := by
  cases p with
  | none =>
   have hc : c = 0 := hd.elim id fun ⟨b,o,h,_⟩ => by cases h
   have hk : k = 0 := by omega
   subst hk
   have : news = [] := List.length_eq_zero_iff.1 (by simpa using hl)
   simp [Builtin.firstCells,this]
  | some ad =>
   refine run_firstCells_some w size _ ad _ _ _ hl fun j v hj => ?_
   rcases hd with h0 | ⟨b',o',hp,hc⟩
   ·have hk : k = 0 := by omega
    subst hk
    have : news = [] := List.length_eq_zero_iff.1 (by simpa using hl)
    subst this
    simp at hj
   ·cases hp
    rw [addr_add]
    exact hc j v hj
 have hadd : (m + k) * size = m * size + k * size := Nat.add_mul _ _ _
 have hst := run_storeCells_at (P := P) b (o + m * size) e news 0 cur.toArray w hv (by simp only [hl]; simp; omega) h1
 simp only [Nat.add_zero,List.toList_toArray] at hst
 subst hs
 refine ⟨.slice (some ⟨b,o,none⟩) (m + k) cap,w.setRow b (cur.take (o + m * i.size) ++ news ++ cur.drop (o + m * i.size + news.length)).toArray,?_,rfl,Upd.setRow w b _,setRow_heap w b cur.toArray _ e _ hv⟩
 simp [execOp,resolve,invoke,builtin,hF.eval hx,hF.eval hy,Builtin.append_,run_underlying ht,sizeOf,typeInfo,hi,Builtin.lenOf,hroom,hfc,addr_add,hst]
theorem w_appendG {t e : TypeId} {i : TypeInfo} {z : Value} {x y : Operand} {m cap k size bytes : Nat} {p : Option Addr} {u : Value} {olds news : List Value} (ht : P.underlying t = some (.slice e)) (hi : P.info? e = some i) (hz : i.zero = some z) (hs : i.size = size) (hby : i.bytes = bytes) (hzs : z.cells.size = size)
  (hx : evO L x = some (.slice p m cap)) (hy : evO L y = some u) (hold : SlC w (.slice p m cap) size m olds) (hsl : SlC w u size k news) (h1 : ∀ v ∈ news,v.oneCell' = true) (hfull : cap < m + k) (h63 : m + k ≤ maxLen) (hb : (m + k) * bytes ≤ 140737488355328) :
  Wl P n ⟨d,.call { callee := .builtin .append,args := #[x,y],argTypes := #[t,t] },ty,pos,af,g⟩ L w (fun v w' => Ext w w' ∧ w'.ownsRow w.heap.size e size v (m + k) (olds ++ news)) := w_run fun a hF => by
 obtain ⟨hl,p2,c,rfl,hkc,hd⟩ := hsl
 obtain ⟨hlo,p3,c3,e3,hmc,hdo⟩ := hold
 injection e3 with e3 _ e4
 subst e3 e4
 have hk0 : k ≠ 0 := by omega
 obtain ⟨b2,o2,rfl,hc2⟩ : ∃ b o,p2 = some ⟨b,o,none⟩ ∧ Cells w b o news := hd.resolve_left (by omega)
 have hsrc : Src P i.size t (.slice (some ⟨b2,o2,none⟩) k c) k news w := Src.ofSlice w ht _ k c news (by rw [hs]; exact hl) (fun j u hu => by rw [addr_add]; exact hc2 j u hu) h1
 have holdR : (Builtin.firstCells i.size m (.slice p m cap)).run P w.drew = .ok olds.toArray w.drew := by
  rw [hs]
  cases p with
  | none =>
   have hc : cap = 0 := hdo.elim id fun ⟨b,o,h,_⟩ => by cases h
   have hm : m = 0 := by omega
   subst hm
   have : olds = [] := List.length_eq_zero_iff.1 (by simpa using hlo)
   simp [Builtin.firstCells,this]
  | some ad =>
   refine run_firstCells_some w.drew size _ ad _ _ _ hlo fun j v hj => ?_
   rcases hdo with h0 | ⟨b',o',hp,hc⟩
   ·have hm : m = 0 := by omega
    subst hm
    have : olds = [] := List.length_eq_zero_iff.1 (by simpa using hlo)
    subst this
    simp at hj
   ·cases hp
    rw [addr_add]
    exact hc j v hj
 have hcapB : Builtin.nextslicecap (m + k) cap * i.bytes ≤ 281474976710656 := by
  rw [hby]
  refine Nat.le_trans ?_ (Nat.mul_le_mul_left 2 hb)
  rw [← Nat.mul_assoc]
  exact Nat.mul_le_mul_right _ (nextslicecap_le hfull)
 have hsmall : ((m + k : Nat) : Int) ≤ 9223372036854775807 := by have : m + k ≤ 9223372036854775807 := h63; omega
 have hrun := run_append_grow_src (P := P) w t t ty e i z ht hi hz p m cap olds holdR _ k news hsrc hfull hsmall hcapB
 refine ⟨.slice (some ⟨w.heap.size,0,none⟩) (m + k) (grownCap w (m + k) cap e),w.drew.alloc (.cells ((olds ++ news).toArray ++ Builtin.zeroCells z.cells (grownCap w (m + k) cap e - (m + k))) e),by simp [execOp,resolve,invoke,builtin,hF.eval hx,hF.eval hy,hrun],(Ext.drew w).ext (Ext.alloc _ _),?_⟩
 have hge := grownCap_ge w (m + k) cap e
 have hadd : (m + k) * size = m * size + k * size := Nat.add_mul _ _ _
 refine ⟨by rw [List.length_append,hlo,hl,hadd],.inr ⟨w.heap.size,grownCap w (m + k) cap e,(olds ++ news).toArray ++ Builtin.zeroCells z.cells (grownCap w (m + k) cap e - (m + k)),rfl,Nat.le_refl _,?_,hge,grownCap_le_maxLen w _ _ _ h63,?_,?_⟩⟩
 ·exact heap_alloc_new w.drew _
 ·simp only [Array.size_append,List.size_toArray,List.length_append,hlo,hl,size_zeroCells,hzs]
  rw [← hadd,← Nat.add_mul]
  congr 1
  omega
 ·simp only [Array.toList_append,List.toList_toArray]
  rw [List.take_left' (by rw [List.length_append,hlo,hl,hadd])]
end
end Go.Gx
namespace Go.Gx
open Go.RowKit
open Go.ChangeMaps (setBlock heap_setBlock_same heap_setBlock_other)
section
variable {P : Program} {n : Nat} {L : Env} {w : World} {d : Option Tmp} {ty : TypeId} {pos : String} {af : Array Edge} {g : Option (Nat × Bool)}
theorem w_appendZ {t tn e : TypeId} {i : TypeInfo} {z : Value} {x y : Operand} {m cap k size bytes : Nat} {kn : IntKind} {p : Option Addr} {olds zs : List Value} (ht : P.underlying t = some (.slice e)) (htn : P.underlying tn = some (.int kn)) (hi : P.info? e = some i) (hz : i.zero = some z) (hs : i.size = size) (hby : i.bytes = bytes) (hzs : z.cells = zs.toArray) (hzl : zs.length = size) (hpos : 0 < size)
  (hx : evO L x = some (.slice p m cap)) (hy : evO L y = some (.int .i64 (k : Int))) (hold : SlC w (.slice p m cap) size m olds) (h0 : 0 < k) (hfull : cap < m + k) (h63 : m + k ≤ maxLen) (hb : (m + k) * bytes ≤ 140737488355328) :
  Wl P n ⟨d,.call { callee := .builtin .append,args := #[x,y],argTypes := #[t,tn] },ty,pos,af,g⟩ L w (fun v w' => Ext w w' ∧ ∃ news,news.length = k * size ∧ w'.ownsRow w.heap.size e size v (m + k) (olds ++ news)) := w_run fun a hF => by
 obtain ⟨hlo,p3,c3,e3,hmc,hdo⟩ := hold
 injection e3 with e3 _ e4
 subst e3 e4
 have holdR : (Builtin.firstCells i.size m (.slice p m cap)).run P w.drew = .ok olds.toArray w.drew := by
  rw [hs]
  cases p with
  | none =>
   have hc : cap = 0 := hdo.elim id fun ⟨b,o,h,_⟩ => by cases h
   have hm : m = 0 := by omega
   subst hm
   have : olds = [] := List.length_eq_zero_iff.1 (by simpa using hlo)
   simp [Builtin.firstCells,this]
  | some ad =>
   refine run_firstCells_some w.drew size _ ad _ _ _ hlo fun j v hj => ?_
   rcases hdo with h0 | ⟨b',o',hp,hc⟩
   ·have hm : m = 0 := by omega
    subst hm
    have : olds = [] := List.length_eq_zero_iff.1 (by simpa using hlo)
    subst this
    simp at hj
   ·cases hp
    rw [addr_add]
    exact hc j v hj
 have hcapB : Builtin.nextslicecap (m + k) cap * i.bytes ≤ 281474976710656 := by
  rw [hby]
  refine Nat.le_trans ?_ (Nat.mul_le_mul_left 2 hb)
  rw [← Nat.mul_assoc]
  exact Nat.mul_le_mul_right _ (nextslicecap_le hfull)
 have hsmall : ((m + k : Nat) : Int) ≤ 9223372036854775807 := by have : m + k ≤ 9223372036854775807 := h63; omega
 have hkb : k * i.bytes ≤ 281474976710656 := by
  rw [hby]
  have : k * bytes ≤ (m + k) * bytes := Nat.mul_le_mul_right _ (by omega)
  omega
 have hrun := Lib.run_append_grow_zeros (P := P) w t tn ty e i z .i64 kn ht htn hi hz p m cap olds holdR k h0 (by rw [hs]; exact hpos) hfull hsmall hkb hcapB
 have hzc : ∀ q,(Builtin.zeroCells z.cells q).size = q * size := fun q => by simp [Builtin.zeroCells,hzs,hzl]
 refine ⟨.slice (some ⟨w.heap.size,0,none⟩) (m + k) (grownCap w (m + k) cap e),w.drew.alloc (.cells (olds.toArray ++ Builtin.zeroCells z.cells k ++ Builtin.zeroCells z.cells (grownCap w (m + k) cap e - (m + k))) e),by simp [execOp,resolve,invoke,builtin,hF.eval hx,hF.eval hy,hrun],(Ext.drew w).ext (Ext.alloc _ _),(Builtin.zeroCells z.cells k).toList,by simp [hzc],?_⟩
 have hge := grownCap_ge w (m + k) cap e
 have hadd : (m + k) * size = m * size + k * size := Nat.add_mul _ _ _
 refine ⟨by rw [List.length_append,hlo,Array.length_toList,hzc,hadd],.inr ⟨w.heap.size,grownCap w (m + k) cap e,olds.toArray ++ Builtin.zeroCells z.cells k ++ Builtin.zeroCells z.cells (grownCap w (m + k) cap e - (m + k)),rfl,Nat.le_refl _,?_,hge,grownCap_le_maxLen w _ _ _ h63,?_,?_⟩⟩
 ·exact heap_alloc_new w.drew _
 ·simp only [Array.size_append,List.size_toArray,hlo,hzc]
  rw [← hadd,← Nat.add_mul]
  congr 1
  omega
 ·simp only [Array.toList_append,List.toList_toArray]
  rw [List.take_left' (by rw [List.length_append,hlo,Array.length_toList,hzc,hadd])]
end
section
variable {P : Program} {k : TypeId}
end
section
variable {P : Program} {n : Nat} {L : Env} {w : World} {d : Option Tmp} {ty : TypeId} {pos : String} {af : Array Edge} {g : Option (Nat × Bool)}
end
end Go.Gx
namespace Go.Gx
open Go.RowKit
abbrev PanK := List PanicEntry → World → Prop
def Tqp (n : Nat) (N : Kn) (X : Exit → Kn) (R : PanK) : Exit → Act → World → Prop
 | .panic c,a,w => a.defers = [] ∧ R c w
 | e,a,w => Tq n N X e a w
section
variable {P : Program} {n : Nat} {N : Kn} {X : Exit → Kn} {R : PanK} {L : Env} {w : World}
theorem Tq.p {e : Exit} {a : Act} (h : Tq n N X e a w) : Tqp n N X R e a w := by
 cases e <;> first | exact h | exact h.elim
variable {d : Option Tmp} {ty : TypeId} {pos : String} {af : Array Edge} {g : Option (Nat × Bool)}
end
end Go.Gx
namespace Go.Gx
open Go.RowKit
section
variable {P : Program} {n : Nat} {N : Kn} {X : Exit → Kn} {L : Env} {w : World}
def TmZ (P : Program) (n : Nat) (Z : List Nat) (o : Oper) (L : Env) (w : World) (v : Value) : Prop :=
 ∀ a,Fr n a L → ∀ w',Kp Z w w' → (execOp a.eval o).run P w' = .ok (.value v) w'
theorem tz {Z : List Nat} {o : Oper} {v : Value} (h : ∀ w',Kp Z w w' → Tm P n o L w' v) : TmZ P n Z o L w v := fun a ha w' hk => h w' hk a ha w' (Below.refl _ _)
variable {ops : Array Oper} {Z : List Nat} {K : Kn} {dd : Tmp} {op : Op} {rest : List Oper} {v : Value} {ty : TypeId} {pos : String} {af : Array Edge} {g : Option (Nat × Bool)}
end
theorem own_ext3 {w w1 w2 : World} {v : Value} {row : List Value} {e size n : Nat} (hx : Ext w w1) (h : w1.ownsRow w.heap.size e size v n row) (hg : w1.grownBy w2 v.ownBlock) : Ext w w2 :=
 Below.trans hx ((Below.refl _ w1).grown hg hx.le (fun k hk => (h.lt k hk).1))
theorem slc_var {w : World} {b e size n : Nat} {cs : List Value} (h : Var w b cs e) (hl : cs.length = n * size) : SlC w (.slice (some ⟨b,0,none⟩) n n) size n cs := ⟨hl,_,_,rfl,Nat.le_refl _,.inr ⟨b,0,rfl,h.cells⟩⟩
end Go.Gx
namespace Go.Gx
open Go.RowKit
def Kb (B : Nat) (Z : List Nat) (w w' : World) : Prop := Below 0 w w' ∧ ∀ k,k < B → k ∉ Z → w'.heap[k]? = w.heap[k]?
theorem Kb.refl (B : Nat) (Z : List Nat) (w : World) : Kb B Z w w := ⟨Below.refl _ _,fun _ _ _ => rfl⟩
theorem Kb.trans {B : Nat} {Z : List Nat} {a b c : World} (h : Kb B Z a b) (k : Kb B Z b c) : Kb B Z a c := ⟨Below.trans h.1 k.1,fun i h1 h2 => (k.2 i h1 h2).trans (h.2 i h1 h2)⟩
section
variable {P : Program} {n : Nat} {N : Kn} {X : Exit → Kn} {L : Env} {w : World}
theorem Wp.cut {c : Code} (K : Kn) (h : Wp P n c K X L w) (k : ∀ L w,K L w → N L w) : Wp P n c N X L w := h.mono k fun _ _ _ h => h
def TmQ (P : Program) (n B : Nat) (Z : List Nat) (o : Oper) (L : Env) (w : World) (v : Value) : Prop :=
 ∀ a,Fr n a L → ∀ w',Kb B Z w w' → (execOp a.eval o).run P w' = .ok (.value v) w'
theorem tq {B : Nat} {Z : List Nat} {o : Oper} {v : Value} (h : ∀ w',Kb B Z w w' → Tm P n o L w' v) : TmQ P n B Z o L w v := fun a ha w' hk => h w' hk a ha w' (Below.refl _ _)
variable {ops : Array Oper} {K : Kn} {B : Nat} {Z : List Nat} {listed : Array Bool} {m : Nat}
end
end Go.Gx
namespace Go.Gx
open Go.RowKit
section
variable {P : Program} {n : Nat} {N : Kn} {X : Exit → Kn} {L : Env} {w : World}
variable {ops : Array Oper} {Z bars : List Nat} {K : Kn} {dd : Tmp} {op : Op} {rest : List Oper} {v : Value} {ty : TypeId} {pos : String} {af : Array Edge} {g : Option (Nat × Bool)}
end
def TmS (P : Program) (n : Nat) (S : World → Prop) (o : Oper) (L : Env) (v : Value) : Prop :=
 ∀ a,Fr n a L → ∀ w',S w' → (execOp a.eval o).run P w' = .ok (.value v) w'
theorem ts {P : Program} {n : Nat} {L : Env} {S : World → Prop} {o : Oper} {v : Value} (h : ∀ w',S w' → Tm P n o L w' v) : TmS P n S o L v := fun a ha w' hk => h w' hk a ha w' (Below.refl _ _)
section
variable {P : Program} {n : Nat} {N : Kn} {X : Exit → Kn} {L : Env} {w : World}
inductive Rs (P : Program) (ops : Array Oper) (n : Nat) (S : World → Prop) (bars : List Nat) (K : Kn) : List Oper → Env → World → Prop
 | done {L : Env} {w : World} (h : K L w) : Rs P ops n S bars K [] L w
 | skip {o : Oper} {rest : List Oper} {L : Env} {w : World} (h : gNo ops o L ∨ gOff ops o L) (hd : dOk n o.dst = true) (k : Rs P ops n S bars K rest (putE o.dst undef L) w) : Rs P ops n S bars K (o :: rest) L w
 | tame {o : Oper} {rest : List Oper} {L : Env} {w : World} (v : Value) (hg : gYes ops o L) (hw : wildKind o.op = false) (h : TmS P n S o L v) (hd : dOk n o.dst = true)
   (k : Rs P ops n S bars K rest (putE o.dst v L) w) : Rs P ops n S bars K (o :: rest) L w
 | wild {o : Oper} {rest : List Oper} {L : Env} {w : World} (R : Value → World → Prop) (hg : gYes ops o L) (hk : wildKind o.op = true) (h : Wl P n o L w R) (hz : bars.contains rest.length = false → ∀ v w',R v w' → S w') (hd : dOk n o.dst = true)
   (k : ∀ v w',R v w' → Rs P ops n S bars K rest (putE o.dst v L) w') : Rs P ops n S bars K (o :: rest) L w
theorem Rs.any {ops : Array Oper} {S : World → Prop} {bars : List Nat} {K : Kn} (hs : Region.noSelect ops = true) (hb0 : ∀ m ∈ bars,m = 0) : ∀ (plan : List Nat) (L : Env) (w : World) (listed : Array Bool) (fuel : Nat),
  planOk ops bars plan listed = true → plan.length ≤ fuel → Closed ops listed → (plan ≠ [] → S w) → Rs P ops n S bars K (planOps ops plan) L w → ∀ a,Fr n a L →
  wpAnyB P ops (Tq n K X) S (nextBar ops bars plan) fuel listed a w := by
 intro plan
 induction plan with
 | nil =>
  intro L w listed fuel hp hf hcl hSw h a ha
  have hr : Region.ready .any ops listed = [] := by simpa [planOk] using hp
  cases h with
  | done h => exact wpAnyB_done hr ⟨_,ha,h⟩ _
 | cons i plan ih =>
  intro L w listed fuel hp hf hcl hSw h a ha
  obtain ⟨fuel,rfl⟩ : ∃ m,fuel = m + 1 := ⟨fuel - 1,by simp at hf; omega⟩
  have hS := hSw (by simp)
  have hf' : plan.length ≤ fuel := by simpa using hf
  simp only [planOk,Bool.and_eq_true] at hp
  obtain ⟨hp,hp'⟩ := hp
  cases ho : ops[i]? with
  | none => simp [ho] at hp
  | some o =>
   simp only [ho,Bool.and_eq_true] at hp
   obtain ⟨hr,hp⟩ := hp
   have hri : i ∈ Region.ready .any ops listed := by simpa using hr
   have hcl' := hcl.set hri
   have hoo : ops.getD i default = o := by simp [Array.getD_eq_getD_getElem?,ho]
   have hlen : (planOps ops plan).length = plan.length := by simp [planOps]
   have hops : planOps ops (i :: plan) = o :: planOps ops plan := by simp only [planOps,List.map_cons,hoo]
   rw [hops] at h
   have tameCase : wildKind o.op = false → ∀ v,(∀ a,Fr n a L → YieldsIf P ops S o v a) → Rs P ops n S bars K (planOps ops plan) (putE o.dst v L) w → dOk n o.dst = true →
     wpAnyB P ops (Tq n K X) S (nextBar ops bars (i :: plan)) (fuel + 1) listed a w := by
    intro hk v hy k hd
    rw [if_neg (by simp [hk])] at hp
    simp only [Bool.and_eq_true,Bool.not_eq_true',Bool.or_eq_true] at hp
    obtain ⟨⟨hfr,hnb⟩,hbar⟩ := hp
    have hnext : nextBar ops bars (i :: plan) = nextBar ops bars plan := nextBar_no hnb
    rw [hnext]
    refine wpAnyB_first ho (Region.noSelect_spec hs) (fun _ _ _ h => h) ?_ fuel listed a w (Region.free_spec ho hfr) hri hcl (hy a ha) hS (ih _ w _ fuel hp' hf' hcl' (fun _ => hS) k _ (ha.put hd _))
    rcases hbar with hbar | ⟨hne,hanc⟩
    ·have hb := Nat.eq_of_beq_eq_true hbar
     have hil := ready_lt hri
     exact ⟨by omega,fun l _ _ hm => by have := ready_lt hm; omega⟩
    ·have hne' : nextBar ops bars plan ≠ i := fun e => by rw [e,Nat.beq_refl] at hne; cases hne
     refine ⟨hne',fun l hl hi hm => ?_⟩
     have hself : ∀ j ∈ [nextBar ops bars plan],Anc ops (nextBar ops bars plan) j := fun j hj => by
      have hj' : j = nextBar ops bars plan := by simpa using hj
      rw [hj']
      exact Anc.self
     have hA := ancs_sound (b := nextBar ops bars plan) (nextBar ops bars plan + 1) _ hself i (by simpa using hanc)
     rcases hl.anc hm hA with e | e
     ·exact hne' e.symm
     ·rw [hi] at e; cases e
   have wildCase : wildKind o.op = true → ∀ R : Value → World → Prop,Region.wanted o (yielded ops a.tmps) = true → Wl P n o L w R → (bars.contains plan.length = false → ∀ v w',R v w' → S w') → dOk n o.dst = true →
     (∀ v w',R v w' → Rs P ops n S bars K (planOps ops plan) (putE o.dst v L) w') → wpAnyB P ops (Tq n K X) S (nextBar ops bars (i :: plan)) (fuel + 1) listed a w := by
    intro hk R hg h hb hd k
    rw [if_pos hk] at hp
    have hrs : Region.ready .any ops listed = [i] := by simpa using hp
    refine ⟨fun h0 => (by rw [h0] at hrs; cases hrs),?_⟩
    intro j hj
    obtain rfl : j = i := by rw [hrs] at hj; simpa using hj
    unfold wpOp
    simp only [ho]
    rw [if_pos hg]
    refine .inl (h a ha _ _ fun v w' hv => ?_)
    have hih := ih _ w' _ fuel hp' hf' hcl' (fun hne => by
     cases hbc : bars.contains plan.length with
     | true =>
      have h0 := hb0 _ (by simpa using hbc)
      exact absurd (List.eq_nil_of_length_eq_zero h0) hne
     | false => exact hb hbc v w' hv) (k v w' hv) _ (ha.put hd v)
    cases hbc : bars.contains plan.length with
    | true =>
     have hnext : nextBar ops bars (j :: plan) = j := nextBar_yes hbc
     rw [hnext]
     exact ⟨fun _ => wpAny_of_B _ _ _ _ hih,fun e => absurd rfl e⟩
    | false =>
     have hw := hb hbc v w' hv
     have hnext : nextBar ops bars (j :: plan) = nextBar ops bars plan := nextBar_no hbc
     rw [hnext]
     exact ⟨fun _ => wpAny_of_B _ _ _ _ hih,fun _ => ⟨hw,hih⟩⟩
   cases h with
   | skip h hd k =>
    cases hk : wildKind o.op with
    | false => exact tameCase hk undef (fun a ha => .inr ⟨h.elim (fun h => h.wanted ha) (fun h => h.wanted ha),rfl⟩) k hd
    | true =>
     rw [if_pos hk] at hp
     have hrs : Region.ready .any ops listed = [i] := by simpa using hp
     refine ⟨fun h0 => (by rw [h0] at hrs; cases hrs),?_⟩
     intro j hj
     obtain rfl : j = i := by rw [hrs] at hj; simpa using hj
     unfold wpOp
     simp only [ho]
     have hn : Region.wanted o (yielded ops a.tmps) = false := h.elim (fun h => h.wanted ha) (fun h => h.wanted ha)
     rw [if_neg (by simp [hn])]
     have hih := ih _ w _ fuel hp' hf' hcl' (fun _ => hS) k _ (ha.put hd _)
     refine ⟨fun _ => wpAny_of_B _ _ _ _ hih,fun e => ⟨hS,?_⟩⟩
     have hnext : nextBar ops bars (j :: plan) = nextBar ops bars plan := by
      by_cases hbc : bars.contains plan.length = true
      ·exact absurd (nextBar_yes hbc).symm e
      ·exact nextBar_no (by simpa using hbc)
     rw [hnext]
     exact hih
   | tame v hg hw h hd k => exact tameCase hw v (fun a ha => .inl ⟨hg.wanted ha,fun w' hw' => h a ha w' hw'⟩) k hd
   | wild R hg hk h hz hd k =>
    rw [hlen] at hz
    exact wildCase hk R (hg.wanted ha) h hz hd k
theorem Wp.drawS {id : Nat} {ops : Array Oper} (S : World → Prop) (plan bars : List Nat) (hm : P.follows .mixedOrders = true) (hs : Region.noSelect ops = true)
  (hp : (planOk ops bars plan (Array.replicate ops.size false) && Nat.ble plan.length ops.size) = true) (hb0 : bars.all (· == 0) = true)
  (h : ∀ w1,Ext w w1 → w1.heap = w.heap → S w1 ∧ Rs P ops n S bars N (planOps ops plan) L w1) : Wp P n (.region id ops true) N X L w := fun a ha => by
 simp only [Bool.and_eq_true] at hp
 obtain ⟨h1,h2⟩ := h _ (Ext.drew w) rfl
 exact wp_region_any hm (wpAny_of_B _ _ _ _ (Rs.any hs (fun m hm => by simpa using List.all_eq_true.1 hb0 m hm) plan L w.drew _ ops.size hp.1 (Nat.le_of_ble_eq_true hp.2) (Closed.start ops) (fun _ => h1) h2 a ha))
variable {ops : Array Oper} {S : World → Prop} {bars : List Nat} {K : Kn} {dd : Tmp} {op : Op} {rest : List Oper} {v : Value} {ty : TypeId} {pos : String} {af : Array Edge} {g : Option (Nat × Bool)}
theorem Rs.tm (hg : gYes ops ⟨some dd,op,ty,pos,af,g⟩ L) (hw : wildKind op = false) (h : TmS P n S ⟨some dd,op,ty,pos,af,g⟩ L v) (hd : Nat.blt dd n = true) (k : Rs P ops n S bars K rest ((dd,v) :: L) w) :
  Rs P ops n S bars K (⟨some dd,op,ty,pos,af,g⟩ :: rest) L w := .tame v hg hw h hd k
theorem Rs.sk (hg : gNo ops ⟨some dd,op,ty,pos,af,g⟩ L ∨ gOff ops ⟨some dd,op,ty,pos,af,g⟩ L) (hd : Nat.blt dd n = true) (k : Rs P ops n S bars K rest ((dd,undef) :: L) w) :
  Rs P ops n S bars K (⟨some dd,op,ty,pos,af,g⟩ :: rest) L w := .skip hg hd k
theorem Rs.wd {R : Value → World → Prop} (hg : gYes ops ⟨some dd,op,ty,pos,af,g⟩ L) (hk : wildKind op = true) (h : Wl P n ⟨some dd,op,ty,pos,af,g⟩ L w R) (hd : Nat.blt dd n = true) (hz : bars.contains rest.length = false → ∀ v w',R v w' → S w')
  (k : ∀ v w',R v w' → Rs P ops n S bars K rest ((dd,v) :: L) w') : Rs P ops n S bars K (⟨some dd,op,ty,pos,af,g⟩ :: rest) L w := .wild R hg hk h hz hd k
theorem Rs.wn {R : Value → World → Prop} (hg : gYes ops ⟨none,op,ty,pos,af,g⟩ L) (hk : wildKind op = true) (h : Wl P n ⟨none,op,ty,pos,af,g⟩ L w R) (hz : bars.contains rest.length = false → ∀ v w',R v w' → S w')
  (k : ∀ v w',R v w' → Rs P ops n S bars K rest L w') : Rs P ops n S bars K (⟨none,op,ty,pos,af,g⟩ :: rest) L w := .wild R hg hk h hz rfl k
theorem Rs.wdB {R : Value → World → Prop} (hg : gYes ops ⟨some dd,op,ty,pos,af,g⟩ L) (hk : wildKind op = true) (h : Wl P n ⟨some dd,op,ty,pos,af,g⟩ L w R) (hd : Nat.blt dd n = true) (hb : bars.contains rest.length = true)
  (k : ∀ v w',R v w' → Rs P ops n S bars K rest ((dd,v) :: L) w') : Rs P ops n S bars K (⟨some dd,op,ty,pos,af,g⟩ :: rest) L w := .wild R hg hk h (fun e => by rw [hb] at e; cases e) hd k
theorem Rs.wnB {R : Value → World → Prop} (hg : gYes ops ⟨none,op,ty,pos,af,g⟩ L) (hk : wildKind op = true) (h : Wl P n ⟨none,op,ty,pos,af,g⟩ L w R) (hb : bars.contains rest.length = true)
  (k : ∀ v w',R v w' → Rs P ops n S bars K rest L w') : Rs P ops n S bars K (⟨none,op,ty,pos,af,g⟩ :: rest) L w := .wild R hg hk h (fun e => by rw [hb] at e; cases e) rfl k
end
theorem grown_kp {w w' : World} {v : Value} (h : w.grownBy w' v.ownBlock) : Kp v.ownBlock.toList w w' :=
 ⟨⟨h.os,h.tape,h.output,h.size,fun k hk => absurd hk (Nat.not_lt_zero _)⟩,fun k hk hz => h.block k hk (fun e => hz (by rw [← e]; simp))⟩
theorem own_notin {w : World} {B e size n b t : Nat} {v : Value} {xs cs : List Value} (h : w.ownsRow B e size v n xs) (hv : Var w b cs t) (ht : t ≠ e) : b ∉ v.ownBlock.toList := fun hm => by
 cases hb : v.ownBlock with
 | none => rw [hb] at hm; simp at hm
 | some k =>
  rw [hb] at hm
  obtain rfl : b = k := by simpa using hm
  obtain ⟨cs',hc⟩ := own_block h hb.symm
  exact var_ne hv ht _ hc
theorem Ext.tr {a b c : World} (h : Ext a b) (k : Ext b c) : Ext a c := h.trans (k.mono h.le)
end Go.Gx
namespace Go.Gx
open Go.RowKit
section
variable {P : Program} {n : Nat} {N : Kn} {X : Exit → Kn} {R : PanK} {L : Env} {w : World} {Q : Exit → Act → World → Prop} {ds : List Deferred}
variable {S : Exit → Act → List Frame → World → Prop} {cs : List Frame}
end
end Go.Gx
namespace Go.Gx
open Go.RowKit
section
variable {P : Program} {n m : Nat} {L : Env} {w : World} {F : Fence} {Q : Exit → Act → World → Prop}
end
section
variable {P : Program} {n : Nat} {L : Env} {w : World}
end
section
variable {P : Program} {n : Nat} {L : Env} {w : World} {d : Option Tmp} {ty : TypeId} {pos : String} {af : Array Edge} {g : Option (Nat × Bool)}
end
end Go.Gx
namespace Go.Gx
open Go.RowKit
section
variable {P : Program} {n : Nat} {L : Env} {w : World} {d : Option Tmp} {ty : TypeId} {pos : String} {af : Array Edge} {g : Option (Nat × Bool)}
theorem t_capS {t e : TypeId} {x : Operand} {p : Option Addr} {l c : Nat} (hu : P.underlying t = some (.slice e)) (hx : evO L x = some (.slice p l c)) : Tm P n ⟨d,.call { callee := .builtin .cap,args := #[x],argTypes := #[t] },ty,pos,af,g⟩ L w (.int .i64 c) := fun a ha w' _ => by
 simp [execOp,resolve,invoke,builtin,ha.eval hx,Builtin.cap_,run_underlying hu,goInt]
theorem w_copyT {t t' e : TypeId} {x y : Operand} {b o dl dc k size : Nat} {ag : Bool} {u : Value} {cur cs : List Value} (hu : P.underlying t = some (.slice e)) (ht : Ty P e size ag) (hv : Var w b cur e) (hx : evO L x = some (.slice (some ⟨b,o,none⟩) dl dc)) (hy : evO L y = some u) (hs : SlC w u size k cs)
  (hl : o + min k dl * size ≤ cur.length) (h1 : ∀ v ∈ cs.take (min k dl * size),v.oneCell' = true) :
  Wl P n ⟨d,.call { callee := .builtin .copy,args := #[x,y],argTypes := #[t,t'] },ty,pos,af,g⟩ L w (fun _ w' => Upd b w w' ∧ Var w' b (cur.take o ++ cs.take (min k dl * size) ++ cur.drop (o + min k dl * size)) e) := w_run fun a hF => by
 obtain ⟨hl1,p,cap,rfl,hkc,hd⟩ := hs
 obtain ⟨m,hm⟩ : ∃ m,min k dl = m := ⟨_,rfl⟩
 have hm' : Nat.min k dl = m := hm
 have hmk : m ≤ k := by omega
 simp only [hm] at hl ⊢
 have hlt : (cs.take (m * size)).length = m * size := by
  rw [List.length_take,hl1]
  exact Nat.min_eq_left (Nat.mul_le_mul_right _ (hmk))
 have hfc : (Builtin.firstCells size (m) (.slice p k cap)).run P w = .ok (cs.take (m * size)).toArray w := by
  cases p with
  | none =>
   have hc : cap = 0 := hd.elim id fun ⟨b,o,h,_⟩ => by cases h
   have hk : k = 0 := by omega
   subst hk
   have hm0 : m = 0 := by omega
   simp [Builtin.firstCells,hm0]
  | some ad =>
   refine run_firstCells_some w size _ ad _ _ _ hlt fun j v hj => ?_
   rcases hd with h0 | ⟨b',o',hp,hc⟩
   ·have hk : k = 0 := by omega
    subst hk
    have hm0 : m = 0 := by omega
    subst hm0
    simp at hj
   ·cases hp
    rw [addr_add]
    refine hc j v ?_
    rw [List.getElem?_take] at hj
    split at hj
    ·exact hj
    ·cases hj
 have hst := run_storeCells_at (P := P) b o e (cs.take (m * size)) 0 cur.toArray w hv (by simp only [hlt]; simpa using hl) (fun v hv' => h1 v (by rw [hm]; exact hv'))
 simp only [Nat.add_zero,List.toList_toArray,hlt] at hst
 refine ⟨goInt (m),w.setRow b (cur.take o ++ cs.take (m * size) ++ cur.drop (o + m * size)).toArray,?_,Upd.setRow _ _ _,?_⟩
 ·simp [execOp,resolve,invoke,builtin,hF.eval hx,hF.eval hy,Builtin.copy_,run_underlying hu,Builtin.lenOf,ht.sz,hm',hfc,hst]
 ·exact setRow_heap w b cur.toArray _ e _ hv
end
theorem own_wholeG {w : World} {B n e size : Nat} {v : Value} {xs : List Value} (h : w.ownsRow B e size v n xs) : (v = .slice none 0 0 ∧ n = 0) ∨ ∃ g cap sp,v = .slice (some ⟨g,0,none⟩) n cap ∧ B ≤ g ∧ n ≤ cap ∧ cap ≤ maxLen ∧ sp.length = (cap - n) * size ∧ Var w g (xs ++ sp) e := by
 obtain ⟨hl,h | ⟨g,cap,cur,rfl,hB,hc,h1,h2,h3,h4⟩⟩ := h
 ·exact .inl h
 ·refine .inr ⟨g,cap,cur.toList.drop (n * size),rfl,hB,h1,h2,?_,?_⟩
  ·rw [List.length_drop,Array.length_toList,h3,Nat.mul_sub_right_distrib]
  ·unfold Var
   rw [← h4,List.take_append_drop]
   simpa using hc
theorem whole_ownG {w : World} {B g n cap e size : Nat} {xs sp : List Value} (hB : B ≤ g) (hk : xs.length = n * size) (h1 : n ≤ cap) (h2 : cap ≤ maxLen) (hs : sp.length = (cap - n) * size) (hv : Var w g (xs ++ sp) e) : w.ownsRow B e size (.slice (some ⟨g,0,none⟩) n cap) n xs := by
 refine ⟨hk,.inr ⟨g,cap,(xs ++ sp).toArray,rfl,hB,hv,h1,h2,?_,?_⟩⟩
 ·simp [hk,hs]; rw [← Nat.add_mul]; congr 1; omega
 ·simp [← hk]
end Go.Gx
namespace Go.Gx
open Go.RowKit
section
variable {P : Program} {n : Nat} {N : Kn} {X : Exit → Kn} {L : Env} {w : World}
variable {ops : Array Oper} {S : World → Prop} {bars : List Nat} {K : Kn} {dd : Tmp} {op : Op} {rest : List Oper} {v : Value} {ty : TypeId} {pos : String} {af : Array Edge} {g : Option (Nat × Bool)}
end
section
variable {P : Program} {n : Nat} {N : Kn} {X : Exit → Kn} {L : Env} {w : World}
variable {ops : Array Oper} {K : Kn} {S : World → Prop} {listed : Array Bool} {m : Nat}
end
end Go.Gx
namespace Go.Gx
open Go.RowKit
section
variable {P : Program} {n : Nat} {N : Kn} {X : Exit → Kn} {L : Env} {w : World}
def Qb (P : Program) (ops : Array Oper) (n : Nat) (K : Kn) (X : Exit → Kn) (S : World → Prop) (b : Nat) (listed : Array Bool) (L : Env) (w : World) (m : Nat) : Prop :=
 ∀ a,Fr n a L → Closed ops listed → ∀ fuel,m ≤ fuel → S w → wpAnyB P ops (Tq n K X) S b fuel listed a w
variable {ops : Array Oper} {K : Kn} {S : World → Prop} {listed : Array Bool} {m b : Nat}
theorem Qb.done (hr : Region.ready .any ops listed = []) (h : K L w) : Qb P ops n K X S b listed L w m := fun a ha _ fuel _ _ => wpAnyB_done hr ⟨_,ha,h⟩ fuel
theorem tameOk_bar {i : Nat} (hc : tameOk ops b listed i = true) : i ∈ Region.ready .any ops listed ∧ Region.free .any ops listed i = true ∧ (b ≠ i ∧ ∀ l,Closed ops l → l.getD i false = false → b ∉ Region.ready .any ops l) := by
 simp only [tameOk,Bool.and_eq_true,Bool.or_eq_true,Bool.not_eq_true'] at hc
 obtain ⟨⟨hr,hfr⟩,hbar⟩ := hc
 have hri : i ∈ Region.ready .any ops listed := by simpa using hr
 refine ⟨hri,hfr,?_⟩
 rcases hbar with hbar | ⟨hne,hanc⟩
 ·have hb := Nat.eq_of_beq_eq_true hbar
  have hil := ready_lt hri
  exact ⟨by omega,fun l _ _ hm => by have := ready_lt hm; omega⟩
 ·have hne' : b ≠ i := fun e => by rw [e,Nat.beq_refl] at hne; cases hne
  refine ⟨hne',fun l hl hi hm => ?_⟩
  have hself : ∀ j ∈ [b],Anc ops b j := fun j hj => by
   have hj' : j = b := by simpa using hj
   rw [hj']
   exact Anc.self
  have hA := ancs_sound (b := b) (b + 1) _ hself i (by simpa using hanc)
  rcases hl.anc hm hA with e | e
  ·exact hne' e.symm
  ·rw [hi] at e; cases e
theorem Qb.tame (hs : Region.noSelect ops = true) {o : Oper} {v : Value} (i : Nat) (ho : ops[i]? = some o) (hc : tameOk ops b listed i = true) (hg : gYes ops o L) (h : TmS P n S o L v) (hd : dOk n o.dst = true)
  (k : Qb P ops n K X S b (listed.setIfInBounds i true) (putE o.dst v L) w m) : Qb P ops n K X S b listed L w (m + 1) := fun a ha hcl fuel hf hS => by
 obtain ⟨fuel,rfl⟩ : ∃ f,fuel = f + 1 := ⟨fuel - 1,by omega⟩
 obtain ⟨hri,hfr,hbar⟩ := tameOk_bar hc
 exact wpAnyB_first ho (Region.noSelect_spec hs) (fun _ _ _ h => h) hbar fuel listed a w (Region.free_spec ho hfr) hri hcl (.inl ⟨hg.wanted ha,fun w' hw' => h a ha w' hw'⟩) hS (k _ (ha.put hd _) (hcl.set hri) fuel (by omega) hS)
theorem Qb.tameW (hs : Region.noSelect ops = true) {o : Oper} {v : Value} (i : Nat) (ho : ops[i]? = some o) (hc : tameOkW ops b listed i = true) (hg : gYes ops o L) (h : TmW P n o L v) (hd : dOk n o.dst = true)
  (k : Qb P ops n K X S b (listed.setIfInBounds i true) (putE o.dst v L) w m) : Qb P ops n K X S b listed L w (m + 1) := fun a ha hcl fuel hf hS => by
 obtain ⟨fuel,rfl⟩ : ∃ f,fuel = f + 1 := ⟨fuel - 1,by omega⟩
 simp only [tameOkW,Bool.and_eq_true,Bool.not_eq_true'] at hc
 obtain ⟨⟨hr,hfr⟩,hne⟩ := hc
 have hri : i ∈ Region.ready .any ops listed := by simpa using hr
 have hib : i ≠ b := fun e => by rw [e,Nat.beq_refl] at hne; cases hne
 exact wpAnyB_firstW ho (Region.noSelect_spec hs) (fun _ _ _ h => h) hib fuel listed a w (Region.free_spec ho hfr) hri (.inl ⟨hg.wanted ha,fun w' => h a ha w'⟩) hS
  (k _ (ha.put hd _) (hcl.set hri) fuel (by omega) hS)
theorem Qb.skip (hs : Region.noSelect ops = true) {o : Oper} (i : Nat) (ho : ops[i]? = some o) (hc : tameOk ops b listed i = true) (h : gNo ops o L ∨ gOff ops o L) (hd : dOk n o.dst = true)
  (k : Qb P ops n K X S b (listed.setIfInBounds i true) (putE o.dst undef L) w m) : Qb P ops n K X S b listed L w (m + 1) := fun a ha hcl fuel hf hS => by
 obtain ⟨fuel,rfl⟩ : ∃ f,fuel = f + 1 := ⟨fuel - 1,by omega⟩
 obtain ⟨hri,hfr,hbar⟩ := tameOk_bar hc
 exact wpAnyB_first ho (Region.noSelect_spec hs) (fun _ _ _ h => h) hbar fuel listed a w (Region.free_spec ho hfr) hri hcl (.inr ⟨h.elim (fun h => h.wanted ha) (fun h => h.wanted ha),rfl⟩) hS (k _ (ha.put hd _) (hcl.set hri) fuel (by omega) hS)
def StepB (P : Program) (ops : Array Oper) (n : Nat) (K : Kn) (X : Exit → Kn) (S : World → Prop) (b : Nat) (listed : Array Bool) (L : Env) (w : World) (m : Nat) (i : Nat) : Prop :=
 ∃ (o : Oper) (R : Value → World → Prop),ops[i]? = some o ∧ Nat.beq i b = false ∧ gYes ops o L ∧ Wl P n o L w R ∧ dOk n o.dst = true ∧ (∀ v w',R v w' → S w') ∧ ∀ v w',R v w' → Qb P ops n K X S b (listed.setIfInBounds i true) (putE o.dst v L) w' m
theorem Qb.alt {is : List Nat} (hr : Region.ready .any ops listed = is) (hne : is ≠ []) (h : ∀ i ∈ is,StepB P ops n K X S b listed L w m i) : Qb P ops n K X S b listed L w (m + 1) := fun a ha hcl fuel hf hS => by
 obtain ⟨fuel,rfl⟩ : ∃ f,fuel = f + 1 := ⟨fuel - 1,by omega⟩
 refine ⟨fun h0 => absurd (hr ▸ h0) hne,fun i hi => ?_⟩
 have hi' := hi
 rw [hr] at hi
 obtain ⟨o,R,ho,hib,hg,hw,hd,k1,k⟩ := h i hi
 have hne' : i ≠ b := fun e => by rw [e,Nat.beq_refl] at hib; cases hib
 unfold wpOp
 simp only [ho]
 rw [if_pos (hg.wanted ha)]
 refine .inl (hw a ha _ _ fun v w' hv => ⟨fun e => absurd e hne',fun _ => ?_⟩)
 have k1 := k1 v w' hv
 exact ⟨k1,k v w' hv _ (ha.put hd v) (hcl.set hi') fuel (by omega) k1⟩
theorem Qb.alt1 {i : Nat} (hr : Region.ready .any ops listed = [i]) (h1 : StepB P ops n K X S b listed L w m i) : Qb P ops n K X S b listed L w (m + 1) := Qb.alt hr (by simp) fun k hk => by
 obtain rfl : k = i := by simpa using hk
 exact h1
theorem Qb.alt2 {i j : Nat} (hr : Region.ready .any ops listed = [i,j]) (h1 : StepB P ops n K X S b listed L w m i) (h2 : StepB P ops n K X S b listed L w m j) : Qb P ops n K X S b listed L w (m + 1) := Qb.alt hr (by simp) fun k hk => by
 rcases List.mem_cons.1 hk with rfl | hk
 ·exact h1
 ·obtain rfl : k = j := by simpa using hk
  exact h2
theorem Qb.bar {o : Oper} {R : Value → World → Prop} (S' : World → Prop) (i b' : Nat) (hib : i = b) (hr : Region.ready .any ops listed = [i]) (ho : ops[i]? = some o) (hg : gYes ops o L) (hw : Wl P n o L w R) (hd : dOk n o.dst = true) (hS' : ∀ v w',R v w' → S' w')
  (k : ∀ v w',R v w' → Qb P ops n K X S' b' (listed.setIfInBounds i true) (putE o.dst v L) w' m) : Qb P ops n K X S b listed L w (m + 1) := fun a ha hcl fuel hf hS => by
 obtain ⟨fuel,rfl⟩ : ∃ f,fuel = f + 1 := ⟨fuel - 1,by omega⟩
 refine ⟨fun h0 => (by rw [h0] at hr; cases hr),fun j hj => ?_⟩
 have hj' := hj
 rw [hr] at hj
 obtain rfl : j = i := by simpa using hj
 unfold wpOp
 simp only [ho]
 rw [if_pos (hg.wanted ha)]
 exact .inl (hw a ha _ _ fun v w' hv => ⟨fun _ => wpAny_of_B _ _ _ _ (k v w' hv _ (ha.put hd v) (hcl.set hj') fuel (by omega) (hS' v w' hv)),fun e => absurd hib e⟩)
section
variable {d : Option Tmp} {ty : TypeId} {pos : String} {af : Array Edge} {g : Option (Nat × Bool)}
theorem t_makeFuncB {f : FuncId} {fst cap : Array Operand} {us vs : List Value} (h1 : fst.toList.map (evO L) = us.map some) (h : cap.toList.map (evO L) = vs.map some) : Tm P n ⟨d,.makeFunc (.func f) fst cap,ty,pos,af,g⟩ L w (.func (.func f) us.toArray vs.toArray) := fun a ha w' _ => by
 have hc : cap.map a.eval = vs.toArray := by
  apply Array.toList_inj.1
  rw [Array.toList_map]
  exact map_eval ha h
 have hc1 : fst.map a.eval = us.toArray := by
  apply Array.toList_inj.1
  rw [Array.toList_map]
  exact map_eval ha h1
 simp [execOp,Instr.makeFunc,hc,hc1]
theorem w_callG {x : Operand} {f : FuncId} {fst cap : List Value} {args : Array Operand} {at_ : Array TypeId} {vs : List Value} {R : Value → World → Prop} (hx : evO L x = some (.func (.func f) fst.toArray cap.toArray)) (hf : ∀ (args : Array Value) (w : World),(callFunc f args).run P w = .ok (.enter f args) w)
  (ha : args.toList.map (evO L) = vs.map some) (h : Cl P f (fst ++ vs ++ cap).toArray w R) : Wl P n ⟨d,.call { callee := .value x,args := args,argTypes := at_ },ty,pos,af,g⟩ L w R := fun a hF Q next hn => by
 have hargs : args.map a.eval = vs.toArray := by
  apply Array.toList_inj.1
  rw [Array.toList_map]
  exact map_eval hF ha
 have hrun : (execOp a.eval ⟨d,.call { callee := .value x,args := args,argTypes := at_ },ty,pos,af,g⟩).run P w = .ok (.enter f (fst ++ vs ++ cap).toArray) w := by
  simp [execOp,resolve,hF.eval hx,Deferred.ofValue,invoke,hf,hargs]
 unfold Oper.wp
 rw [hrun]
 simp only [Oper.upon]
 exact Calls.mono h fun e w' ⟨v,he,hr⟩ => by subst he; exact hn v w' hr
end
theorem tw_of {P : Program} {n : Nat} {L : Env} {o : Oper} {v : Value} (h : ∀ w',Tm P n o L w' v) : TmW P n o L v := fun a ha w' => h w' a ha w' (Below.refl _ _)
theorem Wp.drawB {id : Nat} (S : World → Prop) (b : Nat) (hm : P.follows .mixedOrders = true) (h : ∀ w1,Ext w w1 → w1.heap = w.heap → S w1 ∧ Qb P ops n K X S b (Array.replicate ops.size false) L w1 ops.size) : Wp P n (.region id ops true) K X L w := fun a ha => by
 obtain ⟨h1,h2⟩ := h _ (Ext.drew w) rfl
 exact wp_region_any hm (wpAny_of_B _ _ _ _ (h2 a ha (Closed.start ops) _ (Nat.le_refl _) h1))
end
end Go.Gx
