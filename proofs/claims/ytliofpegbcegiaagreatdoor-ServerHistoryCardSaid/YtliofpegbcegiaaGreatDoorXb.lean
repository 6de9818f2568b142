/- The engine's rules, more: rows at an offset, copies, clears and appends over a block known whole; maps known whole, with struct keys of three numbers. Generic in the program. -/
import Derived.Test.YtliofpegbcegiaaGreatDoorXa
import Derived.Deep.AppendSrc
import Derived.Lib.AppendZerosOnto
import Derived.Laws.IdiomRangeMap
import Derived.Recover
import Derived.RangeFuncSeq
import Derived.RangeFuncCalls
import Derived.TacticsIn
import Derived.Lib.Overlaps
import Derived.Laws.Externs
set_option linter.unusedVariables false
set_option linter.unusedSimpArgs false
namespace Go.Gx
open Go.RowKit
open Go.ChangeMaps (setBlock heap_setBlock_same heap_setBlock_other)
def Row (w : World) (e size : Nat) (v : Value) (n : Nat) (xs : List Value) : Prop :=
 xs.length = n * size ∧ ((v = .slice none 0 0 ∧ n = 0) ∨ ∃ b o cap cur,v = .slice (some ⟨b,o,none⟩) n cap ∧ n ≤ cap ∧ cap ≤ maxLen ∧ Var w b cur e ∧ o + cap * size ≤ cur.length ∧ (cur.drop o).take (n * size) = xs)
theorem Row.len {w : World} {e size n : Nat} {v : Value} {xs : List Value} (h : Row w e size v n xs) : xs.length = n * size := h.1
theorem Row.nil (w : World) (e size : Nat) : Row w e size (.slice none 0 0) 0 [] := ⟨by simp,.inl ⟨rfl,rfl⟩⟩
theorem Row.ofOwn {w : World} {B e size n : Nat} {v : Value} {xs : List Value} (h : w.ownsRow B e size v n xs) : Row w e size v n xs := by
 refine ⟨h.1,h.2.imp id ?_⟩
 rintro ⟨g,cap,cur,rfl,_,h2,h3,h4,h5,h6⟩
 refine ⟨g,0,cap,cur.toList,rfl,h3,h4,by unfold Var; simpa using h2,by simp [h5],by simpa using h6⟩
theorem Row.shape {w : World} {e size n : Nat} {v : Value} {xs : List Value} (h : Row w e size v n xs) : ∃ p c,v = .slice p n c := by
 rcases h.2 with ⟨rfl,rfl⟩ | ⟨b,o,cap,cur,rfl,_⟩
 ·exact ⟨_,_,rfl⟩
 ·exact ⟨_,_,rfl⟩
theorem Row.slc {w : World} {e size n : Nat} {v : Value} {xs : List Value} (h : Row w e size v n xs) : SlC w v size n xs := by
 refine ⟨h.1,?_⟩
 rcases h.2 with ⟨rfl,rfl⟩ | ⟨b,o,cap,cur,rfl,h1,h2,h3,h4,h5⟩
 ·exact ⟨_,_,rfl,Nat.le_refl _,.inl rfl⟩
 ·refine ⟨_,_,rfl,h1,.inr ⟨b,o,rfl,?_⟩⟩
  have hc := Cells.sub h3.cells o (n * size)
  rw [h5,Nat.zero_add] at hc
  exact hc
theorem Row.keep {w w' : World} {e size n : Nat} {v : Value} {xs : List Value} (h : Row w e size v n xs) (k : ∀ b cs,v.ownBlock = some b → Var w b cs e → w'.heap[b]? = w.heap[b]?) : Row w' e size v n xs := by
 refine ⟨h.1,h.2.imp id ?_⟩
 rintro ⟨b,o,cap,cur,rfl,h1,h2,h3,h4⟩
 refine ⟨b,o,cap,cur,rfl,h1,h2,?_,h4⟩
 have := k b cur rfl h3
 unfold Var at *
 rw [this]; exact h3
theorem Row.ext {w w' : World} {e size n : Nat} {v : Value} {xs : List Value} (h : Row w e size v n xs) (k : Ext w w') : Row w' e size v n xs := h.keep fun b cs _ hv => Below.block k b hv.lt
theorem Row.upd {w w' : World} {e size n b t : Nat} {v : Value} {xs cs : List Value} (h : Row w e size v n xs) (hv : Var w b cs t) (k : Upd b w w') (ht : t ≠ e) : Row w' e size v n xs := h.keep fun c cs' _ hc => k.block c (fun eq => by subst eq; exact var_ne hv ht _ hc)
theorem Row.map {w w' : World} {e size n b : Nat} {v : Value} {xs : List Value} {es : Array MapEntry} (h : Row w e size v n xs) (hm : MapA w b es) (k : Upd b w w') : Row w' e size v n xs := h.keep fun c cs' _ hc => k.block c (fun eq => by
 obtain ⟨clk,hm⟩ := hm
 subst eq
 unfold Var at hc
 rw [hm] at hc; cases hc)
theorem Row.lt {w : World} {e size n : Nat} {v : Value} {xs : List Value} (h : Row w e size v n xs) : ∀ b,v.ownBlock = some b → b < w.heap.size := fun b hb => by
 rcases h.2 with ⟨rfl,_⟩ | ⟨b',o,cap,cur,rfl,_,_,h3,_⟩
 ·cases hb
 ·obtain rfl : b' = b := by simpa [Value.ownBlock] using hb
  exact h3.lt
theorem Row.var {w : World} {e size n b : Nat} {v : Value} {xs : List Value} (h : Row w e size v n xs) (hb : v.ownBlock = some b) : ∃ cs,Var w b cs e := by
 rcases h.2 with ⟨rfl,_⟩ | ⟨b',o,cap,cur,rfl,_,_,h3,_⟩
 ·cases hb
 ·obtain rfl : b' = b := by simpa [Value.ownBlock] using hb
  exact ⟨cur,h3⟩
theorem Row.cut {w : World} {e size n : Nat} {p : Option Addr} {cap : Nat} {xs : List Value} (h : Row w e size (.slice p n cap) n xs) {l r : Nat} (h1 : l ≤ r) (h2 : r ≤ n) :
  Row w e size (.slice (if cap = l then p else p.map (·.add (l * size))) (r - l) (cap - l)) (r - l) ((xs.drop (l * size)).take ((r - l) * size)) := by
 have h7 : (r - l) * size ≤ n * size - l * size := by rw [← Nat.sub_mul]; exact Nat.mul_le_mul_right _ (by omega)
 refine ⟨by rw [List.length_take,List.length_drop,h.1]; omega,?_⟩
 rcases h.2 with ⟨e1,rfl⟩ | ⟨b,o,cap',cur,e1,a1,a2,a3,a4,a5⟩
 ·left
  injection e1 with e1 e2 e3
  subst e1 e3
  obtain rfl : l = 0 := by omega
  obtain rfl : r = 0 := by omega
  simp
 ·right
  injection e1 with e1 e2 e3
  subst e1 e3
  by_cases hc : cap = l
  ·rw [if_pos hc]
   have hr : r - l = 0 := by omega
   refine ⟨b,o,cap - l,cur,rfl,by omega,by omega,a3,?_,by rw [hr]; simp⟩
   have : cap - l = 0 := by omega
   rw [this]; omega
  ·rw [if_neg hc]
   refine ⟨b,o + l * size,cap - l,cur,by simp [addr_add],by omega,by omega,a3,?_,?_⟩
   ·have : (cap - l) * size = cap * size - l * size := Nat.sub_mul _ _ _
    have hle : l * size ≤ cap * size := Nat.mul_le_mul_right _ (by omega)
    omega
   ·rw [← a5,List.drop_take,List.take_take,List.drop_drop]
    congr 1
    omega
section
variable {P : Program} {n : Nat} {L : Env} {w : World} {d : Option Tmp} {ty : TypeId} {pos : String} {af : Array Edge} {g : Option (Nat × Bool)}
theorem w_clearV {t e : TypeId} {x : Operand} {b o k c size : Nat} {z : Value} {zs cur : List Value} (hu : P.underlying t = some (.slice e)) (hz : ∀ w,(zeroValue e).run P w = .ok z w) (hzc : z.cells = zs.toArray) (hsz : zs.length = size) (hv : Var w b cur e) (hx : evO L x = some (.slice (some ⟨b,o,none⟩) k c))
  (hl : o + k * size ≤ cur.length) (h1 : ∀ v ∈ zs,v.oneCell' = true) :
  Wl P n ⟨d,.call { callee := .builtin .clear,args := #[x],argTypes := #[t] },ty,pos,af,g⟩ L w (fun _ w' => Upd b w w' ∧ ∃ cur',Var w' b cur' e ∧ cur'.length = cur.length ∧ cur'.take o = cur.take o ∧ cur'.drop (o + k * size) = cur.drop (o + k * size)) := w_run fun a hF => by
 cases k with
 | zero =>
  refine ⟨.tuple #[],w,?_,⟨rfl,rfl,rfl,rfl,fun _ _ => rfl⟩,cur,hv,rfl,rfl,rfl⟩
  simp [execOp,resolve,invoke,builtin,hF.eval hx,Builtin.clear_,run_underlying hu]
 | succ k =>
  have hzl : (Builtin.zeroCells z.cells (k + 1)).toList.length = (k + 1) * size := by simp [Builtin.zeroCells,hzc,hsz]
  have hone : ∀ v ∈ (Builtin.zeroCells z.cells (k + 1)).toList,v.oneCell' = true := fun v hv' => by
   simp only [Builtin.zeroCells,hzc,Array.toList_map,List.mem_map] at hv'
   obtain ⟨i,hi,rfl⟩ := hv'
   by_cases h0 : 0 < zs.length
   ·have : i % zs.length < zs.length := Nat.mod_lt _ h0
    rw [List.size_toArray,getElem!_pos _ _ (by simpa using this)]
    exact h1 _ (by simp)
   ·have : zs = [] := List.length_eq_zero_iff.1 (by omega)
    subst this
    simp at hi
  have hst := run_storeCells_at (P := P) b o e (Builtin.zeroCells z.cells (k + 1)).toList 0 cur.toArray w hv (by rw [hzl]; simpa using hl) hone
  simp only [Nat.add_zero,List.toList_toArray,hzl] at hst
  have hlen : (cur.take o).length = o := by rw [List.length_take]; omega
  refine ⟨.tuple #[],w.setRow b (cur.take o ++ (Builtin.zeroCells z.cells (k + 1)).toList ++ cur.drop (o + (k + 1) * size)).toArray,?_,Upd.setRow w b _,cur.take o ++ (Builtin.zeroCells z.cells (k + 1)).toList ++ cur.drop (o + (k + 1) * size),setRow_heap w b cur.toArray _ e _ hv,?_,?_,?_⟩
  ·simp [execOp,resolve,invoke,builtin,hF.eval hx,Builtin.clear_,run_underlying hu,hz,hst]
  ·simp only [List.length_append,hzl,hlen,List.length_drop]; omega
  ·rw [List.append_assoc,List.take_left' hlen]
  ·rw [List.drop_left' (by simp only [List.length_append,hzl,hlen])]
theorem w_appendV {t e : TypeId} {i : TypeInfo} {x y : Operand} {b o m cap k size : Nat} {u : Value} {cur news : List Value} (ht : P.underlying t = some (.slice e)) (hi : P.info? e = some i) (hs : i.size = size) (hv : Var w b cur e) (hx : evO L x = some (.slice (some ⟨b,o,none⟩) m cap)) (hy : evO L y = some u) (hsl : SlC w u size k news)
  (h1 : ∀ v ∈ news,v.oneCell' = true) (hroom : m + k ≤ cap) (hfit : o + (m + k) * size ≤ cur.length) :
  Wl P n ⟨d,.call { callee := .builtin .append,args := #[x,y],argTypes := #[t,t] },ty,pos,af,g⟩ L w (fun v w' => v = .slice (some ⟨b,o,none⟩) (m + k) cap ∧ Upd b w w' ∧ Var w' b (cur.take (o + m * size) ++ news ++ cur.drop (o + m * size + news.length)) e) := w_run fun a hF => by
 obtain ⟨hl,p,c,rfl,hkc,hd⟩ := hsl
 have hfc : (Builtin.firstCells size k (.slice p k c)).run P w = .ok news.toArray w := by
  cases p with
  | none =>
   have hc : c = 0 := hd.elim id fun ⟨b,o,h,_⟩ => by cases h
   have hk : k = 0 := by omega
   subst hk
   have : news = [] := List.length_eq_zero_iff.1 (by simpa using hl)
   simp [Builtin.firstCells,this]
  | some ad =>
   refine run_firstCells_some w size _ ad _ _ _ hl fun j v hj => ?_
   rcases hd with h0 | ⟨b',o',hp,hc⟩
   ·have hk : k = 0 := by omega
    subst hk
    have : news = [] := List.length_eq_zero_iff.1 (by simpa using hl)
    subst this
    simp at hj
   ·cases hp
    rw [addr_add]
    exact hc j v hj
 have hadd : (m + k) * size = m * size + k * size := Nat.add_mul _ _ _
 have hst := run_storeCells_at (P := P) b (o + m * size) e news 0 cur.toArray w hv (by simp only [hl]; simp; omega) h1
 simp only [Nat.add_zero,List.toList_toArray] at hst
 subst hs
 refine ⟨.slice (some ⟨b,o,none⟩) (m + k) cap,w.setRow b (cur.take (o + m * i.size) ++ news ++ cur.drop (o + m * i.size + news.length)).toArray,?_,rfl,Upd.setRow w b _,setRow_heap w b cur.toArray _ e _ hv⟩
 simp [execOp,resolve,invoke,builtin,hF.eval hx,hF.eval hy,Builtin.append_,run_underlying ht,sizeOf,typeInfo,hi,Builtin.lenOf,hroom,hfc,addr_add,hst]
theorem w_appendG {t e : TypeId} {i : TypeInfo} {z : Value} {x y : Operand} {m cap k size bytes : Nat} {p : Option Addr} {u : Value} {olds news : List Value} (ht : P.underlying t = some (.slice e)) (hi : P.info? e = some i) (hz : i.zero = some z) (hs : i.size = size) (hby : i.bytes = bytes) (hzs : z.cells.size = size)
  (hx : evO L x = some (.slice p m cap)) (hy : evO L y = some u) (hold : SlC w (.slice p m cap) size m olds) (hsl : SlC w u size k news) (h1 : ∀ v ∈ news,v.oneCell' = true) (hfull : cap < m + k) (h63 : m + k ≤ maxLen) (hb : (m + k) * bytes ≤ 140737488355328) :
  Wl P n ⟨d,.call { callee := .builtin .append,args := #[x,y],argTypes := #[t,t] },ty,pos,af,g⟩ L w (fun v w' => Ext w w' ∧ w'.ownsRow w.heap.size e size v (m + k) (olds ++ news)) := w_run fun a hF => by
 obtain ⟨hl,p2,c,rfl,hkc,hd⟩ := hsl
 obtain ⟨hlo,p3,c3,e3,hmc,hdo⟩ := hold
 injection e3 with e3 _ e4
 subst e3 e4
 have hk0 : k ≠ 0 := by omega
 obtain ⟨b2,o2,rfl,hc2⟩ : ∃ b o,p2 = some ⟨b,o,none⟩ ∧ Cells w b o news := hd.resolve_left (by omega)
 have hsrc : Src P i.size t (.slice (some ⟨b2,o2,none⟩) k c) k news w := Src.ofSlice w ht _ k c news (by rw [hs]; exact hl) (fun j u hu => by rw [addr_add]; exact hc2 j u hu) h1
 have holdR : (Builtin.firstCells i.size m (.slice p m cap)).run P w.drew = .ok olds.toArray w.drew := by
  rw [hs]
  cases p with
  | none =>
   have hc : cap = 0 := hdo.elim id fun ⟨b,o,h,_⟩ => by cases h
   have hm : m = 0 := by omega
   subst hm
   have : olds = [] := List.length_eq_zero_iff.1 (by simpa using hlo)
   simp [Builtin.firstCells,this]
  | some ad =>
   refine run_firstCells_some w.drew size _ ad _ _ _ hlo fun j v hj => ?_
   rcases hdo with h0 | ⟨b',o',hp,hc⟩
   ·have hm : m = 0 := by omega
    subst hm
    have : olds = [] := List.length_eq_zero_iff.1 (by simpa using hlo)
    subst this
    simp at hj
   ·cases hp
    rw [addr_add]
    exact hc j v hj
 have hcapB : Builtin.nextslicecap (m + k) cap * i.bytes ≤ 281474976710656 := by
  rw [hby]
  refine Nat.le_trans ?_ (Nat.mul_le_mul_left 2 hb)
  rw [← Nat.mul_assoc]
  exact Nat.mul_le_mul_right _ (nextslicecap_le hfull)
 have hsmall : ((m + k : Nat) : Int) ≤ 9223372036854775807 := by have : m + k ≤ 9223372036854775807 := h63; omega
 have hrun := run_append_grow_src (P := P) w t t ty e i z ht hi hz p m cap olds holdR _ k news hsrc hfull hsmall hcapB
 refine ⟨.slice (some ⟨w.heap.size,0,none⟩) (m + k) (grownCap w (m + k) cap e),w.drew.alloc (.cells ((olds ++ news).toArray ++ Builtin.zeroCells z.cells (grownCap w (m + k) cap e - (m + k))) e),by simp [execOp,resolve,invoke,builtin,hF.eval hx,hF.eval hy,hrun],(Ext.drew w).ext (Ext.alloc _ _),?_⟩
 have hge := grownCap_ge w (m + k) cap e
 have hadd : (m + k) * size = m * size + k * size := Nat.add_mul _ _ _
 refine ⟨by rw [List.length_append,hlo,hl,hadd],.inr ⟨w.heap.size,grownCap w (m + k) cap e,(olds ++ news).toArray ++ Builtin.zeroCells z.cells (grownCap w (m + k) cap e - (m + k)),rfl,Nat.le_refl _,?_,hge,grownCap_le_maxLen w _ _ _ h63,?_,?_⟩⟩
 ·exact heap_alloc_new w.drew _
 ·simp only [Array.size_append,List.size_toArray,List.length_append,hlo,hl,size_zeroCells,hzs]
  rw [← hadd,← Nat.add_mul]
  congr 1
  omega
 ·simp only [Array.toList_append,List.toList_toArray]
  rw [List.take_left' (by rw [List.length_append,hlo,hl,hadd])]
end
end Go.Gx
namespace Go.Gx
open Go.RowKit
open Go.ChangeMaps (setBlock heap_setBlock_same heap_setBlock_other)
section
variable {P : Program} {n : Nat} {L : Env} {w : World} {d : Option Tmp} {ty : TypeId} {pos : String} {af : Array Edge} {g : Option (Nat × Bool)}
theorem w_appendZ {t tn e : TypeId} {i : TypeInfo} {z : Value} {x y : Operand} {m cap k size bytes : Nat} {kn : IntKind} {p : Option Addr} {olds zs : List Value} (ht : P.underlying t = some (.slice e)) (htn : P.underlying tn = some (.int kn)) (hi : P.info? e = some i) (hz : i.zero = some z) (hs : i.size = size) (hby : i.bytes = bytes) (hzs : z.cells = zs.toArray) (hzl : zs.length = size) (hpos : 0 < size)
  (hx : evO L x = some (.slice p m cap)) (hy : evO L y = some (.int .i64 (k : Int))) (hold : SlC w (.slice p m cap) size m olds) (h0 : 0 < k) (hfull : cap < m + k) (h63 : m + k ≤ maxLen) (hb : (m + k) * bytes ≤ 140737488355328) :
  Wl P n ⟨d,.call { callee := .builtin .append,args := #[x,y],argTypes := #[t,tn] },ty,pos,af,g⟩ L w (fun v w' => Ext w w' ∧ ∃ news,news.length = k * size ∧ w'.ownsRow w.heap.size e size v (m + k) (olds ++ news)) := w_run fun a hF => by
 obtain ⟨hlo,p3,c3,e3,hmc,hdo⟩ := hold
 injection e3 with e3 _ e4
 subst e3 e4
 have holdR : (Builtin.firstCells i.size m (.slice p m cap)).run P w.drew = .ok olds.toArray w.drew := by
  rw [hs]
  cases p with
  | none =>
   have hc : cap = 0 := hdo.elim id fun ⟨b,o,h,_⟩ => by cases h
   have hm : m = 0 := by omega
   subst hm
   have : olds = [] := List.length_eq_zero_iff.1 (by simpa using hlo)
   simp [Builtin.firstCells,this]
  | some ad =>
   refine run_firstCells_some w.drew size _ ad _ _ _ hlo fun j v hj => ?_
   rcases hdo with h0 | ⟨b',o',hp,hc⟩
   ·have hm : m = 0 := by omega
    subst hm
    have : olds = [] := List.length_eq_zero_iff.1 (by simpa using hlo)
    subst this
    simp at hj
   ·cases hp
    rw [addr_add]
    exact hc j v hj
 have hcapB : Builtin.nextslicecap (m + k) cap * i.bytes ≤ 281474976710656 := by
  rw [hby]
  refine Nat.le_trans ?_ (Nat.mul_le_mul_left 2 hb)
  rw [← Nat.mul_assoc]
  exact Nat.mul_le_mul_right _ (nextslicecap_le hfull)
 have hsmall : ((m + k : Nat) : Int) ≤ 9223372036854775807 := by have : m + k ≤ 9223372036854775807 := h63; omega
 have hkb : k * i.bytes ≤ 281474976710656 := by
  rw [hby]
  have : k * bytes ≤ (m + k) * bytes := Nat.mul_le_mul_right _ (by omega)
  omega
 have hrun := Lib.run_append_grow_zeros (P := P) w t tn ty e i z .i64 kn ht htn hi hz p m cap olds holdR k h0 (by rw [hs]; exact hpos) hfull hsmall hkb hcapB
 have hzc : ∀ q,(Builtin.zeroCells z.cells q).size = q * size := fun q => by simp [Builtin.zeroCells,hzs,hzl]
 refine ⟨.slice (some ⟨w.heap.size,0,none⟩) (m + k) (grownCap w (m + k) cap e),w.drew.alloc (.cells (olds.toArray ++ Builtin.zeroCells z.cells k ++ Builtin.zeroCells z.cells (grownCap w (m + k) cap e - (m + k))) e),by simp [execOp,resolve,invoke,builtin,hF.eval hx,hF.eval hy,hrun],(Ext.drew w).ext (Ext.alloc _ _),(Builtin.zeroCells z.cells k).toList,by simp [hzc],?_⟩
 have hge := grownCap_ge w (m + k) cap e
 have hadd : (m + k) * size = m * size + k * size := Nat.add_mul _ _ _
 refine ⟨by rw [List.length_append,hlo,Array.length_toList,hzc,hadd],.inr ⟨w.heap.size,grownCap w (m + k) cap e,olds.toArray ++ Builtin.zeroCells z.cells k ++ Builtin.zeroCells z.cells (grownCap w (m + k) cap e - (m + k)),rfl,Nat.le_refl _,?_,hge,grownCap_le_maxLen w _ _ _ h63,?_,?_⟩⟩
 ·exact heap_alloc_new w.drew _
 ·simp only [Array.size_append,List.size_toArray,hlo,hzc]
  rw [← hadd,← Nat.add_mul]
  congr 1
  omega
 ·simp only [Array.toList_append,List.toList_toArray]
  rw [List.take_left' (by rw [List.length_append,hlo,Array.length_toList,hzc,hadd])]
theorem t_slice3 {t e : TypeId} {x lo hi mx : Operand} {p : Option Addr} {len cap size : Nat} {ag : Bool} {l h m : Int} (hu : P.underlying t = some (.slice e)) (ht : Ty P e size ag) (hx : evO L x = some (.slice p len cap))
  (hlo : evO L lo = some (.int .i64 l)) (hhi : evO L hi = some (.int .i64 h)) (hmx : evO L mx = some (.int .i64 m)) (hb : 0 ≤ l ∧ l ≤ h ∧ h ≤ m ∧ m ≤ cap) :
  Tm P n ⟨d,.slice t x (some lo) (some hi) (some mx),ty,pos,af,g⟩ L w (.slice (if m.toNat = l.toNat then p else p.map (·.add (l.toNat * size))) (h.toNat - l.toNat) (m.toNat - l.toNat)) := fun a ha w' _ => by
 obtain ⟨h1,h2,h3,h4⟩ := hb
 have h0 : 0 ≤ h := by omega
 have hm0 : 0 ≤ m := by omega
 have e1 : h ≤ (m.toNat : Int) := by omega
 have e2 : l ≤ (h.toNat : Int) := by omega
 simp [execOp,ha.eval hx,ha.eval hlo,ha.eval hhi,ha.eval hmx,Instr.sliceAt,Instr.slice,run_underlying hu,Instr.sliceBounds,Instr.sliceBound,asIntOf,h0,h1,hm0,h4,e1,e2,ht.sz,show h ≤ max m 0 from by omega,show l ≤ max h 0 from by omega]
end
abbrev K3 := Int × Int × Int
def encK (k : K3) : Value := .agg #[.int .i64 k.1,.int .i64 k.2.1,.int .i64 k.2.2]
structure Key3 (P : Program) (k : TypeId) : Prop where
 wide : (match P.underlying k with | some (.array _ _) | some (.struct _) => true | _ => false) = true
 chk : ∀ v : K3,∀ (em : Bool) (w : World),(Instr.checkKey em 10000 k (encK v)).run P w = .ok () w
 eq : ∀ (x y : K3) (w : World),(Op.equal k (encK x) (encK y)).run P w = .ok (decide (x = y)) w
 bits : ∀ v : K3,Instr.sameBits 10000 (encK v) (encK v) = true
def look3 {α : Type} : List (K3 × α) → K3 → Option α
 | [],_ => none
 | p :: l,k => if p.1 = k then some p.2 else look3 l k
def ups3 {α : Type} : List (K3 × α) → K3 → α → List (K3 × α)
 | [],k,v => [(k,v)]
 | p :: l,k,v => if p.1 = k then (k,v) :: l else p :: ups3 l k v
def del3 {α : Type} : List (K3 × α) → K3 → List (K3 × α)
 | [],_ => []
 | p :: l,k => if p.1 = k then l else p :: del3 l k
def MapR (w : World) (b : Nat) (l : List (K3 × Value)) : Prop := ∃ es clk,w.heap[b]? = some (.map es clk) ∧ es.toList.map (fun e => (e.key,e.val)) = l.map (fun p => (encK p.1,p.2)) ∧ (∀ e ∈ es.toList,e.born < clk) ∧ (es.toList.map (·.born)).Nodup
theorem MapR.a {w : World} {b : Nat} {l : List (K3 × Value)} (h : MapR w b l) : ∃ es,MapA w b es := by
 obtain ⟨es,clk,h,_⟩ := h
 exact ⟨es,clk,h⟩
theorem MapR.lt {w : World} {b : Nat} {l : List (K3 × Value)} (h : MapR w b l) : b < w.heap.size := by
 obtain ⟨es,clk,h,_⟩ := h
 exact (Array.getElem?_eq_some_iff.1 h).1
theorem MapR.keep {w w' : World} {b : Nat} {l : List (K3 × Value)} (h : MapR w b l) (k : w'.heap[b]? = w.heap[b]?) : MapR w' b l := by
 obtain ⟨es,clk,h,h2⟩ := h
 exact ⟨es,clk,by rw [k]; exact h,h2⟩
theorem MapR.ext {w w' : World} {b : Nat} {l : List (K3 × Value)} (h : MapR w b l) (k : Ext w w') : MapR w' b l := h.keep (Below.block k b h.lt)
theorem MapR.upd {w w' : World} {b c t : Nat} {cs : List Value} {l : List (K3 × Value)} (h : MapR w b l) (hv : Var w c cs t) (k : Upd c w w') : MapR w' b l := h.keep (k.block b fun e => by
 obtain ⟨es,clk,h,_⟩ := h
 subst e
 unfold Var at hv
 rw [h] at hv; cases hv)
theorem MapR.ne {w : World} {b c t : Nat} {cs : List Value} {l : List (K3 × Value)} (h : MapR w b l) (hv : Var w c cs t) : c ≠ b := fun e => by
 obtain ⟨es,clk,h,_⟩ := h
 subst e
 unfold Var at hv
 rw [h] at hv; cases hv
theorem Row.mapR {w w' : World} {e size n b : Nat} {v : Value} {xs : List Value} {l : List (K3 × Value)} (h : Row w e size v n xs) (hm : MapR w b l) (k : Upd b w w') : Row w' e size v n xs := by
 obtain ⟨es,hm⟩ := hm.a
 exact h.map hm k
theorem Var.mapR {w w' : World} {b c t : Nat} {cs : List Value} {l : List (K3 × Value)} (h : Var w c cs t) (hm : MapR w b l) (k : Upd b w w') : Var w' c cs t := h.upd k (hm.ne h)
section
variable {P : Program} {k : TypeId}
theorem set_self {α : Type} {l : List α} {m : Nat} {x : α} (h : l[m]? = some x) : l.set m x = l := List.ext_getElem? fun j => by
 rw [List.getElem?_set]
 by_cases hj : m = j
 ·subst hj
  rw [if_pos rfl,h,if_pos (List.getElem?_eq_some_iff.1 h).1]
 ·rw [if_neg hj]
theorem map_erase {α β : Type} (f : α → β) (l : List α) (m : Nat) : (l.eraseIdx m).map f = (l.map f).eraseIdx m := by
 simp [List.eraseIdx_eq_take_drop_succ,List.map_take,List.map_drop]
theorem find3 (K : Key3 P k) (x : K3) : ∀ (es : List MapEntry) (l : List (K3 × Value)) (i : Nat), es.map (fun e => (e.key, e.val)) = l.map (fun p => (encK p.1, p.2)) →
    ∃ r : Option (Nat × Value), (∀ w : World, (Instr.findAsking k (encK x) es i).run P w = .ok r w) ∧
      ((r = none ∧ look3 l x = none ∧ (∀ v, ups3 l x v = l ++ [(x, v)]) ∧ del3 l x = l) ∨
       ∃ m v, r = some (i + m, v) ∧ look3 l x = some v ∧ m < es.length ∧ (∃ e, es[m]? = some e ∧ e.key = encK x) ∧ (∀ u, ups3 l x u = l.set m (x, u)) ∧ del3 l x = l.eraseIdx m)
  | [], [], i, _ => ⟨none, fun w => by simp [Instr.findAsking], .inl ⟨rfl, rfl, fun v => rfl, rfl⟩⟩
  | [], _ :: _, _, h => by simp at h
  | _ :: _, [], _, h => by simp at h
  | e :: es, p :: l, i, h => by
    simp only [List.map_cons, List.cons.injEq, Prod.mk.injEq] at h
    obtain ⟨⟨hk, hv⟩, ht⟩ := h
    have he : ∀ w : World, (Op.equal k (encK x) e.key).run P w = .ok (decide (x = p.1)) w := fun w => by rw [hk]; exact K.eq x p.1 w
    by_cases hx : x = p.1
    · refine ⟨some (i, e.val), fun w => by have h0 := he w; rw [decide_eq_true hx] at h0; simp [Instr.findAsking, h0], .inr ⟨0, e.val, rfl, ?_, by simp, ⟨e, rfl, by rw [hk, hx]⟩, fun u => ?_, ?_⟩⟩
      · simp [look3, hx, hv]
      · simp [ups3, hx]
      · simp [del3, hx]
    · have hx' : ¬ p.1 = x := fun e => hx e.symm
      obtain ⟨r, h1, h2⟩ := find3 K x es l (i + 1) ht
      refine ⟨r, fun w => by simp [Instr.findAsking, he w, hx, h1 w], ?_⟩
      rcases h2 with ⟨rfl, a1, a2, a3⟩ | ⟨m, v, rfl, a1, a2, a3, a4, a5⟩
      · exact .inl ⟨rfl, by simp [look3, hx', a1], fun v => by simp [ups3, hx', a2], by simp [del3, hx', a3]⟩
      · refine .inr ⟨m + 1, v, by congr 2; omega, by simp [look3, hx', a1], by simp; omega, by simpa using a3, fun u => by simp [ups3, hx', a4], by simp [del3, hx', a5]⟩
end
section
variable {P : Program} {n : Nat} {L : Env} {w : World} {d : Option Tmp} {ty : TypeId} {pos : String} {af : Array Edge} {g : Option (Nat × Bool)}
theorem run_lookup3 {t kt e : TypeId} {b : Nat} {key : K3} {z : Value} {l : List (K3 × Value)} (K : Key3 P kt) (ht : P.underlying t = some (.map kt e)) (hz : ∀ w,(zeroValue e).run P w = .ok z w) (hm : MapR w b l) (ok : Bool) {w' : World} (hb : w'.heap[b]? = w.heap[b]?) :
  (Instr.lookup t (.map (some b)) (encK key) ok).run P w' = .ok (if ok then .tuple #[(look3 l key).getD z,.bool (look3 l key).isSome] else (look3 l key).getD z) w' := by
 obtain ⟨es,clk,hm,hes,_⟩ := hm
 obtain ⟨r,hr,hcase⟩ := find3 K key es.toList l 0 hes
 have hm' : w'.heap[b]? = some (.map es clk) := by rw [hb]; exact hm
 unfold Instr.lookup
 rcases hcase with ⟨rfl,a1,_,_⟩ | ⟨m,v,rfl,a1,_⟩
 ·cases ok <;> simp [run_underlying ht,MapKept.run_getObj_map hm',K.chk key,run_findKey_eq w' K.wide,hr w',hz w',a1]
 ·cases ok <;> simp [run_underlying ht,MapKept.run_getObj_map hm',K.chk key,run_findKey_eq w' K.wide,hr w',a1]
theorem t_lookup3 {t kt e : TypeId} {x y : Operand} {b : Nat} {key : K3} {z : Value} {l : List (K3 × Value)} (K : Key3 P kt) (ht : P.underlying t = some (.map kt e)) (hz : ∀ w,(zeroValue e).run P w = .ok z w) (hx : evO L x = some (.map (some b))) (hy : evO L y = some (encK key)) (hm : MapR w b l) :
  Tm P n ⟨d,.lookup t x y false,ty,pos,af,g⟩ L w ((look3 l key).getD z) := fun a ha w' hb => by
 have := run_lookup3 K ht hz hm false (key := key) (Below.block hb b hm.lt)
 simp [execOp,ha.eval hx,ha.eval hy,this]
theorem t_lookup3ok {t kt e : TypeId} {x y : Operand} {b : Nat} {key : K3} {z : Value} {l : List (K3 × Value)} (K : Key3 P kt) (ht : P.underlying t = some (.map kt e)) (hz : ∀ w,(zeroValue e).run P w = .ok z w) (hx : evO L x = some (.map (some b))) (hy : evO L y = some (encK key)) (hm : MapR w b l) :
  Tm P n ⟨d,.lookup t x y true,ty,pos,af,g⟩ L w (.tuple #[(look3 l key).getD z,.bool (look3 l key).isSome]) := fun a ha w' hb => by
 have := run_lookup3 K ht hz hm true (key := key) (Below.block hb b hm.lt)
 simp [execOp,ha.eval hx,ha.eval hy,this]
theorem w_mapSet3 {t kt e : TypeId} {x y z : Operand} {b : Nat} {key : K3} {val : Value} {l : List (K3 × Value)} (K : Key3 P kt) (ht : P.underlying t = some (.map kt e)) (hx : evO L x = some (.map (some b))) (hy : evO L y = some (encK key)) (hv : evO L z = some val) (hm : MapR w b l) :
  Wl P n ⟨none,.mapUpdate t x y z,ty,pos,af,g⟩ L w (fun _ w' => Upd b w w' ∧ MapR w' b (ups3 l key val)) := fun a hF Q' next hn => by
 obtain ⟨es,clk,hm,hes,hbn,hnd⟩ := hm
 obtain ⟨r,hr,hcase⟩ := find3 K key es.toList l 0 hes
 have key1 : ∃ es' clk',(Instr.mapUpdate t (.map (some b)) (encK key) val).run P w = .ok () (setBlock w b (.map es' clk')) ∧ es'.toList.map (fun e => (e.key,e.val)) = (ups3 l key val).map (fun p => (encK p.1,p.2)) ∧ (∀ e ∈ es'.toList,e.born < clk') ∧ (es'.toList.map (·.born)).Nodup := by
  rcases hcase with ⟨rfl,a1,a2,a3⟩ | ⟨m,v,rfl,a1,a2,⟨e0,he0,hk0⟩,a4,a5⟩
  ·refine ⟨es.push { key := encK key,val := val,born := clk },clk + 1,?_,?_,?_,?_⟩
   ·simp [Instr.mapUpdate,run_underlying ht,MapKept.run_getObj_map hm,K.chk key,run_findKey_eq w K.wide,hr w,MapKept.run_setObj_map _ hm,setBlock]
   ·simp [a2,hes]
   ·intro e he
    simp only [Array.toList_push,List.mem_append,List.mem_singleton] at he
    rcases he with he | rfl
    ·exact Nat.lt_succ_of_lt (hbn e he)
    ·exact Nat.lt_succ_self _
   ·simp only [Array.toList_push,List.map_append,List.map_cons,List.map_nil]
    rw [List.nodup_append]
    refine ⟨hnd,by simp,fun x hx y hy => ?_⟩
    simp only [List.mem_singleton] at hy
    subst hy
    obtain ⟨e,he,rfl⟩ := List.mem_map.1 hx
    have := hbn e he
    omega
  ·have hm1 : es[m]? = some e0 := by rw [← Array.getElem?_toList]; exact he0
   have hlm : m < es.size := by simpa using a2
   have hmod : ∀ {β : Type} (f : MapEntry → β),((es.modify m fun e => { e with key := encK key,val := val }).toList.map f) = (es.toList.map f).set m (f { e0 with key := encK key,val := val }) := fun f => by
    refine List.ext_getElem? fun j => ?_
    rw [List.getElem?_map,Array.getElem?_toList,Array.getElem?_modify,List.getElem?_set]
    by_cases hj : m = j
    ·subst hj
     rw [if_pos rfl,if_pos rfl,hm1]
     simp [hlm]
    ·rw [if_neg hj,if_neg hj]
     simp
   refine ⟨es.modify m fun e => { e with key := encK key,val := val },clk,?_,?_,?_,?_⟩
   ·simp [Instr.mapUpdate,run_underlying ht,MapKept.run_getObj_map hm,K.chk key,run_findKey_eq w K.wide,hr w,hm1,Instr.keyThatStays,hk0,K.bits key,MapKept.run_setObj_map _ hm,setBlock]
   ·rw [hmod,a4,hes]
    simp [List.map_set]
   ·intro e he
    obtain ⟨j,hj⟩ := List.getElem?_of_mem he
    rw [Array.getElem?_toList,Array.getElem?_modify] at hj
    by_cases hjm : m = j
    ·rw [if_pos hjm,← hjm,hm1] at hj
     simp only [Option.map_some,Option.some.injEq] at hj
     rw [← hj]
     exact hbn e0 (List.mem_of_getElem? he0)
    ·rw [if_neg hjm] at hj
     exact hbn e (List.mem_of_getElem? (by rw [Array.getElem?_toList]; exact hj))
   ·rw [hmod]
    show ((es.toList.map (·.born)).set m e0.born).Nodup
    rw [set_self (by rw [List.getElem?_map,he0]; rfl)]
    exact hnd
 obtain ⟨es',clk',hrun,hgood⟩ := key1
 have hrun2 : (execOp a.eval ⟨none,.mapUpdate t x y z,ty,pos,af,g⟩).run P w = .ok .skip (setBlock w b (.map es' clk')) := by
  simp [execOp,hF.eval hx,hF.eval hy,hF.eval hv,hrun]
 unfold Oper.wp
 rw [hrun2]
 exact hn undef _ ⟨⟨rfl,rfl,rfl,by simp [setBlock],fun j hj => heap_setBlock_other hm _ hj⟩,es',clk',heap_setBlock_same hm _,hgood⟩
theorem w_mapDel3 {t kt e : TypeId} {t' : TypeId} {x y : Operand} {b : Nat} {key : K3} {l : List (K3 × Value)} (K : Key3 P kt) (ht : P.underlying t = some (.map kt e)) (hx : evO L x = some (.map (some b))) (hy : evO L y = some (encK key)) (hm : MapR w b l) :
  Wl P n ⟨d,.call { callee := .builtin .delete,args := #[x,y],argTypes := #[t,t'] },ty,pos,af,g⟩ L w (fun _ w' => Upd b w w' ∧ MapR w' b (del3 l key)) := w_run fun a hF => by
 obtain ⟨es,clk,hm,hes,hbn,hnd⟩ := hm
 obtain ⟨r,hr,hcase⟩ := find3 K key es.toList l 0 hes
 rcases hcase with ⟨rfl,a1,a2,a3⟩ | ⟨m,v,rfl,a1,a2,_,a4,a5⟩
 ·refine ⟨.tuple #[],setBlock w b (.map es clk),?_,⟨rfl,rfl,rfl,by simp [setBlock],fun j hj => heap_setBlock_other hm _ hj⟩,es,clk,heap_setBlock_same hm _,by rw [a3]; exact hes,hbn,hnd⟩
  simp [execOp,resolve,invoke,builtin,hF.eval hx,hF.eval hy,Builtin.delete_,run_underlying ht,MapKept.run_getObj_map hm,K.chk key,run_findKey_eq w K.wide,hr w,MapKept.run_setObj_map _ hm,setBlock]
 ·have hlm : m < es.size := by simpa using a2
  have hel : (es.eraseIdxIfInBounds m).toList = es.toList.eraseIdx m := by
   simp [Array.eraseIdxIfInBounds,hlm]
  refine ⟨.tuple #[],setBlock w b (.map (es.eraseIdxIfInBounds m) clk),?_,⟨rfl,rfl,rfl,by simp [setBlock],fun j hj => heap_setBlock_other hm _ hj⟩,_,clk,heap_setBlock_same hm _,?_,?_,?_⟩
  ·simp [execOp,resolve,invoke,builtin,hF.eval hx,hF.eval hy,Builtin.delete_,run_underlying ht,MapKept.run_getObj_map hm,K.chk key,run_findKey_eq w K.wide,hr w,MapKept.run_setObj_map _ hm,setBlock]
  ·rw [hel,a5,map_erase,hes,← map_erase]
  ·rw [hel]; exact fun e he => hbn e (List.mem_of_mem_eraseIdx he)
  ·rw [hel,map_erase]; exact hnd.sublist (List.eraseIdx_sublist _ _)
theorem w_mapClear3 {t kt e : TypeId} {x : Operand} {b : Nat} {l : List (K3 × Value)} (ht : P.underlying t = some (.map kt e)) (hx : evO L x = some (.map (some b))) (hm : MapR w b l) :
  Wl P n ⟨d,.call { callee := .builtin .clear,args := #[x],argTypes := #[t] },ty,pos,af,g⟩ L w (fun _ w' => Upd b w w' ∧ MapR w' b []) := w_run fun a hF => by
 obtain ⟨es,clk,hm,_⟩ := hm
 refine ⟨.tuple #[],setBlock w b (.map #[] clk),?_,⟨rfl,rfl,rfl,by simp [setBlock],fun j hj => heap_setBlock_other hm _ hj⟩,#[],clk,heap_setBlock_same hm _,rfl,by simp,by simp⟩
 simp [execOp,resolve,invoke,builtin,hF.eval hx,Builtin.clear_,run_underlying ht,MapKept.run_getObj_map hm,MapKept.run_setObj_map _ hm,setBlock]
theorem w_makeMap3 {t : TypeId} : Wl P n ⟨d,.makeMap t none,ty,pos,af,g⟩ L w (fun v w' => ∃ b,v = .map (some b) ∧ b = w.heap.size ∧ Ext w w' ∧ MapR w' b []) := w_run fun a hF =>
 ⟨.map (some w.heap.size),w.alloc (.map #[] 0),by simp [execOp,Instr.makeMap],_,rfl,rfl,Ext.alloc _ _,#[],0,by unfold World.alloc; simp,rfl,by simp,by simp⟩
end
end Go.Gx
namespace Go.Gx
open Go.RowKit
abbrev PanK := List PanicEntry → World → Prop
def ClP (P : Program) (f : FuncId) (args : Array Value) (w : World) (R : PanK) : Prop := Calls P f args w fun e w' => ∃ c,e = .panicked c ∧ R c w'
def Tqp (n : Nat) (N : Kn) (X : Exit → Kn) (R : PanK) : Exit → Act → World → Prop
 | .panic c,a,w => a.defers = [] ∧ R c w
 | e,a,w => Tq n N X e a w
def Wpp (P : Program) (n : Nat) (c : Code) (N : Kn) (X : Exit → Kn) (R : PanK) (L : Env) (w : World) : Prop :=
 ∀ a,Fr n a L → c.wp P (Tqp n N X R) a w
section
variable {P : Program} {n : Nat} {N : Kn} {X : Exit → Kn} {R : PanK} {L : Env} {w : World}
theorem Tq.p {e : Exit} {a : Act} (h : Tq n N X e a w) : Tqp n N X R e a w := by
 cases e <;> first | exact h | exact h.elim
theorem Wpp.of {c : Code} (h : Wp P n c N X L w) : Wpp P n c N X R L w := fun a ha => wp_mono (h a ha) fun e a w q => q.p
theorem Wpp.seq {x y : Code} (h : Wp P n x (fun L w => Wpp P n y N X R L w) X L w) : Wpp P n (.seq x y) N X R L w := fun a ha =>
 wp_seq (wp_mono (h a ha) fun e a w q => by
  cases e <;> first
   | exact q
   | exact q.elim
   | (obtain ⟨L,h1,h2⟩ := q; exact h2 a h1))
theorem Wpp.seqP {x y : Code} (h : Wpp P n x (fun L w => Wpp P n y N X R L w) X R L w) : Wpp P n (.seq x y) N X R L w := fun a ha =>
 wp_seq (wp_mono (h a ha) fun e a w q => by
  cases e <;> first
   | exact q
   | (obtain ⟨L,h1,h2⟩ := q; exact h2 a h1))
theorem Wpp.condT {c : Operand} {x y : Code} (hc : evO L c = some (.bool true)) (h : Wpp P n x N X R L w) : Wpp P n (.cond c x y) N X R L w := fun a ha =>
 wp_cond_true (ha.eval hc) (h a ha)
theorem Wpp.condF {c : Operand} {x y : Code} (hc : evO L c = some (.bool false)) (h : Wpp P n y N X R L w) : Wpp P n (.cond c x y) N X R L w := fun a ha =>
 wp_cond_false (ha.eval hc) (h a ha)
def Pw (P : Program) (n : Nat) (o : Oper) (L : Env) (w : World) (R : PanK) : Prop :=
 ∀ a,Fr n a L → ∀ (Q : Exit → Act → World → Prop) (next : Act → World → Prop),(∀ c w',R c w' → Q (.panic c) a w') → o.wp P a w next Q
theorem Pw.list {ops : Array Oper} {o : Oper} {post : List Oper} : ∀ {pre : List Oper} {L : Env} {w : World},Rg P ops n none (fun L w => gYes ops o L ∧ Pw P n o L w R) pre L w → ∀ a,Fr n a L → wpList P ops (Tqp n N X R) (pre ++ o :: post) a w := by
 intro pre L w h
 induction h with
 | done h =>
  intro a ha
  obtain ⟨hg,hp⟩ := h
  unfold wpList
  simp only [List.nil_append]
  rw [if_pos (hg.wanted ha)]
  exact .inl (hp a ha _ _ fun c w' hr => ⟨ha.defers,hr⟩)
 | skip h hd k ih =>
  intro a ha
  rw [List.cons_append]
  unfold wpList
  have : Region.wanted _ (yielded ops a.tmps) = false := h.elim (fun h => h.wanted ha) (fun h => h.wanted ha)
  rw [if_neg (by simp [this])]
  exact ih _ (ha.put hd _)
 | tame v hg hw h hd k ih =>
  intro a ha
  rw [List.cons_append]
  unfold wpList
  rw [if_pos (hg.wanted ha)]
  exact .inl (h.wl a ha _ _ fun u w' ⟨h1,h2⟩ => by subst h1; subst h2; exact ih _ (ha.put hd _))
 | wild R' hg h hb hd k ih =>
  intro a ha
  rw [List.cons_append]
  unfold wpList
  rw [if_pos (hg.wanted ha)]
  exact .inl (h a ha _ _ fun u w' hr => ih u w' hr _ (ha.put hd _))
theorem Wpp.region {id : Nat} {pre post : List Oper} {o : Oper} (h : Rg P (pre ++ o :: post).toArray n none (fun L w => gYes (pre ++ o :: post).toArray o L ∧ Pw P n o L w R) pre L w) :
  Wpp P n (.region id (pre ++ o :: post).toArray false) N X R L w := fun a ha => wp_region_lit (Pw.list h a ha)
theorem Wpp.region' {id : Nat} {l pre post : List Oper} {o : Oper} (hl : l = pre ++ o :: post) (h : Rg P l.toArray n none (fun L w => gYes l.toArray o L ∧ Pw P n o L w R) pre L w) :
  Wpp P n (.region id l.toArray false) N X R L w := by
 subst hl
 exact Wpp.region h
variable {d : Option Tmp} {ty : TypeId} {pos : String} {af : Array Edge} {g : Option (Nat × Bool)}
theorem p_panic {x : Operand} {v : Value} (hx : evO L x = some v) (hi : ∀ w,(Instr.panic v).run P w = .halt (.panic v) w) : Pw P n ⟨d,.panic x,ty,pos,af,g⟩ L w (fun c w' => c = [{ v := v,recovered := false }] ∧ w = w') := fun a ha Q next hn => by
 unfold Oper.wp
 have : (execOp a.eval ⟨d,.panic x,ty,pos,af,g⟩).run P w = .halt (.panic v) w := by
  simp [execOp,ha.eval hx,hi w]
 rw [this]
 exact hn _ _ ⟨rfl,rfl⟩
theorem p_call {f : FuncId} {args : Array Operand} {at_ : Array TypeId} {vs : List Value} (hf : ∀ (args : Array Value) (w : World),(callFunc f args).run P w = .ok (.enter f args) w) (ha : args.toList.map (evO L) = vs.map some) (h : ClP P f vs.toArray w R) :
  Pw P n ⟨d,.call { callee := .value (.func f),args := args,argTypes := at_ },ty,pos,af,g⟩ L w R := fun a hF Q next hn => by
 have hargs : args.map a.eval = vs.toArray := by
  apply Array.toList_inj.1
  rw [Array.toList_map]
  exact map_eval hF ha
 have hrun : (execOp a.eval ⟨d,.call { callee := .value (.func f),args := args,argTypes := at_ },ty,pos,af,g⟩).run P w = .ok (.enter f vs.toArray) w := by
  simp [execOp,resolve,Act.eval,Deferred.ofValue,invoke,hf,hargs]
 unfold Oper.wp
 rw [hrun]
 simp only [Oper.upon]
 exact Calls.mono h fun e w' ⟨c,he,hr⟩ => by subst he; exact hn c w' hr
theorem ClP.enter {f : FuncId} {fn : Func} {c : Code} {vs : List Value} {m : Nat} {R : PanK} (hf : P.funcs[f]? = some fn) (hb : fn.body = some c) (hm : fn.ntmps = m)
  (hle : Nat.ble vs.length m = true) (h : Wpp P m c (fun _ _ => False) (fun _ _ _ => False) R (argsEnv 0 vs) w) : ClP P f vs.toArray w R := by
 refine calls_of_wp hf hb ?_
 rw [hm]
 refine wp_mono (h _ (Fr.enter vs (Nat.le_of_ble_eq_true hle))) fun e a w q => ?_
 cases e with
 | panic c => exact ⟨q.1,c,rfl,q.2⟩
 | normal => obtain ⟨_,_,q⟩ := q; exact q.elim
 | ret => obtain ⟨_,_,q⟩ := q; exact q.elim
 | outgrown => exact q.elim
 | exit _ => obtain ⟨_,_,q⟩ := q; exact q.elim
 | goto _ => obtain ⟨_,_,q⟩ := q; exact q.elim
end
end Go.Gx
namespace Go.Gx
open Go.RowKit
section
variable {P : Program} {n : Nat} {N : Kn} {X : Exit → Kn} {L : Env} {w : World}
def TmZ (P : Program) (n : Nat) (Z : List Nat) (o : Oper) (L : Env) (w : World) (v : Value) : Prop :=
 ∀ a,Fr n a L → ∀ w',Kp Z w w' → (execOp a.eval o).run P w' = .ok (.value v) w'
theorem tz {Z : List Nat} {o : Oper} {v : Value} (h : ∀ w',Kp Z w w' → Tm P n o L w' v) : TmZ P n Z o L w v := fun a ha w' hk => h w' hk a ha w' (Below.refl _ _)
inductive Rz (P : Program) (ops : Array Oper) (n : Nat) (Z : List Nat) (K : Kn) : List Oper → Env → World → Prop
 | done {L : Env} {w : World} (h : K L w) : Rz P ops n Z K [] L w
 | skip {o : Oper} {rest : List Oper} {L : Env} {w : World} (h : gNo ops o L ∨ gOff ops o L) (hd : dOk n o.dst = true) (k : Rz P ops n Z K rest (putE o.dst undef L) w) : Rz P ops n Z K (o :: rest) L w
 | tame {o : Oper} {rest : List Oper} {L : Env} {w : World} (v : Value) (hg : gYes ops o L) (hw : wildKind o.op = false) (h : TmZ P n Z o L w v) (hd : dOk n o.dst = true)
   (k : Rz P ops n Z K rest (putE o.dst v L) w) : Rz P ops n Z K (o :: rest) L w
 | wild {o : Oper} {rest : List Oper} {L : Env} {w : World} (R : Value → World → Prop) (hg : gYes ops o L) (hk : wildKind o.op = true) (h : Wl P n o L w R) (hz : ∀ v w',R v w' → Kp Z w w') (hd : dOk n o.dst = true)
   (k : ∀ v w',R v w' → Rz P ops n Z K rest (putE o.dst v L) w') : Rz P ops n Z K (o :: rest) L w
def planZ (ops : Array Oper) : List Nat → Array Bool → Bool
  | [], listed => (Region.ready .any ops listed).isEmpty
  | i :: rest, listed =>
    (match ops[i]? with
     | none => false
     | some o => (Region.ready .any ops listed).contains i && (if wildKind o.op then Region.ready .any ops listed == [i] else Region.free .any ops listed i)) &&
    planZ ops rest (listed.setIfInBounds i true)
theorem Rz.any {ops : Array Oper} {Z : List Nat} {K : Kn} (hs : Region.noSelect ops = true) : ∀ (plan : List Nat) (L : Env) (w : World) (listed : Array Bool) (fuel : Nat),
  planZ ops plan listed = true → plan.length ≤ fuel → Closed ops listed → Rz P ops n Z K (planOps ops plan) L w → ∀ a,Fr n a L →
  wpAnyB P ops (Tq n K X) (Kp Z w) ops.size fuel listed a w := by
 intro plan
 induction plan with
 | nil =>
  intro L w listed fuel hp hf hcl h a ha
  have hr : Region.ready .any ops listed = [] := by simpa [planZ] using hp
  cases h with
  | done h => exact wpAnyB_done hr ⟨_,ha,h⟩ _
 | cons i plan ih =>
  intro L w listed fuel hp hf hcl h a ha
  obtain ⟨fuel,rfl⟩ : ∃ m,fuel = m + 1 := ⟨fuel - 1,by simp at hf; omega⟩
  have hf' : plan.length ≤ fuel := by simpa using hf
  simp only [planZ,Bool.and_eq_true] at hp
  obtain ⟨hp,hp'⟩ := hp
  cases ho : ops[i]? with
  | none => simp [ho] at hp
  | some o =>
   simp only [ho,Bool.and_eq_true] at hp
   obtain ⟨hr,hp⟩ := hp
   have hri : i ∈ Region.ready .any ops listed := by simpa using hr
   have hcl' := hcl.set hri
   have hil := ready_lt hri
   have hoo : ops.getD i default = o := by simp [Array.getD_eq_getD_getElem?,ho]
   have hops : planOps ops (i :: plan) = o :: planOps ops plan := by simp only [planOps,List.map_cons,hoo]
   rw [hops] at h
   have tameCase : wildKind o.op = false → ∀ v,(∀ a,Fr n a L → YieldsIf P ops (Kp Z w) o v a) → Rz P ops n Z K (planOps ops plan) (putE o.dst v L) w → dOk n o.dst = true →
     wpAnyB P ops (Tq n K X) (Kp Z w) ops.size (fuel + 1) listed a w := by
    intro hk v hy k hd
    rw [if_neg (by simp [hk])] at hp
    exact wpAnyB_first ho (Region.noSelect_spec hs) (fun _ _ _ h => h) ⟨by omega,fun l _ _ hm => by have := ready_lt hm; omega⟩ fuel listed a w (Region.free_spec ho hp) hri hcl (hy a ha) (Kp.refl _ _) (ih _ w _ fuel hp' hf' hcl' k _ (ha.put hd _))
   cases h with
   | skip h hd k =>
    cases hk : wildKind o.op with
    | false => exact tameCase hk undef (fun a ha => .inr ⟨h.elim (fun h => h.wanted ha) (fun h => h.wanted ha),rfl⟩) k hd
    | true =>
     rw [if_pos hk] at hp
     have hrs : Region.ready .any ops listed = [i] := by simpa using hp
     refine ⟨fun h0 => (by rw [h0] at hrs; cases hrs),?_⟩
     intro j hj
     obtain rfl : j = i := by rw [hrs] at hj; simpa using hj
     unfold wpOp
     simp only [ho]
     have hn : Region.wanted o (yielded ops a.tmps) = false := h.elim (fun h => h.wanted ha) (fun h => h.wanted ha)
     rw [if_neg (by simp [hn])]
     have hih := ih _ w _ fuel hp' hf' hcl' k _ (ha.put hd _)
     exact ⟨fun e => absurd e (by omega),fun _ => ⟨Kp.refl _ _,hih⟩⟩
   | tame v hg hw h hd k => exact tameCase hw v (fun a ha => .inl ⟨hg.wanted ha,fun w' hw' => h a ha w' hw'⟩) k hd
   | wild R hg hk h hz hd k =>
    rw [if_pos hk] at hp
    have hrs : Region.ready .any ops listed = [i] := by simpa using hp
    refine ⟨fun h0 => (by rw [h0] at hrs; cases hrs),?_⟩
    intro j hj
    obtain rfl : j = i := by rw [hrs] at hj; simpa using hj
    unfold wpOp
    simp only [ho]
    rw [if_pos (hg.wanted ha)]
    refine .inl (h a ha _ _ fun v w' hv => ?_)
    have hih := ih _ w' _ fuel hp' hf' hcl' (k v w' hv) _ (ha.put hd v)
    have hw := hz v w' hv
    exact ⟨fun e => absurd e (by omega),fun _ => ⟨hw,wpAnyB_mono (fun x hx => hw.trans hx) _ _ _ _ hih⟩⟩
theorem Wp.drawZ {id : Nat} {ops : Array Oper} (Z : List Nat) (plan : List Nat) (hm : P.follows .mixedOrders = true) (hs : Region.noSelect ops = true)
  (hp : (planZ ops plan (Array.replicate ops.size false) && Nat.ble plan.length ops.size) = true)
  (h : ∀ w1,Ext w w1 → w1.heap = w.heap → Rz P ops n Z N (planOps ops plan) L w1) : Wp P n (.region id ops true) N X L w := fun a ha => by
 simp only [Bool.and_eq_true] at hp
 exact wp_region_any hm (wpAny_of_B _ _ _ _ (Rz.any hs plan L w.drew _ ops.size hp.1 (Nat.le_of_ble_eq_true hp.2) (Closed.start ops) (h _ (Ext.drew w) rfl) a ha))
variable {ops : Array Oper} {Z : List Nat} {K : Kn} {dd : Tmp} {op : Op} {rest : List Oper} {v : Value} {ty : TypeId} {pos : String} {af : Array Edge} {g : Option (Nat × Bool)}
theorem Rz.tm (hg : gYes ops ⟨some dd,op,ty,pos,af,g⟩ L) (hw : wildKind op = false) (h : TmZ P n Z ⟨some dd,op,ty,pos,af,g⟩ L w v) (hd : Nat.blt dd n = true) (k : Rz P ops n Z K rest ((dd,v) :: L) w) :
  Rz P ops n Z K (⟨some dd,op,ty,pos,af,g⟩ :: rest) L w := .tame v hg hw h hd k
theorem Rz.sk (hg : gNo ops ⟨some dd,op,ty,pos,af,g⟩ L ∨ gOff ops ⟨some dd,op,ty,pos,af,g⟩ L) (hd : Nat.blt dd n = true) (k : Rz P ops n Z K rest ((dd,undef) :: L) w) :
  Rz P ops n Z K (⟨some dd,op,ty,pos,af,g⟩ :: rest) L w := .skip hg hd k
theorem Rz.wd {R : Value → World → Prop} (hg : gYes ops ⟨some dd,op,ty,pos,af,g⟩ L) (hk : wildKind op = true) (h : Wl P n ⟨some dd,op,ty,pos,af,g⟩ L w R) (hd : Nat.blt dd n = true) (hz : ∀ v w',R v w' → Kp Z w w')
  (k : ∀ v w',R v w' → Rz P ops n Z K rest ((dd,v) :: L) w') : Rz P ops n Z K (⟨some dd,op,ty,pos,af,g⟩ :: rest) L w := .wild R hg hk h hz hd k
theorem Rz.wn {R : Value → World → Prop} (hg : gYes ops ⟨none,op,ty,pos,af,g⟩ L) (hk : wildKind op = true) (h : Wl P n ⟨none,op,ty,pos,af,g⟩ L w R) (hz : ∀ v w',R v w' → Kp Z w w')
  (k : ∀ v w',R v w' → Rz P ops n Z K rest L w') : Rz P ops n Z K (⟨none,op,ty,pos,af,g⟩ :: rest) L w := .wild R hg hk h hz rfl k
end
theorem own_ext3 {w w1 w2 : World} {v : Value} {row : List Value} {e size n : Nat} (hx : Ext w w1) (h : w1.ownsRow w.heap.size e size v n row) (hg : w1.grownBy w2 v.ownBlock) : Ext w w2 :=
 Below.trans hx ((Below.refl _ w1).grown hg hx.le (fun k hk => (h.lt k hk).1))
theorem slc_var {w : World} {b e size n : Nat} {cs : List Value} (h : Var w b cs e) (hl : cs.length = n * size) : SlC w (.slice (some ⟨b,0,none⟩) n n) size n cs := ⟨hl,_,_,rfl,Nat.le_refl _,.inr ⟨b,0,rfl,h.cells⟩⟩
end Go.Gx
namespace Go.Gx
open Go.RowKit
def Kb (B : Nat) (Z : List Nat) (w w' : World) : Prop := Below 0 w w' ∧ ∀ k,k < B → k ∉ Z → w'.heap[k]? = w.heap[k]?
theorem Kb.refl (B : Nat) (Z : List Nat) (w : World) : Kb B Z w w := ⟨Below.refl _ _,fun _ _ _ => rfl⟩
theorem Kb.trans {B : Nat} {Z : List Nat} {a b c : World} (h : Kb B Z a b) (k : Kb B Z b c) : Kb B Z a c := ⟨Below.trans h.1 k.1,fun i h1 h2 => (k.2 i h1 h2).trans (h.2 i h1 h2)⟩
theorem Kp.kb {B : Nat} {Z : List Nat} {w w' : World} (h : Kp Z w w') (hB : B ≤ w.heap.size) : Kb B Z w w' := ⟨h.base,fun k h1 h2 => h.block k (by omega) h2⟩
theorem Ext.kb {B : Nat} {Z : List Nat} {w w' : World} (h : Ext w w') (hB : B ≤ w.heap.size) : Kb B Z w w' := (h.kp Z).kb hB
theorem Upd.kb {B b : Nat} {Z : List Nat} {w w' : World} (h : Upd b w w') (hb : B ≤ b ∨ b ∈ Z) : Kb B Z w w' :=
 ⟨⟨h.os,h.tape,h.output,Nat.le_of_eq h.size.symm,fun _ hk => absurd hk (Nat.not_lt_zero _)⟩,fun k h1 h2 => h.block k fun e => by subst e; rcases hb with hb | hb; exact absurd h1 (by omega); exact h2 hb⟩
theorem Var.kb {B : Nat} {Z : List Nat} {w w' : World} {b : Nat} {cs : List Value} {t : TypeId} (h : Var w b cs t) (k : Kb B Z w w') (hb : b < B) (hz : b ∉ Z) : Var w' b cs t := by
 unfold Var at *
 rw [k.2 b hb hz]; exact h
theorem MapR.kb {B : Nat} {Z : List Nat} {w w' : World} {b : Nat} {l : List (K3 × Value)} (h : MapR w b l) (k : Kb B Z w w') (hb : b < B) (hz : b ∉ Z) : MapR w' b l := h.keep (k.2 b hb hz)
theorem Cells.kb {B : Nat} {Z : List Nat} {w w' : World} {b o : Nat} {vs : List Value} (h : Cells w b o vs) (k : Kb B Z w w') (hb : b < B) (hz : b ∉ Z) : Cells w' b o vs := fun i v hv => by
 rw [World.cell?_of_block (w := w) (a := ⟨b,o + i,none⟩) (k.2 b hb hz)]; exact h i v hv
section
variable {P : Program} {n : Nat} {N : Kn} {X : Exit → Kn} {L : Env} {w : World}
theorem Wp.cut {c : Code} (K : Kn) (h : Wp P n c K X L w) (k : ∀ L w,K L w → N L w) : Wp P n c N X L w := h.mono k fun _ _ _ h => h
def TmQ (P : Program) (n B : Nat) (Z : List Nat) (o : Oper) (L : Env) (w : World) (v : Value) : Prop :=
 ∀ a,Fr n a L → ∀ w',Kb B Z w w' → (execOp a.eval o).run P w' = .ok (.value v) w'
theorem tq {B : Nat} {Z : List Nat} {o : Oper} {v : Value} (h : ∀ w',Kb B Z w w' → Tm P n o L w' v) : TmQ P n B Z o L w v := fun a ha w' hk => h w' hk a ha w' (Below.refl _ _)
def Qz (P : Program) (ops : Array Oper) (n : Nat) (K : Kn) (X : Exit → Kn) (B : Nat) (Z : List Nat) (listed : Array Bool) (L : Env) (w : World) (m : Nat) : Prop :=
 ∀ a,Fr n a L → Closed ops listed → ∀ fuel,m ≤ fuel → wpAnyB P ops (Tq n K X) (Kb B Z w) ops.size fuel listed a w
variable {ops : Array Oper} {K : Kn} {B : Nat} {Z : List Nat} {listed : Array Bool} {m : Nat}
theorem Qz.done (hr : Region.ready .any ops listed = []) (h : K L w) : Qz P ops n K X B Z listed L w m := fun a ha _ fuel _ => wpAnyB_done hr ⟨_,ha,h⟩ fuel
def tameQ (ops : Array Oper) (listed : Array Bool) (i : Nat) : Bool := (Region.ready .any ops listed).contains i && Region.free .any ops listed i
theorem Qz.tame (hs : Region.noSelect ops = true) {o : Oper} {v : Value} (i : Nat) (ho : ops[i]? = some o) (hc : tameQ ops listed i = true) (hg : gYes ops o L) (h : TmQ P n B Z o L w v) (hd : dOk n o.dst = true)
  (k : Qz P ops n K X B Z (listed.setIfInBounds i true) (putE o.dst v L) w m) : Qz P ops n K X B Z listed L w (m + 1) := fun a ha hcl fuel hf => by
 obtain ⟨fuel,rfl⟩ : ∃ f,fuel = f + 1 := ⟨fuel - 1,by omega⟩
 simp only [tameQ,Bool.and_eq_true] at hc
 obtain ⟨hr,hfr⟩ := hc
 have hri : i ∈ Region.ready .any ops listed := by simpa using hr
 have hil := ready_lt hri
 exact wpAnyB_first ho (Region.noSelect_spec hs) (fun _ _ _ h => h) ⟨by omega,fun l _ _ hm => by have := ready_lt hm; omega⟩ fuel listed a w (Region.free_spec ho hfr) hri hcl (.inl ⟨hg.wanted ha,fun w' hw' => h a ha w' hw'⟩) (Kb.refl _ _ _) (k _ (ha.put hd _) (hcl.set hri) fuel (by omega))
theorem Qz.skip (hs : Region.noSelect ops = true) {o : Oper} (i : Nat) (ho : ops[i]? = some o) (hc : tameQ ops listed i = true) (h : gNo ops o L ∨ gOff ops o L) (hd : dOk n o.dst = true)
  (k : Qz P ops n K X B Z (listed.setIfInBounds i true) (putE o.dst undef L) w m) : Qz P ops n K X B Z listed L w (m + 1) := fun a ha hcl fuel hf => by
 obtain ⟨fuel,rfl⟩ : ∃ f,fuel = f + 1 := ⟨fuel - 1,by omega⟩
 simp only [tameQ,Bool.and_eq_true] at hc
 obtain ⟨hr,hfr⟩ := hc
 have hri : i ∈ Region.ready .any ops listed := by simpa using hr
 have hil := ready_lt hri
 exact wpAnyB_first ho (Region.noSelect_spec hs) (fun _ _ _ h => h) ⟨by omega,fun l _ _ hm => by have := ready_lt hm; omega⟩ fuel listed a w (Region.free_spec ho hfr) hri hcl (.inr ⟨h.elim (fun h => h.wanted ha) (fun h => h.wanted ha),rfl⟩) (Kb.refl _ _ _) (k _ (ha.put hd _) (hcl.set hri) fuel (by omega))
def StepQ (P : Program) (ops : Array Oper) (n : Nat) (K : Kn) (X : Exit → Kn) (B : Nat) (Z : List Nat) (listed : Array Bool) (L : Env) (w : World) (m : Nat) (i : Nat) : Prop :=
 ∃ (o : Oper) (R : Value → World → Prop),ops[i]? = some o ∧ gYes ops o L ∧ Wl P n o L w R ∧ dOk n o.dst = true ∧ (∀ v w',R v w' → Kb B Z w w') ∧ ∀ v w',R v w' → Qz P ops n K X B Z (listed.setIfInBounds i true) (putE o.dst v L) w' m
theorem Qz.alt {is : List Nat} (hr : Region.ready .any ops listed = is) (hne : is ≠ []) (h : ∀ i ∈ is,StepQ P ops n K X B Z listed L w m i) : Qz P ops n K X B Z listed L w (m + 1) := fun a ha hcl fuel hf => by
 obtain ⟨fuel,rfl⟩ : ∃ f,fuel = f + 1 := ⟨fuel - 1,by omega⟩
 refine ⟨fun h0 => absurd (hr ▸ h0) hne,fun i hi => ?_⟩
 have hil := ready_lt hi
 have hi' := hi
 rw [hr] at hi
 obtain ⟨o,R,ho,hg,hw,hd,k1,k⟩ := h i hi
 unfold wpOp
 simp only [ho]
 rw [if_pos (hg.wanted ha)]
 refine .inl (hw a ha _ _ fun v w' hv => ⟨fun e => absurd e (by omega),fun _ => ?_⟩)
 have k1 := k1 v w' hv
 exact ⟨k1,wpAnyB_mono (fun x hx => k1.trans hx) _ _ _ _ (k v w' hv _ (ha.put hd v) (hcl.set hi') fuel (by omega))⟩
theorem Qz.alt1 {i : Nat} (hr : Region.ready .any ops listed = [i]) (h1 : StepQ P ops n K X B Z listed L w m i) : Qz P ops n K X B Z listed L w (m + 1) := Qz.alt hr (by simp) fun k hk => by
 obtain rfl : k = i := by simpa using hk
 exact h1
theorem Qz.alt2 {i j : Nat} (hr : Region.ready .any ops listed = [i,j]) (h1 : StepQ P ops n K X B Z listed L w m i) (h2 : StepQ P ops n K X B Z listed L w m j) : Qz P ops n K X B Z listed L w (m + 1) := Qz.alt hr (by simp) fun k hk => by
 rcases List.mem_cons.1 hk with rfl | hk
 ·exact h1
 ·obtain rfl : k = j := by simpa using hk
  exact h2
theorem Wp.drawQ {id : Nat} (Z : List Nat) (hm : P.follows .mixedOrders = true) (h : ∀ w1,Ext w w1 → w1.heap = w.heap → Qz P ops n K X w1.heap.size Z (Array.replicate ops.size false) L w1 ops.size) : Wp P n (.region id ops true) K X L w := fun a ha =>
 wp_region_any hm (wpAny_of_B _ _ _ _ (h _ (Ext.drew w) rfl a ha (Closed.start ops) _ (Nat.le_refl _)))
end
end Go.Gx
namespace Go.Gx
open Go.RowKit
section
variable {P : Program} {n : Nat} {N : Kn} {X : Exit → Kn} {L : Env} {w : World}
inductive Ry (P : Program) (ops : Array Oper) (n : Nat) (Z bars : List Nat) (K : Kn) : List Oper → Env → World → Prop
 | done {L : Env} {w : World} (h : K L w) : Ry P ops n Z bars K [] L w
 | skip {o : Oper} {rest : List Oper} {L : Env} {w : World} (h : gNo ops o L ∨ gOff ops o L) (hd : dOk n o.dst = true) (k : Ry P ops n Z bars K rest (putE o.dst undef L) w) : Ry P ops n Z bars K (o :: rest) L w
 | tame {o : Oper} {rest : List Oper} {L : Env} {w : World} (v : Value) (hg : gYes ops o L) (hw : wildKind o.op = false) (h : TmZ P n Z o L w v) (hd : dOk n o.dst = true)
   (k : Ry P ops n Z bars K rest (putE o.dst v L) w) : Ry P ops n Z bars K (o :: rest) L w
 | wild {o : Oper} {rest : List Oper} {L : Env} {w : World} (R : Value → World → Prop) (hg : gYes ops o L) (hk : wildKind o.op = true) (h : Wl P n o L w R) (hz : bars.contains rest.length = false → ∀ v w',R v w' → Kp Z w w') (hd : dOk n o.dst = true)
   (k : ∀ v w',R v w' → Ry P ops n Z bars K rest (putE o.dst v L) w') : Ry P ops n Z bars K (o :: rest) L w
theorem Ry.any {ops : Array Oper} {Z bars : List Nat} {K : Kn} (hs : Region.noSelect ops = true) : ∀ (plan : List Nat) (L : Env) (w : World) (listed : Array Bool) (fuel : Nat),
  planOk ops bars plan listed = true → plan.length ≤ fuel → Closed ops listed → Ry P ops n Z bars K (planOps ops plan) L w → ∀ a,Fr n a L →
  wpAnyB P ops (Tq n K X) (Kp Z w) (nextBar ops bars plan) fuel listed a w := by
 intro plan
 induction plan with
 | nil =>
  intro L w listed fuel hp hf hcl h a ha
  have hr : Region.ready .any ops listed = [] := by simpa [planOk] using hp
  cases h with
  | done h => exact wpAnyB_done hr ⟨_,ha,h⟩ _
 | cons i plan ih =>
  intro L w listed fuel hp hf hcl h a ha
  obtain ⟨fuel,rfl⟩ : ∃ m,fuel = m + 1 := ⟨fuel - 1,by simp at hf; omega⟩
  have hf' : plan.length ≤ fuel := by simpa using hf
  simp only [planOk,Bool.and_eq_true] at hp
  obtain ⟨hp,hp'⟩ := hp
  cases ho : ops[i]? with
  | none => simp [ho] at hp
  | some o =>
   simp only [ho,Bool.and_eq_true] at hp
   obtain ⟨hr,hp⟩ := hp
   have hri : i ∈ Region.ready .any ops listed := by simpa using hr
   have hcl' := hcl.set hri
   have hoo : ops.getD i default = o := by simp [Array.getD_eq_getD_getElem?,ho]
   have hlen : (planOps ops plan).length = plan.length := by simp [planOps]
   have hops : planOps ops (i :: plan) = o :: planOps ops plan := by simp only [planOps,List.map_cons,hoo]
   rw [hops] at h
   have tameCase : wildKind o.op = false → ∀ v,(∀ a,Fr n a L → YieldsIf P ops (Kp Z w) o v a) → Ry P ops n Z bars K (planOps ops plan) (putE o.dst v L) w → dOk n o.dst = true →
     wpAnyB P ops (Tq n K X) (Kp Z w) (nextBar ops bars (i :: plan)) (fuel + 1) listed a w := by
    intro hk v hy k hd
    rw [if_neg (by simp [hk])] at hp
    simp only [Bool.and_eq_true,Bool.not_eq_true',Bool.or_eq_true] at hp
    obtain ⟨⟨hfr,hnb⟩,hbar⟩ := hp
    have hnext : nextBar ops bars (i :: plan) = nextBar ops bars plan := nextBar_no hnb
    rw [hnext]
    refine wpAnyB_first ho (Region.noSelect_spec hs) (fun _ _ _ h => h) ?_ fuel listed a w (Region.free_spec ho hfr) hri hcl (hy a ha) (Kp.refl _ _) (ih _ w _ fuel hp' hf' hcl' k _ (ha.put hd _))
    rcases hbar with hbar | ⟨hne,hanc⟩
    ·have hb := Nat.eq_of_beq_eq_true hbar
     have hil := ready_lt hri
     exact ⟨by omega,fun l _ _ hm => by have := ready_lt hm; omega⟩
    ·have hne' : nextBar ops bars plan ≠ i := fun e => by rw [e,Nat.beq_refl] at hne; cases hne
     refine ⟨hne',fun l hl hi hm => ?_⟩
     have hself : ∀ j ∈ [nextBar ops bars plan],Anc ops (nextBar ops bars plan) j := fun j hj => by
      have hj' : j = nextBar ops bars plan := by simpa using hj
      rw [hj']
      exact Anc.self
     have hA := ancs_sound (b := nextBar ops bars plan) (nextBar ops bars plan + 1) _ hself i (by simpa using hanc)
     rcases hl.anc hm hA with e | e
     ·exact hne' e.symm
     ·rw [hi] at e; cases e
   have wildCase : wildKind o.op = true → ∀ R : Value → World → Prop,Region.wanted o (yielded ops a.tmps) = true → Wl P n o L w R → (bars.contains plan.length = false → ∀ v w',R v w' → Kp Z w w') → dOk n o.dst = true →
     (∀ v w',R v w' → Ry P ops n Z bars K (planOps ops plan) (putE o.dst v L) w') → wpAnyB P ops (Tq n K X) (Kp Z w) (nextBar ops bars (i :: plan)) (fuel + 1) listed a w := by
    intro hk R hg h hb hd k
    rw [if_pos hk] at hp
    have hrs : Region.ready .any ops listed = [i] := by simpa using hp
    refine ⟨fun h0 => (by rw [h0] at hrs; cases hrs),?_⟩
    intro j hj
    obtain rfl : j = i := by rw [hrs] at hj; simpa using hj
    unfold wpOp
    simp only [ho]
    rw [if_pos hg]
    refine .inl (h a ha _ _ fun v w' hv => ?_)
    have hih := ih _ w' _ fuel hp' hf' hcl' (k v w' hv) _ (ha.put hd v)
    cases hbc : bars.contains plan.length with
    | true =>
     have hnext : nextBar ops bars (j :: plan) = j := nextBar_yes hbc
     rw [hnext]
     exact ⟨fun _ => wpAny_of_B _ _ _ _ hih,fun e => absurd rfl e⟩
    | false =>
     have hw := hb hbc v w' hv
     have hnext : nextBar ops bars (j :: plan) = nextBar ops bars plan := nextBar_no hbc
     rw [hnext]
     exact ⟨fun _ => wpAny_of_B _ _ _ _ hih,fun _ => ⟨hw,wpAnyB_mono (fun x hx => hw.trans hx) _ _ _ _ hih⟩⟩
   cases h with
   | skip h hd k =>
    cases hk : wildKind o.op with
    | false => exact tameCase hk undef (fun a ha => .inr ⟨h.elim (fun h => h.wanted ha) (fun h => h.wanted ha),rfl⟩) k hd
    | true =>
     rw [if_pos hk] at hp
     have hrs : Region.ready .any ops listed = [i] := by simpa using hp
     refine ⟨fun h0 => (by rw [h0] at hrs; cases hrs),?_⟩
     intro j hj
     obtain rfl : j = i := by rw [hrs] at hj; simpa using hj
     unfold wpOp
     simp only [ho]
     have hn : Region.wanted o (yielded ops a.tmps) = false := h.elim (fun h => h.wanted ha) (fun h => h.wanted ha)
     rw [if_neg (by simp [hn])]
     have hih := ih _ w _ fuel hp' hf' hcl' k _ (ha.put hd _)
     refine ⟨fun _ => wpAny_of_B _ _ _ _ hih,fun e => ⟨Kp.refl _ _,?_⟩⟩
     have hnext : nextBar ops bars (j :: plan) = nextBar ops bars plan := by
      by_cases hbc : bars.contains plan.length = true
      ·exact absurd (nextBar_yes hbc).symm e
      ·exact nextBar_no (by simpa using hbc)
     rw [hnext]
     exact hih
   | tame v hg hw h hd k => exact tameCase hw v (fun a ha => .inl ⟨hg.wanted ha,fun w' hw' => h a ha w' hw'⟩) k hd
   | wild R hg hk h hz hd k =>
    rw [hlen] at hz
    exact wildCase hk R (hg.wanted ha) h hz hd k
theorem Wp.drawY {id : Nat} {ops : Array Oper} (Z : List Nat) (plan bars : List Nat) (hm : P.follows .mixedOrders = true) (hs : Region.noSelect ops = true)
  (hp : (planOk ops bars plan (Array.replicate ops.size false) && Nat.ble plan.length ops.size) = true)
  (h : ∀ w1,Ext w w1 → w1.heap = w.heap → Ry P ops n Z bars N (planOps ops plan) L w1) : Wp P n (.region id ops true) N X L w := fun a ha => by
 simp only [Bool.and_eq_true] at hp
 exact wp_region_any hm (wpAny_of_B _ _ _ _ (Ry.any hs plan L w.drew _ ops.size hp.1 (Nat.le_of_ble_eq_true hp.2) (Closed.start ops) (h _ (Ext.drew w) rfl) a ha))
variable {ops : Array Oper} {Z bars : List Nat} {K : Kn} {dd : Tmp} {op : Op} {rest : List Oper} {v : Value} {ty : TypeId} {pos : String} {af : Array Edge} {g : Option (Nat × Bool)}
theorem Ry.tm (hg : gYes ops ⟨some dd,op,ty,pos,af,g⟩ L) (hw : wildKind op = false) (h : TmZ P n Z ⟨some dd,op,ty,pos,af,g⟩ L w v) (hd : Nat.blt dd n = true) (k : Ry P ops n Z bars K rest ((dd,v) :: L) w) :
  Ry P ops n Z bars K (⟨some dd,op,ty,pos,af,g⟩ :: rest) L w := .tame v hg hw h hd k
theorem Ry.sk (hg : gNo ops ⟨some dd,op,ty,pos,af,g⟩ L ∨ gOff ops ⟨some dd,op,ty,pos,af,g⟩ L) (hd : Nat.blt dd n = true) (k : Ry P ops n Z bars K rest ((dd,undef) :: L) w) :
  Ry P ops n Z bars K (⟨some dd,op,ty,pos,af,g⟩ :: rest) L w := .skip hg hd k
theorem Ry.wd {R : Value → World → Prop} (hg : gYes ops ⟨some dd,op,ty,pos,af,g⟩ L) (hk : wildKind op = true) (h : Wl P n ⟨some dd,op,ty,pos,af,g⟩ L w R) (hd : Nat.blt dd n = true) (hz : bars.contains rest.length = false → ∀ v w',R v w' → Kp Z w w')
  (k : ∀ v w',R v w' → Ry P ops n Z bars K rest ((dd,v) :: L) w') : Ry P ops n Z bars K (⟨some dd,op,ty,pos,af,g⟩ :: rest) L w := .wild R hg hk h hz hd k
theorem Ry.wn {R : Value → World → Prop} (hg : gYes ops ⟨none,op,ty,pos,af,g⟩ L) (hk : wildKind op = true) (h : Wl P n ⟨none,op,ty,pos,af,g⟩ L w R) (hz : bars.contains rest.length = false → ∀ v w',R v w' → Kp Z w w')
  (k : ∀ v w',R v w' → Ry P ops n Z bars K rest L w') : Ry P ops n Z bars K (⟨none,op,ty,pos,af,g⟩ :: rest) L w := .wild R hg hk h hz rfl k
theorem Ry.wdB {R : Value → World → Prop} (hg : gYes ops ⟨some dd,op,ty,pos,af,g⟩ L) (hk : wildKind op = true) (h : Wl P n ⟨some dd,op,ty,pos,af,g⟩ L w R) (hd : Nat.blt dd n = true) (hb : bars.contains rest.length = true)
  (k : ∀ v w',R v w' → Ry P ops n Z bars K rest ((dd,v) :: L) w') : Ry P ops n Z bars K (⟨some dd,op,ty,pos,af,g⟩ :: rest) L w := .wild R hg hk h (fun e => by rw [hb] at e; cases e) hd k
theorem Ry.wnB {R : Value → World → Prop} (hg : gYes ops ⟨none,op,ty,pos,af,g⟩ L) (hk : wildKind op = true) (h : Wl P n ⟨none,op,ty,pos,af,g⟩ L w R) (hb : bars.contains rest.length = true)
  (k : ∀ v w',R v w' → Ry P ops n Z bars K rest L w') : Ry P ops n Z bars K (⟨none,op,ty,pos,af,g⟩ :: rest) L w := .wild R hg hk h (fun e => by rw [hb] at e; cases e) rfl k
end
def TmS (P : Program) (n : Nat) (S : World → Prop) (o : Oper) (L : Env) (v : Value) : Prop :=
 ∀ a,Fr n a L → ∀ w',S w' → (execOp a.eval o).run P w' = .ok (.value v) w'
theorem ts {P : Program} {n : Nat} {L : Env} {S : World → Prop} {o : Oper} {v : Value} (h : ∀ w',S w' → Tm P n o L w' v) : TmS P n S o L v := fun a ha w' hk => h w' hk a ha w' (Below.refl _ _)
section
variable {P : Program} {n : Nat} {N : Kn} {X : Exit → Kn} {L : Env} {w : World}
inductive Rs (P : Program) (ops : Array Oper) (n : Nat) (S : World → Prop) (bars : List Nat) (K : Kn) : List Oper → Env → World → Prop
 | done {L : Env} {w : World} (h : K L w) : Rs P ops n S bars K [] L w
 | skip {o : Oper} {rest : List Oper} {L : Env} {w : World} (h : gNo ops o L ∨ gOff ops o L) (hd : dOk n o.dst = true) (k : Rs P ops n S bars K rest (putE o.dst undef L) w) : Rs P ops n S bars K (o :: rest) L w
 | tame {o : Oper} {rest : List Oper} {L : Env} {w : World} (v : Value) (hg : gYes ops o L) (hw : wildKind o.op = false) (h : TmS P n S o L v) (hd : dOk n o.dst = true)
   (k : Rs P ops n S bars K rest (putE o.dst v L) w) : Rs P ops n S bars K (o :: rest) L w
 | wild {o : Oper} {rest : List Oper} {L : Env} {w : World} (R : Value → World → Prop) (hg : gYes ops o L) (hk : wildKind o.op = true) (h : Wl P n o L w R) (hz : bars.contains rest.length = false → ∀ v w',R v w' → S w') (hd : dOk n o.dst = true)
   (k : ∀ v w',R v w' → Rs P ops n S bars K rest (putE o.dst v L) w') : Rs P ops n S bars K (o :: rest) L w
theorem Rs.any {ops : Array Oper} {S : World → Prop} {bars : List Nat} {K : Kn} (hs : Region.noSelect ops = true) (hb0 : ∀ m ∈ bars,m = 0) : ∀ (plan : List Nat) (L : Env) (w : World) (listed : Array Bool) (fuel : Nat),
  planOk ops bars plan listed = true → plan.length ≤ fuel → Closed ops listed → (plan ≠ [] → S w) → Rs P ops n S bars K (planOps ops plan) L w → ∀ a,Fr n a L →
  wpAnyB P ops (Tq n K X) S (nextBar ops bars plan) fuel listed a w := by
 intro plan
 induction plan with
 | nil =>
  intro L w listed fuel hp hf hcl hSw h a ha
  have hr : Region.ready .any ops listed = [] := by simpa [planOk] using hp
  cases h with
  | done h => exact wpAnyB_done hr ⟨_,ha,h⟩ _
 | cons i plan ih =>
  intro L w listed fuel hp hf hcl hSw h a ha
  obtain ⟨fuel,rfl⟩ : ∃ m,fuel = m + 1 := ⟨fuel - 1,by simp at hf; omega⟩
  have hS := hSw (by simp)
  have hf' : plan.length ≤ fuel := by simpa using hf
  simp only [planOk,Bool.and_eq_true] at hp
  obtain ⟨hp,hp'⟩ := hp
  cases ho : ops[i]? with
  | none => simp [ho] at hp
  | some o =>
   simp only [ho,Bool.and_eq_true] at hp
   obtain ⟨hr,hp⟩ := hp
   have hri : i ∈ Region.ready .any ops listed := by simpa using hr
   have hcl' := hcl.set hri
   have hoo : ops.getD i default = o := by simp [Array.getD_eq_getD_getElem?,ho]
   have hlen : (planOps ops plan).length = plan.length := by simp [planOps]
   have hops : planOps ops (i :: plan) = o :: planOps ops plan := by simp only [planOps,List.map_cons,hoo]
   rw [hops] at h
   have tameCase : wildKind o.op = false → ∀ v,(∀ a,Fr n a L → YieldsIf P ops S o v a) → Rs P ops n S bars K (planOps ops plan) (putE o.dst v L) w → dOk n o.dst = true →
     wpAnyB P ops (Tq n K X) S (nextBar ops bars (i :: plan)) (fuel + 1) listed a w := by
    intro hk v hy k hd
    rw [if_neg (by simp [hk])] at hp
    simp only [Bool.and_eq_true,Bool.not_eq_true',Bool.or_eq_true] at hp
    obtain ⟨⟨hfr,hnb⟩,hbar⟩ := hp
    have hnext : nextBar ops bars (i :: plan) = nextBar ops bars plan := nextBar_no hnb
    rw [hnext]
    refine wpAnyB_first ho (Region.noSelect_spec hs) (fun _ _ _ h => h) ?_ fuel listed a w (Region.free_spec ho hfr) hri hcl (hy a ha) hS (ih _ w _ fuel hp' hf' hcl' (fun _ => hS) k _ (ha.put hd _))
    rcases hbar with hbar | ⟨hne,hanc⟩
    ·have hb := Nat.eq_of_beq_eq_true hbar
     have hil := ready_lt hri
     exact ⟨by omega,fun l _ _ hm => by have := ready_lt hm; omega⟩
    ·have hne' : nextBar ops bars plan ≠ i := fun e => by rw [e,Nat.beq_refl] at hne; cases hne
     refine ⟨hne',fun l hl hi hm => ?_⟩
     have hself : ∀ j ∈ [nextBar ops bars plan],Anc ops (nextBar ops bars plan) j := fun j hj => by
      have hj' : j = nextBar ops bars plan := by simpa using hj
      rw [hj']
      exact Anc.self
     have hA := ancs_sound (b := nextBar ops bars plan) (nextBar ops bars plan + 1) _ hself i (by simpa using hanc)
     rcases hl.anc hm hA with e | e
     ·exact hne' e.symm
     ·rw [hi] at e; cases e
   have wildCase : wildKind o.op = true → ∀ R : Value → World → Prop,Region.wanted o (yielded ops a.tmps) = true → Wl P n o L w R → (bars.contains plan.length = false → ∀ v w',R v w' → S w') → dOk n o.dst = true →
     (∀ v w',R v w' → Rs P ops n S bars K (planOps ops plan) (putE o.dst v L) w') → wpAnyB P ops (Tq n K X) S (nextBar ops bars (i :: plan)) (fuel + 1) listed a w := by
    intro hk R hg h hb hd k
    rw [if_pos hk] at hp
    have hrs : Region.ready .any ops listed = [i] := by simpa using hp
    refine ⟨fun h0 => (by rw [h0] at hrs; cases hrs),?_⟩
    intro j hj
    obtain rfl : j = i := by rw [hrs] at hj; simpa using hj
    unfold wpOp
    simp only [ho]
    rw [if_pos hg]
    refine .inl (h a ha _ _ fun v w' hv => ?_)
    have hih := ih _ w' _ fuel hp' hf' hcl' (fun hne => by
     cases hbc : bars.contains plan.length with
     | true =>
      have h0 := hb0 _ (by simpa using hbc)
      exact absurd (List.eq_nil_of_length_eq_zero h0) hne
     | false => exact hb hbc v w' hv) (k v w' hv) _ (ha.put hd v)
    cases hbc : bars.contains plan.length with
    | true =>
     have hnext : nextBar ops bars (j :: plan) = j := nextBar_yes hbc
     rw [hnext]
     exact ⟨fun _ => wpAny_of_B _ _ _ _ hih,fun e => absurd rfl e⟩
    | false =>
     have hw := hb hbc v w' hv
     have hnext : nextBar ops bars (j :: plan) = nextBar ops bars plan := nextBar_no hbc
     rw [hnext]
     exact ⟨fun _ => wpAny_of_B _ _ _ _ hih,fun _ => ⟨hw,hih⟩⟩
   cases h with
   | skip h hd k =>
    cases hk : wildKind o.op with
    | false => exact tameCase hk undef (fun a ha => .inr ⟨h.elim (fun h => h.wanted ha) (fun h => h.wanted ha),rfl⟩) k hd
    | true =>
     rw [if_pos hk] at hp
     have hrs : Region.ready .any ops listed = [i] := by simpa using hp
     refine ⟨fun h0 => (by rw [h0] at hrs; cases hrs),?_⟩
     intro j hj
     obtain rfl : j = i := by rw [hrs] at hj; simpa using hj
     unfold wpOp
     simp only [ho]
     have hn : Region.wanted o (yielded ops a.tmps) = false := h.elim (fun h => h.wanted ha) (fun h => h.wanted ha)
     rw [if_neg (by simp [hn])]
     have hih := ih _ w _ fuel hp' hf' hcl' (fun _ => hS) k _ (ha.put hd _)
     refine ⟨fun _ => wpAny_of_B _ _ _ _ hih,fun e => ⟨hS,?_⟩⟩
     have hnext : nextBar ops bars (j :: plan) = nextBar ops bars plan := by
      by_cases hbc : bars.contains plan.length = true
      ·exact absurd (nextBar_yes hbc).symm e
      ·exact nextBar_no (by simpa using hbc)
     rw [hnext]
     exact hih
   | tame v hg hw h hd k => exact tameCase hw v (fun a ha => .inl ⟨hg.wanted ha,fun w' hw' => h a ha w' hw'⟩) k hd
   | wild R hg hk h hz hd k =>
    rw [hlen] at hz
    exact wildCase hk R (hg.wanted ha) h hz hd k
theorem Wp.drawS {id : Nat} {ops : Array Oper} (S : World → Prop) (plan bars : List Nat) (hm : P.follows .mixedOrders = true) (hs : Region.noSelect ops = true)
  (hp : (planOk ops bars plan (Array.replicate ops.size false) && Nat.ble plan.length ops.size) = true) (hb0 : bars.all (· == 0) = true)
  (h : ∀ w1,Ext w w1 → w1.heap = w.heap → S w1 ∧ Rs P ops n S bars N (planOps ops plan) L w1) : Wp P n (.region id ops true) N X L w := fun a ha => by
 simp only [Bool.and_eq_true] at hp
 obtain ⟨h1,h2⟩ := h _ (Ext.drew w) rfl
 exact wp_region_any hm (wpAny_of_B _ _ _ _ (Rs.any hs (fun m hm => by simpa using List.all_eq_true.1 hb0 m hm) plan L w.drew _ ops.size hp.1 (Nat.le_of_ble_eq_true hp.2) (Closed.start ops) (fun _ => h1) h2 a ha))
variable {ops : Array Oper} {S : World → Prop} {bars : List Nat} {K : Kn} {dd : Tmp} {op : Op} {rest : List Oper} {v : Value} {ty : TypeId} {pos : String} {af : Array Edge} {g : Option (Nat × Bool)}
theorem Rs.tm (hg : gYes ops ⟨some dd,op,ty,pos,af,g⟩ L) (hw : wildKind op = false) (h : TmS P n S ⟨some dd,op,ty,pos,af,g⟩ L v) (hd : Nat.blt dd n = true) (k : Rs P ops n S bars K rest ((dd,v) :: L) w) :
  Rs P ops n S bars K (⟨some dd,op,ty,pos,af,g⟩ :: rest) L w := .tame v hg hw h hd k
theorem Rs.sk (hg : gNo ops ⟨some dd,op,ty,pos,af,g⟩ L ∨ gOff ops ⟨some dd,op,ty,pos,af,g⟩ L) (hd : Nat.blt dd n = true) (k : Rs P ops n S bars K rest ((dd,undef) :: L) w) :
  Rs P ops n S bars K (⟨some dd,op,ty,pos,af,g⟩ :: rest) L w := .skip hg hd k
theorem Rs.wd {R : Value → World → Prop} (hg : gYes ops ⟨some dd,op,ty,pos,af,g⟩ L) (hk : wildKind op = true) (h : Wl P n ⟨some dd,op,ty,pos,af,g⟩ L w R) (hd : Nat.blt dd n = true) (hz : bars.contains rest.length = false → ∀ v w',R v w' → S w')
  (k : ∀ v w',R v w' → Rs P ops n S bars K rest ((dd,v) :: L) w') : Rs P ops n S bars K (⟨some dd,op,ty,pos,af,g⟩ :: rest) L w := .wild R hg hk h hz hd k
theorem Rs.wn {R : Value → World → Prop} (hg : gYes ops ⟨none,op,ty,pos,af,g⟩ L) (hk : wildKind op = true) (h : Wl P n ⟨none,op,ty,pos,af,g⟩ L w R) (hz : bars.contains rest.length = false → ∀ v w',R v w' → S w')
  (k : ∀ v w',R v w' → Rs P ops n S bars K rest L w') : Rs P ops n S bars K (⟨none,op,ty,pos,af,g⟩ :: rest) L w := .wild R hg hk h hz rfl k
theorem Rs.wdB {R : Value → World → Prop} (hg : gYes ops ⟨some dd,op,ty,pos,af,g⟩ L) (hk : wildKind op = true) (h : Wl P n ⟨some dd,op,ty,pos,af,g⟩ L w R) (hd : Nat.blt dd n = true) (hb : bars.contains rest.length = true)
  (k : ∀ v w',R v w' → Rs P ops n S bars K rest ((dd,v) :: L) w') : Rs P ops n S bars K (⟨some dd,op,ty,pos,af,g⟩ :: rest) L w := .wild R hg hk h (fun e => by rw [hb] at e; cases e) hd k
theorem Rs.wnB {R : Value → World → Prop} (hg : gYes ops ⟨none,op,ty,pos,af,g⟩ L) (hk : wildKind op = true) (h : Wl P n ⟨none,op,ty,pos,af,g⟩ L w R) (hb : bars.contains rest.length = true)
  (k : ∀ v w',R v w' → Rs P ops n S bars K rest L w') : Rs P ops n S bars K (⟨none,op,ty,pos,af,g⟩ :: rest) L w := .wild R hg hk h (fun e => by rw [hb] at e; cases e) rfl k
end
theorem grown_kp {w w' : World} {v : Value} (h : w.grownBy w' v.ownBlock) : Kp v.ownBlock.toList w w' :=
 ⟨⟨h.os,h.tape,h.output,h.size,fun k hk => absurd hk (Nat.not_lt_zero _)⟩,fun k hk hz => h.block k hk (fun e => hz (by rw [← e]; simp))⟩
theorem own_notin {w : World} {B e size n b t : Nat} {v : Value} {xs cs : List Value} (h : w.ownsRow B e size v n xs) (hv : Var w b cs t) (ht : t ≠ e) : b ∉ v.ownBlock.toList := fun hm => by
 cases hb : v.ownBlock with
 | none => rw [hb] at hm; simp at hm
 | some k =>
  rw [hb] at hm
  obtain rfl : b = k := by simpa using hm
  obtain ⟨cs',hc⟩ := own_block h hb.symm
  exact var_ne hv ht _ hc
theorem Ext.tr {a b c : World} (h : Ext a b) (k : Ext b c) : Ext a c := h.trans (k.mono h.le)
end Go.Gx
namespace Go.Gx
open Go.RowKit
def Wq (P : Program) (n : Nat) (c : Code) (Q : Exit → Act → World → Prop) (L : Env) (w : World) : Prop := ∀ a,Fr n a L → c.wp P Q a w
section
variable {P : Program} {n : Nat} {N : Kn} {X : Exit → Kn} {R : PanK} {L : Env} {w : World} {Q : Exit → Act → World → Prop} {ds : List Deferred}
theorem Wq.seq {x y : Code} (h : Wp P n x (fun L w => Wq P n y Q L w) (fun _ _ _ => False) L w) : Wq P n (.seq x y) Q L w := fun a ha =>
 wp_seq (wp_mono (h a ha) fun e a w q => by
  cases e <;> first
   | exact q.elim
   | (obtain ⟨_,_,q⟩ := q; exact q.elim)
   | (obtain ⟨L,h1,h2⟩ := q; exact h2 a h1))
theorem put_under (a : Act) (ds : List Deferred) (d : Option Tmp) (v : Value) : ({ a with defers := ds } : Act).put d v = { (a.put d v) with defers := ds } := by
 cases d <;> rfl
theorem put_defers (a : Act) (d : Option Tmp) (v : Value) : (a.put d v).defers = a.defers := by cases d <;> rfl
theorem eval_under (a : Act) (ds : List Deferred) : ({ a with defers := ds } : Act).eval = a.eval := by
 funext o; cases o <;> rfl
theorem upon_under {o : Oper} {a : Act} (ha : a.defers = []) {next next' : Act → World → Prop} {Q' : Exit → Act → World → Prop} (hno : ∀ a w,¬ Q' .outgrown a w)
  (hn : ∀ a' w',next' a' w' → a'.defers = [] ∧ next { a' with defers := ds } w') (hq : ∀ e a' w',a'.defers = [] → Q' e a' w' → Q e { a' with defers := ds } w') {r : Result Next}
  (h : o.upon P a next' Q' r) : o.upon P { a with defers := ds } next Q r := by
 unfold Oper.upon at h ⊢
 split at h
 ·rw [put_under]; exact (hn _ _ h).2
 ·rw [put_under]; exact (hn _ _ h).2
 ·have := (hn _ _ h).1
  rw [put_defers] at this
  cases this
 ·refine Calls.mono h fun e w' q => ?_
  cases e with
  | returned v => simp only at q ⊢; rw [put_under]; exact (hn _ _ q).2
  | panicked c => exact hq _ _ _ ha q
  | outgrown => obtain ⟨a0,w0,q⟩ := q; exact absurd q (hno _ _)
 ·refine Rows.mono h fun v w' q => ?_
  rw [put_under]; exact (hn _ _ q).2
 ·exact hq _ _ _ ha h
 ·exact h.elim
theorem wl_under {o : Oper} {R : Value → World → Prop} (h : Wl P n o L w R) {a : Act} (ha : Fr n a L) {next : Act → World → Prop} (hn : ∀ v w',R v w' → next { (a.put o.dst v) with defers := ds } w') : o.wp P { a with defers := ds } w next Q := by
 have h1 := h a ha (fun e a' w' => False) (fun a' w' => a'.defers = [] ∧ next { a' with defers := ds } w') (fun v w' hr => ⟨by rw [put_defers]; exact ha.defers,hn v w' hr⟩)
 unfold Oper.wp at h1 ⊢
 rw [eval_under]
 exact upon_under ha.defers (fun _ _ q => q) (fun _ _ q => q) (fun _ _ _ _ q => q.elim) h1
theorem pw_under {o : Oper} (h : Pw P n o L w R) {a : Act} (ha : Fr n a L) {next : Act → World → Prop} (hq : ∀ c w',R c w' → Q (.panic c) { a with defers := ds } w') : o.wp P { a with defers := ds } w next Q := by
 have h1 := h a ha (fun e a' w' => a' = a ∧ ∃ c,e = .panic c ∧ R c w') (fun _ _ => False) (fun c w' hr => ⟨rfl,c,rfl,hr⟩)
 unfold Oper.wp at h1 ⊢
 rw [eval_under]
 exact upon_under ha.defers (fun _ _ q => by obtain ⟨_,_,e,_⟩ := q; cases e) (fun _ _ q => q.elim) (fun e a' w' _ q => by obtain ⟨rfl,c,rfl,hr⟩ := q; exact hq c w' hr) h1
theorem rg_under {ops : Array Oper} {dr : Option (List Nat)} {K : Kn} {l : List Oper} (h : Rg P ops n dr K l L w) : ∀ a,Fr n a L → (∀ a' L' w',Fr n a' L' → K L' w' → Q .normal { a' with defers := ds } w') → wpList P ops Q l { a with defers := ds } w := by
 induction h with
 | done h => exact fun a ha hq => hq a _ _ ha h
 | skip h hd k ih =>
  intro a ha hq
  unfold wpList
  have : Region.wanted _ (yielded ops a.tmps) = false := h.elim (fun h => h.wanted ha) (fun h => h.wanted ha)
  rw [if_neg (by simp [this]),put_under]
  exact ih _ (ha.put hd _) hq
 | tame v hg hw h hd k ih =>
  intro a ha hq
  unfold wpList
  rw [if_pos (hg.wanted ha)]
  exact .inl (wl_under h.wl ha fun u w' ⟨h1,h2⟩ => by subst h1; subst h2; exact ih _ (ha.put hd _) hq)
 | wild R' hg h hb hd k ih =>
  intro a ha hq
  unfold wpList
  rw [if_pos (hg.wanted ha)]
  exact .inl (wl_under h ha fun u w' hr => ih u w' hr _ (ha.put hd _) hq)
theorem rgp_under {ops : Array Oper} {o : Oper} {post : List Oper} {E : Env} : ∀ {pre : List Oper} {L : Env} {w : World},Rg P ops n none (fun L w => gYes ops o L ∧ Pw P n o L w R ∧ Sub E L) pre L w → ∀ a,Fr n a L → (∀ a' c w',Fr n a' E → R c w' → Q (.panic c) { a' with defers := ds } w') → wpList P ops Q (pre ++ o :: post) { a with defers := ds } w := by
 intro pre L w h
 induction h with
 | done h =>
  intro a ha hq
  obtain ⟨hg,hp,hs⟩ := h
  unfold wpList
  simp only [List.nil_append]
  rw [if_pos (hg.wanted ha)]
  exact .inl (pw_under hp ha fun c w' hr => hq _ c w' (ha.sub hs) hr)
 | skip h hd k ih =>
  intro a ha hq
  rw [List.cons_append]
  unfold wpList
  have : Region.wanted _ (yielded ops a.tmps) = false := h.elim (fun h => h.wanted ha) (fun h => h.wanted ha)
  rw [if_neg (by simp [this]),put_under]
  exact ih _ (ha.put hd _) hq
 | tame v hg hw h hd k ih =>
  intro a ha hq
  rw [List.cons_append]
  unfold wpList
  rw [if_pos (hg.wanted ha)]
  exact .inl (wl_under h.wl ha fun u w' ⟨h1,h2⟩ => by subst h1; subst h2; exact ih _ (ha.put hd _) hq)
 | wild R' hg h hb hd k ih =>
  intro a ha hq
  rw [List.cons_append]
  unfold wpList
  rw [if_pos (hg.wanted ha)]
  exact .inl (wl_under h ha fun u w' hr => ih u w' hr _ (ha.put hd _) hq)
theorem rgp_under' {ops : Array Oper} {l pre post : List Oper} {o : Oper} {E : Env} (hl : l = pre ++ o :: post) (h : Rg P ops n none (fun L w => gYes ops o L ∧ Pw P n o L w R ∧ Sub E L) pre L w) {a : Act} (ha : Fr n a L) (hq : ∀ a' c w',Fr n a' E → R c w' → Q (.panic c) { a' with defers := ds } w') : wpList P ops Q l { a with defers := ds } w := by
 subst hl
 exact rgp_under h a ha hq
theorem Wq.dfr {id : Nat} {y : Code} {t1 : Tmp} {f : FuncId} {cap : Array Operand} {vs : List Value} {ty1 ty2 : TypeId} {pos1 pos2 : String} {af1 af2 : Array Edge} (h1 : cap.toList.map (evO L) = vs.map some) (hd : Nat.blt t1 n = true)
  (k : ∀ a,Fr n a ((t1,.func (.func f) #[] vs.toArray) :: L) → y.wp P Q { a with defers := [{ target := .fn (.func f) vs.toArray,args := #[] }] } w) :
  Wq P n (.seq (.region id #[⟨some t1,.makeFunc (.func f) #[] cap,ty1,pos1,af1,none⟩,⟨none,.defer { callee := .value (.tmp t1),args := #[],argTypes := #[] },ty2,pos2,af2,none⟩] false) y) Q L w := fun a ha => by
 refine wp_seq (wp_region_lit (l := [_,_]) ?_)
 unfold wpList
 rw [if_pos (by simp [Region.wanted])]
 refine .inl ((t_makeFunc (P := P) h1 : Tm P n ⟨some t1,.makeFunc (.func f) #[] cap,ty1,pos1,af1,none⟩ L w _).wl a ha _ _ fun u w' ⟨e1,e2⟩ => ?_)
 subst e1; subst e2
 have ha' := ha.put (d := some t1) hd (.func (.func f) #[] vs.toArray)
 unfold wpList
 rw [if_pos (by simp [Region.wanted])]
 refine .inl ?_
 unfold Oper.wp
 have hev : (a.put (some t1) (.func (.func f) #[] vs.toArray)).eval (.tmp t1) = .func (.func f) #[] vs.toArray := ha'.eval (by simp [evO,look,putE])
 have hrun : (execOp (a.put (some t1) (.func (.func f) #[] vs.toArray)).eval ⟨none,.defer { callee := .value (.tmp t1),args := #[],argTypes := #[] },ty2,pos2,af2,none⟩).run P w' = .ok (.defer { target := .fn (.func f) vs.toArray,args := #[] }) w' := by
  simp [execOp,resolve,hev,Deferred.ofValue]
 rw [hrun]
 simp only [Oper.upon,wpList]
 have := k _ ha'
 have hdf := ha'.defers
 rw [show ({ (a.put (some t1) (.func (.func f) #[] vs.toArray)) with defers := { target := Target.fn (.func f) vs.toArray,args := #[] } :: (a.put (some t1) (.func (.func f) #[] vs.toArray)).defers } : Act).put none undef = { (a.put (some t1) (.func (.func f) #[] vs.toArray)) with defers := [{ target := .fn (.func f) vs.toArray,args := #[] }] } from by rw [hdf]; rfl]
 exact this
def Ws (P : Program) (n : Nat) (c : Code) (Q : Exit → Act → List Frame → World → Prop) (cs : List Frame) (L : Env) (w : World) : Prop := ∀ a,Fr n a L → c.wpS P Q a cs w
variable {S : Exit → Act → List Frame → World → Prop} {cs : List Frame}
theorem Ws.seq {x y : Code} (h : Wp P n x (fun L w => Ws P n y S cs L w) (fun _ _ _ => False) L w) : Ws P n (.seq x y) S cs L w := fun a ha =>
 wpS_seq (wpS_of_wp (wp_mono (h a ha) fun e a w q => by
  cases e <;> first
   | exact q.elim
   | (obtain ⟨_,_,q⟩ := q; exact q.elim)
   | (obtain ⟨L,h1,h2⟩ := q; exact h2 a h1)))
theorem Ws.of {c : Code} (h : Wp P n c (fun L w => ∀ a,Fr n a L → S .normal a cs w) (fun _ _ _ => False) L w) : Ws P n c S cs L w := fun a ha =>
 wpS_of_wp (wp_mono (h a ha) fun e a w q => by
  cases e <;> first
   | exact q.elim
   | (obtain ⟨_,_,q⟩ := q; exact q.elim)
   | (obtain ⟨L,h1,h2⟩ := q; exact h2 a h1))
def recV (cs : List Frame) : Value := match recoverD cs with | some (v,_) => v | none => .nilIface
def recC (cs : List Frame) : List Frame := match recoverD cs with | some (_,cs') => cs' | none => cs
theorem Ws.recover {id : Nat} {y : Code} {t1 t2 : Tmp} {ty1 ty2 : TypeId} {pos1 pos2 : String} {af1 af2 : Array Edge} (hd1 : Nat.blt t1 n = true) (hd2 : Nat.blt t2 n = true)
  (k : Ws P n y S (recC cs) ((t2,recV cs) :: (t1,recV cs) :: L) w) :
  Ws P n (.seq (.region id #[⟨some t1,.call { callee := .builtin .recover,args := #[],argTypes := #[] },ty1,pos1,af1,none⟩,⟨some t2,.assign (.tmp t1),ty2,pos2,af2,none⟩] false) y) S cs L w := fun a ha => by
 refine wpS_seq (wpS_region ?_)
 have ha1 := ha.put (d := some t1) hd1 (recV cs)
 have ha2 := ha1.put (d := some t2) hd2 (recV cs)
 have hev : (a.put (some t1) (recV cs)).eval (.tmp t1) = recV cs := ha1.eval (by simp [evO,look,putE])
 have k' := k _ ha2
 have hrun : (execOp a.eval ⟨some t1,.call { callee := .builtin .recover,args := #[],argTypes := #[] },ty1,pos1,af1,none⟩).run P w = .ok .recover w := by
  simp [execOp,resolve,invoke,builtin]
 have hrun2 : (execOp (a.put (some t1) (recV cs)).eval ⟨some t2,.assign (.tmp t1),ty2,pos2,af2,none⟩).run P w = .ok (.value (recV cs)) w := by
  simp [execOp,hev]
 show wpOpsS P _ _ [0,1] a cs w
 unfold wpOpsS
 simp only [List.getElem?_toArray,List.getElem?_cons_zero]
 rw [if_pos (by simp [Region.wanted]),hrun]
 simp only
 have fin : wpOpsS P #[⟨some t1,.call { callee := .builtin .recover,args := #[],argTypes := #[] },ty1,pos1,af1,none⟩,⟨some t2,.assign (.tmp t1),ty2,pos2,af2,none⟩] (Exit.thenS (y.wpS P S) S) [1] (a.put (some t1) (recV cs)) (recC cs) w := by
  unfold wpOpsS
  simp only [List.getElem?_toArray,List.getElem?_cons_succ,List.getElem?_cons_zero]
  rw [if_pos (by simp [Region.wanted]),hrun2]
  simp only [Oper.upon,wpOpsS]
  exact k'
 cases hrd : recoverD cs with
 | none =>
  have e1 : recV cs = .nilIface := by unfold recV; rw [hrd]
  have e2 : recC cs = cs := by unfold recC; rw [hrd]
  rw [e1,e2] at fin
  exact fin
 | some p =>
  obtain ⟨v,cs'⟩ := p
  have e1 : recV cs = v := by unfold recV; rw [hrd]
  have e2 : recC cs = cs' := by unfold recC; rw [hrd]
  rw [e1,e2] at fin
  exact fin
theorem Leaves.one {fn : Func} {rs : List ResultVar} (hr : fn.results = rs.toArray) {a : Act} {m : Nat} {E : Env} (ha : Fr m a E) {u : FrameMode} (hu : u ≠ .run) {f : FuncId} {vs : List Value} (hf : ∀ (args : Array Value) (w : World),(callFunc f args).run P w = .ok (.enter f args) w)
  {R : Value → World → Prop} (h : CallsD P f vs.toArray u w fun e u' w' => (∃ v,e = .returned v) ∧ settle u' = .returning ∧ ∃ vs,RVs P E w' rs vs ∧ R (tup vs) w') :
  Leaves P fn a.tmps (fun e w' => ∃ v,e = .returned v ∧ R v w') [{ target := .fn (.func f) vs.toArray,args := #[] }] u w := by
 refine leaves_cons (f := f) (args := vs.toArray) hu (by simp [invoke,hf]) (h.mono ?_)
 rintro e u' w' ⟨⟨v,rfl⟩,hs,vs',h1,h2⟩
 show Leaves P fn a.tmps _ [] (settle u') w'
 rw [hs]
 exact ⟨_,results_run hr ha h1,_,rfl,h2⟩
end
end Go.Gx
namespace Go.Gx
open Go.RowKit
def isDefer : Op → Bool | .defer _ => true | _ => false
structure Loose (P : Program) (F : Fence) : Prop where
 fn : ∀ f,F.fn f
 depth : F.depth = none
 calls : ∀ {n : Nat} {f : FuncId} {args : Array Value} {w : World} {R : Ending → World → Prop},Calls P f args w R → CallsIn F n P f args w R
 rows : ∀ {n : Nat} {row : String} {args : Array Value} {w : World} {R : Value → World → Prop},Rows P row args w R → RowsIn F n P row args w R
theorem loose_wide (P : Program) : Loose P Fence.wide := ⟨fun _ => trivial,rfl,fun h => callsIn_wide.2 h,fun h c cs _ => let ⟨v,w',r,s⟩ := h c cs; ⟨v,w',r,stepsIn_wide.2 s⟩⟩
theorem loose_round (P : Program) (l : Nat) : Loose P (Fence.wide.inRound l) := ⟨fun _ => trivial,rfl,fun h => CallsIn.inRound l (callsIn_wide.2 h),fun h c cs _ => let ⟨v,w',r,s⟩ := h c cs; ⟨v,w',r,(stepsIn_wide (P := P)).2 s⟩⟩
section
variable {P : Program} {n m : Nat} {L : Env} {w : World} {F : Fence} {Q : Exit → Act → World → Prop}
theorem wp_in (hF : Loose P F) {o : Oper} {a : Act} {next : Act → World → Prop} (hnd : isDefer o.op = false) (h : o.wp P a w next (fun _ _ _ => False)) : o.wpIn F m P a w next Q := by
 refine ⟨fun f _ => hF.fn f,?_⟩
 rw [Oper.semAt_eq _ _ _ (fun c e => by rw [e] at hnd; cases hnd)]
 unfold Oper.wp at h
 have hd : ∀ k : Nat,F.depth.isSome = true → 1 ≤ k := fun k e => by rw [hF.depth] at e; cases e
 generalize (execOp a.eval o).run P w = r at h ⊢
 unfold Oper.upon at h
 split at h
 ·exact h
 ·exact h
 ·exact h
 ·refine ⟨hd _,hF.calls (Calls.mono h fun e w' q => ?_)⟩
  cases e with
  | returned v => exact q
  | panicked c => exact q.elim
  | outgrown => obtain ⟨_,_,q⟩ := q; exact q.elim
 ·exact ⟨hd _,hF.rows h⟩
 ·exact h.elim
 ·exact h.elim
theorem rg_in (hF : Loose P F) {ops : Array Oper} {K : Kn} {l : List Oper} (h : Rg P ops n none K l L w) : (l.all fun o => !isDefer o.op) = true → ∀ a,Fr n a L → (∀ a' L' w',Fr n a' L' → K L' w' → Q .normal a' w') → wpListIn F m P ops Q l a w := by
 induction h with
 | done h => exact fun _ a ha hq => hq a _ _ ha h
 | @skip o rest L w h hd k ih =>
  intro hl a ha hq
  simp only [List.all_cons,Bool.and_eq_true] at hl
  unfold wpListIn
  have : Region.wanted o (yielded ops a.tmps) = false := h.elim (fun h => h.wanted ha) (fun h => h.wanted ha)
  rw [if_neg (by simp [this])]
  exact ⟨fun f _ => hF.fn f,ih hl.2 _ (ha.put hd _) hq⟩
 | @tame o rest L w v hg hw h hd k ih =>
  intro hl a ha hq
  simp only [List.all_cons,Bool.and_eq_true,Bool.not_eq_true'] at hl
  unfold wpListIn
  rw [if_pos (hg.wanted ha)]
  exact wp_in hF hl.1 (h.wl a ha _ _ fun u w' ⟨h1,h2⟩ => by subst h1; subst h2; exact ih hl.2 _ (ha.put hd _) hq)
 | @wild o rest L w R' hg h hb hd k ih =>
  intro hl a ha hq
  simp only [List.all_cons,Bool.and_eq_true,Bool.not_eq_true'] at hl
  unfold wpListIn
  rw [if_pos (hg.wanted ha)]
  exact wp_in hF hl.1 (h a ha _ _ fun u w' hr => ih u w' hr hl.2 _ (ha.put hd _) hq)
theorem rgy_in (hF : Loose P F) {ops : Array Oper} {K : Kn} {o : Oper} {post : List Oper} {R : Value → World → Prop} (hpo : (post.all fun o => !isDefer o.op) = true) (hd : dOk n o.dst = true) (ho : isDefer o.op = false) : ∀ {pre : List Oper} {L : Env} {w : World},
  Rg P ops n none (fun L w => gYes ops o L ∧ (∀ a,Fr n a L → ∃ l fn tmps assign body,(execOp a.eval o).run P w = .ok (.round l fn tmps assign body) w ∧ RoundIn F (m - 1) P l fn tmps assign body w (fun e w' => ∃ v,e = .returned v ∧ R v w')) ∧
   ∀ v w',R v w' → Rg P ops n none K post (putE o.dst v L) w') pre L w →
  (pre.all fun o => !isDefer o.op) = true → ∀ a,Fr n a L → (∀ a' L' w',Fr n a' L' → K L' w' → Q .normal a' w') → wpListIn F m P ops Q (pre ++ o :: post) a w := by
 intro pre L w h
 induction h with
 | done h =>
  intro _ a ha hq
  obtain ⟨hg,hy,k⟩ := h
  unfold wpListIn
  simp only [List.nil_append]
  rw [if_pos (hg.wanted ha)]
  obtain ⟨l,fn,tmps,assign,body,hrun,hR⟩ := hy a ha
  refine ⟨fun f _ => hF.fn f,?_⟩
  rw [Oper.semAt_eq _ _ _ (fun c e => by rw [e] at ho; cases ho),hrun]
  rw [Oper.uponIn_round]
  refine ⟨fun e => (by rw [hF.depth] at e; cases e),hR.mono ?_⟩
  rintro e w' ⟨v,rfl,hr⟩
  exact rg_in hF (k v w' hr) hpo _ (ha.put hd _) hq
 | @skip o rest L w h hd k ih =>
  intro hl a ha hq
  simp only [List.all_cons,Bool.and_eq_true] at hl
  rw [List.cons_append]
  unfold wpListIn
  have : Region.wanted o (yielded ops a.tmps) = false := h.elim (fun h => h.wanted ha) (fun h => h.wanted ha)
  rw [if_neg (by simp [this])]
  exact ⟨fun f _ => hF.fn f,ih hl.2 _ (ha.put hd _) hq⟩
 | @tame o rest L w v hg hw h hd k ih =>
  intro hl a ha hq
  simp only [List.all_cons,Bool.and_eq_true,Bool.not_eq_true'] at hl
  rw [List.cons_append]
  unfold wpListIn
  rw [if_pos (hg.wanted ha)]
  exact wp_in hF hl.1 (h.wl a ha _ _ fun u w' ⟨h1,h2⟩ => by subst h1; subst h2; exact ih hl.2 _ (ha.put hd _) hq)
 | @wild o rest L w R' hg h hb hd k ih =>
  intro hl a ha hq
  simp only [List.all_cons,Bool.and_eq_true,Bool.not_eq_true'] at hl
  rw [List.cons_append]
  unfold wpListIn
  rw [if_pos (hg.wanted ha)]
  exact wp_in hF hl.1 (h a ha _ _ fun u w' hr => ih u w' hr hl.2 _ (ha.put hd _) hq)
theorem Wp.regionY {N : Kn} {X : Exit → Kn} {id : Nat} {l pre post : List Oper} {o : Oper} {R : Value → World → Prop} (hl : l = pre ++ o :: post) (hpo : (post.all fun o => !isDefer o.op) = true) (hpr : (pre.all fun o => !isDefer o.op) = true) (hd : dOk n o.dst = true) (ho : isDefer o.op = false)
  (h : Rg P l.toArray n none (fun L w => gYes l.toArray o L ∧ (∀ a,Fr n a L → ∃ l fn tmps assign body,(execOp a.eval o).run P w = .ok (.round l fn tmps assign body) w ∧ RoundIn Fence.wide (1 - 1) P l fn tmps assign body w (fun e w' => ∃ v,e = .returned v ∧ R v w')) ∧
   ∀ v w',R v w' → Rg P l.toArray n none N post (putE o.dst v L) w') pre L w) : Wp P n (.region id l.toArray false) N X L w := by
 subst hl
 exact fun a ha => (wpIn_wide (n := 1)).1 (wpIn_region_lit (rgy_in (m := 1) (loose_wide P) hpo hd ho h hpr a ha fun a' L' w' h1 h2 => ⟨L',h1,h2⟩))
end
section
variable {P : Program} {n : Nat} {L : Env} {w : World}
theorem yield_run {d : Option Tmp} {ty : TypeId} {pos : String} {af : Array Edge} {g : Option (Nat × Bool)} {x : Operand} {args : Array Operand} {at_ : Array TypeId} {lp : Nat} {vs : List Value} {a : Act} {r : Result Next} (ha : Fr n a L) (hx : evO L x = some (.func (.yield lp) #[] #[])) (hv : args.toList.map (evO L) = vs.map some) (h : (Instr.yield lp vs.toArray).run P w = r) :
  (execOp a.eval ⟨d,.call { callee := .value x,args := args,argTypes := at_ },ty,pos,af,g⟩).run P w = r := by
 have hargs : args.map a.eval = vs.toArray := by
  apply Array.toList_inj.1
  rw [Array.toList_map]
  exact map_eval ha hv
 simp [execOp,resolve,ha.eval hx,Deferred.ofValue,invoke,hargs,h]
end
def encE (p : K3 × Value) : Value × Value := (encK p.1,p.2)
def IterR (w : World) (r b : Nat) (l left : List (K3 × Value)) : Prop := ∃ es clk seen,w.heap[b]? = some (.map es clk) ∧ w.heap[r]? = some (.mapIter (some b) clk seen clk) ∧ es.toList.map (fun e => (e.key,e.val)) = l.map encE ∧ (∀ e ∈ es.toList,e.born < clk) ∧ (es.toList.map (·.born)).Nodup ∧
 (leftOf es seen).toList.map (fun e => (e.key,e.val)) = left.map encE
def isWk : Obj → Bool | .map _ _ => true | .mapIter _ _ _ _ => true | _ => false
theorem IterR.keep {w w' : World} {r b : Nat} {l left : List (K3 × Value)} (h : IterR w r b l left) (k : ∀ (i : Nat) (o : Obj),w.heap[i]? = some o → isWk o = true → w'.heap[i]? = some o) : IterR w' r b l left := by
 obtain ⟨es,clk,seen,h1,h2,h3⟩ := h
 exact ⟨es,clk,seen,k b _ h1 rfl,k r _ h2 rfl,h3⟩
theorem IterR.ext {w w' : World} {r b : Nat} {l left : List (K3 × Value)} (h : IterR w r b l left) (k : Ext w w') : IterR w' r b l left := h.keep fun i o hi _ => by
 rw [Below.block k i (Array.getElem?_eq_some_iff.1 hi).1]; exact hi
theorem run_next3 {P : Program} {w : World} {ty : TypeId} {r b clk : Nat} {es : Array MapEntry} {seen : Array Nat} (hb : w.heap[b]? = some (.map es clk)) (hr : w.heap[r]? = some (.mapIter (some b) clk seen clk)) (hold : ∀ x ∈ es.toList,x.born < clk) :
  ((leftOf es seen).size = 0 ∧ (Instr.next (.pointer (some ⟨r,0,none⟩)) false ty).run P w = .ok (.tuple #[.bool false]) w) ∨
  ∃ (j : Nat) (hj : j < (leftOf es seen).size),∃ w' : World,(Instr.next (.pointer (some ⟨r,0,none⟩)) false ty).run P w = .ok (.tuple #[.bool true,(leftOf es seen)[j].key,(leftOf es seen)[j].val]) w' ∧ w'.heap[r]? = some (.mapIter (some b) clk (seen.push (leftOf es seen)[j].born) clk) ∧ Upd r w w' := by
 have hlt := (Array.getElem?_eq_some_iff.1 hr).1
 simp only [Instr.next,getObj,Sem.run_bind,Sem.run,hr,hb,Result.andThen,next_test_false seen es clk clk hold (Nat.le_refl _),Bool.false_eq_true,if_false]
 unfold leftOf
 have hmem : ∀ x ∈ (Array.filter (fun e => !seen.contains e.born) es).toList,x.born < clk := fun x hx => hold x (by simp at hx ⊢; exact hx.1)
 generalize Array.filter (fun e => !seen.contains e.born) es = L at hmem ⊢
 have e1 : L.filter (fun x => decide (x.born < clk)) = L := Array.filter_eq_self.2 (fun x hx => by simpa using hmem x (by simpa using hx))
 have e2 : L.filter (fun x => decide (x.born ≥ clk)) = #[] := by
  rw [Array.filter_eq_empty_iff]
  intro x hx
  have := hmem x (by simpa using hx)
  simp
  omega
 simp only [e1,e2,Array.append_empty]
 by_cases h0 : L.size = 0
 ·left
  have : L = #[] := Array.eq_empty_of_size_eq_zero h0
  subst this
  refine ⟨rfl,?_⟩
  simp [choose,Sem.run,Question.forced]
 ·right
  have hne : L.isEmpty = false := by simp [Array.isEmpty,h0]
  simp only [hne,Bool.false_eq_true,if_false,Array.empty_append,Array.size_map]
  have hch : ∃ (j : Nat) (w1 : World),j < L.size ∧ w1.heap = w.heap ∧ w1.os = w.os ∧ w1.tape = w.tape ∧ w1.output = w.output ∧ (choose (Question.mapNext L.size)).run P w = .ok j w1 := by
   by_cases hf : L.size ≤ 1
   ·exact ⟨0,w,by omega,rfl,rfl,rfl,rfl,by simp [choose,Sem.run,Question.forced,hf]⟩
   ·exact ⟨_,w.drew,Nat.mod_lt _ (by omega),rfl,rfl,rfl,rfl,by
     simp only [choose,Sem.run,Question.forced,decide_eq_true_eq,hf,if_false,Question.cut]
     rfl⟩
  obtain ⟨j,w1,hj,hh,ho,ht,hop,hrun⟩ := hch
  refine ⟨j,hj,w1.putObj r (.mapIter (some b) clk (seen.push L[j].born) clk),?_,World.putObj_heap_same (by rw [hh]; exact hlt),⟨ho,ht,hop,by rw [World.putObj_size,hh],fun k hk => by rw [World.putObj_heap_other hk,hh]⟩⟩
  have hset : (setObj r (.mapIter (some b) clk (seen.push L[j].born) clk)).run P w1 = .ok () (w1.putObj r (.mapIter (some b) clk (seen.push L[j].born) clk)) := by
   simp [setObj,Sem.run,hh,hr,World.putObj]
  simp only [hrun,Array.getElem?_map,Array.getElem?_eq_getElem hj,Option.map_some,Sem.run_bind,hset,Result.andThen]
  rfl
theorem leftOf_list (es : Array MapEntry) (seen : Array Nat) : (leftOf es seen).toList = es.toList.filter fun e => !seen.contains e.born := by unfold leftOf; rw [Array.toList_filter]
theorem leftOf_push (es : Array MapEntry) (seen : Array Nat) (b : Nat) : (leftOf es (seen.push b)).toList = (leftOf es seen).toList.filter fun e : MapEntry => !(e.born == b) := by
 rw [leftOf_list,leftOf_list,List.filter_filter]
 refine List.filter_congr fun y _ => ?_
 simp only [Array.contains_push,Bool.not_or,Bool.and_comm]
theorem filter_split {α : Type} (q : α → Bool) : ∀ {l1 l2 : List α} {x : α},q x = false → (∀ y ∈ l1,q y = true) → (∀ y ∈ l2,q y = true) → (l1 ++ x :: l2).filter q = l1 ++ l2 := by
 intro l1 l2 x hx h1 h2
 rw [List.filter_append,List.filter_cons_of_neg (by simp [hx]),List.filter_eq_self.2 h1,List.filter_eq_self.2 h2]
section
variable {P : Program} {n : Nat} {L : Env} {w : World} {d : Option Tmp} {ty : TypeId} {pos : String} {af : Array Edge} {g : Option (Nat × Bool)}
theorem w_range3 {t k e : TypeId} {x : Operand} {b : Nat} {l : List (K3 × Value)} (ht : P.underlying t = some (.map k e)) (hx : evO L x = some (.map (some b))) (hm : MapR w b l) :
  Wl P n ⟨d,.range t x,ty,pos,af,g⟩ L w (fun v w' => v = .pointer (some ⟨w.heap.size,0,none⟩) ∧ Ext w w' ∧ IterR w' w.heap.size b l l) := w_run fun a hF => by
 obtain ⟨es,clk,hb,h1,h2,h3⟩ := hm
 refine ⟨_,w.alloc (.mapIter (some b) clk #[] clk),?_,rfl,⟨rfl,rfl,rfl,by simp,fun i hi => Below.heap_alloc _ _ i hi⟩,es,clk,#[],?_,World.alloc_heap_new w _,h1,h2,h3,?_⟩
 ·simp [execOp,hF.eval hx,run_range_map w t k e b es clk ht hb]
 ·exact (Below.heap_alloc _ _ b (Array.getElem?_eq_some_iff.1 hb).1).trans hb
 ·rw [show leftOf es #[] = es from by unfold leftOf; simp]; exact h1
theorem w_next3 {it : Operand} {r b : Nat} {l left : List (K3 × Value)} (hx : evO L it = some (.pointer (some ⟨r,0,none⟩))) (h : IterR w r b l left) :
  Wl P n ⟨d,.next it false,ty,pos,af,g⟩ L w (fun v w' => (v = .tuple #[.bool false] ∧ left = [] ∧ w = w') ∨
   (∃ l1 x l2,left = l1 ++ x :: l2 ∧ v = .tuple #[.bool true,encK x.1,x.2] ∧ IterR w' r b l (l1 ++ l2) ∧ Upd r w w' ∧ (Instr.entry (.pointer (some ⟨r,0,none⟩))).run P w' = .ok (.tuple #[encK x.1,x.2]) w')) := w_run fun a hF => by
 obtain ⟨es,clk,seen,hb,hr,h1,h2,h3,h4⟩ := h
 rcases run_next3 (P := P) (ty := ty) hb hr h2 with ⟨h0,hrun⟩ | ⟨j,hj,w',hrun,hr',hu⟩
 ·refine ⟨_,w,by simp [execOp,hF.eval hx,hrun],.inl ⟨rfl,?_,rfl⟩⟩
  have : (leftOf es seen).toList = [] := by rw [Array.eq_empty_of_size_eq_zero h0]
  rw [this] at h4
  exact List.map_eq_nil_iff.1 h4.symm
 ·have hjl : j < (leftOf es seen).toList.length := by simpa using hj
  have hsp : (leftOf es seen).toList = (leftOf es seen).toList.take j ++ (leftOf es seen)[j] :: (leftOf es seen).toList.drop (j + 1) := by
   have := List.take_append_drop j (leftOf es seen).toList
   rw [List.drop_eq_getElem_cons hjl] at this
   exact this.symm
  have hsp4 := h4
  rw [hsp,List.map_append,List.map_cons] at hsp4
  obtain ⟨l1,r1,hl,e1,e2⟩ := List.map_eq_append_iff.1 hsp4.symm
  obtain ⟨x,l2,hl2,ex,e3⟩ := List.map_eq_cons_iff.1 e2
  subst hl2
  have hxk : (leftOf es seen)[j].key = encK x.1 ∧ (leftOf es seen)[j].val = x.2 := by
   have := ex
   unfold encE at this
   simp only [Prod.mk.injEq] at this
   exact ⟨this.1.symm,this.2.symm⟩
  have hbr : r ≠ b := fun e => by rw [e,hb] at hr; cases hr
  have hmem : (leftOf es seen)[j] ∈ es.toList := by
   have h : (leftOf es seen)[j] ∈ (leftOf es seen).toList := by simp
   rw [leftOf_list] at h
   exact (List.mem_filter.1 h).1
  have hb' : w'.heap[b]? = some (.map es clk) := (hu.block b (Ne.symm hbr)).trans hb
  refine ⟨.tuple #[.bool true,encK x.1,x.2],w',by simp [execOp,hF.eval hx,hrun,hxk.1,hxk.2],.inr ⟨l1,x,l2,hl,rfl,⟨es,clk,_,hb',hr',h1,h2,h3,?_⟩,hu,?_⟩⟩
  ·have hnd : ((leftOf es seen).toList.map (·.born)).Nodup := by
    rw [leftOf_list]
    exact (List.Sublist.map _ List.filter_sublist).nodup h3
   have e := leftOf_push es seen (leftOf es seen)[j].born
   rw [e,hsp]
   rw [hsp,List.map_append,List.map_cons,List.nodup_append] at hnd
   obtain ⟨n1,n2,n3⟩ := hnd
   have e3' : ∀ y ∈ (leftOf es seen).toList.take j,(fun e : MapEntry => !(e.born == (leftOf es seen)[j].born)) y = true := fun y hy => by
    have := n3 _ (List.mem_map.2 ⟨y,hy,rfl⟩) (leftOf es seen)[j].born (by simp)
    simpa using this
   have e4' : ∀ y ∈ (leftOf es seen).toList.drop (j + 1),(fun e : MapEntry => !(e.born == (leftOf es seen)[j].born)) y = true := fun y hy => by
    have := (List.nodup_cons.1 n2).1
    simp only [Bool.not_eq_true',beq_eq_false_iff_ne,ne_eq]
    exact fun e => this (List.mem_map.2 ⟨y,hy,e⟩)
   rw [filter_split (fun e : MapEntry => !(e.born == (leftOf es seen)[j].born)) (by simp) e3' e4',List.map_append,List.map_append,e1,e3]
  ·have hf : es.find? (·.born == (leftOf es seen)[j].born) = some (leftOf es seen)[j] := by rw [← Array.find?_toList]; exact find_born _ es.toList h3 hmem
   simp only [Instr.entry,getObj,Sem.run_bind,Sem.run,hr',hb',Result.andThen,Array.back?_push,bne_self_eq_false,Bool.false_eq_true,if_false,hf,hxk.1,hxk.2]
   rfl
theorem w_entry3 {it : Operand} {r : Nat} {v : Value} (hx : evO L it = some (.pointer (some ⟨r,0,none⟩))) (h : (Instr.entry (.pointer (some ⟨r,0,none⟩))).run P w = .ok v w) :
  Wl P n ⟨d,.entry it,ty,pos,af,g⟩ L w (fun u w' => u = v ∧ w = w') := w_run fun a hF => ⟨v,w,by simp [execOp,hF.eval hx,h],rfl,rfl⟩
end
end Go.Gx
namespace Go.Gx
open Go.RowKit
section
variable {P : Program} {n : Nat} {L : Env} {w : World} {d : Option Tmp} {ty : TypeId} {pos : String} {af : Array Edge} {g : Option (Nat × Bool)}
theorem t_capS {t e : TypeId} {x : Operand} {p : Option Addr} {l c : Nat} (hu : P.underlying t = some (.slice e)) (hx : evO L x = some (.slice p l c)) : Tm P n ⟨d,.call { callee := .builtin .cap,args := #[x],argTypes := #[t] },ty,pos,af,g⟩ L w (.int .i64 c) := fun a ha w' _ => by
 simp [execOp,resolve,invoke,builtin,ha.eval hx,Builtin.cap_,run_underlying hu,goInt]
theorem w_copyT {t t' e : TypeId} {x y : Operand} {b o dl dc k size : Nat} {ag : Bool} {u : Value} {cur cs : List Value} (hu : P.underlying t = some (.slice e)) (ht : Ty P e size ag) (hv : Var w b cur e) (hx : evO L x = some (.slice (some ⟨b,o,none⟩) dl dc)) (hy : evO L y = some u) (hs : SlC w u size k cs)
  (hl : o + min k dl * size ≤ cur.length) (h1 : ∀ v ∈ cs.take (min k dl * size),v.oneCell' = true) :
  Wl P n ⟨d,.call { callee := .builtin .copy,args := #[x,y],argTypes := #[t,t'] },ty,pos,af,g⟩ L w (fun _ w' => Upd b w w' ∧ Var w' b (cur.take o ++ cs.take (min k dl * size) ++ cur.drop (o + min k dl * size)) e) := w_run fun a hF => by
 obtain ⟨hl1,p,cap,rfl,hkc,hd⟩ := hs
 obtain ⟨m,hm⟩ : ∃ m,min k dl = m := ⟨_,rfl⟩
 have hm' : Nat.min k dl = m := hm
 have hmk : m ≤ k := by omega
 simp only [hm] at hl ⊢
 have hlt : (cs.take (m * size)).length = m * size := by
  rw [List.length_take,hl1]
  exact Nat.min_eq_left (Nat.mul_le_mul_right _ (hmk))
 have hfc : (Builtin.firstCells size (m) (.slice p k cap)).run P w = .ok (cs.take (m * size)).toArray w := by
  cases p with
  | none =>
   have hc : cap = 0 := hd.elim id fun ⟨b,o,h,_⟩ => by cases h
   have hk : k = 0 := by omega
   subst hk
   have hm0 : m = 0 := by omega
   simp [Builtin.firstCells,hm0]
  | some ad =>
   refine run_firstCells_some w size _ ad _ _ _ hlt fun j v hj => ?_
   rcases hd with h0 | ⟨b',o',hp,hc⟩
   ·have hk : k = 0 := by omega
    subst hk
    have hm0 : m = 0 := by omega
    subst hm0
    simp at hj
   ·cases hp
    rw [addr_add]
    refine hc j v ?_
    rw [List.getElem?_take] at hj
    split at hj
    ·exact hj
    ·cases hj
 have hst := run_storeCells_at (P := P) b o e (cs.take (m * size)) 0 cur.toArray w hv (by simp only [hlt]; simpa using hl) (fun v hv' => h1 v (by rw [hm]; exact hv'))
 simp only [Nat.add_zero,List.toList_toArray,hlt] at hst
 refine ⟨goInt (m),w.setRow b (cur.take o ++ cs.take (m * size) ++ cur.drop (o + m * size)).toArray,?_,Upd.setRow _ _ _,?_⟩
 ·simp [execOp,resolve,invoke,builtin,hF.eval hx,hF.eval hy,Builtin.copy_,run_underlying hu,Builtin.lenOf,ht.sz,hm',hfc,hst]
 ·exact setRow_heap w b cur.toArray _ e _ hv
end
theorem own_wholeG {w : World} {B n e size : Nat} {v : Value} {xs : List Value} (h : w.ownsRow B e size v n xs) : (v = .slice none 0 0 ∧ n = 0) ∨ ∃ g cap sp,v = .slice (some ⟨g,0,none⟩) n cap ∧ B ≤ g ∧ n ≤ cap ∧ cap ≤ maxLen ∧ sp.length = (cap - n) * size ∧ Var w g (xs ++ sp) e := by
 obtain ⟨hl,h | ⟨g,cap,cur,rfl,hB,hc,h1,h2,h3,h4⟩⟩ := h
 ·exact .inl h
 ·refine .inr ⟨g,cap,cur.toList.drop (n * size),rfl,hB,h1,h2,?_,?_⟩
  ·rw [List.length_drop,Array.length_toList,h3,Nat.mul_sub_right_distrib]
  ·unfold Var
   rw [← h4,List.take_append_drop]
   simpa using hc
theorem whole_ownG {w : World} {B g n cap e size : Nat} {xs sp : List Value} (hB : B ≤ g) (hk : xs.length = n * size) (h1 : n ≤ cap) (h2 : cap ≤ maxLen) (hs : sp.length = (cap - n) * size) (hv : Var w g (xs ++ sp) e) : w.ownsRow B e size (.slice (some ⟨g,0,none⟩) n cap) n xs := by
 refine ⟨hk,.inr ⟨g,cap,(xs ++ sp).toArray,rfl,hB,hv,h1,h2,?_,?_⟩⟩
 ·simp [hk,hs]; rw [← Nat.add_mul]; congr 1; omega
 ·simp [← hk]
structure Ko (e B : Nat) (w w' : World) : Prop where
 base : Below B w w'
 var : ∀ b cs t,(t ≠ e ∨ b < B) → Var w b cs t → Var w' b cs t
theorem Ko.refl (e B : Nat) (w : World) : Ko e B w w := ⟨Below.refl _ _,fun _ _ _ _ h => h⟩
theorem Ko.trans {e B : Nat} {a b c : World} (h : Ko e B a b) (k : Ko e B b c) : Ko e B a c := ⟨h.base.trans k.base,fun x cs t h1 h2 => k.var x cs t h1 (h.var x cs t h1 h2)⟩
theorem Ko.le {e B : Nat} {w w' : World} (h : Ko e B w w') : w.heap.size ≤ w'.heap.size := h.base.size
theorem Ext.ko {e B : Nat} {w w' : World} (h : Ext w w') (hB : B ≤ w.heap.size) : Ko e B w w' := ⟨h.mono hB,fun _ _ _ _ h2 => h2.ext h⟩
theorem Upd.ko {e B b : Nat} {cs : List Value} {w w' : World} (h : Upd b w w') (hv : Var w b cs e) (hB : B ≤ b) : Ko e B w w' := ⟨⟨h.os,h.tape,h.output,Nat.le_of_eq h.size.symm,fun k hk => h.block k (by omega)⟩,fun x cs' t h1 h2 => h2.upd h (by
 rcases h1 with h1 | h1
 ·exact h2.ne hv h1
 ·omega)⟩
theorem grown_ko {e B n size : Nat} {v : Value} {xs : List Value} {w w' : World} (hown : w.ownsRow B e size v n xs) (hg : w.grownBy w' v.ownBlock) (hB : B ≤ w.heap.size) : Ko e B w w' := ⟨(Below.refl _ w).grown hg hB (fun k hk => (hown.lt k hk).1),fun x cs t h1 h2 => by
 rcases h1 with h1 | h1
 ·exact h2.grown hown hg h1
 ·unfold Var at h2 ⊢
  rw [hg.block x (Var.lt (cs := cs) (t := t) h2) (fun e => by have := (hown.lt x e.symm).1; omega)]
  exact h2⟩
theorem own_ko {e B B2 e2 size n : Nat} {w w' : World} {v : Value} {xs : List Value} (h : w.ownsRow B2 e2 size v n xs) (k : Ko e B w w') (he : e2 ≠ e) : w'.ownsRow B2 e2 size v n xs := by
 refine ⟨h.1,h.2.imp id ?_⟩
 rintro ⟨g,cap,cur,rfl,a1,a2,a3⟩
 have hv : Var w g cur.toList e2 := by unfold Var; simpa using a2
 have := k.var g _ e2 (.inl he) hv
 exact ⟨g,cap,cur,rfl,a1,by unfold Var at this; simpa using this,a3⟩
end Go.Gx
namespace Go.Gx
open Go.RowKit
section
variable {P : Program} {n : Nat} {N : Kn} {X : Exit → Kn} {L : Env} {w : World}
inductive Rv (P : Program) (ops : Array Oper) (n : Nat) (bars : List Nat) (K : Kn) : (World → Prop) → List Oper → Env → World → Prop
 | done {S : World → Prop} {L : Env} {w : World} (h : K L w) : Rv P ops n bars K S [] L w
 | skip {S : World → Prop} {o : Oper} {rest : List Oper} {L : Env} {w : World} (h : gNo ops o L ∨ gOff ops o L) (hd : dOk n o.dst = true) (k : Rv P ops n bars K S rest (putE o.dst undef L) w) : Rv P ops n bars K S (o :: rest) L w
 | tame {S : World → Prop} {o : Oper} {rest : List Oper} {L : Env} {w : World} (v : Value) (hg : gYes ops o L) (hw : wildKind o.op = false) (h : TmS P n S o L v) (hd : dOk n o.dst = true)
   (k : Rv P ops n bars K S rest (putE o.dst v L) w) : Rv P ops n bars K S (o :: rest) L w
 | wild {S : World → Prop} {o : Oper} {rest : List Oper} {L : Env} {w : World} (R : Value → World → Prop) (hg : gYes ops o L) (hk : wildKind o.op = true) (h : Wl P n o L w R) (S' : World → Prop) (hz : ∀ v w',R v w' → S' w') (hb : bars.contains rest.length = true ∨ S' = S) (hd : dOk n o.dst = true)
   (k : ∀ v w',R v w' → Rv P ops n bars K S' rest (putE o.dst v L) w') : Rv P ops n bars K S (o :: rest) L w
theorem Rv.any {ops : Array Oper} {bars : List Nat} {K : Kn} (hs : Region.noSelect ops = true) : ∀ (plan : List Nat) (S : World → Prop) (L : Env) (w : World) (listed : Array Bool) (fuel : Nat),
  planOk ops bars plan listed = true → plan.length ≤ fuel → Closed ops listed → (plan ≠ [] → S w) → Rv P ops n bars K S (planOps ops plan) L w → ∀ a,Fr n a L →
  wpAnyB P ops (Tq n K X) S (nextBar ops bars plan) fuel listed a w := by
 intro plan
 induction plan with
 | nil =>
  intro S L w listed fuel hp hf hcl hSw h a ha
  have hr : Region.ready .any ops listed = [] := by simpa [planOk] using hp
  cases h with
  | done h => exact wpAnyB_done hr ⟨_,ha,h⟩ _
 | cons i plan ih =>
  intro S L w listed fuel hp hf hcl hSw h a ha
  obtain ⟨fuel,rfl⟩ : ∃ m,fuel = m + 1 := ⟨fuel - 1,by simp at hf; omega⟩
  have hS := hSw (by simp)
  have hf' : plan.length ≤ fuel := by simpa using hf
  simp only [planOk,Bool.and_eq_true] at hp
  obtain ⟨hp,hp'⟩ := hp
  cases ho : ops[i]? with
  | none => simp [ho] at hp
  | some o =>
   simp only [ho,Bool.and_eq_true] at hp
   obtain ⟨hr,hp⟩ := hp
   have hri : i ∈ Region.ready .any ops listed := by simpa using hr
   have hcl' := hcl.set hri
   have hoo : ops.getD i default = o := by simp [Array.getD_eq_getD_getElem?,ho]
   have hlen : (planOps ops plan).length = plan.length := by simp [planOps]
   have hops : planOps ops (i :: plan) = o :: planOps ops plan := by simp only [planOps,List.map_cons,hoo]
   rw [hops] at h
   have tameCase : wildKind o.op = false → ∀ v,(∀ a,Fr n a L → YieldsIf P ops S o v a) → Rv P ops n bars K S (planOps ops plan) (putE o.dst v L) w → dOk n o.dst = true →
     wpAnyB P ops (Tq n K X) S (nextBar ops bars (i :: plan)) (fuel + 1) listed a w := by
    intro hk v hy k hd
    rw [if_neg (by simp [hk])] at hp
    simp only [Bool.and_eq_true,Bool.not_eq_true',Bool.or_eq_true] at hp
    obtain ⟨⟨hfr,hnb⟩,hbar⟩ := hp
    have hnext : nextBar ops bars (i :: plan) = nextBar ops bars plan := nextBar_no hnb
    rw [hnext]
    refine wpAnyB_first ho (Region.noSelect_spec hs) (fun _ _ _ h => h) ?_ fuel listed a w (Region.free_spec ho hfr) hri hcl (hy a ha) hS (ih _ _ w _ fuel hp' hf' hcl' (fun _ => hS) k _ (ha.put hd _))
    rcases hbar with hbar | ⟨hne,hanc⟩
    ·have hb := Nat.eq_of_beq_eq_true hbar
     have hil := ready_lt hri
     exact ⟨by omega,fun l _ _ hm => by have := ready_lt hm; omega⟩
    ·have hne' : nextBar ops bars plan ≠ i := fun e => by rw [e,Nat.beq_refl] at hne; cases hne
     refine ⟨hne',fun l hl hi hm => ?_⟩
     have hself : ∀ j ∈ [nextBar ops bars plan],Anc ops (nextBar ops bars plan) j := fun j hj => by
      have hj' : j = nextBar ops bars plan := by simpa using hj
      rw [hj']
      exact Anc.self
     have hA := ancs_sound (b := nextBar ops bars plan) (nextBar ops bars plan + 1) _ hself i (by simpa using hanc)
     rcases hl.anc hm hA with e | e
     ·exact hne' e.symm
     ·rw [hi] at e; cases e
   have wildCase : wildKind o.op = true → ∀ R : Value → World → Prop,Region.wanted o (yielded ops a.tmps) = true → Wl P n o L w R → ∀ S' : World → Prop,(∀ v w',R v w' → S' w') → (bars.contains plan.length = true ∨ S' = S) → dOk n o.dst = true →
     (∀ v w',R v w' → Rv P ops n bars K S' (planOps ops plan) (putE o.dst v L) w') → wpAnyB P ops (Tq n K X) S (nextBar ops bars (i :: plan)) (fuel + 1) listed a w := by
    intro hk R hg h S' hz hb hd k
    rw [if_pos hk] at hp
    have hrs : Region.ready .any ops listed = [i] := by simpa using hp
    refine ⟨fun h0 => (by rw [h0] at hrs; cases hrs),?_⟩
    intro j hj
    obtain rfl : j = i := by rw [hrs] at hj; simpa using hj
    unfold wpOp
    simp only [ho]
    rw [if_pos hg]
    refine .inl (h a ha _ _ fun v w' hv => ?_)
    have hih := ih S' _ w' _ fuel hp' hf' hcl' (fun _ => hz v w' hv) (k v w' hv) _ (ha.put hd v)
    cases hbc : bars.contains plan.length with
    | true =>
     have hnext : nextBar ops bars (j :: plan) = j := nextBar_yes hbc
     rw [hnext]
     exact ⟨fun _ => wpAny_of_B _ _ _ _ hih,fun e => absurd rfl e⟩
    | false =>
     have hSS : S' = S := hb.resolve_left (by rw [hbc]; decide)
     subst hSS
     have hnext : nextBar ops bars (j :: plan) = nextBar ops bars plan := nextBar_no hbc
     rw [hnext]
     exact ⟨fun _ => wpAny_of_B _ _ _ _ hih,fun _ => ⟨hz v w' hv,hih⟩⟩
   cases h with
   | skip h hd k =>
    cases hk : wildKind o.op with
    | false => exact tameCase hk undef (fun a ha => .inr ⟨h.elim (fun h => h.wanted ha) (fun h => h.wanted ha),rfl⟩) k hd
    | true =>
     rw [if_pos hk] at hp
     have hrs : Region.ready .any ops listed = [i] := by simpa using hp
     refine ⟨fun h0 => (by rw [h0] at hrs; cases hrs),?_⟩
     intro j hj
     obtain rfl : j = i := by rw [hrs] at hj; simpa using hj
     unfold wpOp
     simp only [ho]
     have hn : Region.wanted o (yielded ops a.tmps) = false := h.elim (fun h => h.wanted ha) (fun h => h.wanted ha)
     rw [if_neg (by simp [hn])]
     have hih := ih _ _ w _ fuel hp' hf' hcl' (fun _ => hS) k _ (ha.put hd _)
     refine ⟨fun _ => wpAny_of_B _ _ _ _ hih,fun e => ⟨hS,?_⟩⟩
     have hnext : nextBar ops bars (j :: plan) = nextBar ops bars plan := by
      by_cases hbc : bars.contains plan.length = true
      ·exact absurd (nextBar_yes hbc).symm e
      ·exact nextBar_no (by simpa using hbc)
     rw [hnext]
     exact hih
   | tame v hg hw h hd k => exact tameCase hw v (fun a ha => .inl ⟨hg.wanted ha,fun w' hw' => h a ha w' hw'⟩) k hd
   | wild R hg hk h S' hz hb hd k =>
    rw [hlen] at hb
    exact wildCase hk R (hg.wanted ha) h S' hz hb hd k
theorem Wp.drawV {id : Nat} {ops : Array Oper} (S : World → Prop) (plan bars : List Nat) (hm : P.follows .mixedOrders = true) (hs : Region.noSelect ops = true)
  (hp : (planOk ops bars plan (Array.replicate ops.size false) && Nat.ble plan.length ops.size) = true)
  (h : ∀ w1,Ext w w1 → w1.heap = w.heap → S w1 ∧ Rv P ops n bars N S (planOps ops plan) L w1) : Wp P n (.region id ops true) N X L w := fun a ha => by
 simp only [Bool.and_eq_true] at hp
 obtain ⟨h1,h2⟩ := h _ (Ext.drew w) rfl
 exact wp_region_any hm (wpAny_of_B _ _ _ _ (Rv.any hs plan S L w.drew _ ops.size hp.1 (Nat.le_of_ble_eq_true hp.2) (Closed.start ops) (fun _ => h1) h2 a ha))
variable {ops : Array Oper} {S : World → Prop} {bars : List Nat} {K : Kn} {dd : Tmp} {op : Op} {rest : List Oper} {v : Value} {ty : TypeId} {pos : String} {af : Array Edge} {g : Option (Nat × Bool)}
theorem Rv.tm (hg : gYes ops ⟨some dd,op,ty,pos,af,g⟩ L) (hw : wildKind op = false) (h : TmS P n S ⟨some dd,op,ty,pos,af,g⟩ L v) (hd : Nat.blt dd n = true) (k : Rv P ops n bars K S rest ((dd,v) :: L) w) :
  Rv P ops n bars K S (⟨some dd,op,ty,pos,af,g⟩ :: rest) L w := .tame v hg hw h hd k
theorem Rv.sk (hg : gNo ops ⟨some dd,op,ty,pos,af,g⟩ L ∨ gOff ops ⟨some dd,op,ty,pos,af,g⟩ L) (hd : Nat.blt dd n = true) (k : Rv P ops n bars K S rest ((dd,undef) :: L) w) :
  Rv P ops n bars K S (⟨some dd,op,ty,pos,af,g⟩ :: rest) L w := .skip hg hd k
theorem Rv.wd {R : Value → World → Prop} (hg : gYes ops ⟨some dd,op,ty,pos,af,g⟩ L) (hk : wildKind op = true) (h : Wl P n ⟨some dd,op,ty,pos,af,g⟩ L w R) (hd : Nat.blt dd n = true) (hz : ∀ v w',R v w' → S w')
  (k : ∀ v w',R v w' → Rv P ops n bars K S rest ((dd,v) :: L) w') : Rv P ops n bars K S (⟨some dd,op,ty,pos,af,g⟩ :: rest) L w := .wild R hg hk h S hz (.inr rfl) hd k
theorem Rv.wn {R : Value → World → Prop} (hg : gYes ops ⟨none,op,ty,pos,af,g⟩ L) (hk : wildKind op = true) (h : Wl P n ⟨none,op,ty,pos,af,g⟩ L w R) (hz : ∀ v w',R v w' → S w')
  (k : ∀ v w',R v w' → Rv P ops n bars K S rest L w') : Rv P ops n bars K S (⟨none,op,ty,pos,af,g⟩ :: rest) L w := .wild R hg hk h S hz (.inr rfl) rfl k
theorem Rv.wdB {R : Value → World → Prop} (S' : World → Prop) (hg : gYes ops ⟨some dd,op,ty,pos,af,g⟩ L) (hk : wildKind op = true) (h : Wl P n ⟨some dd,op,ty,pos,af,g⟩ L w R) (hd : Nat.blt dd n = true) (hb : bars.contains rest.length = true) (hz : ∀ v w',R v w' → S' w')
  (k : ∀ v w',R v w' → Rv P ops n bars K S' rest ((dd,v) :: L) w') : Rv P ops n bars K S (⟨some dd,op,ty,pos,af,g⟩ :: rest) L w := .wild R hg hk h S' hz (.inl hb) hd k
theorem Rv.wnB {R : Value → World → Prop} (S' : World → Prop) (hg : gYes ops ⟨none,op,ty,pos,af,g⟩ L) (hk : wildKind op = true) (h : Wl P n ⟨none,op,ty,pos,af,g⟩ L w R) (hb : bars.contains rest.length = true) (hz : ∀ v w',R v w' → S' w')
  (k : ∀ v w',R v w' → Rv P ops n bars K S' rest L w') : Rv P ops n bars K S (⟨none,op,ty,pos,af,g⟩ :: rest) L w := .wild R hg hk h S' hz (.inl hb) rfl k
end
section
variable {P : Program} {n : Nat} {N : Kn} {X : Exit → Kn} {L : Env} {w : World}
def Qs (P : Program) (ops : Array Oper) (n : Nat) (K : Kn) (X : Exit → Kn) (S : World → Prop) (listed : Array Bool) (L : Env) (w : World) (m : Nat) : Prop :=
 ∀ a,Fr n a L → Closed ops listed → ∀ fuel,m ≤ fuel → S w → wpAnyB P ops (Tq n K X) S ops.size fuel listed a w
variable {ops : Array Oper} {K : Kn} {S : World → Prop} {listed : Array Bool} {m : Nat}
theorem Qs.done (hr : Region.ready .any ops listed = []) (h : K L w) : Qs P ops n K X S listed L w m := fun a ha _ fuel _ _ => wpAnyB_done hr ⟨_,ha,h⟩ fuel
theorem Qs.tame (hs : Region.noSelect ops = true) {o : Oper} {v : Value} (i : Nat) (ho : ops[i]? = some o) (hc : tameQ ops listed i = true) (hg : gYes ops o L) (h : TmS P n S o L v) (hd : dOk n o.dst = true)
  (k : Qs P ops n K X S (listed.setIfInBounds i true) (putE o.dst v L) w m) : Qs P ops n K X S listed L w (m + 1) := fun a ha hcl fuel hf hS => by
 obtain ⟨fuel,rfl⟩ : ∃ f,fuel = f + 1 := ⟨fuel - 1,by omega⟩
 simp only [tameQ,Bool.and_eq_true] at hc
 obtain ⟨hr,hfr⟩ := hc
 have hri : i ∈ Region.ready .any ops listed := by simpa using hr
 have hil := ready_lt hri
 exact wpAnyB_first ho (Region.noSelect_spec hs) (fun _ _ _ h => h) ⟨by omega,fun l _ _ hm => by have := ready_lt hm; omega⟩ fuel listed a w (Region.free_spec ho hfr) hri hcl (.inl ⟨hg.wanted ha,fun w' hw' => h a ha w' hw'⟩) hS (k _ (ha.put hd _) (hcl.set hri) fuel (by omega) hS)
theorem Qs.skip (hs : Region.noSelect ops = true) {o : Oper} (i : Nat) (ho : ops[i]? = some o) (hc : tameQ ops listed i = true) (h : gNo ops o L ∨ gOff ops o L) (hd : dOk n o.dst = true)
  (k : Qs P ops n K X S (listed.setIfInBounds i true) (putE o.dst undef L) w m) : Qs P ops n K X S listed L w (m + 1) := fun a ha hcl fuel hf hS => by
 obtain ⟨fuel,rfl⟩ : ∃ f,fuel = f + 1 := ⟨fuel - 1,by omega⟩
 simp only [tameQ,Bool.and_eq_true] at hc
 obtain ⟨hr,hfr⟩ := hc
 have hri : i ∈ Region.ready .any ops listed := by simpa using hr
 have hil := ready_lt hri
 exact wpAnyB_first ho (Region.noSelect_spec hs) (fun _ _ _ h => h) ⟨by omega,fun l _ _ hm => by have := ready_lt hm; omega⟩ fuel listed a w (Region.free_spec ho hfr) hri hcl (.inr ⟨h.elim (fun h => h.wanted ha) (fun h => h.wanted ha),rfl⟩) hS (k _ (ha.put hd _) (hcl.set hri) fuel (by omega) hS)
def StepS (P : Program) (ops : Array Oper) (n : Nat) (K : Kn) (X : Exit → Kn) (S : World → Prop) (listed : Array Bool) (L : Env) (w : World) (m : Nat) (i : Nat) : Prop :=
 ∃ (o : Oper) (R : Value → World → Prop),ops[i]? = some o ∧ gYes ops o L ∧ Wl P n o L w R ∧ dOk n o.dst = true ∧ (∀ v w',R v w' → S w') ∧ ∀ v w',R v w' → Qs P ops n K X S (listed.setIfInBounds i true) (putE o.dst v L) w' m
theorem Qs.alt {is : List Nat} (hr : Region.ready .any ops listed = is) (hne : is ≠ []) (h : ∀ i ∈ is,StepS P ops n K X S listed L w m i) : Qs P ops n K X S listed L w (m + 1) := fun a ha hcl fuel hf hS => by
 obtain ⟨fuel,rfl⟩ : ∃ f,fuel = f + 1 := ⟨fuel - 1,by omega⟩
 refine ⟨fun h0 => absurd (hr ▸ h0) hne,fun i hi => ?_⟩
 have hil := ready_lt hi
 have hi' := hi
 rw [hr] at hi
 obtain ⟨o,R,ho,hg,hw,hd,k1,k⟩ := h i hi
 unfold wpOp
 simp only [ho]
 rw [if_pos (hg.wanted ha)]
 refine .inl (hw a ha _ _ fun v w' hv => ⟨fun e => absurd e (by omega),fun _ => ?_⟩)
 have k1 := k1 v w' hv
 exact ⟨k1,k v w' hv _ (ha.put hd v) (hcl.set hi') fuel (by omega) k1⟩
theorem Qs.alt1 {i : Nat} (hr : Region.ready .any ops listed = [i]) (h1 : StepS P ops n K X S listed L w m i) : Qs P ops n K X S listed L w (m + 1) := Qs.alt hr (by simp) fun k hk => by
 obtain rfl : k = i := by simpa using hk
 exact h1
theorem Qs.alt2 {i j : Nat} (hr : Region.ready .any ops listed = [i,j]) (h1 : StepS P ops n K X S listed L w m i) (h2 : StepS P ops n K X S listed L w m j) : Qs P ops n K X S listed L w (m + 1) := Qs.alt hr (by simp) fun k hk => by
 rcases List.mem_cons.1 hk with rfl | hk
 ·exact h1
 ·obtain rfl : k = j := by simpa using hk
  exact h2
theorem Wp.drawU {id : Nat} (S : World → Prop) (hm : P.follows .mixedOrders = true) (h : ∀ w1,Ext w w1 → w1.heap = w.heap → S w1 ∧ Qs P ops n K X S (Array.replicate ops.size false) L w1 ops.size) : Wp P n (.region id ops true) K X L w := fun a ha => by
 obtain ⟨h1,h2⟩ := h _ (Ext.drew w) rfl
 exact wp_region_any hm (wpAny_of_B _ _ _ _ (h2 a ha (Closed.start ops) _ (Nat.le_refl _) h1))
end
end Go.Gx
