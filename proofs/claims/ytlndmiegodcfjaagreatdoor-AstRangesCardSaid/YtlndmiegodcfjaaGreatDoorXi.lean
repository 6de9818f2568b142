/- slices.SortFunc at diagnostics, laid by the kit own shelf. -/
import Derived.Shelf.SlSortCmp.NoneTotal
import Derived.Ground.SlsfProg
import Derived.Test.YtlndmiegodcfjaaGreatDoorProg
import Derived.Test.YtlndmiegodcfjaaGreatDoorXh
import Derived.Test.YtlndmiegodcfjaaGreatDoorXa
import Derived.Test.YtlndmiegodcfjaaGreatDoorXg
import Derived.Shelf.Strings.Builder1
import Derived.Ground.Names2Prog
import Derived.Ground.SlgnProg
import Derived.Test.YtlndmiegodcfjaaGreatDoorXb
set_option linter.unusedVariables false
set_option linter.unusedSimpArgs false
namespace Go.Proofs
open Go.Shelf
def Tryz.sortDg_ren : Go.Shelf.Ren := ⟨fun | 6 => 23 | 15 => 42 | 14 => 41 | 28 => 97 | 29 => 98 | 20 => 89 | 21 => 90 | 22 => 91 | 23 => 92 | 24 => 93 | 25 => 94 | 26 => 95 | 27 => 96 | 46 => 137 | 47 => 138 | 48 => 139 | 49 => 140 | 50 => 141 | 57 => 179 | n => n,fun | 22 => 27 | 24 => 63 | 25 => 64 | 3 => 3 | 39 => 88 | 0 => 0 | 53 => 97 | 55 => 150 | 4 => 4 | 46 => 142 | 45 => 141 | 50 => 146 | 5 => 5 | 9 => 9 | 66 => 168 | 70 => 72 | 76 => 196 | 77 => 69 | n => n,fun | n => n⟩
theorem Tryz.sortDg : Go.Proofs.SlLaysF0.n6 Tryz.prog Tryz.sortDg_ren := {
 mixed := by kernel_rfl
 f6 := ⟨Tryz.f23.name,by decide,Tryz.func23.trans (congrArg some (by kernel_rfl))⟩
 f14 := ⟨Tryz.f41.name,by decide,Tryz.func41.trans (congrArg some (by kernel_rfl))⟩
 f15 := Tryz.func42.trans (congrArg some (by kernel_rfl))
 f20 := ⟨Tryz.f89.name,by decide,Tryz.func89.trans (congrArg some (by kernel_rfl))⟩
 f21 := ⟨Tryz.f90.name,by decide,Tryz.func90.trans (congrArg some (by kernel_rfl))⟩
 f22 := ⟨Tryz.f91.name,by decide,Tryz.func91.trans (congrArg some (by kernel_rfl))⟩
 f23 := ⟨Tryz.f92.name,by decide,Tryz.func92.trans (congrArg some (by kernel_rfl))⟩
 f24 := ⟨Tryz.f93.name,by decide,Tryz.func93.trans (congrArg some (by kernel_rfl))⟩
 f25 := ⟨Tryz.f94.name,by decide,Tryz.func94.trans (congrArg some (by kernel_rfl))⟩
 f26 := ⟨Tryz.f95.name,by decide,Tryz.func95.trans (congrArg some (by kernel_rfl))⟩
 f27 := ⟨Tryz.f96.name,by decide,Tryz.func96.trans (congrArg some (by kernel_rfl))⟩
 f28 := Tryz.func97.trans (congrArg some (by kernel_rfl))
 f29 := Tryz.func98.trans (congrArg some (by kernel_rfl))
 f46 := ⟨Tryz.f137.name,by decide,Tryz.func137.trans (congrArg some (by kernel_rfl))⟩
 f47 := Tryz.func138.trans (congrArg some (by kernel_rfl))
 f48 := Tryz.func139.trans (congrArg some (by kernel_rfl))
 f49 := ⟨Tryz.f140.name,by decide,Tryz.func140.trans (congrArg some (by kernel_rfl))⟩
 f50 := ⟨Tryz.f141.name,by decide,Tryz.func141.trans (congrArg some (by kernel_rfl))⟩
 f57 := ⟨Tryz.f179.name,by decide,Tryz.func179.trans (congrArg some (by kernel_rfl))⟩
 t0 := Tryz.underlying0
 a0 := Tryz.isAgg0
 z0 := Tryz.sizeOf0
 v0 := Tryz.zeroValue0
 t3 := Tryz.underlying3
 a3 := Tryz.isAgg3
 z3 := Tryz.sizeOf3
 v3 := Tryz.zeroValue3
 t4 := Tryz.underlying4
 a4 := Tryz.isAgg4
 z4 := Tryz.sizeOf4
 v4 := Tryz.zeroValue4
 t5 := Tryz.underlying5
 a5 := Tryz.isAgg5
 z5 := Tryz.sizeOf5
 v5 := Tryz.zeroValue5
 t9 := Tryz.underlying9
 a9 := Tryz.isAgg9
 z9 := Tryz.sizeOf9
 v9 := Tryz.zeroValue9
 t22 := Tryz.underlying27
 a22 := Tryz.isAgg27
 z22 := Tryz.sizeOf27
 v22 := Tryz.zeroValue27
 t25 := Tryz.underlying64
 a25 := Tryz.isAgg64
 z25 := Tryz.sizeOf64
 v25 := Tryz.zeroValue64
 t39 := Tryz.underlying88
 a39 := Tryz.isAgg88
 z39 := Tryz.sizeOf88
 v39 := Tryz.zeroValue88
 t45 := Tryz.underlying141
 a45 := Tryz.isAgg141
 z45 := Tryz.sizeOf141
 v45 := Tryz.zeroValue141
 t46 := Tryz.underlying142
 a46 := Tryz.isAgg142
 z46 := Tryz.sizeOf142
 v46 := Tryz.zeroValue142
 t50 := Tryz.underlying146
 a50 := Tryz.isAgg146
 z50 := Tryz.sizeOf146
 v50 := Tryz.zeroValue146
 t53 := Tryz.underlying97
 a53 := Tryz.isAgg97
 z53 := Tryz.sizeOf97
 v53 := Tryz.zeroValue97
 t55 := Tryz.underlying150
 a55 := Tryz.isAgg150
 z55 := Tryz.sizeOf150
 v55 := Tryz.zeroValue150
 t66 := Tryz.underlying168
 a66 := Tryz.isAgg168
 z66 := Tryz.sizeOf168
 v66 := Tryz.zeroValue168
 t70 := Tryz.underlying72
 a70 := Tryz.isAgg72
 z70 := Tryz.sizeOf72
 v70 := Tryz.zeroValue72
 t76 := Tryz.underlying196
 a76 := Tryz.isAgg196
 z76 := Tryz.sizeOf196
 v76 := Tryz.zeroValue196
 t77 := Tryz.underlying69
 a77 := Tryz.isAgg69
 z77 := Tryz.sizeOf69
 v77 := Tryz.zeroValue69 }
end Go.Proofs
namespace Go.Proofs.YtlndmiegodcfjaaGreatDoor.Ast
open Go.Gx Go.RowKit Go.Lib Go.Sort Go.Shelf
theorem qG (a b : Int) : (a < b ∧ mP a b = -1) ∨ (a = b ∧ mP a b = 0) ∨ (b < a ∧ mP a b = 1) := by
 unfold mP
 rcases Int.lt_trichotomy a b with h | h | h
 ·exact .inl ⟨h,if_pos h⟩
 ·subst h
  exact .inr (.inl ⟨rfl,by simp⟩)
 ·exact .inr (.inr ⟨h,by rw [if_neg (by omega),if_pos h]⟩)
theorem pA (a b : Dg) : rA a b < 0 ↔ (a.2.1 < b.2.1 ∨ (a.2.1 = b.2.1 ∧ (a.2.2 < b.2.2 ∨ (a.2.2 = b.2.2 ∧ a.1 < b.1)))) := by
 have e0 : mP 0 0 = 0 := rfl;unfold rA
 rcases qG a.2.1 b.2.1 with ⟨h1,e1⟩ | ⟨h1,e1⟩ | ⟨h1,e1⟩ <;> rcases qG a.2.2 b.2.2 with ⟨h2,e2⟩ | ⟨h2,e2⟩ | ⟨h2,e2⟩ <;> rcases qG a.1 b.1 with ⟨h3,e3⟩ | ⟨h3,e3⟩ | ⟨h3,e3⟩
 all_goals
  rw [e0,e1,e2,e3];simp only [tJ];simp;omega
theorem Dt : SWO (ltOf rA) where
 irrefl x := by
  unfold ltOf;rw [decide_eq_false_iff_not,pA];omega
 trans x y z h1 h2 := by
  unfold ltOf at *;rw [decide_eq_true_iff,pA] at *;omega
 ntrans x y z h1 h2 := by
  unfold ltOf at *;rw [decide_eq_false_iff_not,pA] at *;omega
theorem yE (x y : Dg) (h1 : ltOf rA x y = false) (h2 : ltOf rA y x = false) : x = y := by
 unfold ltOf at *;rw [decide_eq_false_iff_not,pA] at *;obtain ⟨a,b,c⟩ := x;obtain ⟨d,e,f⟩ := y;simp only at h1 h2;have e1 : a = d := by omega
 have e2 : b = e := by omega
 have e3 : c = f := by omega
 rw [e1,e2,e3]
theorem Gd (blk off size : Nat) (w : World) : CmpLays Tryz.prog 24 #[] fG 5 rA blk off size w := fun m os dk _ x y => by
 refine Calls.mono (yD (a := x) (b := y)) fun e w' ⟨v,he,hv,hx,hd⟩ => ⟨by rw [he,hv],F9 hx hd⟩
end Go.Proofs.YtlndmiegodcfjaaGreatDoor.Ast
namespace Go.Proofs.YtlndmiegodcfjaaGreatDoor.Ast
open Go.Gx Go.RowKit Go.Lib Go.Sort Go.Shelf
open Par
theorem jS {α : Type} {f : α → List Value} {k : Nat} (hk : ∀ a,(f a).length = k) (h0 : 0 < k) : ∀ (l : List α) (t : Nat),(aK f l)[t]? = (l[t / k]?).bind fun a => (f a)[t % k]?
 | [],t => by simp [aK]
 | a :: l,t => by
  have e : aK f (a :: l) = f a ++ aK f l := by simp [aK]
  rw [e]
  by_cases h : t < k
  ·rw [List.getElem?_append_left (by rw [hk]; exact h),Nat.div_eq_of_lt h,Nat.mod_eq_of_lt h]
   rfl
  ·have h1 : t / k = (t - k) / k + 1 := by
    rw [← Nat.sub_add_cancel (Nat.le_of_not_lt h),Nat.add_sub_cancel,Nat.add_div_right _ h0]
   have h2 : t % k = (t - k) % k := Nat.mod_eq_sub_mod (Nat.le_of_not_lt h);rw [List.getElem?_append_right (by rw [hk]; omega),hk,jS hk h0 l (t - k),h1,h2];rfl
theorem rX (l : List Dg) : (flatK fG 5 l.toArray).toList = aK fG l := by
 apply List.ext_getElem?;intro t;rw [jS dR (by decide)]
 by_cases h : t < l.length * 5
 ·have h1 : t / 5 < l.length := by omega
  have h2 : t % 5 < 5 := Nat.mod_lt _ (by decide);have h3 : t < (flatK fG 5 l.toArray).size := by rw [size_flatK]; simpa using h
  have hg := get_flatK fG 5 l.toArray t (by simpa using h);rw [getElem!_pos _ t h3] at hg;rw [Array.getElem?_toList,Array.getElem?_eq_getElem h3,hg,List.getElem?_eq_getElem h1];have h4 : (l.toArray[t / 5]!) = l[t / 5] := by rw [getElem!_pos l.toArray (t / 5) (by simpa using h1)]; simp
  rw [h4];have h5 : t % 5 < (fG l[t / 5]).length := by rw [dR]; exact h2
  rw [getElem!_pos (fG l[t / 5]) (t % 5) h5];exact (List.getElem?_eq_getElem h5).symm
 ·have h1 : l.length ≤ t / 5 := by omega
  rw [List.getElem?_eq_none (by rw [Array.length_toList,size_flatK]; simpa using h),List.getElem?_eq_none h1];rfl
theorem Ba {l l' : List Dg} {sp : List Value} (hl : l'.length = l.length) : putCells id 0 (flatK fG 5 l'.toArray) (aK fG l ++ sp).toArray = (aK fG l' ++ sp).toArray := by
 have hf := rX l';have n1 : (aK fG l).length = l.length * 5 := aQ dR _;have n2 : (aK fG l').length = l'.length * 5 := aQ dR _;have hs : (flatK fG 5 l'.toArray).size = l'.length * 5 := by simp
 apply Array.ext_getElem?;intro k;unfold putCells;rw [Array.getElem?_mapIdx];simp only [List.getElem?_toArray]
 by_cases h : k < l.length * 5
 ·rw [List.getElem?_append_left (by omega),List.getElem?_append_left (by omega),List.getElem?_eq_getElem (show k < (aK fG l).length by omega)]
  simp only [Option.map_some];rw [if_pos ⟨Nat.zero_le _,by omega⟩,← hf,Array.getElem?_toList,Nat.sub_zero,Array.getElem?_eq_getElem (by omega),getElem!_pos _ k (by omega)];rfl
 ·rw [List.getElem?_append_right (by omega),List.getElem?_append_right (by omega),n1,n2,hl]
  cases hq : sp[k - l.length * 5]? with
  | none => rfl
  | some v =>
   simp only [Option.map_some];rw [if_neg (by omega)]
theorem tK {w : World} {g n : Nat} {os : Array Obj} {l l' : List Dg} {sp : List Value} (hv : Var w g (aK fG l ++ sp) 63) (hl : l'.length = l.length) :
  Var (sortWorldK fG 5 w g 0 n l'.toArray os) g (aK fG l' ++ sp) 63 ∧ Bw (fun z => z < w.heap.size ∧ z ≠ g) w (sortWorldK fG 5 w g 0 n l'.toArray os) := by
 have hlt := hv.lt;have hh : (sortWorldK fG 5 w g 0 n l'.toArray os).heap = w.heap.modify g (onCells (putCells id 0 (flatK fG 5 l'.toArray))) ++ os := rfl;constructor
 ·unfold Var
  rw [hh,Array.getElem?_append_left (by simpa using hlt),Array.getElem?_modify,if_pos rfl,show w.heap[g]? = _ from hv];simp only [Option.map_some,onCells,Ba hl]
 ·refine ⟨rfl,rfl,rfl,by rw [hh]; simp,fun z hz => ?_⟩
  rw [hh,Array.getElem?_append_left (by simpa using hz.1),Array.getElem?_modify,if_neg (fun e => hz.2 e.symm)]
theorem Bb {w : World} {g : Nat} {l : List Dg} {sp : List Value} (hv : Var w g (aK fG l ++ sp) 63) : HoldsK fG 5 w g 0 l.toArray := fun j hj => by
 have hs : (flatK fG 5 l.toArray).size = l.length * 5 := by simp
 have hf := rX l;have n1 : (aK fG l).length = l.length * 5 := aQ dR _;constructor
 ·refine hv.cells j _ ?_
  rw [List.getElem?_append_left (by omega),← hf,Array.getElem?_toList,Array.getElem?_eq_getElem hj,getElem!_pos _ j hj];rfl
 ·have hh : w.heap[g]? = some (.cells (aK fG l ++ sp).toArray 63 (0,0)) := hv
  simp [World.frozen?,hh]
def lJ (ds : List Dg) : List Dg := ds.mergeSort fun x y => !(ltOf rA) y x
theorem fD (ds : List Dg) : (lJ ds).length = ds.length := List.length_mergeSort _
theorem Du : ∀ args w,(callFunc 24 args).run Tryz.prog w = .ok (.enter 24 args) w := enters_of Tryz.func24 (by kernel_rfl) rfl
theorem Ge {F : Fs} {w : World} {b : Nat} {src : ByteArray} {off : Int} {ds : List Dg} {dv : Value} (h : BdV F w b src off ds dv) (hl : ds.length ≤ 1000000) :
  Cl Tryz.prog 23 #[dv,.func (.func 24) #[] #[]] w (fun u w' => BdV F w' b src off (lJ ds) dv ∧ Bw F w w') := by
 rcases bH h.row with ⟨rfl,h0⟩ | ⟨g,cap,sp,rfl,g1,g2,g3,g4,g5⟩
 ·have e : ds = [] := List.length_eq_zero_iff.1 h0
  subst e;refine Calls.mono (AnyF.slices_SortFunc_none (L := Tryz.sortDg) none 0 (.func (.func 24) #[] #[]) w) fun e w' ⟨he,hw⟩ => ?_;subst hw;have e0 : lJ ([] : List Dg) = [] := List.length_eq_zero_iff.1 (fD []);exact ⟨_,he,by rw [e0]; exact h,Bw.refl _ _⟩
 ·have hH := Bb g5
  have hb : g ≠ b := Var.ne g5 h.var (by decide);have hg := h.nd g rfl;have hlt := g5.lt;have hc := AnyQ.slices_SortFunc_total Tryz.sortDg 5 Tryz.isAgg63 Tryz.sizeOf63 fG dR (fun x v hv => by
   simp only [fG,List.mem_cons,List.not_mem_nil,or_false] at hv
   rcases hv with rfl | rfl | rfl | rfl | rfl <;> rfl) rA Dt 24 #[] g 0 cap ds.toArray w Du (Gd _ _ _ _) hH hlt (by simp; omega) yE
  rw [show ds.toArray.size = ds.length from by simp] at hc;refine Calls.mono hc fun e w' ⟨he,n,os,hw⟩ => ?_;rw [show ds.toArray.toList = ds from by simp] at hw;have hw : w' = sortWorldK fG 5 w g 0 n (lJ ds).toArray os := hw;subst hw;obtain ⟨s1,s2⟩ := tK (n := n) (os := os) g5 (fD ds);have s3 : Bw F w (sortWorldK fG 5 w g 0 n (lJ ds).toArray os) := s2.sub fun z hz => ⟨h.und z hz,fun e => hg (e ▸ hz)⟩;refine ⟨_,he,⟨fun z hz => Nat.lt_of_lt_of_le (h.und z hz) s2.size,?_,?_,h.nb,h.nd⟩,s3⟩
  ·exact (s2.block b ⟨h.var.lt,Ne.symm hb⟩).trans h.var
  ·rw [fD]
   exact bK g1 ((aQ dR _).trans (by rw [fD])) g2 g3 g4 s1
end Go.Proofs.YtlndmiegodcfjaaGreatDoor.Ast
namespace Go.Proofs.YtlndmiegodcfjaaGreatDoor.Ast
set_option maxRecDepth 20000
open Go.Gx Go.RowKit Go.Lib
open Lexi (Asc)
open Par
theorem rB {w : World} {v : Value} {ds : List Dg} (hz : SlC w v 5 ds.length (aK fG ds)) (hl : ds.length < 2) : Cl Tryz.prog 25 #[v] w (fun u w' => u = v ∧ w = w') := by
 refine Cl.enter Tryz.func25 rfl Tryz.ntmps25 rfl rfl (.sr (.a2 rfl (.done (.seq (.sr (.m2 rfl (.t2 (dD hz Tryz.underlying27 rfl) ?_)))))))
 first | refine .tq (bN rfl rfl (by omega)) rfl ?_ | refine .tq (bO rfl rfl (by omega)) rfl ?_ | refine .tq (cT rfl rfl) rfl ?_
 refine .done (.condT rfl (.sr (.m2 rfl (.a2 rfl (.done (Wp.ret ?_))))));exact ⟨[_],⟨rfl,trivial⟩,rfl,rfl⟩
theorem oQ (xs : Array Value) (v : Value) (o : Nat) (h : xs[o]? = some v) (w : World) : (part 3 xs o).run Tryz.prog w = .ok v w := by
 have h1 := bA.ag w;have h2 := bA.sz w;simp [part,h1,h2,h]
theorem Hh (xs : Array Value) (v : Value) (o : Nat) (h : xs[o]? = some v) (w : World) : (part 9 xs o).run Tryz.prog w = .ok v w := by
 have h1 := hY.ag w;have h2 := hY.sz w;simp [part,h1,h2,h]
theorem Jl (d : Nat) (p q : ByteArray) (w : World) : (Op.equalIn (d + 1) 9 (.string p) (.string q)).run Tryz.prog w = .ok (decide (p = q)) w := by
 rw [run_equalIn_string w d 9 p q Tryz.underlying9]
 first | rw [lP] | rw [← beq_toListBytes,lP]
theorem Dv : (Tryz.prog.fieldsOf 63).toList.map (fun f => (f.name != "_",f.type,f.offset)) = [(true,3,0),(true,3,1),(true,3,2),(true,3,3),(true,9,4)] := by kernel_rfl
theorem Gf : Tryz.prog.underlying 63 = some (.struct (Tryz.prog.fieldsOf 63)) := by kernel_rfl
theorem Jm (a b c d : Int) (e : ByteArray) (x y z u : Int) (v : ByteArray) (w : World) : (Op.equal 63 (.agg #[.int .i64 a,.int .i64 b,.int .i64 c,.int .i64 d,.string e]) (.agg #[.int .i64 x,.int .i64 y,.int .i64 z,.int .i64 u,.string v])).run Tryz.prog w = .ok (a == x && (b == y && (c == z && (d == u && decide (e = v))))) w := by
 obtain ⟨f0,f1,f2,f3,f4,hf,n0,t0,o0,n1,t1,o1,n2,t2,o2,n3,t3,o3,n4,t4,o4⟩ : ∃ f0 f1 f2 f3 f4 : Field,(Tryz.prog.fieldsOf 63).toList = [f0,f1,f2,f3,f4] ∧ f0.name ≠ "_" ∧ f0.type = 3 ∧ f0.offset = 0 ∧ f1.name ≠ "_" ∧ f1.type = 3 ∧ f1.offset = 1 ∧ f2.name ≠ "_" ∧ f2.type = 3 ∧ f2.offset = 2 ∧ f3.name ≠ "_" ∧ f3.type = 3 ∧ f3.offset = 3 ∧ f4.name ≠ "_" ∧ f4.type = 9 ∧ f4.offset = 4 := by
  have hf := Dv;generalize (Tryz.prog.fieldsOf 63).toList = fs at hf ⊢
  rcases fs with _ | ⟨f0,_ | ⟨f1,_ | ⟨f2,_ | ⟨f3,_ | ⟨f4,_ | ⟨f5,r⟩⟩⟩⟩⟩⟩
  ·cases hf
  ·simp at hf
  ·simp at hf
  ·simp at hf
  ·simp at hf
  ·simp only [List.map_cons,List.map_nil,List.cons.injEq,Prod.mk.injEq,and_true,bne_iff_ne,ne_eq] at hf
   obtain ⟨⟨n0,t0,o0⟩,⟨n1,t1,o1⟩,⟨n2,t2,o2⟩,⟨n3,t3,o3⟩,n4,t4,o4⟩ := hf;exact ⟨f0,f1,f2,f3,f4,rfl,n0,t0,o0,n1,t1,o1,n2,t2,o2,n3,t3,o3,n4,t4,o4⟩
  ·simp at hf
 unfold Op.equal;rw [show Op.maxDepth = 9999 + 1 from rfl,run_equalIn_struct w 9999 63 _ _ Gf (by kernel_rfl),hf];have e1 : ∀ p q : Int,(Op.equalIn 9999 3 (.int .i64 p) (.int .i64 q)).run Tryz.prog w = .ok (p == q) w := fun p q => run_equalIn_int w 9998 3 .i64 .i64 p q Tryz.underlying3;have e2 : (Op.equalIn 9999 9 (.string e) (.string v)).run Tryz.prog w = .ok (decide (e = v)) w := Jl 9998 e v w;have p0 := oQ #[.int .i64 a,.int .i64 b,.int .i64 c,.int .i64 d,.string e] (.int .i64 a) 0 rfl w;have p1 := oQ #[.int .i64 a,.int .i64 b,.int .i64 c,.int .i64 d,.string e] (.int .i64 b) 1 rfl w;have p2 := oQ #[.int .i64 a,.int .i64 b,.int .i64 c,.int .i64 d,.string e] (.int .i64 c) 2 rfl w;have p3 := oQ #[.int .i64 a,.int .i64 b,.int .i64 c,.int .i64 d,.string e] (.int .i64 d) 3 rfl w;have p4 := Hh #[.int .i64 a,.int .i64 b,.int .i64 c,.int .i64 d,.string e] (.string e) 4 rfl w;have q0 := oQ #[.int .i64 x,.int .i64 y,.int .i64 z,.int .i64 u,.string v] (.int .i64 x) 0 rfl w;have q1 := oQ #[.int .i64 x,.int .i64 y,.int .i64 z,.int .i64 u,.string v] (.int .i64 y) 1 rfl w;have q2 := oQ #[.int .i64 x,.int .i64 y,.int .i64 z,.int .i64 u,.string v] (.int .i64 z) 2 rfl w;have q3 := oQ #[.int .i64 x,.int .i64 y,.int .i64 z,.int .i64 u,.string v] (.int .i64 u) 3 rfl w;have q4 := Hh #[.int .i64 x,.int .i64 y,.int .i64 z,.int .i64 u,.string v] (.string v) 4 rfl w;have ea := e1 a x;have eb := e1 b y;have ec := e1 c z;have ed := e1 d u;generalize (a == x) = r1 at ea ⊢;generalize (b == y) = r2 at eb ⊢;generalize (c == z) = r3 at ec ⊢;generalize (d == u) = r4 at ed ⊢;generalize decide (e = v) = r5 at e2 ⊢;simp only [Op.eqFields,t0,t1,t2,t3,t4,o0,o1,o2,o3,o4,n0,n1,n2,n3,n4,ne_eq,not_false_eq_true,if_true,Sem.run_bind,p0,q0,Result.andThen_ok,ea]
 cases r1
 ·simp
 ·simp [p1,q1,eb]
  cases r2
  ·simp
  ·simp [p2,q2,ec]
   cases r3
   ·simp
   ·simp [p3,q3,ed]
    cases r4
    ·simp
    ·simp [p4,q4,e2]
     cases r5 <;> simp
def fM : List Dg → List Dg
 | [] => []
 | a :: l => match l with
  | [] => [a]
  | b :: m => if a = b then fM (b :: m) else a :: fM (b :: m)
theorem jY (a b : Dg) (m : List Dg) : fM (a :: b :: m) = if a = b then fM (b :: m) else a :: fM (b :: m) := rfl
theorem oA : ∀ (l : List Dg) (x y : Dg),fM (l ++ [x,y]) = if x = y then fM (l ++ [x]) else fM (l ++ [x]) ++ [y]
 | [],x,y => by
  show fM [x,y] = if x = y then fM [x] else fM [x] ++ [y]
  rw [jY]
  split
  ·rename_i h; rw [h]
  ·rfl
 | [a],x,y => by
  show fM (a :: x :: [y]) = if x = y then fM [a,x] else fM [a,x] ++ [y]
  have h0 := oA [] x y;simp only [List.nil_append] at h0;rw [jY a x [y],jY a x [],h0]
  split <;> split <;> rfl
 | a :: b :: l,x,y => by
  have h0 := oA (b :: l) x y;simp only [List.cons_append] at h0 ⊢;rw [jY a b (l ++ [x,y]),jY a b (l ++ [x]),h0]
  split <;> split <;> rfl
theorem zL (l : List Dg) : (fM l).length ≤ l.length := by
 induction l with
 | nil => exact Nat.le_refl _
 | cons a l ih =>
  cases l with
  | nil => exact Nat.le_refl _
  | cons b m =>
   rw [jY]
   split
   ·simp only [List.length_cons] at ih ⊢; omega
   ·simp only [List.length_cons] at ih ⊢; omega
theorem Dw (l : List Dg) (m : Nat) (h : m + 1 < l.length) : l.take (m + 2) = l.take m ++ [l[m],l[m + 1]] := by
 have e1 : l.take (m + 1) = l.take m ++ [l[m]'(by omega)] := by rw [List.take_succ_eq_append_getElem]
 have e2 : l.take (m + 2) = l.take (m + 1) ++ [l[m + 1]] := by rw [List.take_succ_eq_append_getElem]
 rw [e2,e1,List.append_assoc];rfl
theorem nI (l : List Dg) (m : Nat) (h : m < l.length) : l.take (m + 1) = l.take m ++ [l[m]] := by rw [List.take_succ_eq_append_getElem]
theorem rY (l : List Dg) (m : Nat) (h : m + 1 < l.length) : fM (l.take (m + 2)) = if l[m] = l[m + 1] then fM (l.take (m + 1)) else fM (l.take (m + 1)) ++ [l[m + 1]] := by
 rw [Dw l m h,oA,← nI l m (by omega)]
theorem tL {w : World} {g : Nat} {cur : List Dg} {sp : List Value} (hv : Var w g (aK fG cur ++ sp) 63) (i : Nat) (hi : i < cur.length) : bF w g (i * 5) (fG cur[i]) := by
 have h := hv.cells;have h2 := h.sub (i * 5) 5;rw [Nat.zero_add] at h2;have e : ((aK fG cur ++ sp).drop (i * 5)).take 5 = fG cur[i] := by
  have hl : (aK fG cur).length = cur.length * 5 := aQ dR _;rw [List.drop_append_of_le_length (by omega),List.take_append_of_le_length (by rw [List.length_drop]; omega),eA dR cur i hi]
 rw [e] at h2;exact h2
theorem Gg {cur : List Dg} {sp : List Value} (i : Nat) (hi : i < cur.length) (d : Dg) : (aK fG cur ++ sp).take (i * 5) ++ fG d ++ (aK fG cur ++ sp).drop (i * 5 + (fG d).length) = aK fG (cur.set i d) ++ sp := by
 have e : ∀ (l : List Dg) (i : Nat),i < l.length → aK fG (l.set i d) = (aK fG l).take (i * 5) ++ fG d ++ (aK fG l).drop (i * 5 + 5) := by
  intro l
  induction l with
  | nil => intro i hi; exact absurd hi (Nat.not_lt_zero _)
  | cons a l ih =>
   intro i hi;have ea : ∀ (x : Dg) (m : List Dg),aK fG (x :: m) = fG x ++ aK fG m := fun x m => by simp [aK]
   cases i with
   | zero =>
    rw [List.set_cons_zero,ea,ea,Nat.zero_mul,List.take_zero,List.nil_append,Nat.zero_add,List.drop_left' (dR a)]
   | succ i =>
    rw [List.set_cons_succ,ea,ea,ih i (by simpa using hi)];rw [show (i + 1) * 5 = (fG a).length + i * 5 from by rw [dR]; omega,List.take_length_add_append,show (fG a).length + i * 5 + 5 = (fG a).length + (i * 5 + 5) from by omega,List.drop_length_add_append];simp only [List.append_assoc]
 have hl : (aK fG cur).length = cur.length * 5 := aQ dR _;rw [e cur i hi,dR,List.take_append_of_le_length (by omega),List.drop_append_of_le_length (by omega),List.append_assoc,List.append_assoc,List.append_assoc]
def eqB (a b : Dg) : Bool := (a.1 == b.1 && ((0 : Int) == 0 && (a.2.1 == b.2.1 && (a.2.2 == b.2.2 && decide ((⟨#[]⟩ : ByteArray) = ⟨#[]⟩)))))
theorem zM (a b : Dg) : eqB a b = decide (a = b) := by
 obtain ⟨x,y,z⟩ := a;obtain ⟨u,v,t⟩ := b;rw [Bool.eq_iff_iff];simp [eqB]
theorem yF {F : Fs} {w : World} {g cap : Nat} {ds : List Dg} {sp : List Value} (hv : Var w g (aK fG ds ++ sp) 63) (h1 : ds.length ≤ cap) (hsp : sp.length = (cap - ds.length) * 5) (hg : ¬ F g) (hF : Und F w.heap.size) (h2 : 2 ≤ ds.length) (hl : ds.length ≤ 1000000) :
  Cl Tryz.prog 25 #[.slice (some ⟨g,0,none⟩) ds.length cap] w (fun u w' => u = .slice (some ⟨g,0,none⟩) (fM ds).length cap ∧ (∃ sp',Var w' g (aK fG (fM ds) ++ sp') 63) ∧ Bw F w w') := by
 obtain ⟨n,hn⟩ : ∃ n,ds.length = n := ⟨_,rfl⟩;have hB : Bw F w w := Bw.refl F w;rw [hn];refine Cl.enter Tryz.func25 rfl Tryz.ntmps25 rfl rfl (.sr (.a2 rfl (.done (.seq (.sr (.m2 rfl (.t2 (dC Tryz.underlying27 rfl) ?_)))))))
 first | refine .tq (bN rfl rfl (by omega)) rfl ?_ | refine .tq (bO rfl rfl (by omega)) rfl ?_ | refine .tq (cT rfl rfl) rfl ?_
 refine .done (.condF rfl (Wp.skip (.seq (.sr (.a2 rfl (.done (Wp.block ?_)))))));refine Wp.loop (ι := Nat) (fun k => [(0,.slice (some ⟨g,0,none⟩) n cap),(3,.int .i64 k)])
  (fun k w' => 1 ≤ k ∧ k ≤ n ∧ fM (ds.take k) = ds.take k ∧ Var w' g (aK fG ds ++ sp) 63 ∧ Bw F w w') (fun k => n - k) 1 (by repeat (first | exact .nil | refine .cons rfl ?_)) ⟨Nat.le_refl _,by omega,by rw [nI ds 0 (by omega)]; rfl,hv,hB⟩ ?_
 clear hv hB;rintro k w1 ⟨hk1,hkn,hcmp,hv,hB⟩
 by_cases hlt : k < n
 ·obtain ⟨j,rfl⟩ : ∃ j,k = j + 1 := ⟨k - 1,by omega⟩
  obtain ⟨a,ha⟩ : ∃ a,ds[j]'(by omega) = a := ⟨_,rfl⟩;obtain ⟨b,hb⟩ : ∃ b,ds[j + 1]'(by omega) = b := ⟨_,rfl⟩;have hu1 := hF;have hca := tL hv j (by omega);have hcb := tL hv (j + 1) (by omega);rw [ha] at hca;rw [hb] at hcb;have hstep := rY ds j (by omega);rw [ha,hb] at hstep;refine .seq (.sr (.m2 rfl (.m2 rfl (.t2 (dC Tryz.underlying27 rfl) ?_))))
  first | refine .tq (bN rfl rfl (by omega)) rfl ?_ | refine .tq (bO rfl rfl (by omega)) rfl ?_ | refine .tq (cT rfl rfl) rfl ?_
  refine .done (.condT rfl (Wp.skip (.seq (Wp.block ?_))));refine Wp.seq (Wp.draw [0,1,2,3,4,5,6,7,8,9] [] mixed (by kernel_rfl) (by kernel_rfl) ?_);intro w2 hx2 _;replace hv := hv.ext hx2;replace hca := hca.ext hx2;replace hcb := hcb.ext hx2;replace hB := uC hB hx2 hF;refine .m2 rfl (.m2 rfl ?_);refine .t2 (bI Tryz.underlying27 kT rfl rfl (by omega)) ?_;refine .t2 (bB rfl (by simpa using hcb) (by exact kT)) ?_;refine .m2 rfl (.m2 rfl ?_)
  first | refine .tq (eG rfl rfl (by omega)) rfl ?_ | refine .tq (kR rfl rfl) rfl ?_
  refine .t2 (bI Tryz.underlying27 kT rfl rfl (by omega)) ?_;refine .t2 (bB rfl (by simpa using hca) (by exact kT)) ?_;refine .t2 (B6 (b := eqB b a) (by kernel_rfl) (fun w => Jm _ _ _ _ _ _ _ _ _ _ w) rfl rfl) ?_;refine .done ?_;rw [zM]
  by_cases heq : b = a
  ·rw [show decide (b = a) = true from decide_eq_true heq]
   refine .condT rfl (.sr (.m2 rfl (.m2 rfl ?_)))
   first | refine .tq (dG Tryz.underlying27 kT rfl rfl rfl (by omega)) rfl ?_ | refine .tq (pI Tryz.underlying27 kT rfl rfl rfl) rfl ?_
   simp only [Int.toNat_natCast,Nat.zero_add,if_neg (show ¬ cap = j + 1 by omega)];refine .a2 rfl (.done (.seq (.sr (.a2 rfl (.done (Wp.block ?_))))));refine Wp.loop (ι := Nat × Nat × List Dg) (fun i => [(0,.slice (some ⟨g,0,none⟩) n cap),(3,.int .i64 i.2.1),(4,.slice (some ⟨g,(j + 1) * 5,none⟩) (n - (j + 1)) (cap - (j + 1))),(5,.int .i64 i.1)])
    (fun i w' => 1 ≤ i.1 ∧ i.1 ≤ n - (j + 1) ∧ 1 ≤ i.2.1 ∧ i.2.1 + 1 ≤ j + 1 + i.1 ∧ i.2.2.length = n ∧ i.2.2.take i.2.1 = fM (ds.take (j + 1 + i.1)) ∧ (∀ q,j + i.1 ≤ q → i.2.2[q]? = ds[q]?) ∧ Var w' g (aK fG i.2.2 ++ sp) 63 ∧ Bw F w w') (fun i => n - i.1) (1,j + 1,ds) (by repeat (first | exact .nil | refine .cons rfl ?_)) ⟨Nat.le_refl _,by simp only; omega,by simp only; omega,by simp only; omega,hn,by rw [show j + 1 + 1 = j + 2 from rfl,hstep,if_pos heq.symm]; exact hcmp.symm,fun q _ => rfl,hv,hB⟩ ?_
   clear hv hB hca hcb;rintro ⟨k2,kk,cur⟩ w5 ⟨i1,i2,i3,i4,i5,i6,i7,hv,hB⟩;simp only at i1 i2 i3 i4 i5 i6 i7 hv
   show Wp _ _ _ _ _ [(0,.slice (some ⟨g,0,none⟩) n cap),(3,.int .i64 kk),(4,.slice (some ⟨g,(j + 1) * 5,none⟩) (n - (j + 1)) (cap - (j + 1))),(5,.int .i64 k2)] w5
   by_cases hl2 : k2 < n - (j + 1)
   ·obtain ⟨m,rfl⟩ : ∃ m,k2 = m + 1 := ⟨k2 - 1,by omega⟩
    have q1 : j + 1 + m < cur.length := by omega
    have q2 : j + 1 + (m + 1) < cur.length := by omega
    obtain ⟨x,hx⟩ : ∃ x,cur[j + 1 + m] = x := ⟨_,rfl⟩;obtain ⟨y,hy⟩ : ∃ y,cur[j + 1 + (m + 1)] = y := ⟨_,rfl⟩;have ex : ds[j + 1 + m]'(by omega) = x := by
     have := i7 (j + 1 + m) (by omega);rw [List.getElem?_eq_getElem q1,List.getElem?_eq_getElem (by omega),hx] at this;exact (Option.some.inj this).symm
    have ey : ds[j + 1 + (m + 1)]'(by omega) = y := by
     have := i7 (j + 1 + (m + 1)) (by omega);rw [List.getElem?_eq_getElem q2,List.getElem?_eq_getElem (by omega),hy] at this;exact (Option.some.inj this).symm
    have hcx := tL hv _ q1;have hcy := tL hv _ q2;rw [hx] at hcx;rw [hy] at hcy;have hst2 := rY ds (j + 1 + m) (by omega);rw [ex,show ds[j + 1 + m + 1]'(by omega) = y from ey] at hst2;refine .seq (.sr (.m2 rfl (.m2 rfl (.t2 (dC Tryz.underlying27 rfl) ?_))))
    first | refine .tq (bN rfl rfl (by omega)) rfl ?_ | refine .tq (bO rfl rfl (by omega)) rfl ?_ | refine .tq (cT rfl rfl) rfl ?_
    refine .done (.condT rfl (Wp.skip (.seq (Wp.block ?_))));refine Wp.seq (Wp.draw [0,1,2,3,4,5,6,7,8,9] [] mixed (by kernel_rfl) (by kernel_rfl) ?_);intro w6 hx6 _;replace hv := hv.ext hx6;replace hcx := hcx.ext hx6;replace hcy := hcy.ext hx6;replace hB := uC hB hx6 hF;refine .m2 rfl (.m2 rfl ?_);refine .t2 (bI Tryz.underlying27 kT rfl rfl (by omega)) ?_;refine .t2 (bB rfl (by simpa [Nat.add_mul] using hcy) (by exact kT)) ?_;refine .m2 rfl (.m2 rfl ?_)
    first | refine .tq (eG rfl rfl (by omega)) rfl ?_ | refine .tq (kR rfl rfl) rfl ?_
    refine .t2 (bI Tryz.underlying27 kT rfl rfl (by omega)) ?_;refine .t2 (bB rfl (by simpa [Nat.add_mul] using hcx) (by exact kT)) ?_;refine .t2 (B7 (b := eqB y x) (by kernel_rfl) (fun w => Jm _ _ _ _ _ _ _ _ _ _ w) rfl rfl) ?_;refine .done ?_;rw [zM]
    by_cases he2 : y = x
    ·rw [show decide (y = x) = true from decide_eq_true he2]
     refine .condF rfl (Wp.skip (Wp.region (.m2 rfl ?_)))
     first | refine .tq (bC rfl rfl (by omega)) rfl ?_ | refine .tq (bV rfl rfl) rfl ?_
     refine .a2 rfl (.done ?_);refine ⟨(m + 1 + 1,kk,cur),by repeat (first | exact .nil | refine .cons rfl ?_),⟨by simp only; omega,by simp only; omega,i3,by simp only; omega,i5,?_,fun q hq => i7 q (by omega),hv,hB⟩,by simp only; omega⟩
     show cur.take kk = fM (ds.take (j + 1 + m + 2))
     rw [hst2,if_pos he2.symm];exact i6
    ·rw [show decide (y = x) = false from decide_eq_false he2]
     refine .condT rfl (.sr (.m2 rfl (.m2 rfl (.m2 rfl (.m2 rfl ?_)))));refine .t2 (bI Tryz.underlying27 kT rfl rfl (by omega)) ?_;refine .t2 (bB rfl (by simpa [Nat.add_mul] using hcy) (by exact kT)) ?_;refine .t2 (bI Tryz.underlying27 kT rfl rfl (by omega)) ?_;refine Rg.wn trivial (dZ (cs := fG y) hv (by simp; rfl) rfl rfl (by exact kT) (by rw [dR,List.length_append,aQ dR]; omega) (by intro u hu; simp only [fG,List.mem_cons,List.not_mem_nil,or_false] at hu; rcases hu with rfl | rfl | rfl | rfl | rfl <;> rfl)) ?_;rintro _ w8 ⟨hu8,hv8⟩;rw [Gg kk (by omega) y] at hv8;replace hB := hB.trans (Bw.upd hu8 hg);clear hv hcy
     
     refine .done (Wp.region (.m2 rfl ?_))
     first | refine .tq (bC rfl rfl (by omega)) rfl ?_ | refine .tq (bV rfl rfl) rfl ?_
     refine .a2 rfl (.done (Wp.region (.m2 rfl ?_)))
     first | refine .tq (bC rfl rfl (by omega)) rfl ?_ | refine .tq (bV rfl rfl) rfl ?_
     refine .a2 rfl (.done ?_);refine ⟨(m + 1 + 1,kk + 1,cur.set kk y),by repeat (first | exact .nil | refine .cons rfl ?_),⟨by simp only; omega,by simp only; omega,by simp only; omega,by simp only; omega,by simpa using i5,?_,fun q hq => ?_,hv8,hB⟩,by simp only; omega⟩
     ·show (cur.set kk y).take (kk + 1) = fM (ds.take (j + 1 + m + 2))
      rw [hst2,if_neg (fun e => he2 e.symm),nI _ kk (by simp; omega),List.getElem_set_self];rw [List.take_set,List.set_eq_of_length_le (by simp; omega)];exact congrArg (· ++ [y]) i6
     ·show (cur.set kk y)[q]? = ds[q]?
      simp only at hq;rw [List.getElem?_set_ne (by omega)];exact i7 q (by omega)
   ·obtain rfl : k2 = n - (j + 1) := by omega
    have hcl : cur.take kk = fM ds := by rw [i6,show j + 1 + (n - (j + 1)) = ds.length from by omega,List.take_length]
    have hkl : (fM ds).length = kk := by rw [← hcl,List.length_take]; omega
    have hlen : (aK fG cur ++ sp).length = cap * 5 := by rw [List.length_append,aQ dR,hsp]; omega
    refine .seq (.sr (.m2 rfl (.m2 rfl (.t2 (dC Tryz.underlying27 rfl) ?_))));refine .t2 (bO rfl rfl (by omega)) ?_;refine .done (.condF rfl (Wp.exit (.sr (.m2 rfl (.m2 rfl ?_)))))
    first | refine .tq (dG Tryz.underlying27 kT rfl rfl rfl (by omega)) rfl ?_ | refine .tq (pI Tryz.underlying27 kT rfl rfl rfl) rfl ?_
    simp only [Int.toNat_natCast,Nat.zero_add,if_neg (show ¬ cap = kk by omega)];refine Rg.wn trivial (B8 (size := 5) (z := .agg #[.int .i64 0,.int .i64 0,.int .i64 0,.int .i64 0,.string ⟨#[]⟩]) (zs := [.int .i64 0,.int .i64 0,.int .i64 0,.int .i64 0,.string ⟨#[]⟩]) Tryz.underlying27 Tryz.zeroValue63 rfl rfl hv rfl (by rw [hlen]; omega) (by simp [Value.oneCell'])) ?_;rintro _ w9 ⟨hu9,cur',hv9,h91,h92,h93⟩;replace hB := hB.trans (Bw.upd hu9 hg);have hfront : cur' = aK fG (fM ds) ++ cur'.drop (kk * 5) := by
     have e1 : cur'.take (kk * 5) = aK fG (fM ds) := by
      rw [h92,List.take_append_of_le_length (by rw [aQ dR]; omega),← hcl];have e2 : aK fG cur = aK fG (cur.take kk) ++ aK fG (cur.drop kk) := by rw [← fF,List.take_append_drop]
      rw [e2,List.take_left' (by rw [aQ dR,List.length_take]; omega)]
     rw [← e1,List.take_append_drop]
    rw [hfront] at hv9;refine .done (.sr (.m2 rfl (.m2 rfl ?_)))
    first | refine .tq (dG Tryz.underlying27 kT rfl rfl rfl (by omega)) rfl ?_ | refine .tq (pI Tryz.underlying27 kT rfl rfl rfl) rfl ?_
    simp only [Int.toNat_natCast,Nat.sub_zero,Int.toNat_zero,Nat.zero_mul,Nat.add_zero,ite_self,Int.zero_add];refine .a2 rfl (.done (Wp.ret ?_));exact ⟨[_],⟨rfl,trivial⟩,by rw [hkl] <;> rfl,⟨_,hv9⟩,hB⟩
  ·rw [show decide (b = a) = false from decide_eq_false heq]
   refine .condF rfl (Wp.skip (Wp.region (.m2 rfl ?_)))
   first | refine .tq (bC rfl rfl (by omega)) rfl ?_ | refine .tq (bV rfl rfl) rfl ?_
   refine .a2 rfl (.done ?_);refine ⟨j + 1 + 1,by repeat (first | exact .nil | refine .cons rfl ?_),⟨by omega,by omega,?_,hv,hB⟩,by omega⟩
   show fM (ds.take (j + 2)) = ds.take (j + 2)
   rw [hstep,if_neg (fun e => heq e.symm),hcmp,nI ds (j + 1) (by omega),hb]
 ·skip
  refine .seq (.sr (.m2 rfl (.m2 rfl (.t2 (dC Tryz.underlying27 rfl) ?_))))
  first | refine .tq (bN rfl rfl (by omega)) rfl ?_ | refine .tq (bO rfl rfl (by omega)) rfl ?_ | refine .tq (cT rfl rfl) rfl ?_
  refine .done (.condF rfl (Wp.exit (.sr (.m2 rfl (.a2 rfl (.done (Wp.ret ?_)))))));obtain rfl : k = ds.length := by omega
  rw [List.take_length] at hcmp;exact ⟨[_],⟨rfl,trivial⟩,by rw [hcmp,hn] <;> rfl,⟨_,by rw [hcmp]; exact hv⟩,hB⟩
end Go.Proofs.YtlndmiegodcfjaaGreatDoor.Ast
namespace Go.Proofs.YtlndmiegodcfjaaGreatDoor.Par
theorem lK {body : Nm → Cmd} {rec : Cmd → S → Option S} (hr : ∀ c s r,rec c s = some r → ∃ u,s.rem = u ++ r.rem) : ∀ c s r,bW body rec c s = some r → ∃ u,s.rem = u ++ r.rem := by
 intro c
 induction c with
 | skip => intro s r h; obtain rfl := Option.some.inj h; exact ⟨[],rfl⟩
 | bump => intro s r h; obtain rfl := Option.some.inj h; exact ⟨fE s.rem,(eY _).symm⟩
 | drop => intro s r h; obtain rfl := Option.some.inj h; exact ⟨[],rfl⟩
 | flag b => intro s r h; obtain rfl := Option.some.inj h; exact ⟨[],rfl⟩
 | leaf k => intro s r h; obtain rfl := Option.some.inj h; exact ⟨[],rfl⟩
 | before =>
  intro s r h;simp only [bW] at h
  split at h
  ·obtain rfl := Option.some.inj h; exact ⟨[],rfl⟩
  ·cases h
 | seq a b iha ihb =>
  intro s r h;simp only [bW,Option.bind_eq_some_iff] at h;obtain ⟨x,h1,h2⟩ := h;obtain ⟨u,e1⟩ := iha _ _ h1;obtain ⟨v,e2⟩ := ihb _ _ h2;exact ⟨u ++ v,by rw [e1,e2,List.append_assoc]⟩
 | node k c ih =>
  intro s r h;simp only [bW,Option.map_eq_some_iff] at h;obtain ⟨x,h1,rfl⟩ := h;obtain ⟨u,e⟩ := ih _ _ h1;exact ⟨u,e⟩
 | wrap k c ih =>
  intro s r h;simp only [bW] at h
  split at h
  ·simp only [Option.map_eq_some_iff] at h
   obtain ⟨x,h1,rfl⟩ := h;obtain ⟨u,e⟩ := ih _ _ h1;exact ⟨u,e⟩
  ·cases h
 | cond t a b iha ihb =>
  intro s r h;simp only [bW] at h
  split at h
  ·exact iha _ _ h
  ·exact ihb _ _ h
 | loop t c ih =>
  intro s r h;simp only [bW] at h
  split at h
  ·simp only [Option.bind_eq_some_iff] at h
   obtain ⟨x,h1,h2⟩ := h;obtain ⟨u,e1⟩ := ih _ _ h1;obtain ⟨v,e2⟩ := hr _ _ _ h2;exact ⟨u ++ v,by rw [e1,e2,List.append_assoc]⟩
  ·obtain rfl := Option.some.inj h; exact ⟨[],rfl⟩
 | prog c a b ihc iha ihb =>
  intro s r h;simp only [bW,Option.bind_eq_some_iff] at h;obtain ⟨x,h1,h2⟩ := h;obtain ⟨u,e1⟩ := ihc _ _ h1
  split at h2
  ·obtain ⟨v,e2⟩ := iha _ _ h2
   exact ⟨u ++ v,by rw [e1,e2,List.append_assoc]⟩
  ·obtain ⟨v,e2⟩ := ihb _ _ h2
   exact ⟨u ++ v,by rw [e1,e2,List.append_assoc]⟩
 | call x => intro s r h; exact hr _ _ _ h
 | sel f c ih => intro s r h; exact ih _ _ _ h
theorem tM : ∀ n c s r,run body n c s = some r → ∃ u,s.rem = u ++ r.rem
 | 0 => lK (by intro _ _ _ h; cases h)
 | n + 1 => lK (tM n)
def Dx (t : Test) : Prop := ∀ x y z f f',t x y z f = t x y z f'
def Fin : Cmd → Prop
 | .seq a b => (∃ k,a = .flag k) ∨ (Fin a ∧ Fin b)
 | .node _ c => Fin c
 | .wrap _ c => Fin c
 | .cond t a b => Dx t ∧ Fin a ∧ Fin b
 | .loop t c => Dx t ∧ Fin c
 | .prog c a b => Fin c ∧ Fin a ∧ Fin b
 | .sel _ c => ∀ k,Fin (c k)
 | _ => True
end Go.Proofs.YtlndmiegodcfjaaGreatDoor.Par
namespace Go.Proofs.YtlndmiegodcfjaaGreatDoor.Par
open Cmd
abbrev Kw := Tok → Tok → Tok → Prop
def bumpK (K : Kw) : Kw := fun y z _ => ∃ x,K x y z
def Hi (t : Test) (b : Bool) (K : Kw) : Kw := fun x y z => K x y z ∧ ∃ f,t x y z f = b
def Jn (t : Test) (b : Bool) : Kw := fun x y z => ∃ f,t x y z f = b
theorem zN {l : List ByteArray} {t : Tok} (h : aV l t = true) : t.1 ≠ 100 := by
 intro e;simp [aV,e] at h
theorem k1 {l : List ByteArray} {K : Kw} : ∀ x y z,Hi (cE l) true K x y z → x.1 ≠ 100 := fun x y z h => by
 obtain ⟨_,_,h⟩ := h;exact zN h
theorem kl {l : List ByteArray} : ∀ x y z,Jn (cE l) true x y z → x.1 ≠ 100 := fun x y z h => by
 obtain ⟨_,h⟩ := h;exact zN h
theorem kt {t : Test} {K : Kw} {b : Bool} (h : ∀ x y z,K x y z → x.1 ≠ 100) : ∀ x y z,Hi t b K x y z → x.1 ≠ 100 := fun x y z hh => h x y z hh.1
def Tr.kdn : Tr → Int
 | .mk k _ _ => k
def LV : Nat → List Tr → Prop
 | 0,_ => True
 | 1,l => ∃ t ∈ l,t.kdn < 100
 | _ + 2,l => ∃ a t,l = a ++ [t] ∧ t.kdn < 100
theorem LV.one {l : List Tr} : ∀ {n},LV (n + 1) l → LV 1 l
 | 0,h => h
 | n + 1,⟨a,t,e,h⟩ => ⟨t,by rw [e]; simp,h⟩
theorem LV.down {l : List Tr} : ∀ {n m : Nat},m ≤ n → LV n l → LV m l
 | _,0,_,_ => trivial
 | 0,m + 1,h,_ => absurd h (by omega)
 | n + 1,1,_,h => h.one
 | 1,m + 2,h,_ => absurd h (by omega)
 | n + 2,m + 2,_,h => h
theorem LV.app {l m : List Tr} : ∀ {n},LV n l → LV (min n 1) (l ++ m)
 | 0,_ => trivial
 | 1,⟨t,h,k⟩ => ⟨t,List.mem_append_left _ h,k⟩
 | n + 2,h => by
  obtain ⟨t,h,k⟩ := LV.one h
  show LV (min (n + 2) 1) _
  rw [show min (n + 2) 1 = 1 from by omega];exact ⟨t,List.mem_append_left _ h,k⟩
theorem LV.snoc {l : List Tr} {t : Tr} (h : t.kdn < 100) : LV 2 (l ++ [t]) := ⟨l,t,rfl,h⟩
def Gh : Nm → Bool
 | .binary _ | .unary | .primary | .block | .ifExpr | .pattern | .typeExpr | .path _ | .params _ | .typeParams | .postE => true
 | _ => false
def cin : Nm → Nat
 | .postE => 2
 | _ => 0
def Bc (x : Nm) (i : Nat) : Nat := if Gh x then 2 else match x with
 | .item => 0
 | _ => min i 1
def lkN (k : Int) (i : Nat) : Nat := if k < 100 then 2 else min i 1
def lk : Cmd → Nat → Nat
 | .bump,i => min i 1
 | .leaf k,i => lkN k i
 | .node k _,i => lkN k i
 | .wrap k _,_ => if k < 100 then 2 else 0
 | .before,_ => 2
 | .drop,_ => 0
 | .flag _,i => i
 | .skip,i => i
 | .seq a b,i => lk b (lk a i)
 | .cond _ a b,i => min (lk a i) (lk b i)
 | .loop _ c,i => min i (lk c i)
 | .prog c a b,i => min (lk a (lk c i)) (lk b (lk c i))
 | .call x,i => Bc x i
 | .sel _ _,_ => 0
def LkOk : Cmd → Nat → Prop
 | .node _ c,_ => LkOk c 0
 | .wrap _ c,i => i = 2 ∧ LkOk c 2
 | .before,i => i = 2
 | .drop,i => i = 2
 | .seq a b,i => LkOk a i ∧ LkOk b (lk a i)
 | .cond _ a b,i => LkOk a i ∧ LkOk b i
 | .loop _ c,i => LkOk c (min i (lk c i)) ∧ min i (lk c i) ≤ lk c (min i (lk c i))
 | .prog c a b,i => LkOk c i ∧ LkOk a (lk c i) ∧ LkOk b (lk c i)
 | .call x,i => cin x ≤ i ∧ i ≤ 2
 | .sel _ c,i => ∀ k,LkOk (c k) i
 | .bump,_ => True
 | .leaf _,_ => True
 | .flag _,_ => True
 | .skip,_ => True
theorem tN {a b : Nat} (h : Nat.ble a b = true) : a ≤ b := Nat.le_of_ble_eq_true h
theorem oB {x : Nm} {i : Nat} (h : LkOk (body x) i) (hb : Nat.ble (Bc x i) (lk (body x) i) = true) : LkOk (body x) i ∧ Bc x i ≤ lk (body x) i := ⟨h,tN hb⟩
set_option maxHeartbeats 2000000 in
theorem tO : ∀ x i,cin x ≤ i → i ≤ 2 → LkOk (body x) i ∧ Bc x i ≤ lk (body x) i := by
 intro x i hc hi
 cases x
 case itemBody k =>
  have h0 : Bc (.itemBody k) i = min i 1 := rfl;rw [h0]
  show LkOk (if _ then _ else _) i ∧ _ ≤ lk (if _ then _ else _) i
  obtain rfl | rfl | rfl : i = 0 ∨ i = 1 ∨ i = 2 := by omega
  all_goals (repeat' split)
  all_goals refine ⟨?_,tN rfl⟩
  all_goals repeat' (first | exact trivial | exact tN rfl | exact rfl | apply And.intro)
 case binary n =>
  have h0 : Bc (.binary n) i = 2 := rfl;rw [h0]
  show LkOk (if _ then _ else _) i ∧ _ ≤ lk (if _ then _ else _) i
  split
  ·exact ⟨⟨Nat.zero_le _,hi⟩,tN rfl⟩
  ·split
   ·exact ⟨⟨⟨Nat.zero_le _,hi⟩,⟨rfl,trivial,tN rfl,tN rfl⟩,trivial⟩,tN rfl⟩
   ·exact ⟨⟨⟨Nat.zero_le _,hi⟩,⟨rfl,trivial,tN rfl,tN rfl⟩,tN rfl⟩,tN rfl⟩
 case item =>
  refine ⟨fun k => ?_,Nat.zero_le _⟩
  show LkOk (if _ then _ else _) i
  split
  ·exact ⟨Nat.zero_le _,hi⟩
  ·exact ⟨⟨trivial,trivial⟩,trivial,tN rfl,tN rfl⟩
 case postE =>
  obtain rfl : i = 2 := by have : 2 ≤ i := hc; omega
  refine oB ?_ rfl
  repeat' (first | exact trivial | exact tN rfl | exact rfl | apply And.intro)
 case dataType k =>
  obtain rfl | rfl | rfl : i = 0 ∨ i = 1 ∨ i = 2 := by omega
  all_goals
   by_cases hk : k = 4
   ·have hb : body (.dataType k) = fJ [expIdent,.call .typeParams,exp ⟨#[123]⟩,list ⟨#[125]⟩ (.cond cB (.node 14 (fJ [.bump,exp ⟨#[58]⟩,.call .typeExpr])) .skip)] := by rw [hk]; rfl
    refine oB ?_ ?_
    ·rw [hb]; repeat' (first | exact trivial | exact tN rfl | exact rfl | apply And.intro)
    ·rw [hb]; exact rfl
   ·have hb : body (.dataType k) = fJ [expIdent,.call .typeParams,exp ⟨#[123]⟩,list ⟨#[125]⟩ (.cond cB (.node 15 (.seq .bump (.cond (cE [⟨#[40]⟩]) (.seq .bump (list ⟨#[41]⟩ (.call .typeExpr))) .skip))) .skip)] := by
     show fJ [expIdent,.call .typeParams,exp ⟨#[123]⟩,list ⟨#[125]⟩ (.cond cB (if k = 4 then _ else _) .skip)] = _
     rw [if_neg hk]
    refine oB ?_ ?_
    ·rw [hb]; repeat' (first | exact trivial | exact tN rfl | exact rfl | apply And.intro)
    ·rw [hb]; exact rfl
 case function b =>
  obtain rfl | rfl | rfl : i = 0 ∨ i = 1 ∨ i = 2 := by omega
  all_goals cases b
  all_goals refine oB ?_ rfl
  all_goals repeat' (first | exact trivial | exact tN rfl | exact rfl | apply And.intro)
 case path b =>
  obtain rfl | rfl | rfl : i = 0 ∨ i = 1 ∨ i = 2 := by omega
  all_goals cases b
  all_goals refine oB ?_ rfl
  all_goals repeat' (first | exact trivial | exact tN rfl | exact rfl | apply And.intro)
 all_goals obtain rfl | rfl | rfl : i = 0 ∨ i = 1 ∨ i = 2 := by omega
 all_goals refine oB ?_ rfl
 all_goals repeat' (first | exact trivial | exact tN rfl | exact rfl | apply And.intro)
def LkR (rec : Cmd → S → Option S) : Prop := ∀ c s r i,LkOk c i → LV i s.kids → rec c s = some r → LV (lk c i) r.kids
theorem LV.n {k : Int} {i : Nat} {l m : List Tr} (h : LV i l) : LV (lkN k i) (l ++ [.mk k fS m]) := by
 unfold lkN
 split
 ·rename_i hk; exact LV.snoc hk
 ·exact h.app
theorem qH {t : Test} {c : Cmd} {i : Nat} (h : LkOk (.loop t c) i) : LkOk (.loop t c) (min i (lk c i)) ∧ lk (.loop t c) (min i (lk c i)) = min i (lk c i) := by
 obtain ⟨h1,h2⟩ := h;have e : min (min i (lk c i)) (lk c (min i (lk c i))) = min i (lk c i) := Nat.min_eq_left h2;refine ⟨⟨?_,?_⟩,e⟩
 ·rw [e]; exact h1
 ·rw [e]; exact h2
theorem nJ {rec : Cmd → S → Option S} (hr : LkR rec) : LkR (bW body rec) := by
 intro c
 induction c with
 | skip | flag b => intro s r i _ hl h; obtain rfl := Option.some.inj h; exact hl
 | drop => intro s r i _ hl h; exact trivial
 | bump => intro s r i _ hl h; obtain rfl := Option.some.inj h; exact hl.app
 | leaf k => intro s r i _ hl h; obtain rfl := Option.some.inj h; exact hl.n
 | before =>
  intro s r i ho hl h;obtain rfl : i = 2 := ho;obtain ⟨a,t,e,hk⟩ := hl;simp only [bW,e,List.getLast?_append,List.getLast?_singleton,Option.some_or] at h;obtain rfl := Option.some.inj h;exact ⟨a ++ [.leaf 0],t,by simp,hk⟩
 | seq a b iha ihb =>
  intro s r i ho hl h;simp only [bW,Option.bind_eq_some_iff] at h;obtain ⟨x,h1,h2⟩ := h;exact ihb _ _ _ ho.2 (iha _ _ _ ho.1 hl h1) h2
 | node k c ih =>
  intro s r i ho hl h;simp only [bW,Option.map_eq_some_iff] at h;obtain ⟨x,h1,rfl⟩ := h;exact hl.n
 | wrap k c ih =>
  intro s r i ho hl h;simp only [bW] at h
  split at h
  ·simp only [Option.map_eq_some_iff] at h
   obtain ⟨x,h1,rfl⟩ := h
   show LV (if k < 100 then 2 else 0) _
   split
   ·rename_i hk; exact LV.snoc hk
   ·exact trivial
  ·cases h
 | cond t a b iha ihb =>
  intro s r i ho hl h;simp only [bW] at h
  split at h
  ·exact (iha _ _ _ ho.1 hl h).down (Nat.min_le_left _ _)
  ·exact (ihb _ _ _ ho.2 hl h).down (Nat.min_le_right _ _)
 | loop t c ih =>
  intro s r i ho hl h;have hl' := LV.down (Nat.min_le_left i (lk c i)) hl;simp only [bW] at h
  split at h
  ·simp only [Option.bind_eq_some_iff] at h
   obtain ⟨x,h1,h2⟩ := h;have h3 := ih _ _ _ ho.1 hl' h1;obtain ⟨h4,h5⟩ := qH ho;have h6 := hr _ _ _ _ h4 (h3.down ho.2) h2;rw [h5] at h6;exact h6
  ·obtain rfl := Option.some.inj h
   exact hl'
 | prog c a b ihc iha ihb =>
  intro s r i ho hl h;simp only [bW,Option.bind_eq_some_iff] at h;obtain ⟨x,h1,h2⟩ := h;have h3 := ihc _ _ _ ho.1 hl h1
  split at h2
  ·exact (iha _ _ _ ho.2.1 h3 h2).down (Nat.min_le_left _ _)
  ·exact (ihb _ _ _ ho.2.2 h3 h2).down (Nat.min_le_right _ _)
 | call x =>
  intro s r i ho hl h;obtain ⟨h1,h2⟩ := tO x i ho.1 ho.2;exact (hr _ _ _ _ h1 hl h).down h2
 | sel f c ih => intro s r i ho hl h; exact trivial
theorem yG : ∀ n,LkR (run body n)
 | 0 => nJ (by intro _ _ _ _ _ _ h; cases h)
 | n + 1 => nJ (yG n)
end Go.Proofs.YtlndmiegodcfjaaGreatDoor.Par
namespace Go.Proofs.YtlndmiegodcfjaaGreatDoor.Ast
open Par
theorem Ip (t : Tr) : kd t = t.kdn := by cases t; rfl
end Go.Proofs.YtlndmiegodcfjaaGreatDoor.Ast
namespace Go.Proofs.YtlndmiegodcfjaaGreatDoor.Par
open Lexi (aG)
structure Small (s : ByteArray) (t : Tr) : Prop where
 parsed : eW s t
 wf : t.wf
 cnt : t.cnt ≤ 24 * s.size + 1
 dep : t.dep ≤ 2 * s.size + 8
 txt : t.txt = s.data.toList
 kids : ∃ ks,t = .mk 1 fS ks
theorem eW.small {s : ByteArray} {t : Tr} (h : eW s t) : Small s t := by
 obtain ⟨r,h1,h2,h3,h4,h5⟩ := parsed s;obtain rfl := h.unique h1;refine ⟨h,.inr ⟨by decide,by decide,rfl,h3⟩,by simp only [Tr.cnt]; omega,by simp only [Tr.dep]; omega,?_,r,rfl⟩
 show fS.data.toList ++ gK r = _
 rw [h2];rfl
theorem Small.len {s : ByteArray} {t : Tr} (h : Small s t) : t.txt.length = s.size := by rw [h.txt]; simp
end Go.Proofs.YtlndmiegodcfjaaGreatDoor.Par
namespace Go.Proofs.YtlndmiegodcfjaaGreatDoor.Par
open Cmd
open Ast (fine fY rT kd tx)
theorem fW {a b : List Tr} : fY (a ++ b) ↔ fY a ∧ fY b := by
 induction a with
 | nil => simp [fY]
 | cons t a ih => rw [List.cons_append,fY,fY,ih,and_assoc]
def Fk : Cmd → Prop
 | .node k c => k < 100 ∧ (k = 60 → 1 ≤ lk c 0) ∧ Fk c
 | .wrap k c => k < 100 ∧ k ≠ 60 ∧ Fk c
 | .leaf k => k ≠ 105 ∧ k ≠ 60
 | .seq a b => Fk a ∧ Fk b
 | .cond _ a b => Fk a ∧ Fk b
 | .loop _ c => Fk c
 | .prog c a b => Fk c ∧ Fk a ∧ Fk b
 | .sel f c => ∀ x y,Fk (c (f x y))
 | _ => True
theorem Fk.list {cl : ByteArray} {el : Cmd} (h : Fk el) : Fk (list cl el) := ⟨⟨h,⟨by decide,by decide,trivial⟩,trivial,trivial,by decide,by decide⟩,trivial,by decide,by decide⟩
theorem Fk.seg {b : Bool} : Fk (seg b) := by
 cases b
 ·exact ⟨by decide,by decide,⟨trivial,by decide,by decide⟩,trivial⟩
 ·exact ⟨by decide,by decide,⟨trivial,by decide,by decide⟩,⟨trivial,Fk.list trivial⟩,trivial⟩
theorem Fk.tail {b : Bool} : Fk (jM b) := by
 cases b <;> (unfold jM; repeat' (first | exact trivial | apply And.intro | (intro e; exact absurd e (by decide)) | decide))
theorem Be (x : ByteArray) : eF x ≤ 9 := by
 have key : ∀ (l : List ByteArray) (i : Nat),Lib.idxFromS l x i < (i : Int) + l.length ∨ Lib.idxFromS l x i < 0 := by
  intro l
  induction l with
  | nil => intro i; right; simp [Lib.idxFromS]
  | cons y l ih =>
   intro i;simp only [Lib.idxFromS]
   split
   ·left; simp only [List.length_cons]; omega
   ·have := ih (i + 1)
    simp only [List.length_cons];omega
 have hl : fX.length = 8 := by decide
 have h := key fX 0;rw [hl] at h;unfold eF;simp only;unfold Lib.idxOfS
 split <;> omega
theorem vU (t u : Tok) : cY t u ≤ 9 := by
 have key : ∀ y : Tok,(if eF y.2 == 0 || y.1 != 104 then 0 else eF y.2) ≤ 9 := fun y => by
  cases (eF y.2 == 0 || y.1 != 104)
  ·exact Be _
  ·simp
 exact key _
theorem Gi : ∀ x,Fk (body x) := by
 intro x
 cases x
 case item =>
  intro x y;have h := vU x y
  show Fk (if _ then _ else _)
  split
  ·trivial
  ·exact ⟨by omega,fun e => by omega,⟨trivial,trivial⟩,trivial,trivial⟩
 case itemBody k =>
  show Fk (if _ then _ else _)
  repeat' (first | exact trivial | apply And.intro | (intro e; exact absurd e (by decide)) | decide | split)
 case binary n =>
  show Fk (if _ then _ else _)
  split
  ·trivial
  ·refine ⟨trivial,?_⟩
   split
   ·exact ⟨⟨by decide,by decide,trivial,trivial⟩,trivial⟩
   ·exact ⟨by decide,by decide,trivial,trivial⟩
 case function b => cases b <;> repeat' (first | exact trivial | apply And.intro | (intro e; exact absurd e (by decide)) | decide)
 case dataType k =>
  refine ⟨⟨trivial,by decide,by decide⟩,trivial,⟨trivial,by decide,by decide⟩,Fk.list ⟨?_,trivial⟩⟩
  split
  ·exact ⟨by decide,by decide,trivial,⟨trivial,by decide,by decide⟩,trivial⟩
  ·exact ⟨by decide,by decide,trivial,⟨trivial,Fk.list trivial⟩,trivial⟩
 case path b => exact ⟨by decide,fun e => absurd e (by decide),Fk.seg,trivial,Fk.seg⟩
 case statement =>
  exact ⟨⟨⟨by decide,by decide,trivial⟩,trivial⟩,⟨⟨by decide,by decide,trivial,trivial,trivial⟩,trivial⟩,⟨⟨by decide,by decide,trivial⟩,trivial⟩,⟨trivial,⟨trivial,⟨by decide,by decide,trivial⟩,trivial⟩,Fk.tail⟩,trivial,⟨trivial,⟨by decide,by decide,trivial⟩,trivial⟩,Fk.tail⟩
 all_goals (repeat' (first | exact trivial | apply And.intro | (intro e; exact absurd e (by decide)) | decide | exact Fk.list trivial | (refine Fk.list ?_)))
def TokR (l : List Tok) : Prop := ∀ t ∈ l,100 ≤ t.1 ∧ rT t.1 t.2
theorem TokR.fine {l : List Tok} (h : TokR l) : fY (l.map .tok) := by
 induction l with
 | nil => exact trivial
 | cons t l ih =>
  rw [List.map_cons,fY];have h0 := h t List.mem_cons_self;refine ⟨?_,ih fun u hu => h u (List.mem_cons_of_mem _ hu)⟩;rw [if_pos (show 100 ≤ kd (Tr.tok t) from h0.1)];exact h0.2
theorem rZ {k : Int} {l : List Tr} (hk : k < 100) (h : fY l) (h60 : k = 60 → ∃ c ∈ l,kd c < 100) : fY [.mk k fS l] := by
 rw [fY,if_neg (show ¬ 100 ≤ kd (Tr.mk k fS l) from by show ¬ 100 ≤ k; omega),fine];exact ⟨⟨h60,h⟩,trivial⟩
theorem sA {k : Int} (h : k ≠ 105 ∧ k ≠ 60) : fY [.leaf k] := by
 rw [fY];refine ⟨?_,trivial⟩
 split
 ·exact fun e => absurd e h.1
 ·exact ⟨fun e => absurd e h.2,trivial⟩
def FiR (rec : Cmd → S → Option S) : Prop := ∀ c s r i,Fk c → LkOk c i → LV i s.kids → TokR s.rem → fY s.kids → rec c s = some r → fY r.kids
theorem TokR.suf {s r : S} (h : TokR s.rem) (hs : ∃ u,s.rem = u ++ r.rem) : TokR r.rem := by
 obtain ⟨u,e⟩ := hs;exact fun t ht => h t (by rw [e]; exact List.mem_append_right _ ht)
theorem Hj {rec : Cmd → S → Option S} (hs : ∀ c s r,rec c s = some r → ∃ u,s.rem = u ++ r.rem) (hk : LkR rec) (hr : FiR rec) : FiR (bW body rec) := by
 intro c
 induction c with
 | skip | flag b => intro s r i _ _ _ _ hf h; obtain rfl := Option.some.inj h; exact hf
 | drop =>
  intro s r i _ ho hl _ hf h;obtain rfl : i = 2 := ho;obtain ⟨a,t,e,_⟩ := hl;obtain rfl := Option.some.inj h;rw [e] at hf;simp only [e,List.dropLast_concat];exact (fW.1 hf).1
 | bump =>
  intro s r i _ _ _ ht hf h;obtain rfl := Option.some.inj h;exact fW.2 ⟨hf,TokR.fine fun t hm => ht t (by rw [← eY s.rem]; exact List.mem_append_left _ hm)⟩
 | leaf k => intro s r i hk _ _ _ hf h; obtain rfl := Option.some.inj h; exact fW.2 ⟨hf,sA hk⟩
 | before =>
  intro s r i _ ho hl _ hf h;obtain rfl : i = 2 := ho;obtain ⟨a,t,e,_⟩ := hl;simp only [bW,e,List.getLast?_append,List.getLast?_singleton,Option.some_or] at h;obtain rfl := Option.some.inj h;rw [e] at hf;have hf := fW.1 hf;simp only [List.dropLast_concat];rw [show a ++ [Tr.leaf 0,t] = a ++ ([Tr.leaf 0] ++ [t]) from by simp];exact fW.2 ⟨hf.1,fW.2 ⟨sA ⟨by decide,by decide⟩,hf.2⟩⟩
 | seq a b iha ihb =>
  intro s r i hF ho hl ht hf h;simp only [bW,Option.bind_eq_some_iff] at h;obtain ⟨x,h1,h2⟩ := h;exact ihb _ _ _ hF.2 ho.2 (nJ hk _ _ _ _ ho.1 hl h1) (ht.suf (lK hs _ _ _ h1)) (iha _ _ _ hF.1 ho.1 hl ht hf h1) h2
 | node k c ih =>
  intro s r i hF ho hl ht hf h;simp only [bW,Option.map_eq_some_iff] at h;obtain ⟨x,h1,rfl⟩ := h;obtain ⟨hk1,hk2,hF⟩ := hF;have h2 := ih { s with kids := [],adds := s.adds + 1 } x 0 hF ho trivial ht (show fY ([] : List Tr) from trivial) h1;refine fW.2 ⟨hf,rZ hk1 h2 fun e => ?_⟩;have h3 := (nJ hk _ _ _ 0 ho trivial h1).down (hk2 e);obtain ⟨t,h4,h5⟩ := h3;exact ⟨t,h4,by rw [Ast.Ip]; exact h5⟩
 | wrap k c ih =>
  intro s r i hF ho hl ht hf h;obtain ⟨rfl,ho⟩ := ho;obtain ⟨l,t,e,h0⟩ := hl;obtain ⟨hk1,hk2,hF⟩ := hF;simp only [bW,e,List.getLast?_append,List.getLast?_singleton,Option.some_or,List.dropLast_concat,Option.map_eq_some_iff] at h;obtain ⟨x,h1,rfl⟩ := h;rw [e] at hf;have hf := fW.1 hf;have h2 := ih { s with kids := [t],adds := s.adds + 1 } x 2 hF ho (show LV 2 [t] from ⟨[],t,rfl,h0⟩) ht hf.2 h1;exact fW.2 ⟨hf.1,rZ hk1 h2 fun e => absurd e hk2⟩
 | cond t a b iha ihb =>
  intro s r i hF ho hl ht hf h;simp only [bW] at h
  split at h
  ·exact iha _ _ _ hF.1 ho.1 hl ht hf h
  ·exact ihb _ _ _ hF.2 ho.2 hl ht hf h
 | loop t c ih =>
  intro s r i hF ho hl ht hf h;have hl' := LV.down (Nat.min_le_left i (lk c i)) hl;simp only [bW] at h
  split at h
  ·simp only [Option.bind_eq_some_iff] at h
   obtain ⟨x,h1,h2⟩ := h;have h3 := nJ hk _ _ _ _ ho.1 hl' h1;exact hr _ _ _ _ (show Fk (.loop t c) from hF) (qH ho).1 (h3.down ho.2) (ht.suf (lK hs _ _ _ h1)) (ih _ _ _ hF ho.1 hl' ht hf h1) h2
  ·obtain rfl := Option.some.inj h
   exact hf
 | prog c a b ihc iha ihb =>
  intro s r i hF ho hl ht hf h;simp only [bW,Option.bind_eq_some_iff] at h;obtain ⟨x,h1,h2⟩ := h;have h3 := nJ hk _ _ _ _ ho.1 hl h1;have h4 := ihc _ _ _ hF.1 ho.1 hl ht hf h1;have h5 := ht.suf (lK hs _ _ _ h1)
  split at h2
  ·exact iha _ _ _ hF.2.1 ho.2.1 h3 h5 h4 h2
  ·exact ihb _ _ _ hF.2.2 ho.2.2 h3 h5 h4 h2
 | call x =>
  intro s r i hF ho hl ht hf h;exact hr _ _ _ _ (Gi x) (tO x i ho.1 ho.2).1 hl ht hf h
 | sel f c ih => intro s r i hF ho hl ht hf h; exact ih _ _ _ _ (hF _ _) (ho _) hl ht hf h
theorem Dy : ∀ n,FiR (run body n)
 | 0 => Hj (by intro _ _ _ h; cases h) (by intro _ _ _ _ _ _ h; cases h) (by intro _ _ _ _ _ _ _ _ _ h; cases h)
 | n + 1 => Hj (tM n) (yG n) (Dy n)
theorem Iq : ∀ s : ByteArray,TokR (Lexi.aG s) := Lexi.iE fun s ih t ht => by
 rcases Nat.eq_zero_or_pos s.size with h | h
 ·rw [Lexi.jQ h] at ht
  cases ht
 ·rw [Lexi.iR h] at ht
  rcases List.mem_cons.1 ht with rfl | ht
  ·refine ⟨Int.le_of_lt (vO s),fun e => ?_⟩
   have hin := Lexi.kI h;have hsz : (s.extract 0 (Lexi.tok s).1).size = (Lexi.tok s).1 := by rw [ByteArray.size_extract]; omega
   refine ⟨by rw [hsz]; omega,fun b hb => ?_⟩;simp only at e;have e1 : (Lexi.tok s).1 = Lexi.gC Lexi.lA s 0 := by
    revert e
    unfold Lexi.tok
    repeat' split
    all_goals simp
   have hd := (Lexi.gY Lexi.lA s 0).2.2.1;rw [← e1] at hd;simp only at hb;rw [Lexi.uX,List.drop_zero,Nat.sub_zero] at hb;obtain ⟨i,hi,hib⟩ := List.getElem_of_mem hb;rw [List.length_take] at hi;have := hd i (Nat.zero_le _) (by omega);rw [List.getElem_take] at hib;have e2 : Lexi.bt s i = b.toNat := by
    unfold Lexi.bt;rw [List.getD_eq_getElem?_getD,List.getElem?_eq_getElem (by omega),hib];rfl
   rw [e2] at this;unfold Lexi.lA at this;simp only [Bool.and_eq_true,decide_eq_true_eq] at this;omega
  ·refine ih _ ?_ t ht
   have := Lexi.kI h;rw [Lexi.eT];omega
theorem zO : LkOk (.loop (fun t _ _ _ => t.1 != 100) (.call .item)) 0 := ⟨⟨Nat.zero_le _,by decide⟩,Nat.zero_le _⟩
theorem eW.fine {s : ByteArray} {t : Tr} (h : eW s t) : Ast.fine t := by
 obtain ⟨n,r,h1,rfl⟩ := h;have h2 := Dy n uE _ r 0 (show Fk uE from ⟨trivial,trivial⟩) ⟨zO,trivial⟩ trivial (Iq s) (show fY ([] : List Tr) from trivial) h1;rw [Ast.fine];exact ⟨fun e => absurd e (by decide),h2⟩
end Go.Proofs.YtlndmiegodcfjaaGreatDoor.Par
namespace Go.Proofs.YtlndmiegodcfjaaGreatDoor.Ast
set_option maxRecDepth 20000
open Go.Gx Go.RowKit Go.Lib
open Lexi (Asc)
open Par
theorem vV {F : Fs} {w : World} {dv : Value} {ds : List Dg} (h : w.ownsRow 0 63 5 dv ds.length (aK fG ds)) (hd : ∀ z,dv.ownBlock = some z → ¬ F z) (hF : Und F w.heap.size) (hl : ds.length ≤ 1000000) :
  Cl Tryz.prog 25 #[dv] w (fun u w' => SlC w' u 5 (fM ds).length (aK fG (fM ds)) ∧ u.oneCell' = true ∧ (∀ z,u.ownBlock = some z → dv.ownBlock = some z) ∧ Bw F w w') := by
 by_cases h2 : ds.length < 2
 ·have e : fM ds = ds := by
   rcases ds with _ | ⟨a,_ | ⟨b,l⟩⟩
   ·rfl
   ·rfl
   ·exact absurd h2 (by simp)
  refine Cl.mono (rB (iP h) h2) ?_;rintro u w' ⟨rfl,rfl⟩;rw [e];refine ⟨iP h,?_,fun z hz => hz,Bw.refl _ _⟩
  rcases bH h with ⟨rfl,_⟩ | ⟨g,cap,sp,rfl,_⟩ <;> rfl
 ·rcases bH h with ⟨rfl,h0⟩ | ⟨g,cap,sp,rfl,g1,g2,g3,g4,g5⟩
  ·omega
  ·refine Cl.mono (yF (F := F) g5 g2 g4 (hd g rfl) hF (by omega) hl) ?_
   rintro u w' ⟨rfl,⟨sp',hv⟩,hB⟩;refine ⟨⟨aQ dR _,_,_,rfl,Nat.le_trans (zL ds) g2,.inr ⟨g,0,rfl,fun i v hi => ?_⟩⟩,rfl,fun z hz => hz,hB⟩;exact hv.cells i v (by rw [List.getElem?_append_left (List.getElem?_eq_some_iff.1 hi).1]; exact hi)
def eS (s : ByteArray) (t : Tr) : An := match (gV s t 0 []).1 with
 | .mk h ks => .mk ⟨h.kind,h.value,h.text,0,s.size,h.ns⟩ ks
structure yH (w : World) (s : ByteArray) (u : Value) (w' : World) (t : Tr) (mn : Mn) (lv : Value) (ds : List Dg) (K : Fs) : Prop where
 ue : u = .tuple #[.agg mn.cells.toArray,lv,.int .i64 0]
 pt : eW s t
 er : mn.er = eS s t
 dse : ds = fM (lJ (gV s t 0 []).2.2)
 ok : NOk K w' mn
 bl : gI K lv
 one : lv.oneCell' = true
 sl : SlC w' lv 5 ds.length (aK fG ds)
 lo : ∀ z,K z → w.heap.size ≤ z ∧ z < w'.heap.size
 ext : Ext w w'
 few : ds.length < 1000000
theorem Gj {s : ByteArray} {t : Tr} {h : Hd} {cv : Value} {kids : List Mn} (e : (Mn.mk h cv kids).er = (gV s t 0 []).1) : (Mn.mk ⟨h.kind,h.value,h.text,0,s.size,h.ns⟩ cv kids).er = eS s t := by
 unfold eS;rw [← e];rfl
theorem Gk {s : ByteArray} {t : Tr} (h : Small s t) (hs : s.size ≤ 2000) : (gV s t 0 []).2.2.length ≤ 900000 := by
 have hkd : kd t < 100 := by
  obtain ⟨ks,e⟩ := h.kids;rw [e]
  show (1 : Int) < 100
  decide
 obtain ⟨_,_,_,_,k⟩ := nH s t 0 [] (Int.le_refl _) h.wf hkd;have h1 := h.cnt;have h2 := h.len;simp only [List.length_nil] at k;omega
theorem lL {w : World} {s : ByteArray} (hs : s.size ≤ 2000) (hA : Asc w) (hE : Er w) : Cl Tryz.prog 10 #[.string s] w (fun u w' => ∃ t mn lv ds K,yH w s u w' t mn lv ds K) := by
 have hx := Ext.refl w;obtain ⟨te,pe,hE⟩ := hE;have hE4 : 4 < w.heap.size := pH hE;refine Cl.enter Tryz.func10 rfl Tryz.ntmps10 rfl rfl (.sr (Rg.wd trivial (dB Tryz.zeroValue26 rfl) rfl ?_));rintro _ w1 ⟨b2,rfl,q2,hx1,hv2⟩;replace hx := hx.ext hx1;have hl2 := hv2.lt;refine .a2 rfl (.a2 rfl (.done (.sr (.m2 rfl (Rg.wd trivial (aC Tryz.call21 rfl (Dh hs (hA.ext hx))) rfl ?_)))));rintro _ w2 ⟨g,rfl,hpp,hgp,hx2⟩;replace hx := hx.ext hx2;replace hv2 := hv2.ext hx2;have hsm := hpp.small;have hog : g.cells.all (·.oneCell') = true := List.all_eq_true.2 hgp.one;have hy := Ext.refl w2;refine .m2 rfl (.t2 (cA rfl rfl) (.t2 (cA rfl rfl) (Rg.wd trivial (dB Tryz.zeroValue54 rfl) rfl ?_)));rintro _ wab5 ⟨b5,rfl,qb5,f,j⟩;refine Rg.wn trivial (cW (cs := g.cells) j rfl rfl rfl (by rw [Gt.len]; exact dA) (by rw [Gt.len]; rfl) (hog)) ?_;rintro _ w3 ⟨hub5,hvb5⟩;have hx3 := f.upd hub5 (Nat.le_of_eq qb5.symm);clear j hub5 f;replace hx := hx.ext hx3;replace hv2 := hv2.ext hx3;replace hy := hy.ext hx3;clear qb5;refine .a2 rfl (.done (.seq (.sr (.m2 rfl (.t2 (cU rfl rfl rfl) (.done (.condF rfl (Wp.skip ?_))))))));have hkd : kd g.er < 100 := by
  obtain ⟨ks,e⟩ := hsm.kids;rw [e]
  show (1 : Int) < 100
  decide
 refine .sr (.m2 rfl (.t2 (cH (H3 _) rfl) (Rg.wd trivial (aW (cs := [.string s,.int .i64 0,.slice none 0 0]) rfl rfl) rfl ?_)));rintro _ w4 ⟨b20,rfl,q20,hx4,hv20⟩;have g2 : b2 < b20 := by have := hv2.lt; omega
 have g5 : b5 ≠ b20 := by have := hvb5.lt; omega
 have lo20 : w.heap.size ≤ b20 := by have := hx.le; omega
 have hyl := hy.le;have lt20 := hv20.lt;have hUb : Und (fun z => z < b20) w4.heap.size := fun z hz => by have := hv20.lt; omega
 replace hx := hx.ext hx4;replace hv2 := hv2.ext hx4;replace hy := hy.ext hx4;replace hvb5 := hvb5.ext hx4;have hBd : Bd (fun z => z < b20) w4 b20 s 0 [] := ⟨.slice none 0 0,fun z hz => by have := hv20.lt; omega,hv20,sO _ _ _ _,fun h => Nat.lt_irrefl _ h,fun z hz => by cases hz⟩;have hgF : GOk (fun z => z < b20) w4 g := GOk.mono (hgp.bw (Bw.of hy fun z hz => hz.2) fun z hz => hz) fun z hz => by have := hz.2; omega
 have hE20 : Er w4 := ⟨te,pe,hx.cell hE⟩;have hv5c := hvb5.cells;refine .a2 rfl (.done (.sr (.m2 rfl ?_)));refine .t2 (bB rfl hv5c (by rw [Gt.len]; exact dA)) ?_;refine Rg.wd trivial (aC Tryz.call22 rfl (sW _ g (Nat.le_refl _) (fun z => z < b20) _ b20 s 0 [] hsm.wf hkd hpp.fine hBd hgF hE20 (by omega) (Int.le_refl _) (by rw [hsm.len]; omega) hs (by have := hsm.cnt; have := hsm.len; simp only [List.length_nil]; omega))) rfl ?_;rintro _ w20 ⟨mn,K,rfl,hme,hK,hmn,hbd,hB20⟩;have hmo := hmn.oneL;have hv2n := aE hv2 hB20 g2;clear hBd hgF hv20;have hv2 := hv2n;clear hv2n;refine Rg.wd trivial (dB Tryz.zeroValue26 rfl) rfl ?_;rintro _ wa8 ⟨b8,rfl,q8,k,l⟩;refine Rg.wn trivial (cW (cs := mn.cells) l rfl rfl rfl (by rw [Mn.len]; exact cC) (by rw [Mn.len]; rfl) hmo) ?_;rintro _ w21 ⟨hu8,hv8⟩;have hx21 := k.upd hu8 (Nat.le_of_eq q8.symm);clear l hu8 k;have hU20 := hbd.und;have lt2 := hv2.lt;have b28 : b2 ≠ b8 := by omega
 have ltb := hbd.few;have nb8 : b20 ≠ b8 := by omega
 have hB21 : Bw (fun z => z < b20) _ w21 := uC hB20 hx21 hUb;replace hmn : NOk K w21 mn := hmn.bw (Bw.of hx21 fun z hz => hU20 z (.inr hz)) fun z hz => hz;have kn8 : ¬ K b8 := fun hk => by have := hU20 b8 (.inr hk); omega
 have hbd := hbd.add hx21 (Nat.le_of_eq q8.symm) hv8.lt;replace hv2 := hv2.ext hx21;obtain ⟨h,cv,kids⟩ := mn;have hmk : NOk K w21 (.mk ⟨h.kind,h.value,h.text,0,s.size,h.ns⟩ cv kids) := by
  cases hmn with | mk a b c d => exact .mk a b c d
 clear hmn;refine .done (.sr (.m2 rfl (.t2 (cS Tryz.underlying9 rfl) (.t2 (aA eU rfl) (Rg.wn trivial (cG hv8 bA rfl rfl rfl rfl rfl) ?_)))));rintro _ w22 ⟨hu22,hv8x⟩;have hB22 := hB21.trans (Bw.upd hu22 (by omega));have hbd22 := hbd.sub (F := fun z => z < b20 ∨ K z) fun z hz => hz.elim (fun h => .inl (.inl h)) fun h => .inl (.inr h);replace hbd22 := hbd22.upd hv8 (by decide) (by decide) hu22;replace hmk := hmk.bw (Bw.upd hu22 kn8) fun z hz => hz;replace hv2 := hv2.upd hu22 b28;clear hv8 hbd;have hv8 := hv8x;clear hv8x;refine .t2 (aA dV rfl) (Rg.wn trivial (cG hv8 bA rfl rfl rfl rfl rfl) ?_);rintro _ w23 ⟨hu23,hv8x⟩;have hB23 := hB22.trans (Bw.upd hu23 (by omega));have hbd23 := hbd22.upd hv8 (by decide) (by decide) hu23;replace hmk := hmk.bw (Bw.upd hu23 kn8) fun z hz => hz;replace hv2 := hv2.upd hu23 b28;clear hv8 hbd22;have hv8 := hv8x;clear hv8x;simp only [Mn.cells,Hd.cells,List.set] at hv8;have hlb : ∀ z,z < b20 ∨ K z → z ≠ b8 := fun z hz => hz.elim (fun h => by omega) fun h e => kn8 (e ▸ h);have hbd : Bd (fun z => (z < b20 ∨ K z) ∨ z = b8) w23 b20 s (gV s g.er 0 []).2.1 (gV s g.er 0 []).2.2 := by
  obtain ⟨dv,D⟩ := hbd23;have e8 := hv8.lt;refine ⟨dv,fun z hz => hz.elim (D.und z) fun e => by omega,D.var,D.row,fun hz => hz.elim D.nb nb8,fun z hz hf => hf.elim (D.nd z hz) fun e => ?_⟩;exact fU D.row hv8 (by decide) (by rw [← e,hz]; simp)
 clear hbd23;obtain ⟨dv,D⟩ := hbd;have hcnt := Gk (s := s) hsm hs;obtain ⟨ds0,hds0⟩ : ∃ z,(gV s g.er 0 []).2.2 = z := ⟨_,rfl⟩;rw [hds0] at D hcnt;refine .done (.sr (.m2 rfl (.t2 (aF rfl) (.t2 (aA sR rfl) (.t2 (aB Cg rfl (D.var.g 2 rfl)) ?_)))));refine Rg.wd trivial (aC Tryz.call23 rfl (Ge D (by omega))) rfl ?_;rintro _ w24 ⟨D24,hB24⟩;have hv8n := aE hv8 hB24 (.inr rfl);have hv2n := aE hv2 hB24 (.inl (.inl g2));have hmk24 := hmk.bw (hB24.sub fun z hz => .inl (.inr hz)) fun z hz => hz;have hB25 := hB23.trans (hB24.sub fun z hz => .inl (.inl hz));clear hv8 hv2 hmk D;have hv8 := hv8n;have hv2 := hv2n;have hmk := hmk24;have D := D24;clear hv8n hv2n hmk24 D24;refine .done ?_;refine Wp.seq (Wp.drawS (fun w' => Var w' b8 [.int .i64 h.kind,.int .i64 h.value,.string h.text,.int .i64 0,.int .i64 s.size,.int .i64 h.ns,cv] 26 ∧ Var w' b20 [.string s,.int .i64 (gV s g.er 0 []).2.1,dv] 59) [0,1,2,3,4,5,6,7,8] [] mixed (by kernel_rfl) (by kernel_rfl) (by rfl) ?_);intro w5 hx5 hh5;replace hv8 := hv8.ext hx5;replace hv2 := hv2.ext hx5;replace hmk := hmk.bw (Bw.of hx5 fun z hz => D.und z (.inl (.inr hz))) fun z hz => hz;replace hB25 := uC hB25 hx5 hUb;replace D := D.ext hx5;refine ⟨⟨hv8,D.var⟩,?_⟩;refine Rs.tm trivial rfl (ts fun wz hkz => by have y8 := hkz.1.cells; exact bB rfl y8 (by exact cC)) rfl ?_;refine Rs.tm trivial rfl (ts fun wz hkz => by exact aP rfl) rfl ?_;refine Rs.tm trivial rfl (ts fun wz hkz => by exact aF rfl) rfl ?_;refine Rs.tm trivial rfl (ts fun wz hkz => by exact aA sR rfl) rfl ?_;refine Rs.tm trivial rfl (ts fun wz hkz => by have y2 := hkz.2.cells; exact aB Cg rfl (bF.get (i := 2) y2 rfl)) rfl ?_
 refine Rs.wd trivial rfl (aC Tryz.call25 rfl (vV (F := fun z => ((z < b20 ∨ K z) ∨ z = b8) ∨ z = b20) D.row (fun z hz hf => hf.elim (D.nd z hz) fun e => fU D.row D.var (by decide) (by rw [← e,hz]; simp)) (fun z hz => hz.elim (D.und z) fun e => by have := D.var.lt; omega) (by rw [fD]; omega))) rfl (fun _ => fun _ _ hr => ⟨aE hv8 hr.2.2.2 (.inl (.inr rfl)),aE D.var hr.2.2.2 (.inr rfl)⟩) ?_;rintro lv w26 ⟨hsl,hl1,hlb2,hB26⟩;have hv8n := aE hv8 hB26 (.inl (.inr rfl));have hv2n := aE hv2 hB26 (.inl (.inl (.inl g2)));have hmk26 := hmk.bw (hB26.sub fun z hz => .inl (.inl (.inr hz))) fun z hz => hz;have hB27 := hB25.trans (hB26.sub fun z hz => .inl (.inl (.inl hz)));have hvB := aE D.var hB26 (.inr rfl);clear hv8 hv2 hmk;have hv8 := hv8n;have hv2 := hv2n;have hmk := hmk26;clear hv8n hv2n hmk26;refine Rs.wn trivial rfl (cW (cs := [.int .i64 h.kind,.int .i64 h.value,.string h.text,.int .i64 0,.int .i64 s.size,.int .i64 h.ns,cv]) hv2 rfl rfl rfl (by exact cC) rfl (hmk.oneL)) (fun _ => fun _ _ hr => ⟨hv8.upd hr.1 (Ne.symm b28),hvB.upd hr.1 (by omega)⟩) ?_;rintro _ w27 ⟨hu27,hv2x⟩;refine Rs.tm trivial rfl (ts fun wz hkz => by exact eJ rfl) rfl ?_;refine Rs.tm trivial rfl (ts fun wz hkz => by exact eJ rfl) rfl ?_;refine Rs.done (Wp.ret ?_);have nK2 : ¬ K b2 := fun hk => by have := hK b2 hk; omega
 have hfin : Ext w w27 := (Bw.ext hx hB27 fun z hz => (by omega : z < b20)).upd hu27 (Nat.le_of_eq q2.symm);have ndv : ∀ z,dv.ownBlock = some z → b20 ≤ z := fun z hz => Nat.le_of_not_lt fun h => D.nd z hz (.inl (.inl h));have sz26 := hB26.size;have sz27 := hu27.size;have ltd : ∀ z,dv.ownBlock = some z → z < w27.heap.size := fun z hz => by have := jI D.row hz; omega
 have hl0 := zL (lJ ds0);rw [fD] at hl0;have hwl := hx.le;refine ⟨[_,_,_],⟨⟨_,rfl,kM hv2x (by exact cC)⟩,rfl,rfl,trivial⟩,g.er,.mk ⟨h.kind,h.value,h.text,0,s.size,h.ns⟩ cv kids,lv,fM (lJ ds0),fun z => K z ∨ dv.ownBlock = some z,?_⟩;exact ⟨rfl,hpp,Gj hme,by rw [hds0],(hmk.bw (Bw.upd hu27 nK2) fun z hz => hz).mono fun z hz => .inl hz,fun z hz => .inr (hlb2 z hz),hl1,
  iL hsl (Bw.upd (F := fun z => dv.ownBlock = some z) hu27 fun e => by have := ndv b2 e; omega) hlb2,
  fun z hz => hz.elim (fun hk => ⟨by have := hK z hk; omega,by have := D.und z (.inl (.inr hk)); omega⟩) fun hk => ⟨by have := ndv z hk; omega,ltd z hk⟩,hfin,by omega⟩
end Go.Proofs.YtlndmiegodcfjaaGreatDoor.Ast
namespace Go.Proofs
open Go.Shelf
end Go.Proofs
namespace Go.Proofs.YtlndmiegodcfjaaGreatDoor.Par
set_option maxRecDepth 20000
open Go.Gx Go.RowKit Go.Lib
open Lexi (Asc)
open Lexi (tok aG tH zF iA)
abbrev Lo (w : World) : Fs := fun z => z < w.heap.size
theorem qD (l : List Tr) : l.length ≤ fN l := by
 induction l with
 | nil => exact Nat.le_refl _
 | cons t l ih =>
  obtain ⟨k,x,ks⟩ := t;simp only [List.length_cons,fN,Tr.cnt];omega
theorem pB {P : Program} {n : Nat} {L : Env} {w : World} {d : Option Tmp} {ty : TypeId} {pos : String} {af : Array Edge} {g : Option (Nat × Bool)} {t t' : TypeId} {x y : Operand} {u v : ByteArray} (hx : cF L x = some (.string u)) (hy : cF L y = some (.string v)) (h : u = v) : Tm P n ⟨d,.binOp .neq t x y t',ty,pos,af,g⟩ L w (.bool false) := by
 have := wO (P := P) (n := n) (w := w) (d := d) (ty := ty) (pos := pos) (af := af) (g := g) (t := t) (t' := t') hx hy;rwa [decide_eq_true h] at this
theorem tP {P : Program} {n : Nat} {L : Env} {w : World} {d : Option Tmp} {ty : TypeId} {pos : String} {af : Array Edge} {g : Option (Nat × Bool)} {t t' : TypeId} {x y : Operand} {u v : ByteArray} (hx : cF L x = some (.string u)) (hy : cF L y = some (.string v)) (h : u ≠ v) : Tm P n ⟨d,.binOp .neq t x y t',ty,pos,af,g⟩ L w (.bool true) := by
 have := wO (P := P) (n := n) (w := w) (d := d) (ty := ty) (pos := pos) (af := af) (g := g) (t := t) (t' := t') hx hy;rwa [decide_eq_false h] at this
theorem Dz {w : World} {s : ByteArray} {n : Nat} : Cl Tryz.prog 9 #[.string s,.int .i64 n] w (fun u w' => u = .string (s.extract 0 (min s.size n)) ∧ Ext w w') := by
 have hx := Ext.refl w;refine Cl.enter Tryz.func9 rfl Tryz.ntmps9 rfl rfl (.sr (.a2 rfl (.done (.sr (.m2 rfl (.m2 rfl (.t2 (cS Tryz.underlying9 rfl) (.m2 rfl (.t2 (Hv rfl rfl) ?_)))))))));rw [show min (s.size : Int) (n : Int) = ((min s.size n : Nat) : Int) from by omega];refine .t2 (eK Tryz.underlying9 rfl rfl rfl (by omega)) ?_;refine .a2 rfl (.done (Wp.ret ?_));exact ⟨[_],⟨rfl,trivial⟩,rfl,hx⟩
end Go.Proofs.YtlndmiegodcfjaaGreatDoor.Par
namespace Go.Proofs.YtlndmiegodcfjaaGreatDoor.Par
open Cmd
end Go.Proofs.YtlndmiegodcfjaaGreatDoor.Par
namespace Go.Proofs.YtlndmiegodcfjaaGreatDoor.Par
open Cmd
open Lexi (aG)
end Go.Proofs.YtlndmiegodcfjaaGreatDoor.Par
namespace Go.Proofs.YtlndmiegodcfjaaGreatDoor.Lexi
end Go.Proofs.YtlndmiegodcfjaaGreatDoor.Lexi
namespace Go.Proofs.YtlndmiegodcfjaaGreatDoor.Ast
open Par
open Lexi (aG bt)
variable {src src' : ByteArray} {d : Nat}
end Go.Proofs.YtlndmiegodcfjaaGreatDoor.Ast
namespace Go.Proofs.YtlndmiegodcfjaaGreatDoor.Par
set_option maxRecDepth 20000
open Go.Gx Go.RowKit Go.Lib
open Lexi (Asc aG)
open Ast
def NoL (w : World) (g : Mn) : Prop := NOk (Lo w) w g
theorem NoL.ext {w w' : World} {g : Mn} (h : NoL w g) (x : Ext w w') : NoL w' g := (NOk.bw h (Bw.of x fun z hz => hz) fun z hz => hz).mono fun z hz => Nat.lt_of_lt_of_le hz x.le
theorem NoL.oneL {w : World} {g : Mn} (h : NoL w g) : (g.cells.all (·.oneCell')) = true := NOk.oneL h
structure LvL (w : World) (lv : Value) (ds : List Dg) : Prop where
 sl : SlC w lv 5 ds.length (aK fG ds)
 one : lv.oneCell' = true
theorem LvL.ext {w w' : World} {lv : Value} {ds : List Dg} (h : LvL w lv ds) (x : Ext w w') : LvL w' lv ds := ⟨h.sl.ext x,h.one⟩
theorem sB {w w' : World} {s : ByteArray} {u lv : Value} {t : Tr} {mn : Mn} {ds : List Dg} {K : Fs} (h : yH w s u w' t mn lv ds K) : NoL w' mn ∧ LvL w' lv ds := ⟨h.ok.mono fun z hz => (h.lo z hz).2,h.sl,h.one⟩
theorem oC {w w' : World} (h : Er w) (x : Ext w w') : Er w' := by
 obtain ⟨a,b,h⟩ := h;exact ⟨a,b,x.cell h⟩
end Go.Proofs.YtlndmiegodcfjaaGreatDoor.Par
