/- slices.SortFunc at diagnostics, laid by the kit own shelf. -/
import Derived.Shelf.SlSortCmp.NoneTotal
import Derived.Ground.SlsfProg
import Derived.Test.YtiogccmfmjhipaaGreatDoorProg
import Derived.Test.YtiogccmfmjhipaaGreatDoorXh
import Derived.Test.YtiogccmfmjhipaaGreatDoorXa
import Derived.Test.YtiogccmfmjhipaaGreatDoorXg
import Derived.Shelf.Strings.Builder1
import Derived.Ground.Names2Prog
import Derived.Ground.SlgnProg
set_option linter.unusedVariables false
set_option linter.unusedSimpArgs false
namespace Go.Proofs
open Go.Shelf
def Tryz.sortDg_ren : Go.Shelf.Ren := ⟨fun | 6 => 48 | 15 => 79 | 14 => 78 | 28 => 139 | 29 => 140 | 20 => 131 | 21 => 132 | 22 => 133 | 23 => 134 | 24 => 135 | 25 => 136 | 26 => 137 | 27 => 138 | 46 => 196 | 47 => 197 | 48 => 198 | 49 => 199 | 50 => 200 | 57 => 253 | n => n,fun | 22 => 28 | 24 => 80 | 25 => 97 | 3 => 3 | 39 => 145 | 0 => 0 | 53 => 188 | 55 => 190 | 4 => 4 | 46 => 181 | 45 => 180 | 50 => 185 | 5 => 5 | 9 => 9 | 66 => 213 | 70 => 217 | 76 => 243 | 77 => 98 | n => n,fun | n => n⟩
theorem Tryz.sortDg : Go.Proofs.SlLaysF0.n6 Tryz.prog Tryz.sortDg_ren := {
 mixed := by kernel_rfl
 f6 := ⟨Tryz.f48.name,by decide,Tryz.func48.trans (congrArg some (by kernel_rfl))⟩
 f14 := ⟨Tryz.f78.name,by decide,Tryz.func78.trans (congrArg some (by kernel_rfl))⟩
 f15 := Tryz.func79.trans (congrArg some (by kernel_rfl))
 f20 := ⟨Tryz.f131.name,by decide,Tryz.func131.trans (congrArg some (by kernel_rfl))⟩
 f21 := ⟨Tryz.f132.name,by decide,Tryz.func132.trans (congrArg some (by kernel_rfl))⟩
 f22 := ⟨Tryz.f133.name,by decide,Tryz.func133.trans (congrArg some (by kernel_rfl))⟩
 f23 := ⟨Tryz.f134.name,by decide,Tryz.func134.trans (congrArg some (by kernel_rfl))⟩
 f24 := ⟨Tryz.f135.name,by decide,Tryz.func135.trans (congrArg some (by kernel_rfl))⟩
 f25 := ⟨Tryz.f136.name,by decide,Tryz.func136.trans (congrArg some (by kernel_rfl))⟩
 f26 := ⟨Tryz.f137.name,by decide,Tryz.func137.trans (congrArg some (by kernel_rfl))⟩
 f27 := ⟨Tryz.f138.name,by decide,Tryz.func138.trans (congrArg some (by kernel_rfl))⟩
 f28 := Tryz.func139.trans (congrArg some (by kernel_rfl))
 f29 := Tryz.func140.trans (congrArg some (by kernel_rfl))
 f46 := ⟨Tryz.f196.name,by decide,Tryz.func196.trans (congrArg some (by kernel_rfl))⟩
 f47 := Tryz.func197.trans (congrArg some (by kernel_rfl))
 f48 := Tryz.func198.trans (congrArg some (by kernel_rfl))
 f49 := ⟨Tryz.f199.name,by decide,Tryz.func199.trans (congrArg some (by kernel_rfl))⟩
 f50 := ⟨Tryz.f200.name,by decide,Tryz.func200.trans (congrArg some (by kernel_rfl))⟩
 f57 := ⟨Tryz.f253.name,by decide,Tryz.func253.trans (congrArg some (by kernel_rfl))⟩
 t0 := Tryz.underlying0
 a0 := Tryz.isAgg0
 z0 := Tryz.sizeOf0
 v0 := Tryz.zeroValue0
 t3 := Tryz.underlying3
 a3 := Tryz.isAgg3
 z3 := Tryz.sizeOf3
 v3 := Tryz.zeroValue3
 t4 := Tryz.underlying4
 a4 := Tryz.isAgg4
 z4 := Tryz.sizeOf4
 v4 := Tryz.zeroValue4
 t5 := Tryz.underlying5
 a5 := Tryz.isAgg5
 z5 := Tryz.sizeOf5
 v5 := Tryz.zeroValue5
 t9 := Tryz.underlying9
 a9 := Tryz.isAgg9
 z9 := Tryz.sizeOf9
 v9 := Tryz.zeroValue9
 t22 := Tryz.underlying28
 a22 := Tryz.isAgg28
 z22 := Tryz.sizeOf28
 v22 := Tryz.zeroValue28
 t25 := Tryz.underlying97
 a25 := Tryz.isAgg97
 z25 := Tryz.sizeOf97
 v25 := Tryz.zeroValue97
 t39 := Tryz.underlying145
 a39 := Tryz.isAgg145
 z39 := Tryz.sizeOf145
 v39 := Tryz.zeroValue145
 t45 := Tryz.underlying180
 a45 := Tryz.isAgg180
 z45 := Tryz.sizeOf180
 v45 := Tryz.zeroValue180
 t46 := Tryz.underlying181
 a46 := Tryz.isAgg181
 z46 := Tryz.sizeOf181
 v46 := Tryz.zeroValue181
 t50 := Tryz.underlying185
 a50 := Tryz.isAgg185
 z50 := Tryz.sizeOf185
 v50 := Tryz.zeroValue185
 t53 := Tryz.underlying188
 a53 := Tryz.isAgg188
 z53 := Tryz.sizeOf188
 v53 := Tryz.zeroValue188
 t55 := Tryz.underlying190
 a55 := Tryz.isAgg190
 z55 := Tryz.sizeOf190
 v55 := Tryz.zeroValue190
 t66 := Tryz.underlying213
 a66 := Tryz.isAgg213
 z66 := Tryz.sizeOf213
 v66 := Tryz.zeroValue213
 t70 := Tryz.underlying217
 a70 := Tryz.isAgg217
 z70 := Tryz.sizeOf217
 v70 := Tryz.zeroValue217
 t76 := Tryz.underlying243
 a76 := Tryz.isAgg243
 z76 := Tryz.sizeOf243
 v76 := Tryz.zeroValue243
 t77 := Tryz.underlying98
 a77 := Tryz.isAgg98
 z77 := Tryz.sizeOf98
 v77 := Tryz.zeroValue98 }
end Go.Proofs
namespace Go.Proofs.YtiogccmfmjhipaaGreatDoor.Ast
open Go.Gx Go.RowKit Go.Lib Go.Sort Go.Shelf
theorem cmpI_pos (a b : Int) : (a < b ∧ cmpI a b = -1) ∨ (a = b ∧ cmpI a b = 0) ∨ (b < a ∧ cmpI a b = 1) := by
 unfold cmpI
 rcases Int.lt_trichotomy a b with h | h | h
 ·exact .inl ⟨h,if_pos h⟩
 ·subst h
  exact .inr (.inl ⟨rfl,by simp⟩)
 ·exact .inr (.inr ⟨h,by rw [if_neg (by omega),if_pos h]⟩)
theorem cmpD_lt (a b : Dg) : cmpD a b < 0 ↔ (a.2.1 < b.2.1 ∨ (a.2.1 = b.2.1 ∧ (a.2.2 < b.2.2 ∨ (a.2.2 = b.2.2 ∧ a.1 < b.1)))) := by
 have e0 : cmpI 0 0 = 0 := rfl
 unfold cmpD
 rcases cmpI_pos a.2.1 b.2.1 with ⟨h1,e1⟩ | ⟨h1,e1⟩ | ⟨h1,e1⟩ <;> rcases cmpI_pos a.2.2 b.2.2 with ⟨h2,e2⟩ | ⟨h2,e2⟩ | ⟨h2,e2⟩ <;> rcases cmpI_pos a.1 b.1 with ⟨h3,e3⟩ | ⟨h3,e3⟩ | ⟨h3,e3⟩
 all_goals
  rw [e0,e1,e2,e3]
  simp only [orI0]
  simp
  omega
theorem cmpD_swo : SWO (ltOf cmpD) where
 irrefl x := by
  unfold ltOf
  rw [decide_eq_false_iff_not,cmpD_lt]
  omega
 trans x y z h1 h2 := by
  unfold ltOf at *
  rw [decide_eq_true_iff,cmpD_lt] at *
  omega
 ntrans x y z h1 h2 := by
  unfold ltOf at *
  rw [decide_eq_false_iff_not,cmpD_lt] at *
  omega
theorem cmpD_total (x y : Dg) (h1 : ltOf cmpD x y = false) (h2 : ltOf cmpD y x = false) : x = y := by
 unfold ltOf at *
 rw [decide_eq_false_iff_not,cmpD_lt] at *
 obtain ⟨a,b,c⟩ := x
 obtain ⟨d,e,f⟩ := y
 simp only at h1 h2
 have e1 : a = d := by omega
 have e2 : b = e := by omega
 have e3 : c = f := by omega
 rw [e1,e2,e3]
theorem cmpLays (blk off size : Nat) (w : World) : CmpLays Tryz.prog 49 #[] dgc 5 cmpD blk off size w := fun m os dk _ x y => by
 refine Calls.mono (compare_ok (a := x) (b := y)) fun e w' ⟨v,he,hv,hx,hd⟩ => ⟨by rw [he,hv],grow_of hx hd⟩
end Go.Proofs.YtiogccmfmjhipaaGreatDoor.Ast
namespace Go.Proofs.YtiogccmfmjhipaaGreatDoor.Ast
open Go.Gx Go.RowKit Go.Lib Go.Sort Go.Shelf
open Par
theorem encs_get {α : Type} {f : α → List Value} {k : Nat} (hk : ∀ a,(f a).length = k) (h0 : 0 < k) : ∀ (l : List α) (t : Nat),(encs f l)[t]? = (l[t / k]?).bind fun a => (f a)[t % k]?
 | [],t => by simp [encs]
 | a :: l,t => by
  have e : encs f (a :: l) = f a ++ encs f l := by simp [encs]
  rw [e]
  by_cases h : t < k
  ·rw [List.getElem?_append_left (by rw [hk]; exact h),Nat.div_eq_of_lt h,Nat.mod_eq_of_lt h]
   rfl
  ·have h1 : t / k = (t - k) / k + 1 := by
    rw [← Nat.sub_add_cancel (Nat.le_of_not_lt h),Nat.add_sub_cancel,Nat.add_div_right _ h0]
   have h2 : t % k = (t - k) % k := Nat.mod_eq_sub_mod (Nat.le_of_not_lt h)
   rw [List.getElem?_append_right (by rw [hk]; omega),hk,encs_get hk h0 l (t - k),h1,h2]
   rfl
theorem flat_encs (l : List Dg) : (flatK dgc 5 l.toArray).toList = encs dgc l := by
 apply List.ext_getElem?
 intro t
 rw [encs_get dgc_len (by decide)]
 by_cases h : t < l.length * 5
 ·have h1 : t / 5 < l.length := by omega
  have h2 : t % 5 < 5 := Nat.mod_lt _ (by decide)
  have h3 : t < (flatK dgc 5 l.toArray).size := by rw [size_flatK]; simpa using h
  have hg := get_flatK dgc 5 l.toArray t (by simpa using h)
  rw [getElem!_pos _ t h3] at hg
  rw [Array.getElem?_toList,Array.getElem?_eq_getElem h3,hg,List.getElem?_eq_getElem h1]
  have h4 : (l.toArray[t / 5]!) = l[t / 5] := by rw [getElem!_pos l.toArray (t / 5) (by simpa using h1)]; simp
  rw [h4]
  have h5 : t % 5 < (dgc l[t / 5]).length := by rw [dgc_len]; exact h2
  rw [getElem!_pos (dgc l[t / 5]) (t % 5) h5]
  exact (List.getElem?_eq_getElem h5).symm
 ·have h1 : l.length ≤ t / 5 := by omega
  rw [List.getElem?_eq_none (by rw [Array.length_toList,size_flatK]; simpa using h),List.getElem?_eq_none h1]
  rfl
theorem put_cells {l l' : List Dg} {sp : List Value} (hl : l'.length = l.length) : putCells id 0 (flatK dgc 5 l'.toArray) (encs dgc l ++ sp).toArray = (encs dgc l' ++ sp).toArray := by
 have hf := flat_encs l'
 have n1 : (encs dgc l).length = l.length * 5 := encs_len dgc_len _
 have n2 : (encs dgc l').length = l'.length * 5 := encs_len dgc_len _
 have hs : (flatK dgc 5 l'.toArray).size = l'.length * 5 := by simp
 apply Array.ext_getElem?
 intro k
 unfold putCells
 rw [Array.getElem?_mapIdx]
 simp only [List.getElem?_toArray]
 by_cases h : k < l.length * 5
 ·rw [List.getElem?_append_left (by omega),List.getElem?_append_left (by omega),List.getElem?_eq_getElem (show k < (encs dgc l).length by omega)]
  simp only [Option.map_some]
  rw [if_pos ⟨Nat.zero_le _,by omega⟩,← hf,Array.getElem?_toList,Nat.sub_zero,Array.getElem?_eq_getElem (by omega),getElem!_pos _ k (by omega)]
  rfl
 ·rw [List.getElem?_append_right (by omega),List.getElem?_append_right (by omega),n1,n2,hl]
  cases hq : sp[k - l.length * 5]? with
  | none => rfl
  | some v =>
   simp only [Option.map_some]
   rw [if_neg (by omega)]
theorem sorted_world {w : World} {g n : Nat} {os : Array Obj} {l l' : List Dg} {sp : List Value} (hv : Var w g (encs dgc l ++ sp) 80) (hl : l'.length = l.length) :
  Var (sortWorldK dgc 5 w g 0 n l'.toArray os) g (encs dgc l' ++ sp) 80 ∧ Bw (fun z => z < w.heap.size ∧ z ≠ g) w (sortWorldK dgc 5 w g 0 n l'.toArray os) := by
 have hlt := hv.lt
 have hh : (sortWorldK dgc 5 w g 0 n l'.toArray os).heap = w.heap.modify g (onCells (putCells id 0 (flatK dgc 5 l'.toArray))) ++ os := rfl
 constructor
 ·unfold Var
  rw [hh,Array.getElem?_append_left (by simpa using hlt),Array.getElem?_modify,if_pos rfl,show w.heap[g]? = _ from hv]
  simp only [Option.map_some,onCells,put_cells hl]
 ·refine ⟨rfl,rfl,rfl,by rw [hh]; simp,fun z hz => ?_⟩
  rw [hh,Array.getElem?_append_left (by simpa using hz.1),Array.getElem?_modify,if_neg (fun e => hz.2 e.symm)]
theorem holds_var {w : World} {g : Nat} {l : List Dg} {sp : List Value} (hv : Var w g (encs dgc l ++ sp) 80) : HoldsK dgc 5 w g 0 l.toArray := fun j hj => by
 have hs : (flatK dgc 5 l.toArray).size = l.length * 5 := by simp
 have hf := flat_encs l
 have n1 : (encs dgc l).length = l.length * 5 := encs_len dgc_len _
 constructor
 ·refine hv.cells j _ ?_
  rw [List.getElem?_append_left (by omega),← hf,Array.getElem?_toList,Array.getElem?_eq_getElem hj,getElem!_pos _ j hj]
  rfl
 ·have hh : w.heap[g]? = some (.cells (encs dgc l ++ sp).toArray 80 (0,0)) := hv
  simp [World.frozen?,hh]
def sortD (ds : List Dg) : List Dg := ds.mergeSort fun x y => !(ltOf cmpD) y x
theorem sortD_length (ds : List Dg) : (sortD ds).length = ds.length := List.length_mergeSort _
theorem enters49 : ∀ args w,(callFunc 49 args).run Tryz.prog w = .ok (.enter 49 args) w := enters_of Tryz.func49 (by kernel_rfl) rfl
theorem sort_ok {F : Fs} {w : World} {b : Nat} {src : ByteArray} {off : Int} {ds : List Dg} {dv : Value} (h : BdV F w b src off ds dv) (hl : ds.length ≤ 1000000) :
  Cl Tryz.prog 48 #[dv,.func (.func 49) #[] #[]] w (fun u w' => BdV F w' b src off (sortD ds) dv ∧ Bw F w w') := by
 rcases own_wholeG h.row with ⟨rfl,h0⟩ | ⟨g,cap,sp,rfl,g1,g2,g3,g4,g5⟩
 ·have e : ds = [] := List.length_eq_zero_iff.1 h0
  subst e
  refine Calls.mono (AnyF.slices_SortFunc_none (L := Tryz.sortDg) none 0 (.func (.func 49) #[] #[]) w) fun e w' ⟨he,hw⟩ => ?_
  subst hw
  have e0 : sortD ([] : List Dg) = [] := List.length_eq_zero_iff.1 (sortD_length [])
  exact ⟨_,he,by rw [e0]; exact h,Bw.refl _ _⟩
 ·have hH := holds_var g5
  have hb : g ≠ b := Var.ne g5 h.var (by decide)
  have hg := h.nd g rfl
  have hlt := g5.lt
  have hc := AnyQ.slices_SortFunc_total Tryz.sortDg 5 Tryz.isAgg80 Tryz.sizeOf80 dgc dgc_len (fun x v hv => by
   simp only [dgc,List.mem_cons,List.not_mem_nil,or_false] at hv
   rcases hv with rfl | rfl | rfl | rfl | rfl <;> rfl) cmpD cmpD_swo 49 #[] g 0 cap ds.toArray w enters49 (cmpLays _ _ _ _) hH hlt (by simp; omega) cmpD_total
  rw [show ds.toArray.size = ds.length from by simp] at hc
  refine Calls.mono hc fun e w' ⟨he,n,os,hw⟩ => ?_
  rw [show ds.toArray.toList = ds from by simp] at hw
  have hw : w' = sortWorldK dgc 5 w g 0 n (sortD ds).toArray os := hw
  subst hw
  obtain ⟨s1,s2⟩ := sorted_world (n := n) (os := os) g5 (sortD_length ds)
  have s3 : Bw F w (sortWorldK dgc 5 w g 0 n (sortD ds).toArray os) := s2.sub fun z hz => ⟨h.und z hz,fun e => hg (e ▸ hz)⟩
  refine ⟨_,he,⟨fun z hz => Nat.lt_of_lt_of_le (h.und z hz) s2.size,?_,?_,h.nb,h.nd⟩,s3⟩
  ·exact (s2.block b ⟨h.var.lt,Ne.symm hb⟩).trans h.var
  ·rw [sortD_length]
   exact whole_ownG g1 ((encs_len dgc_len _).trans (by rw [sortD_length])) g2 g3 g4 s1
end Go.Proofs.YtiogccmfmjhipaaGreatDoor.Ast
namespace Go.Proofs.YtiogccmfmjhipaaGreatDoor.Ast
set_option maxRecDepth 20000
open Go.Gx Go.RowKit Go.Lib
open Lexi (Asc)
open Par
theorem compact_small {w : World} {v : Value} {ds : List Dg} (hz : SlC w v 5 ds.length (encs dgc ds)) (hl : ds.length < 2) : Cl Tryz.prog 50 #[v] w (fun u w' => u = v ∧ w = w') := by
 refine Cl.enter Tryz.func50 rfl Tryz.ntmps50 rfl rfl (.sr (.a2 rfl (.done (.seq (.sr (.m2 rfl (.t2 (t_lenC hz Tryz.underlying28 rfl) ?_)))))))
 refine .t2 (t_lssT rfl rfl (by omega)) ?_
 refine .done (.condT rfl (.sr (.m2 rfl (.a2 rfl (.done (Wp.ret ?_))))))
 exact ⟨[_],⟨rfl,trivial⟩,rfl,rfl⟩
structure Df where
 c : Int
 m : Int
 s : Int
 e : Int
 n : ByteArray
def dfc (d : Df) : List Value := [.int .i64 d.c,.int .i64 d.m,.int .i64 d.s,.int .i64 d.e,.string d.n]
theorem dfc_len (d : Df) : (dfc d).length = 5 := rfl
def Dg.df (d : Dg) : Df := ⟨d.1,0,d.2.1,d.2.2,⟨#[]⟩⟩
theorem part3 (xs : Array Value) (v : Value) (o : Nat) (h : xs[o]? = some v) (w : World) : (part 3 xs o).run Tryz.prog w = .ok v w := by
 have h1 := ty3.ag w
 have h2 := ty3.sz w
 simp [part,h1,h2,h]
theorem part9 (xs : Array Value) (v : Value) (o : Nat) (h : xs[o]? = some v) (w : World) : (part 9 xs o).run Tryz.prog w = .ok v w := by
 have h1 := ty9.ag w
 have h2 := ty9.sz w
 simp [part,h1,h2,h]
theorem strEq (d : Nat) (p q : ByteArray) (w : World) : (Op.equalIn (d + 1) 9 (.string p) (.string q)).run Tryz.prog w = .ok (decide (p = q)) w := by
 rw [run_equalIn_string w d 9 p q Tryz.underlying9]
 first | rw [bytes_beq] | rw [← beq_toListBytes,bytes_beq]
theorem fields80 : (Tryz.prog.fieldsOf 80).toList.map (fun f => (f.name != "_",f.type,f.offset)) = [(true,3,0),(true,3,1),(true,3,2),(true,3,3),(true,9,4)] := by kernel_rfl
theorem under80 : Tryz.prog.underlying 80 = some (.struct (Tryz.prog.fieldsOf 80)) := by kernel_rfl
theorem eq80 (a b c d : Int) (e : ByteArray) (x y z u : Int) (v : ByteArray) (w : World) : (Op.equal 80 (.agg #[.int .i64 a,.int .i64 b,.int .i64 c,.int .i64 d,.string e]) (.agg #[.int .i64 x,.int .i64 y,.int .i64 z,.int .i64 u,.string v])).run Tryz.prog w = .ok (a == x && (b == y && (c == z && (d == u && decide (e = v))))) w := by
 obtain ⟨f0,f1,f2,f3,f4,hf,n0,t0,o0,n1,t1,o1,n2,t2,o2,n3,t3,o3,n4,t4,o4⟩ : ∃ f0 f1 f2 f3 f4 : Field,(Tryz.prog.fieldsOf 80).toList = [f0,f1,f2,f3,f4] ∧ f0.name ≠ "_" ∧ f0.type = 3 ∧ f0.offset = 0 ∧ f1.name ≠ "_" ∧ f1.type = 3 ∧ f1.offset = 1 ∧ f2.name ≠ "_" ∧ f2.type = 3 ∧ f2.offset = 2 ∧ f3.name ≠ "_" ∧ f3.type = 3 ∧ f3.offset = 3 ∧ f4.name ≠ "_" ∧ f4.type = 9 ∧ f4.offset = 4 := by
  have hf := fields80
  generalize (Tryz.prog.fieldsOf 80).toList = fs at hf ⊢
  rcases fs with _ | ⟨f0,_ | ⟨f1,_ | ⟨f2,_ | ⟨f3,_ | ⟨f4,_ | ⟨f5,r⟩⟩⟩⟩⟩⟩
  ·cases hf
  ·simp at hf
  ·simp at hf
  ·simp at hf
  ·simp at hf
  ·simp only [List.map_cons,List.map_nil,List.cons.injEq,Prod.mk.injEq,and_true,bne_iff_ne,ne_eq] at hf
   obtain ⟨⟨n0,t0,o0⟩,⟨n1,t1,o1⟩,⟨n2,t2,o2⟩,⟨n3,t3,o3⟩,n4,t4,o4⟩ := hf
   exact ⟨f0,f1,f2,f3,f4,rfl,n0,t0,o0,n1,t1,o1,n2,t2,o2,n3,t3,o3,n4,t4,o4⟩
  ·simp at hf
 unfold Op.equal
 rw [show Op.maxDepth = 9999 + 1 from rfl,run_equalIn_struct w 9999 80 _ _ under80 (by kernel_rfl),hf]
 have e1 : ∀ p q : Int,(Op.equalIn 9999 3 (.int .i64 p) (.int .i64 q)).run Tryz.prog w = .ok (p == q) w := fun p q => run_equalIn_int w 9998 3 .i64 .i64 p q Tryz.underlying3
 have e2 : (Op.equalIn 9999 9 (.string e) (.string v)).run Tryz.prog w = .ok (decide (e = v)) w := strEq 9998 e v w
 have p0 := part3 #[.int .i64 a,.int .i64 b,.int .i64 c,.int .i64 d,.string e] (.int .i64 a) 0 rfl w
 have p1 := part3 #[.int .i64 a,.int .i64 b,.int .i64 c,.int .i64 d,.string e] (.int .i64 b) 1 rfl w
 have p2 := part3 #[.int .i64 a,.int .i64 b,.int .i64 c,.int .i64 d,.string e] (.int .i64 c) 2 rfl w
 have p3 := part3 #[.int .i64 a,.int .i64 b,.int .i64 c,.int .i64 d,.string e] (.int .i64 d) 3 rfl w
 have p4 := part9 #[.int .i64 a,.int .i64 b,.int .i64 c,.int .i64 d,.string e] (.string e) 4 rfl w
 have q0 := part3 #[.int .i64 x,.int .i64 y,.int .i64 z,.int .i64 u,.string v] (.int .i64 x) 0 rfl w
 have q1 := part3 #[.int .i64 x,.int .i64 y,.int .i64 z,.int .i64 u,.string v] (.int .i64 y) 1 rfl w
 have q2 := part3 #[.int .i64 x,.int .i64 y,.int .i64 z,.int .i64 u,.string v] (.int .i64 z) 2 rfl w
 have q3 := part3 #[.int .i64 x,.int .i64 y,.int .i64 z,.int .i64 u,.string v] (.int .i64 u) 3 rfl w
 have q4 := part9 #[.int .i64 x,.int .i64 y,.int .i64 z,.int .i64 u,.string v] (.string v) 4 rfl w
 have ea := e1 a x
 have eb := e1 b y
 have ec := e1 c z
 have ed := e1 d u
 generalize (a == x) = r1 at ea ⊢
 generalize (b == y) = r2 at eb ⊢
 generalize (c == z) = r3 at ec ⊢
 generalize (d == u) = r4 at ed ⊢
 generalize decide (e = v) = r5 at e2 ⊢
 simp only [Op.eqFields,t0,t1,t2,t3,t4,o0,o1,o2,o3,o4,n0,n1,n2,n3,n4,ne_eq,not_false_eq_true,if_true,Sem.run_bind,p0,q0,Result.andThen_ok,ea]
 cases r1
 ·simp
 ·simp [p1,q1,eb]
  cases r2
  ·simp
  ·simp [p2,q2,ec]
   cases r3
   ·simp
   ·simp [p3,q3,ed]
    cases r4
    ·simp
    ·simp [p4,q4,e2]
     cases r5 <;> simp
theorem equalD_ok {w : World} {v1 v2 : Value} {xs ys : List Df} (hx0 : SlC w v1 5 xs.length (encs dfc xs)) (hy0 : SlC w v2 5 ys.length (encs dfc ys)) (hn : xs.length ≤ 9223372036854775807) :
    Cl Tryz.prog 40 #[v1,v2] w (fun u w' => (∃ b : Bool,u = .bool b ∧ (b = true ↔ xs = ys)) ∧ Ext w w') := by
 have hx := Ext.refl w
 by_cases hnm : xs.length = ys.length
 ·skip
  refine Cl.enter Tryz.func40 rfl Tryz.ntmps40 rfl rfl (.sr (.a2 rfl (.done (.seq (.sr (.m2 rfl (.t2 (t_lenC hx0 Tryz.underlying28 rfl) (.m2 rfl (.t2 (t_lenC hy0 Tryz.underlying28 rfl) ?_)))))))))
  refine .t2 (t_neqF rfl rfl (by omega)) ?_
  refine .done (.condF rfl (Wp.skip (.seq (.sr (.m2 rfl (.t2 (t_lenC hx0 Tryz.underlying28 rfl) (.m2 rfl (.done (Wp.block ?_)))))))))
  refine Wp.loop (ι := Nat) (fun k => [(0,v1),(1,v2),(12,.int .i64 xs.length),(13,.int .i64 k)])
   (fun k w' => k ≤ xs.length ∧ (∀ j (h : j < k),xs[j]? = ys[j]?) ∧ Ext w w') (fun k => xs.length - k) 0 (by repeat (first | exact .nil | refine .cons rfl ?_)) ⟨Nat.zero_le _,fun j h => by omega,hx⟩ ?_
  clear hx
  rintro k w3 ⟨hk,hpre,hx⟩
  by_cases hlt : k < xs.length
  ·have hlt2 : k < ys.length := by omega
   obtain ⟨a,ha⟩ : ∃ a,xs[k] = a := ⟨_,rfl⟩
   obtain ⟨b,hb⟩ : ∃ b,ys[k] = b := ⟨_,rfl⟩
   obtain ⟨a1,a2,a3,a4,a5⟩ := a
   obtain ⟨b1,b2,b3,b4,b5⟩ := b
   have hiff : (a1 == b1 && (a2 == b2 && (a3 == b3 && (a4 == b4 && decide (a5 = b5))))) = true ↔ (⟨a1,a2,a3,a4,a5⟩ : Df) = ⟨b1,b2,b3,b4,b5⟩ := by simp
   refine .sr ?_
   refine .t2 (t_lssT rfl rfl (by omega)) ?_
   refine .done (.seq (.condT rfl (Wp.skip (.seq (Wp.block (.sr (.m2 rfl (.a2 rfl (.done ?_)))))))))
   refine Wp.seq (Wp.draw [0,1,2,3,4,5,6,7,8] [] mixed (by kernel_rfl) (by kernel_rfl) ?_)
   intro w1 hx1 _
   replace hx := hx.ext hx1
   refine .m2 rfl (.m2 rfl ?_)
   refine Rg.ix hx0 trivial rfl rfl Tryz.underlying28 ty80 (by omega) rfl ?_
   intro bt18 ot18 ht18
   replace ht18 := ht18.ext hx
   rw [Int.toNat_natCast,encs_at dfc_len xs k hlt,ha] at ht18
   refine .t2 (t_loadA rfl ht18 ty80) (.m2 rfl (.m2 rfl ?_))
   refine Rg.ix hy0 trivial rfl rfl Tryz.underlying28 ty80 (by omega) rfl ?_
   intro bt22 ot22 ht22
   replace ht22 := ht22.ext hx
   rw [Int.toNat_natCast,encs_at dfc_len ys k hlt2,hb] at ht22
   refine .t2 (t_loadA rfl ht22 ty80) ?_
   refine .t2 (t_neqAgg (by kernel_rfl) (eq80 a1 a2 a3 a4 a5 b1 b2 b3 b4 b5) rfl rfl) ?_
   refine .done ?_
   by_cases heq : (⟨a1,a2,a3,a4,a5⟩ : Df) ≠ ⟨b1,b2,b3,b4,b5⟩
   ·skip
    rw [show (a1 == b1 && (a2 == b2 && (a3 == b3 && (a4 == b4 && decide (a5 = b5))))) = false from by rw [← Bool.not_eq_true,hiff]; exact heq]
    refine .condT rfl (.sr (.a2 rfl (.done (Wp.ret ?_))))
    refine ⟨[_],⟨rfl,trivial⟩,⟨false,rfl,?_⟩,hx⟩
    refine ⟨fun h => (by cases h),fun e => ?_⟩
    subst e
    exact absurd (ha.symm.trans hb) heq
   ·skip
    rw [show (a1 == b1 && (a2 == b2 && (a3 == b3 && (a4 == b4 && decide (a5 = b5))))) = true from by rw [hiff]; simpa using heq]
    refine .condF rfl (Wp.skip (Wp.region ?_))
    refine .t2 (t_addI rfl rfl (by omega)) ?_
    refine .m2 rfl (.done ?_)
    refine ⟨k + 1,by repeat (first | exact .nil | refine .cons rfl ?_),⟨hlt,fun j hj => ?_,hx⟩,by omega⟩
    rcases Nat.lt_succ_iff_lt_or_eq.1 hj with h | h
    ·exact hpre j h
    ·subst h
     rw [List.getElem?_eq_getElem hlt,List.getElem?_eq_getElem hlt2,ha,hb]
     congr 1
     simpa using heq
  ·skip
   refine .sr ?_
   refine .t2 (t_lssF rfl rfl (by omega)) ?_
   refine .done (.seq (.condF rfl (Wp.exit (.sr (.a2 rfl (.done (Wp.ret ?_)))))))
   refine ⟨[_],⟨rfl,trivial⟩,⟨true,rfl,fun _ => ?_,fun _ => rfl⟩,hx⟩
   refine List.ext_getElem? fun j => ?_
   by_cases hj : j < xs.length
   ·exact hpre j (by omega)
   ·rw [List.getElem?_eq_none (by omega),List.getElem?_eq_none (by omega)]
 ·skip
  refine Cl.enter Tryz.func40 rfl Tryz.ntmps40 rfl rfl (.sr (.a2 rfl (.done (.seq (.sr (.m2 rfl (.t2 (t_lenC hx0 Tryz.underlying28 rfl) (.m2 rfl (.t2 (t_lenC hy0 Tryz.underlying28 rfl) ?_)))))))))
  refine .t2 (t_neqT rfl rfl (by omega)) ?_
  refine .done (.condT rfl (.sr (.a2 rfl (.done (Wp.ret ?_)))))
  exact ⟨[_],⟨rfl,trivial⟩,⟨false,rfl,fun h => (by cases h),fun e => absurd (congrArg List.length e) hnm⟩,hx⟩
def cmpL : List Dg → List Dg
 | [] => []
 | a :: l => match l with
  | [] => [a]
  | b :: m => if a = b then cmpL (b :: m) else a :: cmpL (b :: m)
theorem cmpL_one (a : Dg) : cmpL [a] = [a] := rfl
theorem cmpL_two (a b : Dg) (m : List Dg) : cmpL (a :: b :: m) = if a = b then cmpL (b :: m) else a :: cmpL (b :: m) := rfl
theorem cmpL_snoc : ∀ (l : List Dg) (x y : Dg),cmpL (l ++ [x,y]) = if x = y then cmpL (l ++ [x]) else cmpL (l ++ [x]) ++ [y]
 | [],x,y => by
  show cmpL [x,y] = if x = y then cmpL [x] else cmpL [x] ++ [y]
  rw [cmpL_two]
  split
  ·rename_i h; rw [h]
  ·rfl
 | [a],x,y => by
  show cmpL (a :: x :: [y]) = if x = y then cmpL [a,x] else cmpL [a,x] ++ [y]
  have h0 := cmpL_snoc [] x y
  simp only [List.nil_append] at h0
  rw [cmpL_two a x [y],cmpL_two a x [],h0]
  split <;> split <;> rfl
 | a :: b :: l,x,y => by
  have h0 := cmpL_snoc (b :: l) x y
  simp only [List.cons_append] at h0 ⊢
  rw [cmpL_two a b (l ++ [x,y]),cmpL_two a b (l ++ [x]),h0]
  split <;> split <;> rfl
theorem cmpL_le (l : List Dg) : (cmpL l).length ≤ l.length := by
 induction l with
 | nil => exact Nat.le_refl _
 | cons a l ih =>
  cases l with
  | nil => exact Nat.le_refl _
  | cons b m =>
   rw [cmpL_two]
   split
   ·simp only [List.length_cons] at ih ⊢; omega
   ·simp only [List.length_cons] at ih ⊢; omega
theorem take_two (l : List Dg) (m : Nat) (h : m + 1 < l.length) : l.take (m + 2) = l.take m ++ [l[m],l[m + 1]] := by
 have e1 : l.take (m + 1) = l.take m ++ [l[m]'(by omega)] := by rw [List.take_succ_eq_append_getElem]
 have e2 : l.take (m + 2) = l.take (m + 1) ++ [l[m + 1]] := by rw [List.take_succ_eq_append_getElem]
 rw [e2,e1,List.append_assoc]
 rfl
theorem take_one (l : List Dg) (m : Nat) (h : m < l.length) : l.take (m + 1) = l.take m ++ [l[m]] := by rw [List.take_succ_eq_append_getElem]
theorem cmpL_step (l : List Dg) (m : Nat) (h : m + 1 < l.length) : cmpL (l.take (m + 2)) = if l[m] = l[m + 1] then cmpL (l.take (m + 1)) else cmpL (l.take (m + 1)) ++ [l[m + 1]] := by
 rw [take_two l m h,cmpL_snoc,← take_one l m (by omega)]
theorem row_at {w : World} {g : Nat} {cur : List Dg} {sp : List Value} (hv : Var w g (encs dgc cur ++ sp) 80) (i : Nat) (hi : i < cur.length) : Cells w g (i * 5) (dgc cur[i]) := by
 have h := hv.cells
 have h2 := h.sub (i * 5) 5
 rw [Nat.zero_add] at h2
 have e : ((encs dgc cur ++ sp).drop (i * 5)).take 5 = dgc cur[i] := by
  have hl : (encs dgc cur).length = cur.length * 5 := encs_len dgc_len _
  rw [List.drop_append_of_le_length (by omega),List.take_append_of_le_length (by rw [List.length_drop]; omega),encs_at dgc_len cur i hi]
 rw [e] at h2
 exact h2
theorem row_set {cur : List Dg} {sp : List Value} (i : Nat) (hi : i < cur.length) (d : Dg) : (encs dgc cur ++ sp).take (i * 5) ++ dgc d ++ (encs dgc cur ++ sp).drop (i * 5 + (dgc d).length) = encs dgc (cur.set i d) ++ sp := by
 have e : ∀ (l : List Dg) (i : Nat),i < l.length → encs dgc (l.set i d) = (encs dgc l).take (i * 5) ++ dgc d ++ (encs dgc l).drop (i * 5 + 5) := by
  intro l
  induction l with
  | nil => intro i hi; exact absurd hi (Nat.not_lt_zero _)
  | cons a l ih =>
   intro i hi
   have ea : ∀ (x : Dg) (m : List Dg),encs dgc (x :: m) = dgc x ++ encs dgc m := fun x m => by simp [encs]
   cases i with
   | zero =>
    rw [List.set_cons_zero,ea,ea,Nat.zero_mul,List.take_zero,List.nil_append,Nat.zero_add,List.drop_left' (dgc_len a)]
   | succ i =>
    rw [List.set_cons_succ,ea,ea,ih i (by simpa using hi)]
    rw [show (i + 1) * 5 = (dgc a).length + i * 5 from by rw [dgc_len]; omega,List.take_length_add_append,show (dgc a).length + i * 5 + 5 = (dgc a).length + (i * 5 + 5) from by omega,List.drop_length_add_append]
    simp only [List.append_assoc]
 have hl : (encs dgc cur).length = cur.length * 5 := encs_len dgc_len _
 rw [e cur i hi,dgc_len,List.take_append_of_le_length (by omega),List.drop_append_of_le_length (by omega),List.append_assoc,List.append_assoc,List.append_assoc]
def eqB (a b : Dg) : Bool := (a.1 == b.1 && ((0 : Int) == 0 && (a.2.1 == b.2.1 && (a.2.2 == b.2.2 && decide ((⟨#[]⟩ : ByteArray) = ⟨#[]⟩)))))
theorem eqB_iff (a b : Dg) : eqB a b = decide (a = b) := by
 obtain ⟨x,y,z⟩ := a
 obtain ⟨u,v,t⟩ := b
 rw [Bool.eq_iff_iff]
 simp [eqB]
theorem compact_ok {F : Fs} {w : World} {g cap : Nat} {ds : List Dg} {sp : List Value} (hv : Var w g (encs dgc ds ++ sp) 80) (h1 : ds.length ≤ cap) (hsp : sp.length = (cap - ds.length) * 5) (hg : ¬ F g) (hF : Und F w.heap.size) (h2 : 2 ≤ ds.length) (hl : ds.length ≤ 1000000) :
  Cl Tryz.prog 50 #[.slice (some ⟨g,0,none⟩) ds.length cap] w (fun u w' => u = .slice (some ⟨g,0,none⟩) (cmpL ds).length cap ∧ (∃ sp',Var w' g (encs dgc (cmpL ds) ++ sp') 80) ∧ Bw F w w') := by
 obtain ⟨n,hn⟩ : ∃ n,ds.length = n := ⟨_,rfl⟩
 have hB : Bw F w w := Bw.refl F w
 rw [hn]
 refine Cl.enter Tryz.func50 rfl Tryz.ntmps50 rfl rfl (.sr (.a2 rfl (.done (.seq (.sr (.m2 rfl (.t2 (t_lenS Tryz.underlying28 rfl) ?_)))))))
 refine .t2 (t_lssF rfl rfl (by omega)) ?_
 refine .done (.condF rfl (Wp.skip (.seq (.sr (.a2 rfl (.done (Wp.block ?_)))))))
 refine Wp.loop (ι := Nat) (fun k => [(0,.slice (some ⟨g,0,none⟩) n cap),(3,.int .i64 k)])
  (fun k w' => 1 ≤ k ∧ k ≤ n ∧ cmpL (ds.take k) = ds.take k ∧ Var w' g (encs dgc ds ++ sp) 80 ∧ Bw F w w') (fun k => n - k) 1 (by repeat (first | exact .nil | refine .cons rfl ?_)) ⟨Nat.le_refl _,by omega,by rw [take_one ds 0 (by omega)]; rfl,hv,hB⟩ ?_
 clear hv hB
 rintro k w1 ⟨hk1,hkn,hcmp,hv,hB⟩
 by_cases hlt : k < n
 ·obtain ⟨j,rfl⟩ : ∃ j,k = j + 1 := ⟨k - 1,by omega⟩
  obtain ⟨a,ha⟩ : ∃ a,ds[j]'(by omega) = a := ⟨_,rfl⟩
  obtain ⟨b,hb⟩ : ∃ b,ds[j + 1]'(by omega) = b := ⟨_,rfl⟩
  have hu1 := hF
  have hca := row_at hv j (by omega)
  have hcb := row_at hv (j + 1) (by omega)
  rw [ha] at hca
  rw [hb] at hcb
  have hstep := cmpL_step ds j (by omega)
  rw [ha,hb] at hstep
  refine .seq (.sr (.m2 rfl (.m2 rfl (.t2 (t_lenS Tryz.underlying28 rfl) ?_))))
  refine .t2 (t_lssT rfl rfl (by omega)) ?_
  refine .done (.condT rfl (Wp.skip (.seq (Wp.block ?_))))
  refine Wp.seq (Wp.draw [0,1,2,3,4,5,6,7,8,9] [] mixed (by kernel_rfl) (by kernel_rfl) ?_)
  intro w2 hx2 _
  replace hv := hv.ext hx2
  replace hca := hca.ext hx2
  replace hcb := hcb.ext hx2
  replace hB := bwX hB hx2 hF
  refine .m2 rfl (.m2 rfl ?_)
  refine .t2 (t_indexAddrL Tryz.underlying28 ty80 rfl rfl (by omega)) ?_
  refine .t2 (t_loadA rfl (by simpa using hcb) (by exact ty80)) ?_
  refine .m2 rfl (.m2 rfl ?_)
  refine .t2 (t_subI rfl rfl (by omega)) ?_
  refine .t2 (t_indexAddrL Tryz.underlying28 ty80 rfl rfl (by omega)) ?_
  refine .t2 (t_loadA rfl (by simpa using hca) (by exact ty80)) ?_
  refine .t2 (t_eqlAgg (b := eqB b a) (by kernel_rfl) (fun w => eq80 _ _ _ _ _ _ _ _ _ _ w) rfl rfl) ?_
  refine .done ?_
  rw [eqB_iff]
  by_cases heq : b = a
  ·rw [show decide (b = a) = true from decide_eq_true heq]
   refine .condT rfl (.sr (.m2 rfl (.m2 rfl ?_)))
   refine .t2 (t_sliceL Tryz.underlying28 ty80 rfl rfl rfl (by omega)) ?_
   simp only [Int.toNat_natCast,Nat.zero_add,if_neg (show ¬ cap = j + 1 by omega)]
   refine .a2 rfl (.done (.seq (.sr (.a2 rfl (.done (Wp.block ?_))))))
   refine Wp.loop (ι := Nat × Nat × List Dg) (fun i => [(0,.slice (some ⟨g,0,none⟩) n cap),(3,.int .i64 i.2.1),(4,.slice (some ⟨g,(j + 1) * 5,none⟩) (n - (j + 1)) (cap - (j + 1))),(5,.int .i64 i.1)])
    (fun i w' => 1 ≤ i.1 ∧ i.1 ≤ n - (j + 1) ∧ 1 ≤ i.2.1 ∧ i.2.1 + 1 ≤ j + 1 + i.1 ∧ i.2.2.length = n ∧ i.2.2.take i.2.1 = cmpL (ds.take (j + 1 + i.1)) ∧ (∀ q,j + i.1 ≤ q → i.2.2[q]? = ds[q]?) ∧ Var w' g (encs dgc i.2.2 ++ sp) 80 ∧ Bw F w w') (fun i => n - i.1) (1,j + 1,ds) (by repeat (first | exact .nil | refine .cons rfl ?_)) ⟨Nat.le_refl _,by simp only; omega,by simp only; omega,by simp only; omega,hn,by rw [show j + 1 + 1 = j + 2 from rfl,hstep,if_pos heq.symm]; exact hcmp.symm,fun q _ => rfl,hv,hB⟩ ?_
   clear hv hB hca hcb
   rintro ⟨k2,kk,cur⟩ w5 ⟨i1,i2,i3,i4,i5,i6,i7,hv,hB⟩
   simp only at i1 i2 i3 i4 i5 i6 i7 hv
   show Wp _ _ _ _ _ [(0,.slice (some ⟨g,0,none⟩) n cap),(3,.int .i64 kk),(4,.slice (some ⟨g,(j + 1) * 5,none⟩) (n - (j + 1)) (cap - (j + 1))),(5,.int .i64 k2)] w5
   by_cases hl2 : k2 < n - (j + 1)
   ·obtain ⟨m,rfl⟩ : ∃ m,k2 = m + 1 := ⟨k2 - 1,by omega⟩
    have q1 : j + 1 + m < cur.length := by omega
    have q2 : j + 1 + (m + 1) < cur.length := by omega
    obtain ⟨x,hx⟩ : ∃ x,cur[j + 1 + m] = x := ⟨_,rfl⟩
    obtain ⟨y,hy⟩ : ∃ y,cur[j + 1 + (m + 1)] = y := ⟨_,rfl⟩
    have ex : ds[j + 1 + m]'(by omega) = x := by
     have := i7 (j + 1 + m) (by omega)
     rw [List.getElem?_eq_getElem q1,List.getElem?_eq_getElem (by omega),hx] at this
     exact (Option.some.inj this).symm
    have ey : ds[j + 1 + (m + 1)]'(by omega) = y := by
     have := i7 (j + 1 + (m + 1)) (by omega)
     rw [List.getElem?_eq_getElem q2,List.getElem?_eq_getElem (by omega),hy] at this
     exact (Option.some.inj this).symm
    have hcx := row_at hv _ q1
    have hcy := row_at hv _ q2
    rw [hx] at hcx
    rw [hy] at hcy
    have hst2 := cmpL_step ds (j + 1 + m) (by omega)
    rw [ex,show ds[j + 1 + m + 1]'(by omega) = y from ey] at hst2
    refine .seq (.sr (.m2 rfl (.m2 rfl (.t2 (t_lenS Tryz.underlying28 rfl) ?_))))
    refine .t2 (t_lssT rfl rfl (by omega)) ?_
    refine .done (.condT rfl (Wp.skip (.seq (Wp.block ?_))))
    refine Wp.seq (Wp.draw [0,1,2,3,4,5,6,7,8,9] [] mixed (by kernel_rfl) (by kernel_rfl) ?_)
    intro w6 hx6 _
    replace hv := hv.ext hx6
    replace hcx := hcx.ext hx6
    replace hcy := hcy.ext hx6
    replace hB := bwX hB hx6 hF
    refine .m2 rfl (.m2 rfl ?_)
    refine .t2 (t_indexAddrL Tryz.underlying28 ty80 rfl rfl (by omega)) ?_
    refine .t2 (t_loadA rfl (by simpa [Nat.add_mul] using hcy) (by exact ty80)) ?_
    refine .m2 rfl (.m2 rfl ?_)
    refine .t2 (t_subI rfl rfl (by omega)) ?_
    refine .t2 (t_indexAddrL Tryz.underlying28 ty80 rfl rfl (by omega)) ?_
    refine .t2 (t_loadA rfl (by simpa [Nat.add_mul] using hcx) (by exact ty80)) ?_
    refine .t2 (t_neqAgg (b := eqB y x) (by kernel_rfl) (fun w => eq80 _ _ _ _ _ _ _ _ _ _ w) rfl rfl) ?_
    refine .done ?_
    rw [eqB_iff]
    by_cases he2 : y = x
    ·rw [show decide (y = x) = true from decide_eq_true he2]
     refine .condF rfl (Wp.skip (Wp.region (.m2 rfl ?_)))
     refine .t2 (t_addI rfl rfl (by omega)) ?_
     refine .a2 rfl (.done ?_)
     refine ⟨(m + 1 + 1,kk,cur),by repeat (first | exact .nil | refine .cons rfl ?_),⟨by simp only; omega,by simp only; omega,i3,by simp only; omega,i5,?_,fun q hq => i7 q (by omega),hv,hB⟩,by simp only; omega⟩
     show cur.take kk = cmpL (ds.take (j + 1 + m + 2))
     rw [hst2,if_pos he2.symm]
     exact i6
    ·rw [show decide (y = x) = false from decide_eq_false he2]
     refine .condT rfl (.sr (.m2 rfl (.m2 rfl (.m2 rfl (.m2 rfl ?_)))))
     refine .t2 (t_indexAddrL Tryz.underlying28 ty80 rfl rfl (by omega)) ?_
     refine .t2 (t_loadA rfl (by simpa [Nat.add_mul] using hcy) (by exact ty80)) ?_
     refine .t2 (t_indexAddrL Tryz.underlying28 ty80 rfl rfl (by omega)) ?_
     refine Rg.wn trivial (w_putAt (cs := dgc y) hv (by simp; rfl) rfl rfl (by exact ty80) (by rw [dgc_len,List.length_append,encs_len dgc_len]; omega) (by intro u hu; simp only [dgc,List.mem_cons,List.not_mem_nil,or_false] at hu; rcases hu with rfl | rfl | rfl | rfl | rfl <;> rfl)) ?_
     rintro _ w8 ⟨hu8,hv8⟩
     rw [row_set kk (by omega) y] at hv8
     replace hB := hB.trans (Bw.upd hu8 hg)
     clear hv hcy
     
     refine .done (Wp.region (.m2 rfl ?_))
     refine .t2 (t_addI rfl rfl (by omega)) ?_
     refine .a2 rfl (.done (Wp.region (.m2 rfl ?_)))
     refine .t2 (t_addI rfl rfl (by omega)) ?_
     refine .a2 rfl (.done ?_)
     refine ⟨(m + 1 + 1,kk + 1,cur.set kk y),by repeat (first | exact .nil | refine .cons rfl ?_),⟨by simp only; omega,by simp only; omega,by simp only; omega,by simp only; omega,by simpa using i5,?_,fun q hq => ?_,hv8,hB⟩,by simp only; omega⟩
     ·show (cur.set kk y).take (kk + 1) = cmpL (ds.take (j + 1 + m + 2))
      rw [hst2,if_neg (fun e => he2 e.symm),take_one _ kk (by simp; omega),List.getElem_set_self]
      rw [List.take_set,List.set_eq_of_length_le (by simp; omega)]
      exact congrArg (· ++ [y]) i6
     ·show (cur.set kk y)[q]? = ds[q]?
      simp only at hq
      rw [List.getElem?_set_ne (by omega)]
      exact i7 q (by omega)
   ·obtain rfl : k2 = n - (j + 1) := by omega
    have hcl : cur.take kk = cmpL ds := by rw [i6,show j + 1 + (n - (j + 1)) = ds.length from by omega,List.take_length]
    have hkl : (cmpL ds).length = kk := by rw [← hcl,List.length_take]; omega
    have hlen : (encs dgc cur ++ sp).length = cap * 5 := by rw [List.length_append,encs_len dgc_len,hsp]; omega
    refine .seq (.sr (.m2 rfl (.m2 rfl (.t2 (t_lenS Tryz.underlying28 rfl) ?_))))
    refine .t2 (t_lssF rfl rfl (by omega)) ?_
    refine .done (.condF rfl (Wp.exit (.sr (.m2 rfl (.m2 rfl ?_)))))
    refine .t2 (t_sliceL Tryz.underlying28 ty80 rfl rfl rfl (by omega)) ?_
    simp only [Int.toNat_natCast,Nat.zero_add,if_neg (show ¬ cap = kk by omega)]
    refine Rg.wn trivial (w_clearV (size := 5) (z := .agg #[.int .i64 0,.int .i64 0,.int .i64 0,.int .i64 0,.string ⟨#[]⟩]) (zs := [.int .i64 0,.int .i64 0,.int .i64 0,.int .i64 0,.string ⟨#[]⟩]) Tryz.underlying28 Tryz.zeroValue80 rfl rfl hv rfl (by rw [hlen]; omega) (by simp [Value.oneCell'])) ?_
    rintro _ w9 ⟨hu9,cur',hv9,h91,h92,h93⟩
    replace hB := hB.trans (Bw.upd hu9 hg)
    have hfront : cur' = encs dgc (cmpL ds) ++ cur'.drop (kk * 5) := by
     have e1 : cur'.take (kk * 5) = encs dgc (cmpL ds) := by
      rw [h92,List.take_append_of_le_length (by rw [encs_len dgc_len]; omega),← hcl]
      have e2 : encs dgc cur = encs dgc (cur.take kk) ++ encs dgc (cur.drop kk) := by rw [← encs_app,List.take_append_drop]
      rw [e2,List.take_left' (by rw [encs_len dgc_len,List.length_take]; omega)]
     rw [← e1,List.take_append_drop]
    rw [hfront] at hv9
    refine .done (.sr (.m2 rfl (.m2 rfl ?_)))
    refine .t2 (t_sliceL Tryz.underlying28 ty80 rfl rfl rfl (by omega)) ?_
    simp only [Int.toNat_natCast,Nat.sub_zero,Int.toNat_zero,Nat.zero_mul,Nat.add_zero,ite_self,Int.zero_add]
    refine .a2 rfl (.done (Wp.ret ?_))
    exact ⟨[_],⟨rfl,trivial⟩,by rw [hkl] <;> rfl,⟨_,hv9⟩,hB⟩
  ·rw [show decide (b = a) = false from decide_eq_false heq]
   refine .condF rfl (Wp.skip (Wp.region (.m2 rfl ?_)))
   refine .t2 (t_addI rfl rfl (by omega)) ?_
   refine .a2 rfl (.done ?_)
   refine ⟨j + 1 + 1,by repeat (first | exact .nil | refine .cons rfl ?_),⟨by omega,by omega,?_,hv,hB⟩,by omega⟩
   show cmpL (ds.take (j + 2)) = ds.take (j + 2)
   rw [hstep,if_neg (fun e => heq e.symm),hcmp,take_one ds (j + 1) (by omega),hb]
 ·skip
  refine .seq (.sr (.m2 rfl (.m2 rfl (.t2 (t_lenS Tryz.underlying28 rfl) ?_))))
  refine .t2 (t_lssF rfl rfl (by omega)) ?_
  refine .done (.condF rfl (Wp.exit (.sr (.m2 rfl (.a2 rfl (.done (Wp.ret ?_)))))))
  obtain rfl : k = ds.length := by omega
  rw [List.take_length] at hcmp
  exact ⟨[_],⟨rfl,trivial⟩,by rw [hcmp,hn] <;> rfl,⟨_,by rw [hcmp]; exact hv⟩,hB⟩
end Go.Proofs.YtiogccmfmjhipaaGreatDoor.Ast
namespace Go.Proofs.YtiogccmfmjhipaaGreatDoor.Par
def nsig : List Tok → Nat
 | [] => 0
 | t :: l => if isTriv t.1 then nsig l else nsig l + 1
theorem nsig_app (a b : List Tok) : nsig (a ++ b) = nsig a + nsig b := by
 induction a with
 | nil => simp [nsig]
 | cons t a ih => simp only [List.cons_append,nsig]; split <;> omega
theorem sig1_app {q z : List Tok} (h : 1 ≤ nsig q) : sig1 (q ++ z) = sig1 q := by
 induction q with
 | nil => simp [nsig] at h
 | cons t q ih =>
  simp only [List.cons_append,sig1,nsig] at h ⊢
  split
  ·rename_i ht; rw [if_pos ht] at h; exact ih h
  ·rfl
theorem left_app {q z : List Tok} (h : 1 ≤ nsig q) : left (q ++ z) = left q ++ z := by
 induction q with
 | nil => simp [nsig] at h
 | cons t q ih =>
  simp only [List.cons_append,left,nsig] at h ⊢
  split
  ·rename_i ht; rw [if_pos ht] at h; exact ih h
  ·rfl
theorem taken_app {q z : List Tok} (h : 1 ≤ nsig q) : taken (q ++ z) = taken q := by
 induction q with
 | nil => simp [nsig] at h
 | cons t q ih =>
  simp only [List.cons_append,taken,nsig] at h ⊢
  split
  ·rename_i ht; rw [if_pos ht] at h; rw [ih h]
  ·rfl
theorem nsig_left {q : List Tok} (h : 1 ≤ nsig q) : nsig (left q) + 1 = nsig q := by
 induction q with
 | nil => simp [nsig] at h
 | cons t q ih =>
  simp only [left,nsig] at h ⊢
  split
  ·rename_i ht; rw [if_pos ht] at h; exact ih h
  ·rfl
theorem nsig_taken {q : List Tok} (h : 1 ≤ nsig q) : nsig (taken q) = 1 := by
 have := congrArg nsig (taken_left q)
 rw [nsig_app] at this
 have := nsig_left h
 omega
theorem left_nil {q : List Tok} (h : nsig q = 0) : left q = [] := by
 induction q with
 | nil => rfl
 | cons t q ih =>
  simp only [left,nsig] at h ⊢
  split at h
  ·rename_i ht; rw [if_pos ht]; exact ih h
  ·omega
theorem nsig_pos {q : List Tok} (h : left q ≠ []) : 1 ≤ nsig q := by
 rcases Nat.eq_zero_or_pos (nsig q) with c | c
 ·exact absurd (left_nil c) h
 ·exact c
theorem rc_suf {body : Nm → Cmd} {rec : Cmd → S → Option S} (hr : ∀ c s r,rec c s = some r → ∃ u,s.rem = u ++ r.rem) : ∀ c s r,runC body rec c s = some r → ∃ u,s.rem = u ++ r.rem := by
 intro c
 induction c with
 | skip => intro s r h; obtain rfl := Option.some.inj h; exact ⟨[],rfl⟩
 | bump => intro s r h; obtain rfl := Option.some.inj h; exact ⟨taken s.rem,(taken_left _).symm⟩
 | drop => intro s r h; obtain rfl := Option.some.inj h; exact ⟨[],rfl⟩
 | flag b => intro s r h; obtain rfl := Option.some.inj h; exact ⟨[],rfl⟩
 | leaf k => intro s r h; obtain rfl := Option.some.inj h; exact ⟨[],rfl⟩
 | before =>
  intro s r h
  simp only [runC] at h
  split at h
  ·obtain rfl := Option.some.inj h; exact ⟨[],rfl⟩
  ·cases h
 | seq a b iha ihb =>
  intro s r h
  simp only [runC,Option.bind_eq_some_iff] at h
  obtain ⟨x,h1,h2⟩ := h
  obtain ⟨u,e1⟩ := iha _ _ h1
  obtain ⟨v,e2⟩ := ihb _ _ h2
  exact ⟨u ++ v,by rw [e1,e2,List.append_assoc]⟩
 | node k c ih =>
  intro s r h
  simp only [runC,Option.map_eq_some_iff] at h
  obtain ⟨x,h1,rfl⟩ := h
  obtain ⟨u,e⟩ := ih _ _ h1
  exact ⟨u,e⟩
 | wrap k c ih =>
  intro s r h
  simp only [runC] at h
  split at h
  ·simp only [Option.map_eq_some_iff] at h
   obtain ⟨x,h1,rfl⟩ := h
   obtain ⟨u,e⟩ := ih _ _ h1
   exact ⟨u,e⟩
  ·cases h
 | cond t a b iha ihb =>
  intro s r h
  simp only [runC] at h
  split at h
  ·exact iha _ _ h
  ·exact ihb _ _ h
 | loop t c ih =>
  intro s r h
  simp only [runC] at h
  split at h
  ·simp only [Option.bind_eq_some_iff] at h
   obtain ⟨x,h1,h2⟩ := h
   obtain ⟨u,e1⟩ := ih _ _ h1
   obtain ⟨v,e2⟩ := hr _ _ _ h2
   exact ⟨u ++ v,by rw [e1,e2,List.append_assoc]⟩
  ·obtain rfl := Option.some.inj h; exact ⟨[],rfl⟩
 | prog c a b ihc iha ihb =>
  intro s r h
  simp only [runC,Option.bind_eq_some_iff] at h
  obtain ⟨x,h1,h2⟩ := h
  obtain ⟨u,e1⟩ := ihc _ _ h1
  split at h2
  ·obtain ⟨v,e2⟩ := iha _ _ h2
   exact ⟨u ++ v,by rw [e1,e2,List.append_assoc]⟩
  ·obtain ⟨v,e2⟩ := ihb _ _ h2
   exact ⟨u ++ v,by rw [e1,e2,List.append_assoc]⟩
 | call x => intro s r h; exact hr _ _ _ h
 | sel f c ih => intro s r h; exact ih _ _ _ h
theorem run_suf : ∀ n c s r,run body n c s = some r → ∃ u,s.rem = u ++ r.rem
 | 0 => rc_suf (by intro _ _ _ h; cases h)
 | n + 1 => rc_suf (run_suf n)
def Two (t : Test) : Prop := ∀ x y z z' f,t x y z f = t x y z' f
def eats : Cmd → Bool
 | .bump => true
 | .seq a _ => eats a
 | .node _ c => eats c
 | .wrap _ c => eats c
 | _ => false
def Loc : Cmd → Prop
 | .seq a b => Loc a ∧ Loc b
 | .node _ c => Loc c
 | .wrap _ c => Loc c
 | .cond t a b => (Two t ∨ (eats a = true ∧ eats b = true)) ∧ Loc a ∧ Loc b
 | .loop t c => Two t ∧ Loc c
 | .prog c a b => Loc c ∧ Loc a ∧ Loc b
 | .sel _ c => ∀ k,Loc (c k)
 | _ => True
theorem Loc.list {cl : ByteArray} {el : Cmd} (h : Loc el) : Loc (Cmd.list cl el) :=
 ⟨⟨fun _ _ _ _ _ => rfl,h,trivial,.inl fun _ _ _ _ _ => rfl,trivial,.inl fun _ _ _ _ _ => rfl,trivial,trivial⟩,.inl fun _ _ _ _ _ => rfl,trivial,trivial⟩
theorem Loc.seg (b : Bool) : Loc (seg b) := by
 cases b
 ·exact ⟨⟨.inl fun _ _ _ _ _ => rfl,trivial,trivial⟩,trivial⟩
 ·exact ⟨⟨.inl fun _ _ _ _ _ => rfl,trivial,trivial⟩,.inl fun _ _ _ _ _ => rfl,⟨trivial,Loc.list trivial⟩,trivial⟩
theorem Loc.tail (b : Bool) : Loc (stmtTail b) := by
 cases b <;> (unfold stmtTail; repeat' (first | apply And.intro | exact trivial | exact Or.inl fun _ _ _ _ _ => rfl))
theorem loc_body : ∀ x,Loc (body x) := by
 intro x
 cases x
 case itemBody k =>
  show Loc (if _ then _ else _)
  split
  ·trivial
  split
  ·trivial
  split
  ·trivial
  split
  ·exact ⟨⟨.inl fun _ _ _ _ _ => rfl,trivial,trivial⟩,trivial⟩
  split
  ·trivial
  split
  ·repeat' (first | apply And.intro | exact trivial | exact Or.inl fun _ _ _ _ _ => rfl)
  split
  ·repeat' (first | apply And.intro | exact trivial | exact Or.inl fun _ _ _ _ _ => rfl)
  ·trivial
 case binary n =>
  show Loc (if _ then _ else _)
  split
  ·trivial
  ·refine ⟨trivial,?_⟩
   split
   ·exact ⟨.inl fun _ _ _ _ _ => rfl,⟨trivial,trivial⟩,trivial⟩
   ·exact ⟨fun _ _ _ _ _ => rfl,trivial,trivial⟩
 case function b =>
  refine ⟨⟨.inl fun _ _ _ _ _ => rfl,trivial,trivial⟩,trivial,⟨.inl fun _ _ _ _ _ => rfl,trivial,trivial⟩,trivial,⟨.inl fun _ _ _ _ _ => rfl,⟨trivial,trivial⟩,trivial⟩,?_⟩
  cases b
  ·exact ⟨.inl fun _ _ _ _ _ => rfl,⟨trivial,trivial⟩,trivial⟩
  ·trivial
 case dataType k =>
  refine ⟨⟨.inl fun _ _ _ _ _ => rfl,trivial,trivial⟩,trivial,⟨.inl fun _ _ _ _ _ => rfl,trivial,trivial⟩,Loc.list ⟨.inl fun _ _ _ _ _ => rfl,?_,trivial⟩⟩
  split
  ·exact ⟨trivial,⟨.inl fun _ _ _ _ _ => rfl,trivial,trivial⟩,trivial⟩
  ·exact ⟨trivial,.inl fun _ _ _ _ _ => rfl,⟨trivial,Loc.list trivial⟩,trivial⟩
 case item =>
  intro k
  show Loc (if _ then _ else _)
  split
  ·trivial
  ·exact ⟨⟨.inl fun _ _ _ _ _ => rfl,trivial,trivial⟩,trivial,trivial⟩
 case statement =>
  refine ⟨.inl fun _ _ _ _ _ => rfl,⟨trivial,trivial⟩,.inl fun _ _ _ _ _ => rfl,⟨⟨trivial,trivial,trivial⟩,trivial⟩,.inl fun _ _ _ _ _ => rfl,⟨trivial,trivial⟩,.inl fun _ _ _ _ _ => rfl,⟨trivial,⟨trivial,trivial,trivial⟩,Loc.tail true⟩,trivial,⟨trivial,trivial,trivial⟩,Loc.tail false⟩
 case path b => exact ⟨Loc.seg b,fun _ _ _ _ _ => rfl,trivial,Loc.seg b⟩
 all_goals (repeat' (first | apply And.intro | exact trivial | exact Or.inl fun _ _ _ _ _ => rfl | exact Or.inr ⟨rfl,rfl⟩ | exact fun _ _ _ _ _ => rfl | exact Loc.list trivial | (refine Loc.list ?_)))
theorem rc_eats {rec : Cmd → S → Option S} (hr : ∀ c s r,rec c s = some r → ∃ u,s.rem = u ++ r.rem) : ∀ c s r,eats c = true → runC body rec c s = some r → r.rem ≠ [] → ∃ u,s.rem = u ++ r.rem ∧ 1 ≤ nsig u := by
 intro c
 induction c with
 | bump =>
  intro s r _ h hne
  obtain rfl := Option.some.inj h
  refine ⟨taken s.rem,(taken_left _).symm,?_⟩
  rw [nsig_taken (nsig_pos hne)]
  exact Nat.le_refl 1
 | seq a b iha ihb =>
  intro s r he h hne
  simp only [runC,Option.bind_eq_some_iff] at h
  obtain ⟨x,h1,h2⟩ := h
  obtain ⟨v,e2⟩ := rc_suf hr _ _ _ h2
  obtain ⟨u,e1,h3⟩ := iha _ _ he h1 (by rw [e2]; simp [hne])
  exact ⟨u ++ v,by rw [e1,e2,List.append_assoc],by rw [nsig_app]; omega⟩
 | node k c ih =>
  intro s r he h hne
  simp only [runC,Option.map_eq_some_iff] at h
  obtain ⟨x,h1,rfl⟩ := h
  obtain ⟨u,e,hn⟩ := ih _ _ he h1 hne
  exact ⟨u,e,hn⟩
 | wrap k c ih =>
  intro s r he h hne
  simp only [runC] at h
  split at h
  ·simp only [Option.map_eq_some_iff] at h
   obtain ⟨x,h1,rfl⟩ := h
   obtain ⟨u,e,hn⟩ := ih _ _ he h1 hne
   exact ⟨u,e,hn⟩
  ·cases h
 | _ => intro s r he; cases he
def S.at (s : S) (l : List Tok) : S := { s with rem := l }
theorem test_app {t : Test} {s : S} {q z z' : List Tok} (h : s.rem = q ++ z) (hq : 2 ≤ nsig q) (ht : Two t ∨ 3 ≤ nsig q) : (s.at (q ++ z')).test t = s.test t := by
 have h1 := nsig_left (q := q) (by omega)
 have h2 := nsig_left (q := left q) (by omega)
 have k : ∀ y : List Tok,sig1 (q ++ y) = sig1 q ∧ sig1 (left (q ++ y)) = sig1 (left q) ∧ left (left (q ++ y)) = left (left q) ++ y := fun y => by
  have e2 : left (q ++ y) = left q ++ y := left_app (by omega)
  rw [e2]
  exact ⟨sig1_app (by omega),sig1_app (by omega),left_app (by omega)⟩
 obtain ⟨a1,a2,a3⟩ := k z
 obtain ⟨b1,b2,b3⟩ := k z'
 unfold S.test
 rw [h]
 simp only [S.at]
 rw [a1,a2,a3,b1,b2,b3]
 rcases ht with ht | ht
 ·exact ht _ _ _ _ _
 ·rw [sig1_app (q := left (left q)) (z := z) (by omega),sig1_app (q := left (left q)) (z := z') (by omega)]
def LocR (rec : Cmd → S → Option S) : Prop := ∀ c s r q p z z',Loc c → rec c s = some r → s.rem = q ++ z → r.rem = p ++ z → 2 ≤ nsig p → rec c (s.at (q ++ z')) = some (r.at (p ++ z'))
theorem suf_len {q u p z : List Tok} (h : q ++ z = u ++ (p ++ z)) : q = u ++ p := by
 rw [← List.append_assoc] at h
 exact List.append_cancel_right h
theorem rc_loc {rec : Cmd → S → Option S} (hs : ∀ c s r,rec c s = some r → ∃ u,s.rem = u ++ r.rem) (hr : LocR rec) : LocR (runC body rec) := by
 intro c
 induction c with
 | skip =>
  intro s r q p z z' _ h e1 e2 hp
  obtain rfl := Option.some.inj h
  obtain rfl := List.append_cancel_right (e1.symm.trans e2)
  rfl
 | drop =>
  intro s r q p z z' _ h e1 e2 hp
  obtain rfl := Option.some.inj h
  obtain rfl := List.append_cancel_right (e1.symm.trans e2)
  rfl
 | flag b =>
  intro s r q p z z' _ h e1 e2 hp
  obtain rfl := Option.some.inj h
  obtain rfl := List.append_cancel_right (e1.symm.trans e2)
  rfl
 | leaf k =>
  intro s r q p z z' _ h e1 e2 hp
  obtain rfl := Option.some.inj h
  obtain rfl := List.append_cancel_right (e1.symm.trans e2)
  rfl
 | before =>
  intro s r q p z z' _ h e1 e2 hp
  simp only [runC] at h
  split at h
  ·rename_i t ht
   obtain rfl := Option.some.inj h
   obtain rfl := List.append_cancel_right (e1.symm.trans e2)
   have ht : (s.at (q ++ z')).kids.getLast? = some t := ht
   simp only [runC,ht]
   rfl
  ·cases h
 | bump =>
  intro s r q p z z' _ h e1 e2 hp
  obtain rfl := Option.some.inj h
  have e3 : left s.rem = p ++ z := e2
  have e4 := suf_len (q := q) (u := taken s.rem) (p := p) (z := z) (by rw [← e1,← e3,taken_left])
  have hq : 1 ≤ nsig q := by rw [e4,nsig_app]; omega
  rw [e1,left_app hq] at e3
  obtain rfl := List.append_cancel_right e3
  show some _ = some _
  simp only [S.bump,S.at,e1,left_app hq,taken_app hq]
 | seq a b iha ihb =>
  intro s r q p z z' hl h e1 e2 hp
  simp only [runC,Option.bind_eq_some_iff] at h ⊢
  obtain ⟨x,h1,h2⟩ := h
  obtain ⟨u,e3⟩ := rc_suf hs _ _ _ h2
  rw [e2,← List.append_assoc] at e3
  exact ⟨_,iha _ _ _ _ _ _ hl.1 h1 e1 e3 (by rw [nsig_app]; omega),ihb _ _ _ _ _ _ hl.2 h2 e3 e2 hp⟩
 | node k c ih =>
  intro s r q p z z' hl h e1 e2 hp
  simp only [runC,Option.map_eq_some_iff] at h ⊢
  obtain ⟨x,h1,rfl⟩ := h
  have h3 := ih _ x q p z z' hl h1 e1 e2 hp
  exact ⟨_,h3,rfl⟩
 | wrap k c ih =>
  intro s r q p z z' hl h e1 e2 hp
  simp only [runC] at h
  split at h
  ·rename_i t ht
   simp only [Option.map_eq_some_iff] at h
   obtain ⟨x,h1,rfl⟩ := h
   have ht : (s.at (q ++ z')).kids.getLast? = some t := ht
   simp only [runC,ht,Option.map_eq_some_iff]
   have h3 := ih _ x q p z z' hl h1 e1 e2 hp
   exact ⟨_,h3,rfl⟩
  ·cases h
 | cond t a b iha ihb =>
  intro s r q p z z' hl h e1 e2 hp
  obtain ⟨h1,h2,h3⟩ := hl
  have hsuf := rc_suf (body := body) hs _ _ _ h
  obtain ⟨u,e3⟩ := hsuf
  have e4 := suf_len (q := q) (u := u) (p := p) (z := z) (by rw [← e1,← e2]; exact e3)
  have hq : 2 ≤ nsig q := by rw [e4,nsig_app]; omega
  have hne : r.rem ≠ [] := by
   rw [e2]
   intro he
   have := congrArg nsig he
   rw [nsig_app] at this
   simp only [nsig] at this
   omega
  simp only [runC] at h ⊢
  have htt : Two t ∨ 3 ≤ nsig q := by
   refine h1.imp id fun ⟨ea,eb⟩ => ?_
   have : ∃ u,s.rem = u ++ r.rem ∧ 1 ≤ nsig u := by
    split at h
    ·exact rc_eats hs _ _ _ ea h hne
    ·exact rc_eats hs _ _ _ eb h hne
   obtain ⟨u2,e5,h6⟩ := this
   have e6 := suf_len (q := q) (u := u2) (p := p) (z := z) (by rw [← e1,← e2]; exact e5)
   rw [e6,nsig_app]
   omega
  rw [test_app e1 hq htt]
  split
  ·rename_i ht
   rw [if_pos ht] at h
   exact iha _ _ _ _ _ _ h2 h e1 e2 hp
  ·rename_i ht
   rw [if_neg ht] at h
   exact ihb _ _ _ _ _ _ h3 h e1 e2 hp
 | loop t c ih =>
  intro s r q p z z' hl h e1 e2 hp
  obtain ⟨h1,h2⟩ := hl
  have hsuf := rc_suf (body := body) hs _ _ _ h
  obtain ⟨u,e3⟩ := hsuf
  have e4 := suf_len (q := q) (u := u) (p := p) (z := z) (by rw [← e1,← e2]; exact e3)
  have hq : 2 ≤ nsig q := by rw [e4,nsig_app]; omega
  simp only [runC] at h ⊢
  rw [test_app e1 hq (.inl h1)]
  split
  ·rename_i ht
   rw [if_pos ht] at h
   simp only [Option.bind_eq_some_iff] at h ⊢
   obtain ⟨x,h3,h4⟩ := h
   obtain ⟨v,e5⟩ := hs _ _ _ h4
   rw [e2,← List.append_assoc] at e5
   exact ⟨_,ih _ _ _ _ _ _ h2 h3 e1 e5 (by rw [nsig_app]; omega),hr _ _ _ _ _ _ _ (show Loc (.loop t c) from ⟨h1,h2⟩) h4 e5 e2 hp⟩
  ·rename_i ht
   rw [if_neg ht] at h
   obtain rfl := Option.some.inj h
   obtain rfl := List.append_cancel_right (e1.symm.trans e2)
   rfl
 | prog c a b ihc iha ihb =>
  intro s r q p z z' hl h e1 e2 hp
  obtain ⟨l1,l2,l3⟩ := hl
  simp only [runC,Option.bind_eq_some_iff] at h ⊢
  obtain ⟨x,h1,h2⟩ := h
  have : ∃ u,x.rem = u ++ r.rem := by
   split at h2
   ·exact rc_suf hs _ _ _ h2
   ·exact rc_suf hs _ _ _ h2
  obtain ⟨u,e3⟩ := this
  rw [e2,← List.append_assoc] at e3
  refine ⟨_,ihc _ _ _ _ _ _ l1 h1 e1 e3 (by rw [nsig_app]; omega),?_⟩
  have hlen : ((x.at (u ++ p ++ z')).rem.length = (s.at (q ++ z')).rem.length) = (x.rem.length = s.rem.length) := by
   simp only [S.at,e1,e3,List.length_append]
   apply propext
   omega
  simp only [hlen]
  split
  ·rename_i hc
   rw [if_pos hc] at h2
   exact iha _ _ _ _ _ _ l2 h2 e3 e2 hp
  ·rename_i hc
   rw [if_neg hc] at h2
   exact ihb _ _ _ _ _ _ l3 h2 e3 e2 hp
 | call x => intro s r q p z z' _ h e1 e2 hp; exact hr _ _ _ _ _ _ _ (loc_body x) h e1 e2 hp
 | sel f c ih =>
  intro s r q p z z' hl h e1 e2 hp
  have hsuf := rc_suf (body := body) hs _ _ _ h
  obtain ⟨u,e3⟩ := hsuf
  have e4 := suf_len (q := q) (u := u) (p := p) (z := z) (by rw [← e1,← e2]; exact e3)
  have hq : 2 ≤ nsig q := by rw [e4,nsig_app]; omega
  have k1 := nsig_left (q := q) (by omega)
  simp only [runC] at h ⊢
  have e5 : f (sig1 (s.at (q ++ z')).rem) (sig1 (left (s.at (q ++ z')).rem)) = f (sig1 s.rem) (sig1 (left s.rem)) := by
   simp only [S.at,e1]
   rw [sig1_app (by omega),sig1_app (by omega),left_app (by omega),left_app (by omega),sig1_app (by omega),sig1_app (by omega)]
  rw [e5]
  exact ih _ _ _ _ _ _ _ (hl _) h e1 e2 hp
theorem run_loc : ∀ n,LocR (run body n)
 | 0 => rc_loc (by intro _ _ _ h; cases h) (by intro _ _ _ _ _ _ _ _ h; cases h)
 | n + 1 => rc_loc (run_suf n) (run_loc n)
def Sim (s t : S) : Prop := s.rem = t.rem ∧ s.kids = t.kids
def NoFlag (t : Test) : Prop := ∀ x y z f f',t x y z f = t x y z f'
def Fin : Cmd → Prop
 | .seq a b => (∃ k,a = .flag k) ∨ (Fin a ∧ Fin b)
 | .node _ c => Fin c
 | .wrap _ c => Fin c
 | .cond t a b => NoFlag t ∧ Fin a ∧ Fin b
 | .loop t c => NoFlag t ∧ Fin c
 | .prog c a b => Fin c ∧ Fin a ∧ Fin b
 | .sel _ c => ∀ k,Fin (c k)
 | _ => True
theorem Fin.list {cl : ByteArray} {el : Cmd} (h : Fin el) : Fin (Cmd.list cl el) :=
 .inr ⟨⟨fun _ _ _ _ _ => rfl,h,trivial,fun _ _ _ _ _ => rfl,trivial,fun _ _ _ _ _ => rfl,trivial,trivial⟩,fun _ _ _ _ _ => rfl,trivial,trivial⟩
theorem Fin.seg (b : Bool) : Fin (seg b) := by
 cases b
 ·exact .inr ⟨⟨fun _ _ _ _ _ => rfl,trivial,trivial⟩,trivial⟩
 ·exact .inr ⟨⟨fun _ _ _ _ _ => rfl,trivial,trivial⟩,fun _ _ _ _ _ => rfl,.inr ⟨trivial,Fin.list trivial⟩,trivial⟩
theorem Fin.tail (b : Bool) : Fin (stmtTail b) := by
 cases b <;> (unfold stmtTail; repeat' (first | exact trivial | apply And.intro | exact fun _ _ _ _ _ => rfl | (refine Or.inr ⟨?_,?_⟩)))
theorem fin_body : ∀ x,Fin (body x) := by
 intro x
 cases x
 case block => exact .inr ⟨⟨fun _ _ _ _ _ => rfl,trivial,trivial⟩,.inl ⟨_,rfl⟩⟩
 case itemBody k =>
  show Fin (if _ then _ else _)
  split
  ·trivial
  split
  ·trivial
  split
  ·trivial
  split
  ·exact .inr ⟨⟨fun _ _ _ _ _ => rfl,trivial,trivial⟩,trivial⟩
  split
  ·trivial
  split
  ·repeat' (first | exact trivial | apply And.intro | exact fun _ _ _ _ _ => rfl | (refine Or.inr ⟨?_,?_⟩))
  split
  ·repeat' (first | exact trivial | apply And.intro | exact fun _ _ _ _ _ => rfl | (refine Or.inr ⟨?_,?_⟩))
  ·trivial
 case binary n =>
  show Fin (if _ then _ else _)
  split
  ·trivial
  ·refine .inr ⟨trivial,?_⟩
   split
   ·exact ⟨fun _ _ _ _ _ => rfl,.inr ⟨trivial,trivial⟩,trivial⟩
   ·exact ⟨fun _ _ _ _ _ => rfl,.inr ⟨trivial,trivial⟩⟩
 case function b =>
  refine .inr ⟨⟨fun _ _ _ _ _ => rfl,trivial,trivial⟩,.inr ⟨trivial,.inr ⟨⟨fun _ _ _ _ _ => rfl,trivial,trivial⟩,.inr ⟨trivial,.inr ⟨⟨fun _ _ _ _ _ => rfl,.inr ⟨trivial,trivial⟩,trivial⟩,?_⟩⟩⟩⟩⟩
  cases b
  ·exact ⟨fun _ _ _ _ _ => rfl,.inr ⟨trivial,trivial⟩,trivial⟩
  ·trivial
 case dataType k =>
  refine .inr ⟨⟨fun _ _ _ _ _ => rfl,trivial,trivial⟩,.inr ⟨trivial,.inr ⟨⟨fun _ _ _ _ _ => rfl,trivial,trivial⟩,Fin.list ⟨fun _ _ _ _ _ => rfl,?_,trivial⟩⟩⟩⟩
  split
  ·exact .inr ⟨trivial,.inr ⟨⟨fun _ _ _ _ _ => rfl,trivial,trivial⟩,trivial⟩⟩
  ·exact .inr ⟨trivial,fun _ _ _ _ _ => rfl,.inr ⟨trivial,Fin.list trivial⟩,trivial⟩
 case item =>
  intro k
  show Fin (if _ then _ else _)
  split
  ·trivial
  ·exact .inr ⟨⟨fun _ _ _ _ _ => rfl,trivial,trivial⟩,.inr ⟨trivial,trivial⟩⟩
 case statement =>
  exact ⟨fun _ _ _ _ _ => rfl,.inr ⟨trivial,trivial⟩,fun _ _ _ _ _ => rfl,.inr ⟨.inr ⟨trivial,.inr ⟨trivial,trivial⟩⟩,trivial⟩,fun _ _ _ _ _ => rfl,.inr ⟨trivial,trivial⟩,fun _ _ _ _ _ => rfl,⟨trivial,.inr ⟨trivial,.inr ⟨trivial,trivial⟩⟩,Fin.tail true⟩,trivial,.inr ⟨trivial,.inr ⟨trivial,trivial⟩⟩,Fin.tail false⟩
 case path b => exact .inr ⟨Fin.seg b,fun _ _ _ _ _ => rfl,.inr ⟨trivial,Fin.seg b⟩⟩
 all_goals (repeat' (first | exact trivial | apply And.intro | exact fun _ _ _ _ _ => rfl | exact Fin.list trivial | (refine Fin.list ?_) | (refine Or.inr ⟨?_,?_⟩)))
theorem rc_adds {rec : Cmd → S → Option S} (hr : ∀ c s r a,rec c s = some r → ∃ b,rec c { s with adds := a } = some { r with adds := b }) : ∀ c s r a,runC body rec c s = some r → ∃ b,runC body rec c { s with adds := a } = some { r with adds := b } := by
 intro c
 induction c with
 | skip => intro s r a h; obtain rfl := Option.some.inj h; exact ⟨_,rfl⟩
 | bump => intro s r a h; obtain rfl := Option.some.inj h; exact ⟨_,rfl⟩
 | drop => intro s r a h; obtain rfl := Option.some.inj h; exact ⟨_,rfl⟩
 | flag b => intro s r a h; obtain rfl := Option.some.inj h; exact ⟨_,rfl⟩
 | leaf k => intro s r a h; obtain rfl := Option.some.inj h; exact ⟨_,rfl⟩
 | before =>
  intro s r a h
  simp only [runC] at h ⊢
  split at h
  ·obtain rfl := Option.some.inj h; exact ⟨_,rfl⟩
  ·cases h
 | seq x y ihx ihy =>
  intro s r a h
  simp only [runC,Option.bind_eq_some_iff] at h ⊢
  obtain ⟨q,h1,h2⟩ := h
  obtain ⟨b,e1⟩ := ihx _ _ a h1
  obtain ⟨b2,e2⟩ := ihy _ _ b h2
  exact ⟨b2,_,e1,e2⟩
 | node k c ih =>
  intro s r a h
  simp only [runC,Option.map_eq_some_iff] at h ⊢
  obtain ⟨q,h1,rfl⟩ := h
  obtain ⟨b,e1⟩ := ih _ _ (a + 1) h1
  exact ⟨b,_,e1,rfl⟩
 | wrap k c ih =>
  intro s r a h
  simp only [runC] at h ⊢
  split at h
  ·simp only [Option.map_eq_some_iff] at h ⊢
   obtain ⟨q,h1,rfl⟩ := h
   obtain ⟨b,e1⟩ := ih _ _ (a + 1) h1
   exact ⟨b,_,e1,rfl⟩
  ·cases h
 | cond t x y ihx ihy =>
  intro s r a h
  simp only [runC] at h ⊢
  have ht : ({ s with adds := a } : S).test t = s.test t := rfl
  rw [ht]
  split at h
  ·rename_i hc; rw [if_pos hc]; exact ihx _ _ a h
  ·rename_i hc; rw [if_neg hc]; exact ihy _ _ a h
 | loop t c ih =>
  intro s r a h
  simp only [runC] at h ⊢
  have ht : ({ s with adds := a } : S).test t = s.test t := rfl
  rw [ht]
  split at h
  ·rename_i hc
   rw [if_pos hc]
   simp only [Option.bind_eq_some_iff] at h ⊢
   obtain ⟨q,h1,h2⟩ := h
   obtain ⟨b,e1⟩ := ih _ _ a h1
   obtain ⟨b2,e2⟩ := hr _ _ _ b h2
   exact ⟨b2,_,e1,e2⟩
  ·rename_i hc
   rw [if_neg hc]
   obtain rfl := Option.some.inj h; exact ⟨_,rfl⟩
 | prog c x y ihc ihx ihy =>
  intro s r a h
  simp only [runC,Option.bind_eq_some_iff] at h ⊢
  obtain ⟨q,h1,h2⟩ := h
  obtain ⟨b,e1⟩ := ihc _ _ a h1
  split at h2
  ·rename_i hc
   obtain ⟨b2,e2⟩ := ihx _ _ b h2
   exact ⟨b2,_,e1,by rw [if_pos (by exact hc)]; exact e2⟩
  ·rename_i hc
   obtain ⟨b2,e2⟩ := ihy _ _ b h2
   exact ⟨b2,_,e1,by rw [if_neg (by exact hc)]; exact e2⟩
 | call x => intro s r a h; exact hr _ _ _ a h
 | sel f c ih => intro s r a h; exact ih _ _ _ a h
theorem run_adds' : ∀ n c s r a,run body n c s = some r → ∃ b,run body n c { s with adds := a } = some { r with adds := b }
 | 0 => rc_adds (by intro _ _ _ _ h; cases h)
 | n + 1 => rc_adds (run_adds' n)
def SimR (rec : Cmd → S → Option S) : Prop := ∀ c s s' r,Fin c → Sim s s' → rec c s = some r → ∃ r',rec c s' = some r' ∧ Sim r r'
theorem rc_sim {rec : Cmd → S → Option S} (ha : ∀ c s r a,rec c s = some r → ∃ b,rec c { s with adds := a } = some { r with adds := b }) (hr : SimR rec) : SimR (runC body rec) := by
 intro c
 induction c with
 | skip => intro s s' r _ hs h; obtain rfl := Option.some.inj h; exact ⟨_,rfl,hs⟩
 | bump => intro s s' r _ hs h; obtain rfl := Option.some.inj h; exact ⟨_,rfl,by simp only [S.bump,hs.1],by simp only [S.bump,hs.1,hs.2]⟩
 | drop => intro s s' r _ hs h; obtain rfl := Option.some.inj h; exact ⟨_,rfl,hs.1,by simp only [hs.2]⟩
 | flag b => intro s s' r _ hs h; obtain rfl := Option.some.inj h; exact ⟨_,rfl,hs⟩
 | leaf k => intro s s' r _ hs h; obtain rfl := Option.some.inj h; exact ⟨_,rfl,hs.1,by simp only [S.add,hs.2]⟩
 | before =>
  intro s s' r _ hs h
  simp only [runC] at h ⊢
  rw [← hs.2]
  split at h
  ·obtain rfl := Option.some.inj h; exact ⟨_,rfl,hs.1,rfl⟩
  ·cases h
 | seq x y ihx ihy =>
  intro s s' r hf hs h
  simp only [runC,Option.bind_eq_some_iff] at h
  obtain ⟨q,h1,h2⟩ := h
  rcases hf with ⟨k,rfl⟩ | ⟨f1,f2⟩
  ·obtain rfl := Option.some.inj h1
   obtain ⟨b,e⟩ := rc_adds ha _ _ _ s'.adds h2
   refine ⟨{ r with adds := b },?_,rfl,rfl⟩
   simp only [runC,Option.bind_some]
   rw [← e,hs.1,hs.2]
  ·obtain ⟨q',e1,s1⟩ := ihx _ _ _ f1 hs h1
   obtain ⟨r',e2,s2⟩ := ihy _ _ _ f2 s1 h2
   exact ⟨r',by simp only [runC,Option.bind_eq_some_iff]; exact ⟨_,e1,e2⟩,s2⟩
 | node k c ih =>
  intro s s' r hf hs h
  simp only [runC,Option.map_eq_some_iff] at h ⊢
  obtain ⟨q,h1,rfl⟩ := h
  obtain ⟨q',e1,s1⟩ := ih { s with kids := [],adds := s.adds + 1 } { s' with kids := [],adds := s'.adds + 1 } _ hf ⟨hs.1,rfl⟩ h1
  exact ⟨_,⟨_,e1,rfl⟩,s1.1,by simp only [hs.2,s1.2]⟩
 | wrap k c ih =>
  intro s s' r hf hs h
  simp only [runC] at h ⊢
  rw [← hs.2]
  split at h
  ·rename_i t ht
   simp only [Option.map_eq_some_iff] at h ⊢
   obtain ⟨q,h1,rfl⟩ := h
   obtain ⟨q',e1,s1⟩ := ih { s with kids := [t],adds := s.adds + 1 } { s' with kids := [t],adds := s'.adds + 1 } _ hf ⟨hs.1,rfl⟩ h1
   exact ⟨_,⟨_,e1,rfl⟩,s1.1,by simp only [s1.2]⟩
  ·cases h
 | cond t x y ihx ihy =>
  intro s s' r hf hs h
  simp only [runC] at h ⊢
  have ht : s'.test t = s.test t := by unfold S.test; rw [← hs.1]; exact hf.1 _ _ _ _ _
  rw [ht]
  split at h
  ·rename_i hc; rw [if_pos hc]; exact ihx _ _ _ hf.2.1 hs h
  ·rename_i hc; rw [if_neg hc]; exact ihy _ _ _ hf.2.2 hs h
 | loop t c ih =>
  intro s s' r hf hs h
  simp only [runC] at h ⊢
  have ht : s'.test t = s.test t := by unfold S.test; rw [← hs.1]; exact hf.1 _ _ _ _ _
  rw [ht]
  split at h
  ·rename_i hc
   rw [if_pos hc]
   simp only [Option.bind_eq_some_iff] at h
   obtain ⟨q,h1,h2⟩ := h
   obtain ⟨q',e1,s1⟩ := ih _ _ _ hf.2 hs h1
   obtain ⟨r',e2,s2⟩ := hr _ _ _ _ (show Fin (.loop t c) from hf) s1 h2
   exact ⟨r',by simp only [Option.bind_eq_some_iff]; exact ⟨_,e1,e2⟩,s2⟩
  ·rename_i hc
   rw [if_neg hc]
   obtain rfl := Option.some.inj h; exact ⟨_,rfl,hs⟩
 | prog c x y ihc ihx ihy =>
  intro s s' r hf hs h
  simp only [runC,Option.bind_eq_some_iff] at h
  obtain ⟨q,h1,h2⟩ := h
  obtain ⟨q',e1,s1⟩ := ihc _ _ _ hf.1 hs h1
  have he : (q'.rem.length = s'.rem.length) = (q.rem.length = s.rem.length) := by rw [hs.1,s1.1]
  have : ∃ r',(if q'.rem.length = s'.rem.length then runC body rec x q' else runC body rec y q') = some r' ∧ Sim r r' := by
   simp only [he]
   split at h2
   ·rename_i hc; rw [if_pos hc]; exact ihx _ _ _ hf.2.1 s1 h2
   ·rename_i hc; rw [if_neg hc]; exact ihy _ _ _ hf.2.2 s1 h2
  obtain ⟨r',e2,s2⟩ := this
  exact ⟨r',by simp only [runC,Option.bind_eq_some_iff]; exact ⟨_,e1,e2⟩,s2⟩
 | call x => intro s s' r _ hs h; exact hr _ _ _ _ (fin_body x) hs h
 | sel f c ih =>
  intro s s' r hf hs h
  simp only [runC] at h ⊢
  rw [← hs.1]
  exact ih _ _ _ _ (hf _) hs h
theorem run_sim : ∀ n,SimR (run body n)
 | 0 => rc_sim (by intro _ _ _ _ h; cases h) (by intro _ _ _ _ _ _ h; cases h)
 | n + 1 => rc_sim (run_adds' n) (run_sim n)
end Go.Proofs.YtiogccmfmjhipaaGreatDoor.Par
namespace Go.Proofs.YtiogccmfmjhipaaGreatDoor.Par
open Cmd
abbrev Kw := Tok → Tok → Tok → Prop
def anyK : Kw := fun _ _ _ => True
def hereK : Kw := fun x _ _ => x.1 ≠ 100
def bumpK (K : Kw) : Kw := fun y z _ => ∃ x,K x y z
def testK (t : Test) (b : Bool) (K : Kw) : Kw := fun x y z => K x y z ∧ ∃ f,t x y z f = b
def loopK (t : Test) (b : Bool) : Kw := fun x y z => ∃ f,t x y z f = b
def selK (f : Tok → Tok → Int) (k : Int) (K : Kw) : Kw := fun x y z => K x y z ∧ f x y = k
def postK : Cmd → Kw → Kw
 | .bump,K => bumpK K
 | .seq a b,K => postK b (postK a K)
 | .node _ c,K => postK c K
 | .wrap _ c,K => postK c K
 | .cond t a b,K => fun x y z => postK a (testK t true K) x y z ∨ postK b (testK t false K) x y z
 | .loop t _,_ => loopK t false
 | .prog ..,_ => anyK
 | .call _,_ => anyK
 | .sel ..,_ => anyK
 | .skip,K | .drop,K | .before,K | .flag _,K | .leaf _,K => K
def needs : Nm → Bool
 | .arguments | .matchE | .structLit | .lambda | .letS | .returnS | .statement | .item | .skipTo | .ifExpr => true
 | _ => false
def preK (x : Nm) : Kw := if needs x then hereK else anyK
def Sf : Kw → Cmd → Prop
 | K,.bump => ∀ x y z,K x y z → x.1 ≠ 100
 | K,.seq a b => Sf K a ∧ Sf (postK a K) b
 | K,.node _ c => Sf K c
 | K,.wrap _ c => Sf K c
 | K,.cond t a b => Sf (testK t true K) a ∧ Sf (testK t false K) b
 | _,.loop t c => Sf (loopK t true) c
 | K,.prog c a b => Sf K c ∧ Sf K a ∧ Sf anyK b
 | K,.call x => ∀ a b c,K a b c → preK x a b c
 | K,.sel f c => ∀ k,Sf (selK f k K) (c k)
 | _,.skip => True
 | _,.drop => True
 | _,.before => True
 | _,.flag _ => True
 | _,.leaf _ => True
theorem isAt_ne {l : List ByteArray} {t : Tok} (h : isAt l t = true) : t.1 ≠ 100 := by
 intro e
 simp [isAt,e] at h
theorem preK_any {x : Nm} {K : Kw} (h : needs x = false) : ∀ a b c,K a b c → preK x a b c := fun a b c _ => by
 unfold preK
 rw [h]
 exact trivial
theorem preK_here {x : Nm} {K : Kw} (hk : ∀ a b c,K a b c → a.1 ≠ 100) : ∀ a b c,K a b c → preK x a b c := fun a b c h => by
 unfold preK
 split
 ·exact hk a b c h
 ·exact trivial
theorem k1 {l : List ByteArray} {K : Kw} : ∀ x y z,testK (at1 l) true K x y z → x.1 ≠ 100 := fun x y z h => by
 obtain ⟨_,_,h⟩ := h
 exact isAt_ne h
theorem kl {l : List ByteArray} : ∀ x y z,loopK (at1 l) true x y z → x.1 ≠ 100 := fun x y z h => by
 obtain ⟨_,h⟩ := h
 exact isAt_ne h
theorem ki {K : Kw} : ∀ x y z,testK ident true K x y z → x.1 ≠ 100 := fun x y z h => by
 obtain ⟨_,_,h⟩ := h
 intro e
 simp [ident,e] at h
theorem Sf.exp {x : ByteArray} {K : Kw} : Sf K (exp x) := ⟨k1,trivial⟩
theorem Sf.acc {x : ByteArray} {K : Kw} : Sf K (acc x) := ⟨k1,trivial⟩
theorem Sf.expIdent {K : Kw} : Sf K expIdent := ⟨ki,trivial⟩
theorem Sf.absent {K : Kw} : Sf K absent := trivial
theorem Sf.expr {K : Kw} : Sf K expr := preK_any rfl
theorem Sf.opt {x : ByteArray} {c : Cmd} {K : Kw} (h : ∀ K,Sf K c) : Sf K (opt x c) := ⟨⟨k1,h _⟩,trivial⟩
theorem klist {cl : ByteArray} : ∀ x y z,loopK (fun t _ _ _ => !isAt [cl] t && t.1 != 100 && !atItem t) true x y z → x.1 ≠ 100 := fun x y z h e => by
 obtain ⟨_,h⟩ := h
 simp [e] at h
theorem Sf.list {cl : ByteArray} {el : Cmd} {K : Kw} (h : ∀ K,(∀ x y z,K x y z → x.1 ≠ 100) → Sf K el) : Sf K (list cl el) :=
 ⟨⟨h _ klist,klist,trivial,Sf.exp⟩,Sf.exp⟩
theorem Sf.list' {cl : ByteArray} {el : Cmd} {K : Kw} (h : ∀ K,Sf K el) : Sf K (Cmd.list cl el) := Sf.list fun K _ => h K
theorem Sf.seg {b : Bool} {K : Kw} : Sf K (seg b) := by
 cases b
 ·exact ⟨Sf.expIdent,trivial⟩
 ·exact ⟨Sf.expIdent,⟨k1,Sf.list' fun _ => preK_any rfl⟩,trivial⟩
theorem Sf.tail {b : Bool} {K : Kw} : Sf K (stmtTail b) := by
 cases b
 ·exact ⟨trivial,⟨⟨k1,Sf.expr,Sf.exp⟩,k1,trivial⟩,trivial⟩
 ·exact ⟨trivial,⟨⟨k1,Sf.expr,Sf.exp⟩,k1,trivial⟩,trivial⟩
theorem Sf.fix {K : Kw} (h : ∀ x y z,K x y z → x.1 ≠ 100) : Sf K stmtFix := ⟨trivial,h,trivial⟩
theorem kt {t : Test} {K : Kw} {b : Bool} (h : ∀ x y z,K x y z → x.1 ≠ 100) : ∀ x y z,testK t b K x y z → x.1 ≠ 100 := fun x y z hh => h x y z hh.1
theorem hereK_here : ∀ x y z,hereK x y z → x.1 ≠ 100 := fun _ _ _ h => h
theorem kindNo_at {t u : Tok} (h : itemKind t u ≠ 0) : (isAt [⟨#[112,117,98]⟩] t = true ∧ u.1 = 104) ∨ (isAt [⟨#[112,117,98]⟩] t = false ∧ t.1 = 104) := by
 unfold itemKind at h
 cases hp : isAt [⟨#[112,117,98]⟩] t
 ·right
  refine ⟨rfl,?_⟩
  simp only [hp] at h
  by_cases h1 : t.1 = 104
  ·exact h1
  ·exfalso; apply h; simp [h1]
 ·left
  refine ⟨rfl,?_⟩
  simp only [hp] at h
  by_cases h1 : u.1 = 104
  ·exact h1
  ·exfalso; apply h; simp [h1]
theorem sf_body : ∀ x,Sf (preK x) (body x) := by
 intro x
 cases x
 case block =>
  refine ⟨Sf.exp,trivial,preK_here fun x y z h e => ?_,⟨trivial,trivial⟩,Sf.exp⟩
  obtain ⟨_,h⟩ := h
  simp [e] at h
 case statement =>
  refine ⟨⟨preK_here k1,trivial⟩,⟨⟨k1,Sf.expr,preK_any rfl⟩,trivial⟩,⟨preK_here k1,trivial⟩,⟨preK_any rfl,Sf.fix k1,Sf.tail⟩,Sf.expr,Sf.fix (kt (kt (kt (kt hereK_here)))),Sf.tail⟩
 case letS => exact ⟨hereK_here,preK_any rfl,Sf.opt fun _ => preK_any rfl,Sf.exp,Sf.expr,Sf.exp⟩
 case returnS => exact ⟨hereK_here,⟨trivial,Sf.expr⟩,Sf.exp⟩
 case binary n =>
  show Sf _ (if _ then _ else _)
  split
  ·exact preK_any rfl
  ·refine ⟨preK_any rfl,?_⟩
   split
   ·exact ⟨⟨k1,preK_any rfl⟩,trivial⟩
   ·exact ⟨kl,preK_any rfl⟩
 case unary => exact ⟨⟨k1,preK_any rfl⟩,⟨k1,Sf.acc,preK_any rfl⟩,preK_any rfl,preK_any rfl⟩
 case arguments => exact ⟨hereK_here,Sf.list' fun _ => Sf.expr⟩
 case postE =>
  refine ⟨preK_here k1,⟨?_,?_,preK_here ?_⟩,?_,Sf.expIdent⟩
  ·exact kt (kt kl)
  ·rintro y z _ ⟨x,_,f,h⟩ e
   simp [e] at h
  ·rintro z _ _ ⟨y,x,_,f,h⟩
   simp only [Bool.and_eq_true] at h
   exact isAt_ne h.2
  ·exact kt (kt kl)
 case primary =>
  refine ⟨?_,?_,k1,⟨preK_any rfl,⟨?_,preK_here ?_⟩,trivial⟩,⟨k1,Sf.expr,Sf.exp⟩,preK_any rfl,preK_here k1,preK_here k1,preK_here k1,preK_here k1,trivial⟩
  ·rintro x y z ⟨_,f,h⟩ e; simp [e] at h
  ·rintro x y z ⟨_,f,h⟩ e; simp [e] at h
  ·rintro x y z ⟨_,f,h⟩
   simp only [Bool.and_eq_true] at h
   exact isAt_ne h.1
  ·rintro y z _ ⟨x,_,f,h⟩
   simp only [Bool.and_eq_true] at h
   exact isAt_ne h.2
 case ifExpr => exact ⟨hereK_here,Sf.expr,preK_any rfl,Sf.opt fun _ => ⟨preK_here k1,preK_any rfl⟩⟩
 case matchE => exact ⟨hereK_here,Sf.expr,Sf.exp,Sf.list' fun _ => ⟨⟨preK_any rfl,Sf.exp,Sf.expr⟩,trivial⟩⟩
 case structLit => exact ⟨hereK_here,preK_any rfl,Sf.exp,Sf.list' fun _ => ⟨⟨ki,Sf.exp,Sf.expr⟩,trivial⟩⟩
 case lambda => exact ⟨⟨⟨kt hereK_here,trivial⟩,kt hereK_here,preK_any rfl⟩,Sf.expr⟩
 case pattern =>
  refine ⟨⟨k1,Sf.expIdent⟩,?_,?_,⟨preK_any rfl,⟨k1,Sf.list' fun _ => preK_any rfl⟩,trivial⟩,?_,k1,trivial⟩
  ·rintro x y z ⟨_,f,h⟩ e; simp [e] at h
  ·rintro x y z ⟨_,f,h⟩ e; simp [e] at h
  ·rintro x y z ⟨_,f,h⟩ e; simp [e] at h
 case item =>
  intro k
  show Sf _ (if _ then _ else _)
  split
  ·exact preK_here fun x y z h => h.1
  ·rename_i hk
   refine ⟨Sf.acc,?_,preK_any rfl⟩
   rintro x y z (⟨p,⟨⟨_,h1⟩,f,h2⟩⟩ | ⟨⟨_,h1⟩,f,h2⟩)
   ·rcases kindNo_at (t := p) (u := x) (by rw [h1]; exact hk) with h | h
    ·rw [h.2]; decide
    ·have h2 : isAt _ p = true := h2
     rw [h.1] at h2; cases h2
   ·rcases kindNo_at (t := x) (u := y) (by rw [h1]; exact hk) with h | h
    ·have h2 : isAt _ x = false := h2
     rw [h.1] at h2; cases h2
    ·rw [h.2]; decide
 case skipTo =>
  refine ⟨hereK_here,?_⟩
  rintro x y z ⟨f,h⟩ e; simp [e] at h
 case itemBody k =>
  show Sf _ (if _ then _ else _)
  split
  ·exact preK_any rfl
  split
  ·exact preK_any rfl
  split
  ·exact preK_any rfl
  split
  ·exact ⟨Sf.expIdent,preK_any rfl⟩
  split
  ·exact preK_any rfl
  split
  ·exact ⟨Sf.expIdent,Sf.exp,preK_any rfl,Sf.exp,Sf.expr,Sf.exp⟩
  split
  ·exact ⟨Sf.expIdent,Sf.exp,preK_any rfl,Sf.exp,Sf.expr,Sf.exp⟩
  ·trivial
 case use =>
  refine ⟨⟨Sf.expIdent,?_,Sf.expIdent⟩,⟨⟨k1,?_⟩,⟨k1,Sf.expIdent⟩,trivial⟩,Sf.exp⟩
  ·rintro x y z ⟨f,h⟩
   simp only [Bool.and_eq_true] at h
   exact isAt_ne h.1
  ·rintro y z _ ⟨x,⟨f,h⟩,g,h2⟩
   have h2 : isAt _ x = true := h2
   have h : (isAt [⟨#[58,58]⟩] x && !isAt [⟨#[42]⟩] y) = false := h
   rw [h2,Bool.true_and,Bool.not_eq_false'] at h
   exact isAt_ne h
 case typeParams => exact ⟨⟨k1,Sf.list' fun _ => preK_any rfl⟩,trivial⟩
 case typeParam => exact ⟨⟨ki,⟨k1,preK_any rfl,kl,preK_any rfl⟩,trivial⟩,trivial⟩
 case params cl => exact Sf.list' fun _ => ⟨⟨ki,Sf.opt fun _ => preK_any rfl⟩,trivial⟩
 case function b =>
  refine ⟨Sf.expIdent,preK_any rfl,Sf.exp,preK_any rfl,Sf.opt fun _ => preK_any rfl,?_⟩
  cases b
  ·exact ⟨⟨k1,trivial⟩,preK_any rfl⟩
  ·exact preK_any rfl
 case dataType k =>
  refine ⟨Sf.expIdent,preK_any rfl,Sf.exp,Sf.list' fun _ => ⟨?_,trivial⟩⟩
  split
  ·exact ⟨ki,Sf.exp,preK_any rfl⟩
  ·exact ⟨ki,⟨k1,Sf.list' fun _ => preK_any rfl⟩,trivial⟩
 case members => exact ⟨Sf.exp,⟨⟨k1,preK_any rfl⟩,kt kl,Sf.expIdent,Sf.opt fun _ => preK_any rfl,Sf.exp⟩,Sf.exp⟩
 case impl => exact ⟨preK_any rfl,preK_any rfl,⟨⟨k1,preK_any rfl⟩,trivial⟩,preK_any rfl⟩
 case path b => exact ⟨Sf.seg,kl,Sf.seg⟩
 case typeExpr => exact ⟨⟨k1,Sf.acc,preK_any rfl⟩,⟨k1,Sf.exp,Sf.list' fun _ => preK_any rfl,Sf.opt fun _ => preK_any rfl⟩,preK_any rfl,trivial⟩
def KS (K : Kw) (s : S) : Prop := K (sig1 s.rem) (sig1 (left s.rem)) (sig1 (left (left s.rem)))
theorem run_exit : ∀ n t c s r,run body n (.loop t c) s = some r → r.test t = false
 | 0,t,c,s,r,h => by
  simp only [run,runC] at h
  split at h
  ·simp only [Option.bind_eq_some_iff] at h
   obtain ⟨_,_,h⟩ := h
   cases h
  ·rename_i ht
   obtain rfl := Option.some.inj h
   simpa using ht
 | n + 1,t,c,s,r,h => by
  simp only [run,runC] at h
  split at h
  ·simp only [Option.bind_eq_some_iff] at h
   obtain ⟨_,_,h⟩ := h
   exact run_exit n t c _ r h
  ·rename_i ht
   obtain rfl := Option.some.inj h
   simpa using ht
theorem rc_post {rec : Cmd → S → Option S} (hr : ∀ t c s r,rec (.loop t c) s = some r → r.test t = false) : ∀ c s r K,runC body rec c s = some r → KS K s → KS (postK c K) r := by
 intro c
 induction c with
 | skip | drop | flag b | leaf k => intro s r K h hk; obtain rfl := Option.some.inj h; exact hk
 | bump => intro s r K h hk; obtain rfl := Option.some.inj h; exact ⟨_,hk⟩
 | before =>
  intro s r K h hk
  simp only [runC] at h
  split at h
  ·obtain rfl := Option.some.inj h; exact hk
  ·cases h
 | seq a b iha ihb =>
  intro s r K h hk
  simp only [runC,Option.bind_eq_some_iff] at h
  obtain ⟨x,h1,h2⟩ := h
  exact ihb _ _ _ h2 (iha _ _ _ h1 hk)
 | node k c ih =>
  intro s r K h hk
  simp only [runC,Option.map_eq_some_iff] at h
  obtain ⟨x,h1,rfl⟩ := h
  have := ih _ _ K h1 hk
  exact this
 | wrap k c ih =>
  intro s r K h hk
  simp only [runC] at h
  split at h
  ·simp only [Option.map_eq_some_iff] at h
   obtain ⟨x,h1,rfl⟩ := h
   have := ih _ _ K h1 hk
   exact this
  ·cases h
 | cond t a b iha ihb =>
  intro s r K h hk
  simp only [runC] at h
  split at h
  ·rename_i ht; exact .inl (iha _ _ _ h ⟨hk,s.flag,ht⟩)
  ·rename_i ht; exact .inr (ihb _ _ _ h ⟨hk,s.flag,by simpa [S.test] using ht⟩)
 | loop t c ih =>
  intro s r K h hk
  simp only [runC] at h
  split at h
  ·simp only [Option.bind_eq_some_iff] at h
   obtain ⟨x,h1,h2⟩ := h
   exact ⟨r.flag,hr _ _ _ _ h2⟩
  ·rename_i ht
   obtain rfl := Option.some.inj h
   exact ⟨s.flag,by simpa [S.test] using ht⟩
 | prog c a b ihc iha ihb => intro s r K h hk; exact trivial
 | call x => intro s r K h hk; exact trivial
 | sel f c ih => intro s r K h hk; exact trivial
theorem suf_same {s r : S} {u : List Tok} (h : s.rem = u ++ r.rem) (e : r.rem.length = s.rem.length) : r.rem = s.rem := by
 have := congrArg List.length h
 rw [List.length_append] at this
 have hu : u = [] := List.length_eq_zero_iff.1 (by omega)
 rw [h,hu,List.nil_append]
theorem nsig_of {l : List Tok} (h : (sig1 l).1 ≠ 100) : 1 ≤ nsig l := by
 induction l with
 | nil => exact absurd rfl h
 | cons t l ih =>
  simp only [sig1,nsig] at h ⊢
  split
  ·rename_i ht; rw [if_pos ht] at h; exact ih h
  ·omega
theorem KS.same {K : Kw} {s r : S} (h : KS K s) (e : r.rem = s.rem) : KS K r := by
 unfold KS at h ⊢
 rwa [e]
def DropR (rec : Cmd → S → Option S) : Prop := ∀ c s r K,Sf K c → KS K s → rec c s = some r → r.rem = s.rem ∨ nsig r.rem < nsig s.rem
theorem drop_trans {a b c : S} (h : b.rem = a.rem ∨ nsig b.rem < nsig a.rem) (g : c.rem = b.rem ∨ nsig c.rem < nsig b.rem) : c.rem = a.rem ∨ nsig c.rem < nsig a.rem := by
 rcases h with h | h <;> rcases g with g | g
 ·exact .inl (g.trans h)
 ·exact .inr (by rw [h] at g; exact g)
 ·exact .inr (by rw [g]; exact h)
 ·exact .inr (Nat.lt_trans g h)
theorem rc_drop {rec : Cmd → S → Option S} (hs : ∀ c s r,rec c s = some r → ∃ u,s.rem = u ++ r.rem) (he : ∀ t c s r,rec (.loop t c) s = some r → r.test t = false) (hr : DropR rec) : DropR (runC body rec) := by
 intro c
 induction c with
 | skip | drop | flag b | leaf k => intro s r K _ _ h; obtain rfl := Option.some.inj h; exact .inl rfl
 | bump =>
  intro s r K hf hk h
  obtain rfl := Option.some.inj h
  have := nsig_left (nsig_of (hf _ _ _ hk))
  exact .inr (by show nsig (left s.rem) < _; omega)
 | before =>
  intro s r K hf hk h
  simp only [runC] at h
  split at h
  ·obtain rfl := Option.some.inj h; exact .inl rfl
  ·cases h
 | seq a b iha ihb =>
  intro s r K hf hk h
  simp only [runC,Option.bind_eq_some_iff] at h
  obtain ⟨x,h1,h2⟩ := h
  exact drop_trans (iha _ _ _ hf.1 hk h1) (ihb _ _ _ hf.2 (rc_post he _ _ _ _ h1 hk) h2)
 | node k c ih =>
  intro s r K hf hk h
  simp only [runC,Option.map_eq_some_iff] at h
  obtain ⟨x,h1,rfl⟩ := h
  exact ih { s with kids := [],adds := s.adds + 1 } x K hf hk h1
 | wrap k c ih =>
  intro s r K hf hk h
  simp only [runC] at h
  split at h
  ·rename_i t ht
   simp only [Option.map_eq_some_iff] at h
   obtain ⟨x,h1,rfl⟩ := h
   exact ih { s with kids := [t],adds := s.adds + 1 } x K hf hk h1
  ·cases h
 | cond t a b iha ihb =>
  intro s r K hf hk h
  simp only [runC] at h
  split at h
  ·rename_i ht; exact iha _ _ _ hf.1 ⟨hk,s.flag,ht⟩ h
  ·rename_i ht; exact ihb _ _ _ hf.2 ⟨hk,s.flag,by simpa [S.test] using ht⟩ h
 | loop t c ih =>
  intro s r K hf hk h
  simp only [runC] at h
  split at h
  ·rename_i ht
   simp only [Option.bind_eq_some_iff] at h
   obtain ⟨x,h1,h2⟩ := h
   have hl : Sf anyK (.loop t c) := hf
   exact drop_trans (ih _ _ _ hf ⟨s.flag,ht⟩ h1) (hr _ _ _ _ hl trivial h2)
  ·obtain rfl := Option.some.inj h; exact .inl rfl
 | prog c a b ihc iha ihb =>
  intro s r K hf hk h
  simp only [runC,Option.bind_eq_some_iff] at h
  obtain ⟨x,h1,h2⟩ := h
  have h3 := ihc _ _ _ hf.1 hk h1
  split at h2
  ·rename_i hl
   obtain ⟨u,hu⟩ := rc_suf hs _ _ _ h1
   exact drop_trans h3 (iha _ _ _ hf.2.1 (hk.same (suf_same hu hl)) h2)
  ·exact drop_trans h3 (ihb _ _ _ hf.2.2 trivial h2)
 | call x => intro s r K hf hk h; exact hr _ _ _ _ (sf_body x) (hf _ _ _ hk) h
 | sel f c ih => intro s r K hf hk h; exact ih _ _ _ _ (hf _) ⟨hk,rfl⟩ h
theorem run_drop2 : ∀ n,DropR (run body n)
 | 0 => rc_drop (by intro _ _ _ h; cases h) (by intro _ _ _ _ h; cases h) (by intro _ _ _ _ _ _ h; cases h)
 | n + 1 => rc_drop (run_suf n) (run_exit n) (run_drop2 n)
def Tr.kdn : Tr → Int
 | .mk k _ _ => k
def LV : Nat → List Tr → Prop
 | 0,_ => True
 | 1,l => ∃ t ∈ l,t.kdn < 100
 | _ + 2,l => ∃ a t,l = a ++ [t] ∧ t.kdn < 100
theorem LV.one {l : List Tr} : ∀ {n},LV (n + 1) l → LV 1 l
 | 0,h => h
 | n + 1,⟨a,t,e,h⟩ => ⟨t,by rw [e]; simp,h⟩
theorem LV.down {l : List Tr} : ∀ {n m : Nat},m ≤ n → LV n l → LV m l
 | _,0,_,_ => trivial
 | 0,m + 1,h,_ => absurd h (by omega)
 | n + 1,1,_,h => h.one
 | 1,m + 2,h,_ => absurd h (by omega)
 | n + 2,m + 2,_,h => h
theorem LV.app {l m : List Tr} : ∀ {n},LV n l → LV (min n 1) (l ++ m)
 | 0,_ => trivial
 | 1,⟨t,h,k⟩ => ⟨t,List.mem_append_left _ h,k⟩
 | n + 2,h => by
  obtain ⟨t,h,k⟩ := LV.one h
  show LV (min (n + 2) 1) _
  rw [show min (n + 2) 1 = 1 from by omega]
  exact ⟨t,List.mem_append_left _ h,k⟩
theorem LV.snoc {l : List Tr} {t : Tr} (h : t.kdn < 100) : LV 2 (l ++ [t]) := ⟨l,t,rfl,h⟩
def single2 : Nm → Bool
 | .binary _ | .unary | .primary | .block | .ifExpr | .pattern | .typeExpr | .path _ | .params _ | .typeParams | .postE => true
 | _ => false
def cin : Nm → Nat
 | .postE => 2
 | _ => 0
def cout (x : Nm) (i : Nat) : Nat := if single2 x then 2 else match x with
 | .item => 0
 | _ => min i 1
def lkN (k : Int) (i : Nat) : Nat := if k < 100 then 2 else min i 1
def lk : Cmd → Nat → Nat
 | .bump,i => min i 1
 | .leaf k,i => lkN k i
 | .node k _,i => lkN k i
 | .wrap k _,_ => if k < 100 then 2 else 0
 | .before,_ => 2
 | .drop,_ => 0
 | .flag _,i => i
 | .skip,i => i
 | .seq a b,i => lk b (lk a i)
 | .cond _ a b,i => min (lk a i) (lk b i)
 | .loop _ c,i => min i (lk c i)
 | .prog c a b,i => min (lk a (lk c i)) (lk b (lk c i))
 | .call x,i => cout x i
 | .sel _ _,_ => 0
def LkOk : Cmd → Nat → Prop
 | .node _ c,_ => LkOk c 0
 | .wrap _ c,i => i = 2 ∧ LkOk c 2
 | .before,i => i = 2
 | .drop,i => i = 2
 | .seq a b,i => LkOk a i ∧ LkOk b (lk a i)
 | .cond _ a b,i => LkOk a i ∧ LkOk b i
 | .loop _ c,i => LkOk c (min i (lk c i)) ∧ min i (lk c i) ≤ lk c (min i (lk c i))
 | .prog c a b,i => LkOk c i ∧ LkOk a (lk c i) ∧ LkOk b (lk c i)
 | .call x,i => cin x ≤ i ∧ i ≤ 2
 | .sel _ c,i => ∀ k,LkOk (c k) i
 | .bump,_ => True
 | .leaf _,_ => True
 | .flag _,_ => True
 | .skip,_ => True
theorem nle {a b : Nat} (h : Nat.ble a b = true) : a ≤ b := Nat.le_of_ble_eq_true h
theorem lk_one {x : Nm} {i : Nat} (h : LkOk (body x) i) (hb : Nat.ble (cout x i) (lk (body x) i) = true) : LkOk (body x) i ∧ cout x i ≤ lk (body x) i := ⟨h,nle hb⟩
set_option maxHeartbeats 2000000 in
theorem lk_body : ∀ x i,cin x ≤ i → i ≤ 2 → LkOk (body x) i ∧ cout x i ≤ lk (body x) i := by
 intro x i hc hi
 cases x
 case itemBody k =>
  have h0 : cout (.itemBody k) i = min i 1 := rfl
  rw [h0]
  show LkOk (if _ then _ else _) i ∧ _ ≤ lk (if _ then _ else _) i
  obtain rfl | rfl | rfl : i = 0 ∨ i = 1 ∨ i = 2 := by omega
  all_goals (repeat' split)
  all_goals refine ⟨?_,nle rfl⟩
  all_goals repeat' (first | exact trivial | exact nle rfl | exact rfl | apply And.intro)
 case binary n =>
  have h0 : cout (.binary n) i = 2 := rfl
  rw [h0]
  show LkOk (if _ then _ else _) i ∧ _ ≤ lk (if _ then _ else _) i
  split
  ·exact ⟨⟨Nat.zero_le _,hi⟩,nle rfl⟩
  ·split
   ·exact ⟨⟨⟨Nat.zero_le _,hi⟩,⟨rfl,trivial,nle rfl,nle rfl⟩,trivial⟩,nle rfl⟩
   ·exact ⟨⟨⟨Nat.zero_le _,hi⟩,⟨rfl,trivial,nle rfl,nle rfl⟩,nle rfl⟩,nle rfl⟩
 case item =>
  refine ⟨fun k => ?_,Nat.zero_le _⟩
  show LkOk (if _ then _ else _) i
  split
  ·exact ⟨Nat.zero_le _,hi⟩
  ·exact ⟨⟨trivial,trivial⟩,trivial,nle rfl,nle rfl⟩
 case postE =>
  obtain rfl : i = 2 := by have : 2 ≤ i := hc; omega
  refine lk_one ?_ rfl
  repeat' (first | exact trivial | exact nle rfl | exact rfl | apply And.intro)
 case dataType k =>
  obtain rfl | rfl | rfl : i = 0 ∨ i = 1 ∨ i = 2 := by omega
  all_goals
   by_cases hk : k = 4
   ·have hb : body (.dataType k) = seqs [expIdent,.call .typeParams,exp ⟨#[123]⟩,list ⟨#[125]⟩ (.cond ident (.node 14 (seqs [.bump,exp ⟨#[58]⟩,.call .typeExpr])) .skip)] := by rw [hk]; rfl
    refine lk_one ?_ ?_
    ·rw [hb]; repeat' (first | exact trivial | exact nle rfl | exact rfl | apply And.intro)
    ·rw [hb]; exact rfl
   ·have hb : body (.dataType k) = seqs [expIdent,.call .typeParams,exp ⟨#[123]⟩,list ⟨#[125]⟩ (.cond ident (.node 15 (.seq .bump (.cond (at1 [⟨#[40]⟩]) (.seq .bump (list ⟨#[41]⟩ (.call .typeExpr))) .skip))) .skip)] := by
     show seqs [expIdent,.call .typeParams,exp ⟨#[123]⟩,list ⟨#[125]⟩ (.cond ident (if k = 4 then _ else _) .skip)] = _
     rw [if_neg hk]
    refine lk_one ?_ ?_
    ·rw [hb]; repeat' (first | exact trivial | exact nle rfl | exact rfl | apply And.intro)
    ·rw [hb]; exact rfl
 case function b =>
  obtain rfl | rfl | rfl : i = 0 ∨ i = 1 ∨ i = 2 := by omega
  all_goals cases b
  all_goals refine lk_one ?_ rfl
  all_goals repeat' (first | exact trivial | exact nle rfl | exact rfl | apply And.intro)
 case path b =>
  obtain rfl | rfl | rfl : i = 0 ∨ i = 1 ∨ i = 2 := by omega
  all_goals cases b
  all_goals refine lk_one ?_ rfl
  all_goals repeat' (first | exact trivial | exact nle rfl | exact rfl | apply And.intro)
 all_goals obtain rfl | rfl | rfl : i = 0 ∨ i = 1 ∨ i = 2 := by omega
 all_goals refine lk_one ?_ rfl
 all_goals repeat' (first | exact trivial | exact nle rfl | exact rfl | apply And.intro)
def LkR (rec : Cmd → S → Option S) : Prop := ∀ c s r i,LkOk c i → LV i s.kids → rec c s = some r → LV (lk c i) r.kids
theorem LV.n {k : Int} {i : Nat} {l m : List Tr} (h : LV i l) : LV (lkN k i) (l ++ [.mk k nob m]) := by
 unfold lkN
 split
 ·rename_i hk; exact LV.snoc hk
 ·exact h.app
theorem loop_lvl {t : Test} {c : Cmd} {i : Nat} (h : LkOk (.loop t c) i) : LkOk (.loop t c) (min i (lk c i)) ∧ lk (.loop t c) (min i (lk c i)) = min i (lk c i) := by
 obtain ⟨h1,h2⟩ := h
 have e : min (min i (lk c i)) (lk c (min i (lk c i))) = min i (lk c i) := Nat.min_eq_left h2
 refine ⟨⟨?_,?_⟩,e⟩
 ·rw [e]; exact h1
 ·rw [e]; exact h2
theorem rc_lk {rec : Cmd → S → Option S} (hr : LkR rec) : LkR (runC body rec) := by
 intro c
 induction c with
 | skip | flag b => intro s r i _ hl h; obtain rfl := Option.some.inj h; exact hl
 | drop => intro s r i _ hl h; exact trivial
 | bump => intro s r i _ hl h; obtain rfl := Option.some.inj h; exact hl.app
 | leaf k => intro s r i _ hl h; obtain rfl := Option.some.inj h; exact hl.n
 | before =>
  intro s r i ho hl h
  obtain rfl : i = 2 := ho
  obtain ⟨a,t,e,hk⟩ := hl
  simp only [runC,e,List.getLast?_append,List.getLast?_singleton,Option.some_or] at h
  obtain rfl := Option.some.inj h
  exact ⟨a ++ [.leaf 0],t,by simp,hk⟩
 | seq a b iha ihb =>
  intro s r i ho hl h
  simp only [runC,Option.bind_eq_some_iff] at h
  obtain ⟨x,h1,h2⟩ := h
  exact ihb _ _ _ ho.2 (iha _ _ _ ho.1 hl h1) h2
 | node k c ih =>
  intro s r i ho hl h
  simp only [runC,Option.map_eq_some_iff] at h
  obtain ⟨x,h1,rfl⟩ := h
  exact hl.n
 | wrap k c ih =>
  intro s r i ho hl h
  simp only [runC] at h
  split at h
  ·simp only [Option.map_eq_some_iff] at h
   obtain ⟨x,h1,rfl⟩ := h
   show LV (if k < 100 then 2 else 0) _
   split
   ·rename_i hk; exact LV.snoc hk
   ·exact trivial
  ·cases h
 | cond t a b iha ihb =>
  intro s r i ho hl h
  simp only [runC] at h
  split at h
  ·exact (iha _ _ _ ho.1 hl h).down (Nat.min_le_left _ _)
  ·exact (ihb _ _ _ ho.2 hl h).down (Nat.min_le_right _ _)
 | loop t c ih =>
  intro s r i ho hl h
  have hl' := LV.down (Nat.min_le_left i (lk c i)) hl
  simp only [runC] at h
  split at h
  ·simp only [Option.bind_eq_some_iff] at h
   obtain ⟨x,h1,h2⟩ := h
   have h3 := ih _ _ _ ho.1 hl' h1
   obtain ⟨h4,h5⟩ := loop_lvl ho
   have h6 := hr _ _ _ _ h4 (h3.down ho.2) h2
   rw [h5] at h6
   exact h6
  ·obtain rfl := Option.some.inj h
   exact hl'
 | prog c a b ihc iha ihb =>
  intro s r i ho hl h
  simp only [runC,Option.bind_eq_some_iff] at h
  obtain ⟨x,h1,h2⟩ := h
  have h3 := ihc _ _ _ ho.1 hl h1
  split at h2
  ·exact (iha _ _ _ ho.2.1 h3 h2).down (Nat.min_le_left _ _)
  ·exact (ihb _ _ _ ho.2.2 h3 h2).down (Nat.min_le_right _ _)
 | call x =>
  intro s r i ho hl h
  obtain ⟨h1,h2⟩ := lk_body x i ho.1 ho.2
  exact (hr _ _ _ _ h1 hl h).down h2
 | sel f c ih => intro s r i ho hl h; exact trivial
theorem run_lk : ∀ n,LkR (run body n)
 | 0 => rc_lk (by intro _ _ _ _ _ _ h; cases h)
 | n + 1 => rc_lk (run_lk n)
def S.pre (s : S) (l : List Tr) : S := { s with kids := l ++ s.kids }
def FrR (rec : Cmd → S → Option S) : Prop := ∀ c s r i l,LkOk c i → LV i s.kids → rec c s = some r → rec c (s.pre l) = some (r.pre l)
theorem last_pre {l k : List Tr} {t : Tr} (h : k.getLast? = some t) : (l ++ k).getLast? = some t ∧ (l ++ k).dropLast = l ++ k.dropLast := by
 have hne : k ≠ [] := fun e => by rw [e] at h; cases h
 refine ⟨by rw [List.getLast?_append,h]; rfl,List.dropLast_append_of_ne_nil hne⟩
theorem rc_fr {rec : Cmd → S → Option S} (hk : LkR rec) (hr : FrR rec) : FrR (runC body rec) := by
 intro c
 induction c with
 | skip | flag b => intro s r i l _ hl h; obtain rfl := Option.some.inj h; rfl
 | drop =>
  intro s r i l ho hl h
  obtain rfl : i = 2 := ho
  obtain ⟨a,t,e,_⟩ := hl
  obtain rfl := Option.some.inj h
  have : s.kids.getLast? = some t := by rw [e]; simp
  simp only [runC,S.pre,(last_pre this).2]
 | bump => intro s r i l _ hl h; obtain rfl := Option.some.inj h; simp only [runC,S.pre,S.bump,List.append_assoc]
 | leaf k => intro s r i l _ hl h; obtain rfl := Option.some.inj h; simp only [runC,S.pre,S.add,List.append_assoc]
 | before =>
  intro s r i l ho hl h
  simp only [runC] at h ⊢
  split at h
  ·rename_i t ht
   obtain rfl := Option.some.inj h
   simp only [S.pre,(last_pre ht).1,(last_pre ht).2,List.append_assoc]
  ·cases h
 | seq a b iha ihb =>
  intro s r i l ho hl h
  simp only [runC,Option.bind_eq_some_iff] at h ⊢
  obtain ⟨x,h1,h2⟩ := h
  exact ⟨_,iha _ _ _ l ho.1 hl h1,ihb _ _ _ l ho.2 (rc_lk hk _ _ _ _ ho.1 hl h1) h2⟩
 | node k c ih =>
  intro s r i l ho hl h
  simp only [runC,Option.map_eq_some_iff] at h ⊢
  obtain ⟨x,h1,rfl⟩ := h
  exact ⟨x,h1,by simp only [S.pre,List.append_assoc]⟩
 | wrap k c ih =>
  intro s r i l ho hl h
  simp only [runC] at h ⊢
  split at h
  ·rename_i t ht
   simp only [Option.map_eq_some_iff] at h
   obtain ⟨x,h1,rfl⟩ := h
   have h2 := last_pre (l := l) ht
   simp only [S.pre,h2.1,h2.2,Option.map_eq_some_iff]
   exact ⟨x,h1,by simp only [List.append_assoc]⟩
  ·cases h
 | cond t a b iha ihb =>
  intro s r i l ho hl h
  simp only [runC] at h ⊢
  have ht : (s.pre l).test t = s.test t := rfl
  rw [ht]
  split at h
  ·rename_i hc; rw [if_pos hc]; exact iha _ _ _ l ho.1 hl h
  ·rename_i hc; rw [if_neg hc]; exact ihb _ _ _ l ho.2 hl h
 | loop t c ih =>
  intro s r i l ho hl h
  have hl' := LV.down (Nat.min_le_left i (lk c i)) hl
  simp only [runC] at h ⊢
  have ht : (s.pre l).test t = s.test t := rfl
  rw [ht]
  split at h
  ·rename_i hc
   rw [if_pos hc]
   simp only [Option.bind_eq_some_iff] at h ⊢
   obtain ⟨x,h1,h2⟩ := h
   have h3 := rc_lk hk _ _ _ _ ho.1 hl' h1
   exact ⟨_,ih _ _ _ l ho.1 hl' h1,hr _ _ _ _ l (loop_lvl ho).1 (h3.down ho.2) h2⟩
  ·rename_i hc
   rw [if_neg hc]
   obtain rfl := Option.some.inj h
   rfl
 | prog c a b ihc iha ihb =>
  intro s r i l ho hl h
  simp only [runC,Option.bind_eq_some_iff] at h ⊢
  obtain ⟨x,h1,h2⟩ := h
  have h3 := rc_lk hk _ _ _ _ ho.1 hl h1
  refine ⟨_,ihc _ _ _ l ho.1 hl h1,?_⟩
  split at h2
  ·rename_i hc; rw [if_pos (by exact hc)]; exact iha _ _ _ l ho.2.1 h3 h2
  ·rename_i hc; rw [if_neg (by exact hc)]; exact ihb _ _ _ l ho.2.2 h3 h2
 | call x =>
  intro s r i l ho hl h
  exact hr _ _ _ _ l (lk_body x i ho.1 ho.2).1 hl h
 | sel f c ih => intro s r i l ho hl h; exact ih _ _ _ _ l (ho _) hl h
theorem run_fr : ∀ n,FrR (run body n)
 | 0 => rc_fr (by intro _ _ _ _ _ _ h; cases h) (by intro _ _ _ _ _ _ _ h; cases h)
 | n + 1 => rc_fr (run_lk n) (run_fr n)
def sgk (l : List Tok) : List Tok := l.filter fun t => !isTriv t.1
mutual
def sgT : Tr → Tr
 | .mk k x ks => .mk k x (sgL ks)
def sgL : List Tr → List Tr
 | [] => []
 | t :: l => if isTriv t.kdn then sgL l else sgT t :: sgL l
end
theorem sgk_cons (t : Tok) (l : List Tok) : sgk (t :: l) = if isTriv t.1 then sgk l else t :: sgk l := by
 unfold sgk
 rw [List.filter_cons]
 cases isTriv t.1 <;> rfl
theorem sgk_app (a b : List Tok) : sgk (a ++ b) = sgk a ++ sgk b := List.filter_append ..
theorem sgL_app (a b : List Tr) : sgL (a ++ b) = sgL a ++ sgL b := by
 induction a with
 | nil => rfl
 | cons t a ih => rw [List.cons_append,sgL,sgL]; split <;> simp [ih]
theorem sgT_tok (t : Tok) : sgT (.tok t) = .tok t := by obtain ⟨k,x⟩ := t; simp [sgT,sgL,Tr.tok]
theorem sgk_sig1 (l : List Tok) : sig1 (sgk l) = sig1 l := by
 induction l with
 | nil => rfl
 | cons t l ih =>
  rw [sgk_cons,sig1]
  split
  ·exact ih
  ·rename_i h; rw [sig1,if_neg h]
theorem sgk_left (l : List Tok) : left (sgk l) = sgk (left l) := by
 induction l with
 | nil => rfl
 | cons t l ih =>
  rw [sgk_cons,left]
  split
  ·exact ih
  ·rename_i h; rw [left,if_neg h]
theorem sgk_taken (l : List Tok) : sgL ((taken l).map .tok) = (taken (sgk l)).map .tok := by
 induction l with
 | nil => rfl
 | cons t l ih =>
  rw [sgk_cons,taken]
  split
  ·rename_i h
   rw [List.map_cons,sgL,if_pos (show isTriv (Tr.tok t).kdn = true from h)]
   exact ih
  ·rename_i h
   rw [List.map_cons,sgL,if_neg (show ¬ isTriv (Tr.tok t).kdn = true from h),taken,if_neg h,sgT_tok]
   rfl
theorem sgk_len (l : List Tok) : (sgk l).length = nsig l := by
 induction l with
 | nil => rfl
 | cons t l ih => rw [sgk_cons,nsig]; split <;> simp [ih]
theorem node_nt {t : Tr} (h : t.kdn < 100) : ¬ isTriv t.kdn = true := by
 unfold isTriv
 simp only [Bool.or_eq_true,beq_iff_eq]
 omega
theorem sgL_snoc {a : List Tr} {t : Tr} (h : t.kdn < 100) : sgL (a ++ [t]) = sgL a ++ [sgT t] := by
 rw [sgL_app,sgL,if_neg (node_nt h),sgL]
theorem test_sg (t : Test) (s : S) (l : List Tr) (a : Nat) : (S.mk (sgk s.rem) l s.flag a).test t = s.test t := by
 unfold S.test
 simp only [sgk_sig1,sgk_left]
def Nk : Cmd → Prop
 | .leaf k => isTriv k = false
 | .node k c => isTriv k = false ∧ Nk c
 | .wrap k c => isTriv k = false ∧ Nk c
 | .seq a b => Nk a ∧ Nk b
 | .cond _ a b => Nk a ∧ Nk b
 | .loop _ c => Nk c
 | .prog c a b => Nk c ∧ Nk a ∧ Nk b
 | .sel f c => ∀ x y,Nk (c (f x y))
 | _ => True
theorem triv_lt {k : Int} (h : k < 100) : isTriv k = false := by
 unfold isTriv
 rw [Bool.or_eq_false_iff]
 exact ⟨by simp; omega,by simp; omega⟩
theorem Nk.list {cl : ByteArray} {el : Cmd} (h : Nk el) : Nk (list cl el) := ⟨⟨h,⟨rfl,trivial⟩,trivial,trivial,rfl⟩,trivial,rfl⟩
theorem Nk.seg {b : Bool} : Nk (seg b) := by
 cases b
 ·exact ⟨rfl,⟨trivial,rfl⟩,trivial⟩
 ·exact ⟨rfl,⟨trivial,rfl⟩,⟨trivial,Nk.list trivial⟩,trivial⟩
theorem Nk.tail {b : Bool} : Nk (stmtTail b) := by
 cases b
 ·exact ⟨trivial,⟨⟨rfl,trivial,trivial,trivial,rfl⟩,rfl,trivial,rfl⟩,trivial⟩
 ·exact ⟨trivial,⟨⟨rfl,trivial,trivial,trivial,rfl⟩,rfl,trivial,trivial⟩,trivial⟩
theorem nk_body : ∀ x,Nk (body x) := by
 intro x
 cases x
 case item =>
  intro x y
  show Nk (if _ then _ else _)
  split
  ·trivial
  ·exact ⟨triv_lt (kind_range x y).2,⟨trivial,trivial⟩,trivial,trivial⟩
 case itemBody k =>
  show Nk (if _ then _ else _)
  repeat' (first | exact trivial | exact rfl | apply And.intro | split)
 case binary n =>
  show Nk (if _ then _ else _)
  split
  ·trivial
  ·refine ⟨trivial,?_⟩
   split
   ·exact ⟨⟨rfl,trivial,trivial⟩,trivial⟩
   ·exact ⟨rfl,trivial,trivial⟩
 case function b => cases b <;> repeat' (first | exact trivial | exact rfl | apply And.intro)
 case dataType k =>
  refine ⟨⟨trivial,rfl⟩,trivial,⟨trivial,rfl⟩,Nk.list ⟨?_,trivial⟩⟩
  split
  ·exact ⟨rfl,trivial,⟨trivial,rfl⟩,trivial⟩
  ·exact ⟨rfl,trivial,⟨trivial,Nk.list trivial⟩,trivial⟩
 case path b => exact ⟨rfl,Nk.seg,trivial,Nk.seg⟩
 case statement =>
  exact ⟨⟨⟨rfl,trivial⟩,trivial⟩,⟨⟨rfl,trivial,trivial,trivial⟩,trivial⟩,⟨⟨rfl,trivial⟩,trivial⟩,⟨trivial,⟨trivial,⟨rfl,trivial⟩,trivial⟩,Nk.tail⟩,trivial,⟨trivial,⟨rfl,trivial⟩,trivial⟩,Nk.tail⟩
 all_goals (repeat' (first | exact trivial | exact rfl | apply And.intro | exact Nk.list trivial | (refine Nk.list ?_)))
theorem sgL_node {k : Int} {l m : List Tr} (h : isTriv k = false) : sgL (l ++ [.mk k nob m]) = sgL l ++ [.mk k nob (sgL m)] := by
 rw [sgL_app,sgL,if_neg (by rw [show (Tr.mk k nob m).kdn = k from rfl,h]; simp),sgL,sgT]
def ErR' (rec : Cmd → S → Option S) : Prop := ∀ c s r i K,Nk c → LkOk c i → LV i s.kids → Sf K c → KS K s → rec c s = some r → ∀ a,∃ b,rec c ⟨sgk s.rem,sgL s.kids,s.flag,a⟩ = some ⟨sgk r.rem,sgL r.kids,r.flag,b⟩
theorem rc_er {rec : Cmd → S → Option S} (hs : ∀ c s r,rec c s = some r → ∃ u,s.rem = u ++ r.rem) (he : ∀ t c s r,rec (.loop t c) s = some r → r.test t = false) (hd : DropR rec) (hk : LkR rec) (hr : ErR' rec) : ErR' (runC body rec) := by
 intro c
 induction c with
 | skip | flag b => intro s r i K _ _ hl _ _ h a; obtain rfl := Option.some.inj h; exact ⟨a,rfl⟩
 | drop =>
  intro s r i K _ ho hl _ _ h a
  obtain rfl : i = 2 := ho
  obtain ⟨l,t,e,h1⟩ := hl
  obtain rfl := Option.some.inj h
  refine ⟨a,?_⟩
  simp only [runC,e,sgL_snoc h1,List.dropLast_concat]
 | bump =>
  intro s r i K _ _ hl _ _ h a
  obtain rfl := Option.some.inj h
  exact ⟨a + (taken (sgk s.rem)).length,by simp only [runC,S.bump,sgL_app,sgk_taken,sgk_left]⟩
 | leaf k =>
  intro s r i K hn _ hl _ _ h a
  obtain rfl := Option.some.inj h
  refine ⟨a + 1,?_⟩
  have := sgL_node (l := s.kids) (m := []) hn
  simp only [runC,S.add,Tr.leaf,this,sgL]
 | before =>
  intro s r i K _ ho hl _ _ h a
  obtain rfl : i = 2 := ho
  obtain ⟨l,t,e,h1⟩ := hl
  simp only [runC,e,List.getLast?_append,List.getLast?_singleton,Option.some_or] at h
  obtain rfl := Option.some.inj h
  refine ⟨a + 1,?_⟩
  simp only [runC,e,sgL_snoc h1,List.getLast?_append,List.getLast?_singleton,Option.some_or,List.dropLast_concat]
  have : sgL (l ++ [Tr.leaf 0,t]) = sgL l ++ [Tr.leaf 0,sgT t] := by
   rw [show l ++ [Tr.leaf 0,t] = (l ++ [Tr.leaf 0]) ++ [t] from by simp,sgL_snoc h1]
   have := sgL_node (k := 0) (l := l) (m := []) rfl
   simp only [Tr.leaf] at this ⊢
   rw [this]
   simp [sgL]
  rw [this]
 | seq x y ihx ihy =>
  intro s r i K hn ho hl hf hq h a
  simp only [runC,Option.bind_eq_some_iff] at h
  obtain ⟨q,h1,h2⟩ := h
  obtain ⟨b,e1⟩ := ihx _ _ _ _ hn.1 ho.1 hl hf.1 hq h1 a
  obtain ⟨b2,e2⟩ := ihy _ _ _ _ hn.2 ho.2 (rc_lk hk _ _ _ _ ho.1 hl h1) hf.2 (rc_post he _ _ _ _ h1 hq) h2 b
  exact ⟨b2,by simp only [runC,Option.bind_eq_some_iff]; exact ⟨_,e1,e2⟩⟩
 | node k c ih =>
  intro s r i K hn ho hl hf hq h a
  simp only [runC,Option.map_eq_some_iff] at h
  obtain ⟨x,h1,rfl⟩ := h
  obtain ⟨b,e1⟩ := ih _ _ _ K hn.2 ho trivial hf (show KS K { s with kids := [],adds := s.adds + 1 } from hq) h1 (a + 1)
  refine ⟨b,?_⟩
  simp only [runC,Option.map_eq_some_iff]
  exact ⟨_,e1,by simp only [sgL_node hn.1]⟩
 | wrap k c ih =>
  intro s r i K hn ho hl hf hq h a
  obtain ⟨rfl,ho⟩ := ho
  obtain ⟨l,t,e,h0⟩ := hl
  simp only [runC,e,List.getLast?_append,List.getLast?_singleton,Option.some_or,List.dropLast_concat,Option.map_eq_some_iff] at h
  obtain ⟨x,h1,rfl⟩ := h
  obtain ⟨b,e1⟩ := ih _ _ 2 K hn.2 ho (show LV 2 [t] from ⟨[],t,rfl,h0⟩) hf (show KS K { s with kids := [t],adds := s.adds + 1 } from hq) h1 (a + 1)
  refine ⟨b,?_⟩
  simp only [runC,e,sgL_snoc h0,List.getLast?_append,List.getLast?_singleton,Option.some_or,List.dropLast_concat,Option.map_eq_some_iff]
  have h2 : sgL [t] = [sgT t] := sgL_snoc (a := []) h0
  simp only [h2] at e1
  exact ⟨_,e1,by simp only [sgL_node hn.1]⟩
 | cond t x y ihx ihy =>
  intro s r i K hn ho hl hf hq h a
  simp only [runC] at h ⊢
  rw [test_sg]
  split at h
  ·rename_i hc; rw [if_pos hc]; exact ihx _ _ _ _ hn.1 ho.1 hl hf.1 ⟨hq,s.flag,hc⟩ h a
  ·rename_i hc; rw [if_neg hc]; exact ihy _ _ _ _ hn.2 ho.2 hl hf.2 ⟨hq,s.flag,by simpa [S.test] using hc⟩ h a
 | loop t c ih =>
  intro s r i K hn ho hl hf hq h a
  have hl' := LV.down (Nat.min_le_left i (lk c i)) hl
  simp only [runC] at h ⊢
  rw [test_sg]
  split at h
  ·rename_i hc
   rw [if_pos hc]
   simp only [Option.bind_eq_some_iff] at h
   obtain ⟨x,h1,h2⟩ := h
   have h3 := rc_lk hk _ _ _ _ ho.1 hl' h1
   obtain ⟨b,e1⟩ := ih _ _ _ _ hn ho.1 hl' hf ⟨s.flag,hc⟩ h1 a
   obtain ⟨b2,e2⟩ := hr _ _ _ _ anyK (show Nk (.loop t c) from hn) (loop_lvl ho).1 (h3.down ho.2) (show Sf anyK (.loop t c) from hf) trivial h2 b
   exact ⟨b2,by simp only [Option.bind_eq_some_iff]; exact ⟨_,e1,e2⟩⟩
  ·rename_i hc
   rw [if_neg hc]
   obtain rfl := Option.some.inj h
   exact ⟨a,rfl⟩
 | prog c x y ihc ihx ihy =>
  intro s r i K hn ho hl hf hq h a
  simp only [runC,Option.bind_eq_some_iff] at h
  obtain ⟨q,h1,h2⟩ := h
  have h3 := rc_lk hk _ _ _ _ ho.1 hl h1
  obtain ⟨b,e1⟩ := ihc _ _ _ _ hn.1 ho.1 hl hf.1 hq h1 a
  obtain ⟨u,hu⟩ := rc_suf hs _ _ _ h1
  have hc : (sgk q.rem).length = (sgk s.rem).length ↔ q.rem.length = s.rem.length := by
   rw [sgk_len,sgk_len]
   rcases rc_drop hs he hd _ _ _ _ hf.1 hq h1 with e | e
   ·rw [e]
    exact ⟨fun _ => rfl,fun _ => rfl⟩
   ·refine ⟨fun e2 => by omega,fun e2 => ?_⟩
    rw [suf_same hu e2] at e
    omega
  have : ∃ b',(if (sgk q.rem).length = (sgk s.rem).length then runC body rec x ⟨sgk q.rem,sgL q.kids,q.flag,b⟩ else runC body rec y ⟨sgk q.rem,sgL q.kids,q.flag,b⟩) = some ⟨sgk r.rem,sgL r.kids,r.flag,b'⟩ := by
   split at h2
   ·rename_i hlen
    rw [if_pos (hc.2 hlen)]
    exact ihx _ _ _ _ hn.2.1 ho.2.1 h3 hf.2.1 (hq.same (suf_same hu hlen)) h2 b
   ·rename_i hlen
    rw [if_neg (fun e => hlen (hc.1 e))]
    exact ihy _ _ _ _ hn.2.2 ho.2.2 h3 hf.2.2 trivial h2 b
  obtain ⟨b2,e2⟩ := this
  exact ⟨b2,by simp only [runC,Option.bind_eq_some_iff]; exact ⟨_,e1,e2⟩⟩
 | call x =>
  intro s r i K hn ho hl hf hq h a
  exact hr _ _ _ _ _ (nk_body x) (lk_body x i ho.1 ho.2).1 hl (sf_body x) (hf _ _ _ hq) h a
 | sel f c ih =>
  intro s r i K hn ho hl hf hq h a
  simp only [runC,sgk_sig1,sgk_left] at h ⊢
  exact ih _ _ _ _ _ (hn _ _) (ho _) hl (hf _) ⟨hq,rfl⟩ h a
theorem run_er : ∀ n,ErR' (run body n)
 | 0 => rc_er (by intro _ _ _ h; cases h) (by intro _ _ _ _ h; cases h) (by intro _ _ _ _ _ _ h; cases h) (by intro _ _ _ _ _ _ h; cases h) (by intro _ _ _ _ _ _ _ _ _ _ h; cases h)
 | n + 1 => rc_er (run_suf n) (run_exit n) (run_drop2 n) (run_lk n) (run_er n)
end Go.Proofs.YtiogccmfmjhipaaGreatDoor.Par
namespace Go.Proofs.YtiogccmfmjhipaaGreatDoor.Ast
open Par
def nrm (h : Hd) : Hd := ⟨h.kind,h.value,h.text,0,0,if h.ns < 0 then -1 else 0⟩
mutual
def bare : An → An
 | .mk h ks => .mk (nrm h) (bareL ks)
def bareL : List An → List An
 | [] => []
 | a :: l => bare a :: bareL l
end
theorem bareL_map (l : List An) : bareL l = l.map bare := by
 induction l with
 | nil => rfl
 | cons a l ih => simp [bareL,ih]
theorem bareL_app (a b : List An) : bareL (a ++ b) = bareL a ++ bareL b := by simp [bareL_map]
theorem nrm_flag (h : Hd) (x : ByteArray) : nrm (flag h x) = flag (nrm h) x := by
 unfold flag
 rw [show (nrm h).kind = h.kind from rfl,show (nrm h).value = h.value from rfl,show (nrm h).text = h.text from rfl]
 by_cases a : x = ⟨#[112,117,98]⟩
 ·rw [if_pos a,if_pos a]; rfl
 rw [if_neg a,if_neg a]
 by_cases b : x = ⟨#[109,117,116]⟩
 ·rw [if_pos b,if_pos b]; rfl
 rw [if_neg b,if_neg b]
 by_cases c : x = ⟨#[42]⟩ ∧ h.kind = 2
 ·rw [if_pos c,if_pos c]; rfl
 rw [if_neg c,if_neg c]
 by_cases d : x = ⟨#[116,114,117,101]⟩ ∧ h.kind = 28
 ·rw [if_pos d,if_pos d]; rfl
 rw [if_neg d,if_neg d]
 by_cases e : (h.kind = 39 ∨ h.kind = 40) ∧ h.text = nob
 ·rw [if_pos e,if_pos e]; rfl
 ·rw [if_neg e,if_neg e]
theorem nrm_ext (h : Hd) (s e : Int) : nrm (ext h s e) = nrm h := rfl
theorem nrm_ident (h : Hd) (x : ByteArray) {s : Int} (hs : 0 ≤ s) : nrm (identH h x s) = identH (nrm h) x 0 := by
 have hk : (nrm h).kind = h.kind := rfl
 have hn : (nrm h).ns < 0 ↔ h.ns < 0 := by
  simp only [nrm]
  split <;> omega
 unfold identH
 rw [hk]
 by_cases hc : hasName h.kind = true ∧ h.ns < 0
 ·rw [if_pos hc,if_pos ⟨hc.1,hn.2 hc.2⟩]
  simp only [nrm]
  rw [if_neg (by omega)]
 ·rw [if_neg hc,if_neg (fun hh => hc ⟨hh.1,hn.1 hh.2⟩)]
theorem kd_kdn (t : Tr) : kd t = t.kdn := by cases t; rfl
theorem triv_kd {k : Int} (h : isTriv k = true) : k = 101 ∨ k = 102 := by
 unfold isTriv at h
 simpa using h
end Go.Proofs.YtiogccmfmjhipaaGreatDoor.Ast
namespace Go.Proofs.YtiogccmfmjhipaaGreatDoor.Par
open Lexi (toks)
structure Small (s : ByteArray) (t : Tr) : Prop where
 parsed : Parsed s t
 wf : t.wf
 cnt : t.cnt ≤ 24 * s.size + 1
 dep : t.dep ≤ 2 * s.size + 8
 txt : t.txt = s.data.toList
 kids : ∃ ks,t = .mk 1 nob ks
theorem Parsed.small {s : ByteArray} {t : Tr} (h : Parsed s t) : Small s t := by
 obtain ⟨r,h1,h2,h3,h4,h5⟩ := parsed s
 obtain rfl := h.unique h1
 refine ⟨h,.inr ⟨by decide,by decide,rfl,h3⟩,by simp only [Tr.cnt]; omega,by simp only [Tr.dep]; omega,?_,r,rfl⟩
 show nob.data.toList ++ txtL r = _
 rw [h2]
 rfl
theorem Small.len {s : ByteArray} {t : Tr} (h : Small s t) : t.txt.length = s.size := by rw [h.txt]; simp
end Go.Proofs.YtiogccmfmjhipaaGreatDoor.Par
namespace Go.Proofs.YtiogccmfmjhipaaGreatDoor.Par
open Cmd
open Ast (fine fineL tokOk kd tx)
theorem Parsed.sg {s s' : ByteArray} {t t' : Tr} (h : Parsed s t) (h' : Parsed s' t') (e : sgk (Lexi.toks s) = sgk (Lexi.toks s')) : sgT t = sgT t' := by
 have key : ∀ {s : ByteArray} {t : Tr},Parsed s t → ∃ n r,run body n file ⟨sgk (Lexi.toks s),[],false,0⟩ = some r ∧ sgT t = .mk 1 nob r.kids := by
  intro s t h
  obtain ⟨n,r,h1,rfl⟩ := h
  obtain ⟨s1,h2,h3⟩ := run_seq' h1
  obtain rfl := run_bump' h3
  obtain ⟨b,e1⟩ := run_er n (.loop (fun t _ _ _ => t.1 != 100) (.call .item)) ⟨Lexi.toks s,[],false,0⟩ s1 0 anyK (show Nk _ from trivial) ⟨⟨Nat.zero_le _,by decide⟩,Nat.zero_le _⟩ trivial
   (preK_here fun x y z h e => by obtain ⟨_,h⟩ := h; simp [e] at h) trivial h2 0
  refine ⟨_,_,run_seq e1 (m := 0) rfl,?_⟩
  simp only [sgT,S.bump,sgL_app,sgk_taken]
 obtain ⟨n,r,h1,e1⟩ := key h
 obtain ⟨m,q,h2,e2⟩ := key h'
 rw [e] at h1
 obtain rfl := run_unique h1 h2
 rw [e1,e2]
theorem fineL_app {a b : List Tr} : fineL (a ++ b) ↔ fineL a ∧ fineL b := by
 induction a with
 | nil => simp [fineL]
 | cons t a ih => rw [List.cons_append,fineL,fineL,ih,and_assoc]
def Fk : Cmd → Prop
 | .node k c => k < 100 ∧ (k = 60 → 1 ≤ lk c 0) ∧ Fk c
 | .wrap k c => k < 100 ∧ k ≠ 60 ∧ Fk c
 | .leaf k => k ≠ 105 ∧ k ≠ 60
 | .seq a b => Fk a ∧ Fk b
 | .cond _ a b => Fk a ∧ Fk b
 | .loop _ c => Fk c
 | .prog c a b => Fk c ∧ Fk a ∧ Fk b
 | .sel f c => ∀ x y,Fk (c (f x y))
 | _ => True
theorem Fk.list {cl : ByteArray} {el : Cmd} (h : Fk el) : Fk (list cl el) := ⟨⟨h,⟨by decide,by decide,trivial⟩,trivial,trivial,by decide,by decide⟩,trivial,by decide,by decide⟩
theorem Fk.seg {b : Bool} : Fk (seg b) := by
 cases b
 ·exact ⟨by decide,by decide,⟨trivial,by decide,by decide⟩,trivial⟩
 ·exact ⟨by decide,by decide,⟨trivial,by decide,by decide⟩,⟨trivial,Fk.list trivial⟩,trivial⟩
theorem Fk.tail {b : Bool} : Fk (stmtTail b) := by
 cases b <;> (unfold stmtTail; repeat' (first | exact trivial | apply And.intro | (intro e; exact absurd e (by decide)) | decide))
theorem kindNo_le (x : ByteArray) : kindNo x ≤ 9 := by
 have key : ∀ (l : List ByteArray) (i : Nat),Lib.idxFromS l x i < (i : Int) + l.length ∨ Lib.idxFromS l x i < 0 := by
  intro l
  induction l with
  | nil => intro i; right; simp [Lib.idxFromS]
  | cons y l ih =>
   intro i
   simp only [Lib.idxFromS]
   split
   ·left; simp only [List.length_cons]; omega
   ·have := ih (i + 1)
    simp only [List.length_cons]
    omega
 have hl : kinds.length = 8 := by decide
 have h := key kinds 0
 rw [hl] at h
 unfold kindNo
 simp only
 unfold Lib.idxOfS
 split <;> omega
theorem itemKind_le (t u : Tok) : itemKind t u ≤ 9 := by
 have key : ∀ y : Tok,(if kindNo y.2 == 0 || y.1 != 104 then 0 else kindNo y.2) ≤ 9 := fun y => by
  cases (kindNo y.2 == 0 || y.1 != 104)
  ·exact kindNo_le _
  ·simp
 exact key _
theorem fk_body : ∀ x,Fk (body x) := by
 intro x
 cases x
 case item =>
  intro x y
  have h := itemKind_le x y
  show Fk (if _ then _ else _)
  split
  ·trivial
  ·exact ⟨by omega,fun e => by omega,⟨trivial,trivial⟩,trivial,trivial⟩
 case itemBody k =>
  show Fk (if _ then _ else _)
  repeat' (first | exact trivial | apply And.intro | (intro e; exact absurd e (by decide)) | decide | split)
 case binary n =>
  show Fk (if _ then _ else _)
  split
  ·trivial
  ·refine ⟨trivial,?_⟩
   split
   ·exact ⟨⟨by decide,by decide,trivial,trivial⟩,trivial⟩
   ·exact ⟨by decide,by decide,trivial,trivial⟩
 case function b => cases b <;> repeat' (first | exact trivial | apply And.intro | (intro e; exact absurd e (by decide)) | decide)
 case dataType k =>
  refine ⟨⟨trivial,by decide,by decide⟩,trivial,⟨trivial,by decide,by decide⟩,Fk.list ⟨?_,trivial⟩⟩
  split
  ·exact ⟨by decide,by decide,trivial,⟨trivial,by decide,by decide⟩,trivial⟩
  ·exact ⟨by decide,by decide,trivial,⟨trivial,Fk.list trivial⟩,trivial⟩
 case path b => exact ⟨by decide,fun e => absurd e (by decide),Fk.seg,trivial,Fk.seg⟩
 case statement =>
  exact ⟨⟨⟨by decide,by decide,trivial⟩,trivial⟩,⟨⟨by decide,by decide,trivial,trivial,trivial⟩,trivial⟩,⟨⟨by decide,by decide,trivial⟩,trivial⟩,⟨trivial,⟨trivial,⟨by decide,by decide,trivial⟩,trivial⟩,Fk.tail⟩,trivial,⟨trivial,⟨by decide,by decide,trivial⟩,trivial⟩,Fk.tail⟩
 all_goals (repeat' (first | exact trivial | apply And.intro | (intro e; exact absurd e (by decide)) | decide | exact Fk.list trivial | (refine Fk.list ?_)))
def TokR (l : List Tok) : Prop := ∀ t ∈ l,100 ≤ t.1 ∧ tokOk t.1 t.2
theorem TokR.fine {l : List Tok} (h : TokR l) : fineL (l.map .tok) := by
 induction l with
 | nil => exact trivial
 | cons t l ih =>
  rw [List.map_cons,fineL]
  have h0 := h t List.mem_cons_self
  refine ⟨?_,ih fun u hu => h u (List.mem_cons_of_mem _ hu)⟩
  rw [if_pos (show 100 ≤ kd (Tr.tok t) from h0.1)]
  exact h0.2
theorem fine_node {k : Int} {l : List Tr} (hk : k < 100) (h : fineL l) (h60 : k = 60 → ∃ c ∈ l,kd c < 100) : fineL [.mk k nob l] := by
 rw [fineL,if_neg (show ¬ 100 ≤ kd (Tr.mk k nob l) from by show ¬ 100 ≤ k; omega),fine]
 exact ⟨⟨h60,h⟩,trivial⟩
theorem fine_leaf {k : Int} (h : k ≠ 105 ∧ k ≠ 60) : fineL [.leaf k] := by
 rw [fineL]
 refine ⟨?_,trivial⟩
 split
 ·exact fun e => absurd e h.1
 ·exact ⟨fun e => absurd e h.2,trivial⟩
def FiR (rec : Cmd → S → Option S) : Prop := ∀ c s r i,Fk c → LkOk c i → LV i s.kids → TokR s.rem → fineL s.kids → rec c s = some r → fineL r.kids
theorem TokR.suf {s r : S} (h : TokR s.rem) (hs : ∃ u,s.rem = u ++ r.rem) : TokR r.rem := by
 obtain ⟨u,e⟩ := hs
 exact fun t ht => h t (by rw [e]; exact List.mem_append_right _ ht)
theorem rc_fi {rec : Cmd → S → Option S} (hs : ∀ c s r,rec c s = some r → ∃ u,s.rem = u ++ r.rem) (hk : LkR rec) (hr : FiR rec) : FiR (runC body rec) := by
 intro c
 induction c with
 | skip | flag b => intro s r i _ _ _ _ hf h; obtain rfl := Option.some.inj h; exact hf
 | drop =>
  intro s r i _ ho hl _ hf h
  obtain rfl : i = 2 := ho
  obtain ⟨a,t,e,_⟩ := hl
  obtain rfl := Option.some.inj h
  rw [e] at hf
  simp only [e,List.dropLast_concat]
  exact (fineL_app.1 hf).1
 | bump =>
  intro s r i _ _ _ ht hf h
  obtain rfl := Option.some.inj h
  exact fineL_app.2 ⟨hf,TokR.fine fun t hm => ht t (by rw [← taken_left s.rem]; exact List.mem_append_left _ hm)⟩
 | leaf k => intro s r i hk _ _ _ hf h; obtain rfl := Option.some.inj h; exact fineL_app.2 ⟨hf,fine_leaf hk⟩
 | before =>
  intro s r i _ ho hl _ hf h
  obtain rfl : i = 2 := ho
  obtain ⟨a,t,e,_⟩ := hl
  simp only [runC,e,List.getLast?_append,List.getLast?_singleton,Option.some_or] at h
  obtain rfl := Option.some.inj h
  rw [e] at hf
  have hf := fineL_app.1 hf
  simp only [List.dropLast_concat]
  rw [show a ++ [Tr.leaf 0,t] = a ++ ([Tr.leaf 0] ++ [t]) from by simp]
  exact fineL_app.2 ⟨hf.1,fineL_app.2 ⟨fine_leaf ⟨by decide,by decide⟩,hf.2⟩⟩
 | seq a b iha ihb =>
  intro s r i hF ho hl ht hf h
  simp only [runC,Option.bind_eq_some_iff] at h
  obtain ⟨x,h1,h2⟩ := h
  exact ihb _ _ _ hF.2 ho.2 (rc_lk hk _ _ _ _ ho.1 hl h1) (ht.suf (rc_suf hs _ _ _ h1)) (iha _ _ _ hF.1 ho.1 hl ht hf h1) h2
 | node k c ih =>
  intro s r i hF ho hl ht hf h
  simp only [runC,Option.map_eq_some_iff] at h
  obtain ⟨x,h1,rfl⟩ := h
  obtain ⟨hk1,hk2,hF⟩ := hF
  have h2 := ih { s with kids := [],adds := s.adds + 1 } x 0 hF ho trivial ht (show fineL ([] : List Tr) from trivial) h1
  refine fineL_app.2 ⟨hf,fine_node hk1 h2 fun e => ?_⟩
  have h3 := (rc_lk hk _ _ _ 0 ho trivial h1).down (hk2 e)
  obtain ⟨t,h4,h5⟩ := h3
  exact ⟨t,h4,by rw [Ast.kd_kdn]; exact h5⟩
 | wrap k c ih =>
  intro s r i hF ho hl ht hf h
  obtain ⟨rfl,ho⟩ := ho
  obtain ⟨l,t,e,h0⟩ := hl
  obtain ⟨hk1,hk2,hF⟩ := hF
  simp only [runC,e,List.getLast?_append,List.getLast?_singleton,Option.some_or,List.dropLast_concat,Option.map_eq_some_iff] at h
  obtain ⟨x,h1,rfl⟩ := h
  rw [e] at hf
  have hf := fineL_app.1 hf
  have h2 := ih { s with kids := [t],adds := s.adds + 1 } x 2 hF ho (show LV 2 [t] from ⟨[],t,rfl,h0⟩) ht hf.2 h1
  exact fineL_app.2 ⟨hf.1,fine_node hk1 h2 fun e => absurd e hk2⟩
 | cond t a b iha ihb =>
  intro s r i hF ho hl ht hf h
  simp only [runC] at h
  split at h
  ·exact iha _ _ _ hF.1 ho.1 hl ht hf h
  ·exact ihb _ _ _ hF.2 ho.2 hl ht hf h
 | loop t c ih =>
  intro s r i hF ho hl ht hf h
  have hl' := LV.down (Nat.min_le_left i (lk c i)) hl
  simp only [runC] at h
  split at h
  ·simp only [Option.bind_eq_some_iff] at h
   obtain ⟨x,h1,h2⟩ := h
   have h3 := rc_lk hk _ _ _ _ ho.1 hl' h1
   exact hr _ _ _ _ (show Fk (.loop t c) from hF) (loop_lvl ho).1 (h3.down ho.2) (ht.suf (rc_suf hs _ _ _ h1)) (ih _ _ _ hF ho.1 hl' ht hf h1) h2
  ·obtain rfl := Option.some.inj h
   exact hf
 | prog c a b ihc iha ihb =>
  intro s r i hF ho hl ht hf h
  simp only [runC,Option.bind_eq_some_iff] at h
  obtain ⟨x,h1,h2⟩ := h
  have h3 := rc_lk hk _ _ _ _ ho.1 hl h1
  have h4 := ihc _ _ _ hF.1 ho.1 hl ht hf h1
  have h5 := ht.suf (rc_suf hs _ _ _ h1)
  split at h2
  ·exact iha _ _ _ hF.2.1 ho.2.1 h3 h5 h4 h2
  ·exact ihb _ _ _ hF.2.2 ho.2.2 h3 h5 h4 h2
 | call x =>
  intro s r i hF ho hl ht hf h
  exact hr _ _ _ _ (fk_body x) (lk_body x i ho.1 ho.2).1 hl ht hf h
 | sel f c ih => intro s r i hF ho hl ht hf h; exact ih _ _ _ _ (hF _ _) (ho _) hl ht hf h
theorem run_fi : ∀ n,FiR (run body n)
 | 0 => rc_fi (by intro _ _ _ h; cases h) (by intro _ _ _ _ _ _ h; cases h) (by intro _ _ _ _ _ _ _ _ _ h; cases h)
 | n + 1 => rc_fi (run_suf n) (run_lk n) (run_fi n)
theorem toks_R : ∀ s : ByteArray,TokR (Lexi.toks s) := Lexi.induct_size fun s ih t ht => by
 rcases Nat.eq_zero_or_pos s.size with h | h
 ·rw [Lexi.toks_nil h] at ht
  cases ht
 ·rw [Lexi.toks_cons h] at ht
  rcases List.mem_cons.1 ht with rfl | ht
  ·refine ⟨Int.le_of_lt (tok_kind s),fun e => ?_⟩
   have hin := Lexi.tok_in h
   have hsz : (s.extract 0 (Lexi.tok s).1).size = (Lexi.tok s).1 := by rw [ByteArray.size_extract]; omega
   refine ⟨by rw [hsz]; omega,fun b hb => ?_⟩
   simp only at e
   have e1 : (Lexi.tok s).1 = Lexi.scan Lexi.isDg s 0 := by
    revert e
    unfold Lexi.tok
    repeat' split
    all_goals simp
   have hd := (Lexi.scan_spec Lexi.isDg s 0).2.2.1
   rw [← e1] at hd
   simp only at hb
   rw [Lexi.list_cut,List.drop_zero,Nat.sub_zero] at hb
   obtain ⟨i,hi,hib⟩ := List.getElem_of_mem hb
   rw [List.length_take] at hi
   have := hd i (Nat.zero_le _) (by omega)
   rw [List.getElem_take] at hib
   have e2 : Lexi.bt s i = b.toNat := by
    unfold Lexi.bt
    rw [List.getD_eq_getElem?_getD,List.getElem?_eq_getElem (by omega),hib]
    rfl
   rw [e2] at this
   unfold Lexi.isDg at this
   simp only [Bool.and_eq_true,decide_eq_true_eq] at this
   omega
  ·refine ih _ ?_ t ht
   have := Lexi.tok_in h
   rw [Lexi.size_tail]
   omega
theorem file_lk : LkOk (.loop (fun t _ _ _ => t.1 != 100) (.call .item)) 0 := ⟨⟨Nat.zero_le _,by decide⟩,Nat.zero_le _⟩
theorem Parsed.fine {s : ByteArray} {t : Tr} (h : Parsed s t) : Ast.fine t := by
 obtain ⟨n,r,h1,rfl⟩ := h
 have h2 := run_fi n file _ r 0 (show Fk file from ⟨trivial,trivial⟩) ⟨file_lk,trivial⟩ trivial (toks_R s) (show fineL ([] : List Tr) from trivial) h1
 rw [Ast.fine]
 exact ⟨fun e => absurd e (by decide),h2⟩
end Go.Proofs.YtiogccmfmjhipaaGreatDoor.Par
namespace Go.Proofs.YtiogccmfmjhipaaGreatDoor.Ast
set_option maxRecDepth 20000
open Go.Gx Go.RowKit Go.Lib
open Lexi (Asc)
open Par
theorem compact_row {F : Fs} {w : World} {dv : Value} {ds : List Dg} (h : w.ownsRow 0 80 5 dv ds.length (encs dgc ds)) (hd : ∀ z,dv.ownBlock = some z → ¬ F z) (hF : Und F w.heap.size) (hl : ds.length ≤ 1000000) :
  Cl Tryz.prog 50 #[dv] w (fun u w' => SlC w' u 5 (cmpL ds).length (encs dgc (cmpL ds)) ∧ u.oneCell' = true ∧ (∀ z,u.ownBlock = some z → dv.ownBlock = some z) ∧ Bw F w w') := by
 by_cases h2 : ds.length < 2
 ·have e : cmpL ds = ds := by
   rcases ds with _ | ⟨a,_ | ⟨b,l⟩⟩
   ·rfl
   ·rfl
   ·exact absurd h2 (by simp)
  refine Cl.mono (compact_small (own_slc h) h2) ?_
  rintro u w' ⟨rfl,rfl⟩
  rw [e]
  refine ⟨own_slc h,?_,fun z hz => hz,Bw.refl _ _⟩
  rcases own_wholeG h with ⟨rfl,_⟩ | ⟨g,cap,sp,rfl,_⟩ <;> rfl
 ·rcases own_wholeG h with ⟨rfl,h0⟩ | ⟨g,cap,sp,rfl,g1,g2,g3,g4,g5⟩
  ·omega
  ·refine Cl.mono (compact_ok (F := F) g5 g2 g4 (hd g rfl) hF (by omega) hl) ?_
   rintro u w' ⟨rfl,⟨sp',hv⟩,hB⟩
   refine ⟨⟨encs_len dgc_len _,_,_,rfl,Nat.le_trans (cmpL_le ds) g2,.inr ⟨g,0,rfl,fun i v hi => ?_⟩⟩,rfl,fun z hz => hz,hB⟩
   exact hv.cells i v (by rw [List.getElem?_append_left (List.getElem?_eq_some_iff.1 hi).1]; exact hi)
def astOf (s : ByteArray) (t : Tr) : An := match (cvt s t 0 []).1 with
 | .mk h ks => .mk ⟨h.kind,h.value,h.text,0,s.size,h.ns⟩ ks
structure ParseA (w : World) (s : ByteArray) (u : Value) (w' : World) (t : Tr) (mn : Mn) (lv : Value) (ds : List Dg) (K : Fs) : Prop where
 ue : u = .tuple #[.agg mn.cells.toArray,lv,.int .i64 0]
 pt : Parsed s t
 er : mn.er = astOf s t
 dse : ds = cmpL (sortD (cvt s t 0 []).2.2)
 ok : NOk K w' mn
 bl : blkIn K lv
 one : lv.oneCell' = true
 sl : SlC w' lv 5 ds.length (encs dgc ds)
 lo : ∀ z,K z → w.heap.size ≤ z ∧ z < w'.heap.size
 ext : Ext w w'
 few : ds.length < 1000000
theorem mn_root {s : ByteArray} {t : Tr} {h : Hd} {cv : Value} {kids : List Mn} (e : (Mn.mk h cv kids).er = (cvt s t 0 []).1) : (Mn.mk ⟨h.kind,h.value,h.text,0,s.size,h.ns⟩ cv kids).er = astOf s t := by
 unfold astOf
 rw [← e]
 rfl
theorem cvt_few {s : ByteArray} {t : Tr} (h : Small s t) (hs : s.size ≤ 2000) : (cvt s t 0 []).2.2.length ≤ 900000 := by
 have hkd : kd t < 100 := by
  obtain ⟨ks,e⟩ := h.kids
  rw [e]
  show (1 : Int) < 100
  decide
 obtain ⟨_,_,_,_,k⟩ := cvt_inv s t 0 [] (Int.le_refl _) h.wf hkd
 have h1 := h.cnt
 have h2 := h.len
 simp only [List.length_nil] at k
 omega
theorem astParse_ok {w : World} {s : ByteArray} (hs : s.size ≤ 2000) (hA : Asc w) (hE : Er w) : Cl Tryz.prog 18 #[.string s] w (fun u w' => ∃ t mn lv ds K,ParseA w s u w' t mn lv ds K) := by
 have hx := Ext.refl w
 obtain ⟨te,pe,hE⟩ := hE
 have hE4 : 4 < w.heap.size := block_lt hE
 refine Cl.enter Tryz.func18 rfl Tryz.ntmps18 rfl rfl (.sr (Rg.wd trivial (w_new Tryz.zeroValue27 rfl) rfl ?_))
 rintro _ w1 ⟨b2,rfl,q2,hx1,hv2⟩
 replace hx := hx.ext hx1
 have hl2 := hv2.lt
 refine .a2 rfl (.a2 rfl (.done (.sr (.m2 rfl (Rg.wd trivial (w_call Tryz.call23 rfl (parse_ok hs (hA.ext hx))) rfl ?_)))))
 rintro _ w2 ⟨g,rfl,hpp,hgp,hx2⟩
 replace hx := hx.ext hx2
 replace hv2 := hv2.ext hx2
 have hsm := hpp.small
 have hog : g.cells.all (·.oneCell') = true := List.all_eq_true.2 hgp.one
 have hy := Ext.refl w2
 refine .m2 rfl (.t2 (t_extract rfl rfl) (.t2 (t_extract rfl rfl) (Rg.wd trivial (w_new Tryz.zeroValue43 rfl) rfl ?_)))
 rintro _ wab5 ⟨b5,rfl,qb5,hxab5,hvab5⟩
 refine Rg.wn trivial (w_put (cs := g.cells) hvab5 rfl rfl rfl (by rw [Gt.len]; exact ty43) (by rw [Gt.len]; rfl) (hog)) ?_
 rintro _ w3 ⟨hub5,hvb5⟩
 have hx3 := hxab5.upd hub5 (Nat.le_of_eq qb5.symm)
 clear hvab5 hub5 hxab5
 replace hx := hx.ext hx3
 replace hv2 := hv2.ext hx3
 replace hy := hy.ext hx3
 clear qb5
 refine .a2 rfl (.done (.seq (.sr (.m2 rfl (.t2 (t_neqF rfl rfl rfl) (.done (.condF rfl (Wp.skip ?_))))))))
 have hkd : kd g.er < 100 := by
  obtain ⟨ks,e⟩ := hsm.kids
  rw [e]
  show (1 : Int) < 100
  decide
 refine .sr (.m2 rfl (.t2 (t_build (bd94_0 _) rfl) (Rg.wd trivial (w_boxed (cs := [.string s,.int .i64 0,.slice none 0 0]) rfl rfl) rfl ?_)))
 rintro _ w4 ⟨b20,rfl,q20,hx4,hv20⟩
 have g2 : b2 < b20 := by have := hv2.lt; omega
 have g5 : b5 ≠ b20 := by have := hvb5.lt; omega
 have lo20 : w.heap.size ≤ b20 := by have := hx.le; omega
 have hyl := hy.le
 have lt20 := hv20.lt
 have hUb : Und (fun z => z < b20) w4.heap.size := fun z hz => by have := hv20.lt; omega
 replace hx := hx.ext hx4
 replace hv2 := hv2.ext hx4
 replace hy := hy.ext hx4
 replace hvb5 := hvb5.ext hx4
 have hBd : Bd (fun z => z < b20) w4 b20 s 0 [] := ⟨.slice none 0 0,fun z hz => by have := hv20.lt; omega,hv20,own_nil _ _ _ _,fun h => Nat.lt_irrefl _ h,fun z hz => by cases hz⟩
 have hgF : GOk (fun z => z < b20) w4 g := GOk.mono (hgp.bw (Bw.of hy fun z hz => hz.2) fun z hz => hz) fun z hz => by have := hz.2; omega
 have hE20 : Er w4 := ⟨te,pe,hx.cell hE⟩
 have hv5c := hvb5.cells
 refine .a2 rfl (.done (.sr (.m2 rfl ?_)))
 refine .t2 (t_loadA rfl hv5c (by rw [Gt.len]; exact ty43)) ?_
 refine Rg.wd trivial (w_call Tryz.call47 rfl (node_ok _ g (Nat.le_refl _) (fun z => z < b20) _ b20 s 0 [] hsm.wf hkd hpp.fine hBd hgF hE20 (by omega) (Int.le_refl _) (by rw [hsm.len]; omega) hs (by have := hsm.cnt; have := hsm.len; simp only [List.length_nil]; omega))) rfl ?_
 rintro _ w20 ⟨mn,K,rfl,hme,hK,hmn,hbd,hB20⟩
 have hmo := hmn.oneL
 have hv2n := var_bw hv2 hB20 g2
 clear hBd hgF hv20
 have hv2 := hv2n
 clear hv2n
 refine Rg.wd trivial (w_new Tryz.zeroValue27 rfl) rfl ?_
 rintro _ wa8 ⟨b8,rfl,q8,hxa8,hva8⟩
 refine Rg.wn trivial (w_put (cs := mn.cells) hva8 rfl rfl rfl (by rw [Mn.len]; exact ty27) (by rw [Mn.len]; rfl) hmo) ?_
 rintro _ w21 ⟨hu8,hv8⟩
 have hx21 := hxa8.upd hu8 (Nat.le_of_eq q8.symm)
 clear hva8 hu8 hxa8
 have hU20 := hbd.und
 have lt2 := hv2.lt
 have b28 : b2 ≠ b8 := by omega
 have ltb := hbd.few
 have nb8 : b20 ≠ b8 := by omega
 have hB21 : Bw (fun z => z < b20) _ w21 := bwX hB20 hx21 hUb
 replace hmn : NOk K w21 mn := hmn.bw (Bw.of hx21 fun z hz => hU20 z (.inr hz)) fun z hz => hz
 have kn8 : ¬ K b8 := fun hk => by have := hU20 b8 (.inr hk); omega
 have hbd := hbd.add hx21 (Nat.le_of_eq q8.symm) hv8.lt
 replace hv2 := hv2.ext hx21
 obtain ⟨h,cv,kids⟩ := mn
 have hmk : NOk K w21 (.mk ⟨h.kind,h.value,h.text,0,s.size,h.ns⟩ cv kids) := by
  cases hmn with | mk a b c d => exact .mk a b c d
 clear hmn
 refine .done (.sr (.m2 rfl (.t2 (t_len Tryz.underlying9 rfl) (.t2 (t_fieldAddr fa27_3 rfl) (Rg.wn trivial (w_putF hv8 ty3 rfl rfl rfl rfl rfl) ?_)))))
 rintro _ w22 ⟨hu22,hv8x⟩
 have hB22 := hB21.trans (Bw.upd hu22 (by omega))
 have hbd22 := hbd.sub (F := fun z => z < b20 ∨ K z) fun z hz => hz.elim (fun h => .inl (.inl h)) fun h => .inl (.inr h)
 replace hbd22 := hbd22.upd hv8 (by decide) (by decide) hu22
 replace hmk := hmk.bw (Bw.upd hu22 kn8) fun z hz => hz
 replace hv2 := hv2.upd hu22 b28
 clear hv8 hbd
 have hv8 := hv8x
 clear hv8x
 refine .t2 (t_fieldAddr fa27_4 rfl) (Rg.wn trivial (w_putF hv8 ty3 rfl rfl rfl rfl rfl) ?_)
 rintro _ w23 ⟨hu23,hv8x⟩
 have hB23 := hB22.trans (Bw.upd hu23 (by omega))
 have hbd23 := hbd22.upd hv8 (by decide) (by decide) hu23
 replace hmk := hmk.bw (Bw.upd hu23 kn8) fun z hz => hz
 replace hv2 := hv2.upd hu23 b28
 clear hv8 hbd22
 have hv8 := hv8x
 clear hv8x
 simp only [Mn.cells,Hd.cells,List.set] at hv8
 have hlb : ∀ z,z < b20 ∨ K z → z ≠ b8 := fun z hz => hz.elim (fun h => by omega) fun h e => kn8 (e ▸ h)
 have hbd : Bd (fun z => (z < b20 ∨ K z) ∨ z = b8) w23 b20 s (cvt s g.er 0 []).2.1 (cvt s g.er 0 []).2.2 := by
  obtain ⟨dv,D⟩ := hbd23
  have e8 := hv8.lt
  refine ⟨dv,fun z hz => hz.elim (D.und z) fun e => by omega,D.var,D.row,fun hz => hz.elim D.nb nb8,fun z hz hf => hf.elim (D.nd z hz) fun e => ?_⟩
  exact own_notin D.row hv8 (by decide) (by rw [← e,hz]; simp)
 clear hbd23
 obtain ⟨dv,D⟩ := hbd
 have hcnt := cvt_few (s := s) hsm hs
 obtain ⟨ds0,hds0⟩ : ∃ z,(cvt s g.er 0 []).2.2 = z := ⟨_,rfl⟩
 rw [hds0] at D hcnt
 refine .done (.sr (.m2 rfl (.t2 (t_nilCheck rfl) (.t2 (t_fieldAddr fa94_2 rfl) (.t2 (t_load ty28 rfl (D.var.g 2 rfl)) ?_)))))
 refine Rg.wd trivial (w_call Tryz.call48 rfl (sort_ok D (by omega))) rfl ?_
 rintro _ w24 ⟨D24,hB24⟩
 have hv8n := var_bw hv8 hB24 (.inr rfl)
 have hv2n := var_bw hv2 hB24 (.inl (.inl g2))
 have hmk24 := hmk.bw (hB24.sub fun z hz => .inl (.inr hz)) fun z hz => hz
 have hB25 := hB23.trans (hB24.sub fun z hz => .inl (.inl hz))
 clear hv8 hv2 hmk D
 have hv8 := hv8n
 have hv2 := hv2n
 have hmk := hmk24
 have D := D24
 clear hv8n hv2n hmk24 D24
 refine .done ?_
 refine Wp.seq (Wp.drawS (fun w' => Var w' b8 [.int .i64 h.kind,.int .i64 h.value,.string h.text,.int .i64 0,.int .i64 s.size,.int .i64 h.ns,cv] 27 ∧ Var w' b20 [.string s,.int .i64 (cvt s g.er 0 []).2.1,dv] 94) [0,1,2,3,4,5,6,7,8] [] mixed (by kernel_rfl) (by kernel_rfl) (by rfl) ?_)
 intro w5 hx5 hh5
 replace hv8 := hv8.ext hx5
 replace hv2 := hv2.ext hx5
 replace hmk := hmk.bw (Bw.of hx5 fun z hz => D.und z (.inl (.inr hz))) fun z hz => hz
 replace hB25 := bwX hB25 hx5 hUb
 replace D := D.ext hx5
 refine ⟨⟨hv8,D.var⟩,?_⟩
 refine Rs.tm trivial rfl (ts fun wz hkz => by have y8 := hkz.1.cells; exact t_loadA rfl y8 (by exact ty27)) rfl ?_
 refine Rs.tm trivial rfl (ts fun wz hkz => by exact t_move rfl) rfl ?_
 refine Rs.tm trivial rfl (ts fun wz hkz => by exact t_nilCheck rfl) rfl ?_
 refine Rs.tm trivial rfl (ts fun wz hkz => by exact t_fieldAddr fa94_2 rfl) rfl ?_
 refine Rs.tm trivial rfl (ts fun wz hkz => by have y2 := hkz.2.cells; exact t_load ty28 rfl (Cells.get (i := 2) y2 rfl)) rfl ?_
 refine Rs.wd trivial rfl (w_call Tryz.call50 rfl (compact_row (F := fun z => ((z < b20 ∨ K z) ∨ z = b8) ∨ z = b20) D.row (fun z hz hf => hf.elim (D.nd z hz) fun e => own_notin D.row D.var (by decide) (by rw [← e,hz]; simp)) (fun z hz => hz.elim (D.und z) fun e => by have := D.var.lt; omega) (by rw [sortD_length]; omega))) rfl (fun _ => fun _ _ hr => ⟨var_bw hv8 hr.2.2.2 (.inl (.inr rfl)),var_bw D.var hr.2.2.2 (.inr rfl)⟩) ?_
 rintro lv w26 ⟨hsl,hl1,hlb2,hB26⟩
 have hv8n := var_bw hv8 hB26 (.inl (.inr rfl))
 have hv2n := var_bw hv2 hB26 (.inl (.inl (.inl g2)))
 have hmk26 := hmk.bw (hB26.sub fun z hz => .inl (.inl (.inr hz))) fun z hz => hz
 have hB27 := hB25.trans (hB26.sub fun z hz => .inl (.inl (.inl hz)))
 have hvB := var_bw D.var hB26 (.inr rfl)
 clear hv8 hv2 hmk
 have hv8 := hv8n
 have hv2 := hv2n
 have hmk := hmk26
 clear hv8n hv2n hmk26
 refine Rs.wn trivial rfl (w_put (cs := [.int .i64 h.kind,.int .i64 h.value,.string h.text,.int .i64 0,.int .i64 s.size,.int .i64 h.ns,cv]) hv2 rfl rfl rfl (by exact ty27) rfl (hmk.oneL)) (fun _ => fun _ _ hr => ⟨hv8.upd hr.1 (Ne.symm b28),hvB.upd hr.1 (by omega)⟩) ?_
 rintro _ w27 ⟨hu27,hv2x⟩
 refine Rs.tm trivial rfl (ts fun wz hkz => by exact t_assign rfl) rfl ?_
 refine Rs.tm trivial rfl (ts fun wz hkz => by exact t_assign rfl) rfl ?_
 refine Rs.done (Wp.ret ?_)
 have nK2 : ¬ K b2 := fun hk => by have := hK b2 hk; omega
 have hfin : Ext w w27 := (Bw.ext hx hB27 fun z hz => (by omega : z < b20)).upd hu27 (Nat.le_of_eq q2.symm)
 have ndv : ∀ z,dv.ownBlock = some z → b20 ≤ z := fun z hz => Nat.le_of_not_lt fun h => D.nd z hz (.inl (.inl h))
 have sz26 := hB26.size
 have sz27 := hu27.size
 have ltd : ∀ z,dv.ownBlock = some z → z < w27.heap.size := fun z hz => by have := own_lt D.row hz; omega
 have hl0 := cmpL_le (sortD ds0)
 rw [sortD_length] at hl0
 have hwl := hx.le
 refine ⟨[_,_,_],⟨⟨_,rfl,lv_agg hv2x (by exact ty27)⟩,rfl,rfl,trivial⟩,g.er,.mk ⟨h.kind,h.value,h.text,0,s.size,h.ns⟩ cv kids,lv,cmpL (sortD ds0),fun z => K z ∨ dv.ownBlock = some z,?_⟩
 exact ⟨rfl,hpp,mn_root hme,by rw [hds0],(hmk.bw (Bw.upd hu27 nK2) fun z hz => hz).mono fun z hz => .inl hz,fun z hz => .inr (hlb2 z hz),hl1,
  slC_bw hsl (Bw.upd (F := fun z => dv.ownBlock = some z) hu27 fun e => by have := ndv b2 e; omega) hlb2,
  fun z hz => hz.elim (fun hk => ⟨by have := hK z hk; omega,by have := D.und z (.inl (.inr hk)); omega⟩) fun hk => ⟨by have := ndv z hk; omega,ltd z hk⟩,hfin,by omega⟩
end Go.Proofs.YtiogccmfmjhipaaGreatDoor.Ast
namespace Go.Proofs
open Go.Shelf
end Go.Proofs
namespace Go.Proofs.YtiogccmfmjhipaaGreatDoor.Par
set_option maxRecDepth 20000
open Go.Gx Go.RowKit Go.Lib
open Lexi (Asc)
open Lexi (tok toks strCells_add isB_ext writeString_k)
abbrev Lo (w : World) : Fs := fun z => z < w.heap.size
theorem GOk.up {w w' : World} {g : Gt} (h : GOk (Lo w) w g) (x : Ext w w') : GOk (Lo w') w' g := (h.bw (Bw.of x fun z hz => hz) fun z hz => hz).mono fun z hz => Nat.lt_of_lt_of_le hz x.le
theorem len_cntL (l : List Tr) : l.length ≤ cntL l := by
 induction l with
 | nil => exact Nat.le_refl _
 | cons t l ih =>
  obtain ⟨k,x,ks⟩ := t
  simp only [List.length_cons,cntL,Tr.cnt]
  omega
theorem t_sneqF {P : Program} {n : Nat} {L : Env} {w : World} {d : Option Tmp} {ty : TypeId} {pos : String} {af : Array Edge} {g : Option (Nat × Bool)} {t t' : TypeId} {x y : Operand} {u v : ByteArray} (hx : evO L x = some (.string u)) (hy : evO L y = some (.string v)) (h : u = v) : Tm P n ⟨d,.binOp .neq t x y t',ty,pos,af,g⟩ L w (.bool false) := by
 have := t_sneq (P := P) (n := n) (w := w) (d := d) (ty := ty) (pos := pos) (af := af) (g := g) (t := t) (t' := t') hx hy
 rwa [decide_eq_true h] at this
theorem t_sneqT {P : Program} {n : Nat} {L : Env} {w : World} {d : Option Tmp} {ty : TypeId} {pos : String} {af : Array Edge} {g : Option (Nat × Bool)} {t t' : TypeId} {x y : Operand} {u v : ByteArray} (hx : evO L x = some (.string u)) (hy : evO L y = some (.string v)) (h : u ≠ v) : Tm P n ⟨d,.binOp .neq t x y t',ty,pos,af,g⟩ L w (.bool true) := by
 have := t_sneq (P := P) (n := n) (w := w) (d := d) (ty := ty) (pos := pos) (af := af) (g := g) (t := t) (t' := t') hx hy
 rwa [decide_eq_false h] at this
theorem short_ok {w : World} {s : ByteArray} {n : Nat} : Cl Tryz.prog 16 #[.string s,.int .i64 n] w (fun u w' => u = .string (s.extract 0 (min s.size n)) ∧ Ext w w') := by
 have hx := Ext.refl w
 refine Cl.enter Tryz.func16 rfl Tryz.ntmps16 rfl rfl (.sr (.a2 rfl (.done (.sr (.m2 rfl (.m2 rfl (.t2 (t_len Tryz.underlying9 rfl) (.m2 rfl (.t2 (t_minI rfl rfl) ?_)))))))))
 rw [show min (s.size : Int) (n : Int) = ((min s.size n : Nat) : Int) from by omega]
 refine .t2 (t_sliceS Tryz.underlying9 rfl rfl rfl (by omega)) ?_
 refine .a2 rfl (.done (Wp.ret ?_))
 exact ⟨[_],⟨rfl,trivial⟩,rfl,hx⟩
end Go.Proofs.YtiogccmfmjhipaaGreatDoor.Par
namespace Go.Proofs.YtiogccmfmjhipaaGreatDoor.Par
open Cmd
def eofT : Tok := (100,nob)
def constT : Tok := (104,⟨#[99,111,110,115,116]⟩)
def pubT : ByteArray := ⟨#[112,117,98]⟩
structure AgT (t : Test) : Prop where
 h1 : ∀ x z z' f,t x eofT z f = t x constT z' f
 h2 : ∀ x y f,t x y eofT f = t x y constT f
def Ag0 (t : Test) : Prop := ∀ y z y' z' f,t eofT y z f = t constT y' z' f
def Kne (K : Kw) : Prop := ∀ x y z,K x y z → x.1 ≠ 100
def okN : Nm → Prop
 | .params cl => Lib.containsS [cl] constT.2 = false
 | _ => True
def Ag : Kw → Cmd → Prop
 | K,.seq a b => Ag K a ∧ Ag (postK a K) b
 | K,.node _ c => Ag K c
 | K,.wrap _ c => Ag K c
 | K,.cond t a b => (Kne K ∨ Ag0 t) ∧ AgT t ∧ Ag (testK t true K) a ∧ Ag (testK t false K) b
 | _,.loop t c => Ag0 t ∧ AgT t ∧ Ag (loopK t true) c
 | K,.prog c a b => Ag K c ∧ Ag K a ∧ Ag anyK b
 | K,.sel f c => Kne K ∧ (∀ x,isAt [pubT] x = false → f x eofT = f x constT) ∧ ∀ k,Ag (selK f k K) (c k)
 | _,.call x => okN x
 | _,_ => True
theorem isAt_eof (l : List ByteArray) : isAt l eofT = false := rfl
theorem isAt_const {l : List ByteArray} (h : Lib.containsS l constT.2 = false) : isAt l constT = false := by
 unfold isAt
 rw [h,Bool.and_false]
theorem items_const : isAt items constT = true := by decide
theorem AgT.one {l : List ByteArray} : AgT (at1 l) := ⟨fun _ _ _ _ => rfl,fun _ _ _ => rfl⟩
theorem Ag0.one {l : List ByteArray} (h : Lib.containsS l constT.2 = false) : Ag0 (at1 l) := fun y z y' z' f => (isAt_eof l).trans (isAt_const h).symm
theorem AgT.id : AgT ident := ⟨fun _ _ _ _ => rfl,fun _ _ _ => rfl⟩
theorem Ag0.id : Ag0 ident := fun _ _ _ _ _ => rfl
theorem Ag.exp {x : ByteArray} {K : Kw} (h : Lib.containsS [x] constT.2 = false) : Ag K (exp x) := ⟨.inr (Ag0.one h),AgT.one,trivial,trivial⟩
theorem Ag.acc {x : ByteArray} {K : Kw} (h : Lib.containsS [x] constT.2 = false) : Ag K (acc x) := ⟨.inr (Ag0.one h),AgT.one,trivial,trivial⟩
theorem Ag.expIdent {K : Kw} : Ag K expIdent := ⟨.inr Ag0.id,AgT.id,trivial,trivial⟩
theorem Ag.opt {x : ByteArray} {c : Cmd} {K : Kw} (h : Lib.containsS [x] constT.2 = false) (hc : ∀ K,Ag K c) : Ag K (opt x c) := ⟨.inr (Ag0.one h),AgT.one,⟨trivial,hc _⟩,trivial⟩
theorem Ag.list {cl : ByteArray} {el : Cmd} {K : Kw} (h : Lib.containsS [cl] constT.2 = false) (hc : ∀ K,Ag K el) : Ag K (list cl el) :=
 ⟨⟨fun y z y' z' f => by
   show (!isAt [cl] eofT && eofT.1 != 100 && !atItem eofT) = (!isAt [cl] constT && constT.1 != 100 && !atItem constT)
   rw [isAt_const h,isAt_eof]
   decide,⟨fun _ _ _ _ => rfl,fun _ _ _ => rfl⟩,hc _,trivial,.inr (Ag0.one h),AgT.one,trivial,Ag.exp (by decide)⟩,Ag.exp h⟩
theorem Ag.seg {b : Bool} {K : Kw} : Ag K (seg b) := by
 cases b
 ·exact ⟨Ag.expIdent,trivial⟩
 ·exact ⟨Ag.expIdent,.inr (Ag0.one (by decide)),AgT.one,⟨trivial,Ag.list (by decide) fun _ => trivial⟩,trivial⟩
theorem Ag.tail {b : Bool} {K : Kw} : Ag K (stmtTail b) := by
 cases b
 ·exact ⟨.inr (Ag0.one (by decide)),AgT.one,trivial,⟨.inr (Ag0.one (by decide)),AgT.one,⟨trivial,trivial,Ag.exp (by decide)⟩,.inr (Ag0.one (by decide)),AgT.one,trivial,trivial⟩,trivial⟩
 ·exact ⟨.inr (Ag0.one (by decide)),AgT.one,trivial,⟨.inr (Ag0.one (by decide)),AgT.one,⟨trivial,trivial,Ag.exp (by decide)⟩,.inr (Ag0.one (by decide)),AgT.one,trivial,trivial⟩,trivial⟩
theorem itemKind_ag {x : Tok} (h : isAt [pubT] x = false) : itemKind x eofT = itemKind x constT := by
 have h' : isAt [⟨#[112,117,98]⟩] x = false := h
 unfold itemKind
 rw [h']
 rfl
theorem ag_body : ∀ x,okN x → Ag (preK x) (body x) := by
 intro x hx
 cases x
 case block =>
  refine ⟨Ag.exp (by decide),trivial,⟨fun y z y' z' f => ?_,⟨fun _ _ _ _ => rfl,fun _ _ _ => rfl⟩,trivial⟩,⟨.inr fun _ _ _ _ _ => rfl,⟨fun _ _ _ _ => rfl,fun _ _ _ => rfl⟩,trivial,trivial⟩,Ag.exp (by decide)⟩
  show (!f && !isAt [⟨#[125]⟩] eofT && eofT.1 != 100 && !isAt items eofT) = (!f && !isAt [⟨#[125]⟩] constT && constT.1 != 100 && !isAt items constT)
  rw [items_const]
  cases f <;> decide
 case statement =>
  exact ⟨.inl hereK_here,AgT.one,⟨trivial,trivial⟩,.inl (kt hereK_here),AgT.one,⟨⟨trivial,trivial,trivial⟩,trivial⟩,.inl (kt (kt hereK_here)),AgT.one,⟨trivial,trivial⟩,.inl (kt (kt (kt hereK_here))),AgT.one,⟨trivial,⟨trivial,trivial,trivial⟩,Ag.tail⟩,trivial,⟨trivial,trivial,trivial⟩,Ag.tail⟩
 case letS => exact ⟨trivial,trivial,Ag.opt (by decide) fun _ => trivial,Ag.exp (by decide),trivial,Ag.exp (by decide)⟩
 case returnS => exact ⟨trivial,⟨.inr (Ag0.one (by decide)),AgT.one,trivial,trivial⟩,Ag.exp (by decide)⟩
 case binary n =>
  have ho : ∀ n,Lib.containsS (ops n) constT.2 = false := fun n => by
   match n with
   | 0 | 1 | 2 | 3 | n + 4 => rfl
  show Ag _ (if _ then _ else _)
  split
  ·trivial
  ·refine ⟨trivial,?_⟩
   split
   ·exact ⟨.inr (Ag0.one (ho _)),AgT.one,⟨trivial,trivial⟩,trivial⟩
   ·exact ⟨Ag0.one (ho _),AgT.one,trivial,trivial⟩
 case unary => exact ⟨.inr (Ag0.one (by decide)),AgT.one,⟨trivial,trivial⟩,.inr (Ag0.one (by decide)),AgT.one,⟨trivial,Ag.acc (by decide),trivial⟩,trivial,trivial⟩
 case arguments => exact ⟨trivial,Ag.list (by decide) fun _ => trivial⟩
 case postE =>
  exact ⟨Ag0.one (by decide),AgT.one,.inl kl,AgT.one,trivial,.inl (kt kl),⟨fun _ _ _ _ => rfl,fun x y f => by rw [isAt_eof,isAt_const (by decide)]⟩,⟨trivial,trivial,trivial⟩,trivial,Ag.expIdent⟩
 case primary =>
  refine ⟨.inr fun _ _ _ _ _ => rfl,⟨fun _ _ _ _ => rfl,fun _ _ _ => rfl⟩,trivial,.inr fun _ _ _ _ _ => rfl,⟨fun _ _ _ _ => rfl,fun _ _ _ => rfl⟩,trivial,.inr (Ag0.one (by decide)),AgT.one,trivial,.inr Ag0.id,AgT.id,⟨trivial,.inr fun y z y' z' f => ?_,⟨fun x z z' f => ?_,fun _ _ _ => rfl⟩,⟨trivial,trivial⟩,trivial⟩,
   .inr (Ag0.one (by decide)),AgT.one,⟨trivial,trivial,Ag.exp (by decide)⟩,.inr (Ag0.one (by decide)),AgT.one,trivial,.inr (Ag0.one (by decide)),AgT.one,trivial,.inr (Ag0.one (by decide)),AgT.one,trivial,.inr (Ag0.one (by decide)),AgT.one,trivial,.inr (Ag0.one (by decide)),AgT.one,trivial,trivial⟩
  ·try dsimp only
   rw [isAt_eof,isAt_const (by decide)]; rfl
  ·try dsimp only
   rw [isAt_eof,isAt_const (by decide)]
 case ifExpr => exact ⟨trivial,trivial,trivial,Ag.opt (by decide) fun _ => ⟨.inr (Ag0.one (by decide)),AgT.one,trivial,trivial⟩⟩
 case matchE =>
  exact ⟨trivial,trivial,Ag.exp (by decide),Ag.list (by decide) fun _ => ⟨.inr fun _ _ _ _ _ => (by decide : atPattern eofT = atPattern constT),⟨fun _ _ _ _ => rfl,fun _ _ _ => rfl⟩,⟨trivial,Ag.exp (by decide),trivial⟩,trivial⟩⟩
 case structLit => exact ⟨trivial,trivial,Ag.exp (by decide),Ag.list (by decide) fun _ => ⟨.inr Ag0.id,AgT.id,⟨trivial,Ag.exp (by decide),trivial⟩,trivial⟩⟩
 case lambda => exact ⟨⟨.inr (Ag0.one (by decide)),AgT.one,⟨trivial,trivial⟩,trivial,(by decide : Lib.containsS _ _ = false)⟩,trivial⟩
 case pattern =>
  refine ⟨.inr (Ag0.one (by decide)),AgT.one,⟨trivial,Ag.expIdent⟩,.inr fun _ _ _ _ _ => rfl,⟨fun _ _ _ _ => rfl,fun _ _ _ => rfl⟩,trivial,.inr fun _ _ _ _ _ => rfl,⟨fun x z z' f => ?_,fun _ _ _ => rfl⟩,trivial,.inr Ag0.id,AgT.id,
   ⟨trivial,.inr (Ag0.one (by decide)),AgT.one,⟨trivial,Ag.list (by decide) fun _ => trivial⟩,trivial⟩,.inr fun _ _ _ _ _ => rfl,⟨fun _ _ _ _ => rfl,fun _ _ _ => rfl⟩,trivial,.inr (Ag0.one (by decide)),AgT.one,trivial,trivial⟩
  try dsimp only
  rw [isAt_eof,isAt_const (by decide)]
 case item =>
  refine ⟨hereK_here,fun x h => itemKind_ag h,fun k => ?_⟩
  show Ag _ (if _ then _ else _)
  split
  ·trivial
  ·exact ⟨Ag.acc (by decide),trivial,trivial⟩
 case skipTo => exact ⟨trivial,fun _ _ _ _ _ => (by decide : (eofT.1 != 100 && !isAt items eofT) = (constT.1 != 100 && !isAt items constT)),⟨fun _ _ _ _ => rfl,fun _ _ _ => rfl⟩,trivial⟩
 case itemBody k =>
  show Ag _ (if _ then _ else _)
  split
  ·trivial
  split
  ·trivial
  split
  ·trivial
  split
  ·exact ⟨Ag.expIdent,trivial⟩
  split
  ·trivial
  split
  ·exact ⟨Ag.expIdent,Ag.exp (by decide),trivial,Ag.exp (by decide),trivial,Ag.exp (by decide)⟩
  split
  ·exact ⟨Ag.expIdent,Ag.exp (by decide),(by decide : Lib.containsS _ _ = false),Ag.exp (by decide),trivial,Ag.exp (by decide)⟩
  ·trivial
 case use =>
  refine ⟨⟨Ag.expIdent,fun y z y' z' f => ?_,⟨fun x z z' f => ?_,fun _ _ _ => rfl⟩,trivial,Ag.expIdent⟩,⟨.inr (Ag0.one (by decide)),AgT.one,⟨trivial,trivial⟩,.inr (Ag0.one (by decide)),AgT.one,⟨trivial,Ag.expIdent⟩,trivial⟩,Ag.exp (by decide)⟩
  ·try dsimp only
   rw [isAt_eof,isAt_const (by decide)]; rfl
  ·try dsimp only
   rw [isAt_eof,isAt_const (by decide)]
 case typeParams => exact ⟨.inr (Ag0.one (by decide)),AgT.one,⟨trivial,Ag.list (by decide) fun _ => trivial⟩,trivial⟩
 case typeParam => exact ⟨.inr Ag0.id,AgT.id,⟨trivial,.inr (Ag0.one (by decide)),AgT.one,⟨trivial,trivial,Ag0.one (by decide),AgT.one,trivial,trivial⟩,trivial⟩,trivial⟩
 case params cl => exact Ag.list hx fun _ => ⟨.inr Ag0.id,AgT.id,⟨trivial,Ag.opt (by decide) fun _ => trivial⟩,trivial⟩
 case function b =>
  refine ⟨Ag.expIdent,trivial,Ag.exp (by decide),(by decide : Lib.containsS _ _ = false),Ag.opt (by decide) fun _ => trivial,?_⟩
  cases b
  ·exact ⟨.inr (Ag0.one (by decide)),AgT.one,⟨trivial,trivial⟩,trivial⟩
  ·trivial
 case dataType k =>
  refine ⟨Ag.expIdent,trivial,Ag.exp (by decide),Ag.list (by decide) fun _ => ⟨.inr Ag0.id,AgT.id,?_,trivial⟩⟩
  split
  ·exact ⟨trivial,Ag.exp (by decide),trivial⟩
  ·exact ⟨trivial,.inr (Ag0.one (by decide)),AgT.one,⟨trivial,Ag.list (by decide) fun _ => trivial⟩,trivial⟩
 case members => exact ⟨Ag.exp (by decide),⟨Ag0.one (by decide),AgT.one,.inl kl,AgT.one,⟨trivial,trivial⟩,trivial,Ag.expIdent,Ag.opt (by decide) fun _ => trivial,Ag.exp (by decide)⟩,Ag.exp (by decide)⟩
 case impl => exact ⟨trivial,trivial,⟨.inr (Ag0.one (by decide)),AgT.one,⟨trivial,trivial⟩,trivial⟩,trivial⟩
 case path b => exact ⟨Ag.seg,Ag0.one (by decide),AgT.one,trivial,Ag.seg⟩
 case typeExpr => exact ⟨.inr (Ag0.one (by decide)),AgT.one,⟨trivial,Ag.acc (by decide),trivial⟩,.inr (Ag0.one (by decide)),AgT.one,⟨trivial,Ag.exp (by decide),Ag.list (by decide) fun _ => trivial,Ag.opt (by decide) fun _ => trivial⟩,.inr Ag0.id,AgT.id,trivial,trivial⟩
theorem sig1_zero {q : List Tok} (h : nsig q = 0) : sig1 q = eofT := by
 induction q with
 | nil => rfl
 | cons t q ih =>
  simp only [sig1,nsig] at h ⊢
  split
  ·rename_i ht; rw [if_pos ht] at h; exact ih h
  ·rename_i ht; rw [if_neg ht] at h; omega
theorem sig1_app0 {q z : List Tok} (h : nsig q = 0) : sig1 (q ++ z) = sig1 z := by
 induction q with
 | nil => rfl
 | cons t q ih =>
  simp only [List.cons_append,sig1,nsig] at h ⊢
  split
  ·rename_i ht; rw [if_pos ht] at h; exact ih h
  ·rename_i ht; rw [if_neg ht] at h; omega
theorem nsig0 {w : List Tok} (h : ∀ t ∈ w,isTriv t.1 = true) : nsig w = 0 := by
 induction w with
 | nil => rfl
 | cons t w ih => rw [nsig,if_pos (h t List.mem_cons_self)]; exact ih fun u hu => h u (List.mem_cons_of_mem _ hu)
theorem nsig_w {q w : List Tok} (hw : nsig w = 0) : nsig (q ++ w) = nsig q := by rw [nsig_app,hw]; rfl
theorem sig1_w {q w : List Tok} (hw : nsig w = 0) : sig1 (q ++ w) = sig1 q := by
 rcases Nat.eq_zero_or_pos (nsig q) with c | c
 ·rw [sig1_app0 c,sig1_zero hw,sig1_zero c]
 ·exact sig1_app c
theorem test_ag {t : Test} {s : S} {q w z : List Tok} (hs : s.rem = q ++ w) (hw : nsig w = 0) (hz : sig1 z = constT) (h0 : (sig1 s.rem).1 ≠ 100 ∨ Ag0 t) (h : AgT t) : (s.at (q ++ z)).test t = s.test t := by
 unfold S.test
 rw [hs] at h0 ⊢
 show t (sig1 (q ++ z)) (sig1 (left (q ++ z))) (sig1 (left (left (q ++ z)))) s.flag = _
 rw [sig1_w hw] at h0 ⊢
 rcases Nat.eq_zero_or_pos (nsig q) with c | c
 ·have e := sig1_zero c
  rcases h0 with h0 | h0
  ·rw [e] at h0; exact absurd rfl h0
  ·rw [sig1_app0 c,hz,e]; exact (h0 _ _ _ _ _).symm
 ·rw [sig1_app c,left_app c,left_app c,sig1_w hw]
  rcases Nat.eq_zero_or_pos (nsig (left q)) with d | d
  ·rw [sig1_app0 d,hz,sig1_zero d]; exact (h.h1 _ _ _ _).symm
  ·rw [sig1_app d,left_app d,left_app d,sig1_w hw]
   rcases Nat.eq_zero_or_pos (nsig (left (left q))) with e | e
   ·rw [sig1_app0 e,hz,sig1_zero e]; exact (h.h2 _ _ _).symm
   ·rw [sig1_app e]
def NoPub (q : List Tok) : Prop := ∀ u v,q = u ++ v → nsig v = 1 → isAt [pubT] (sig1 v) = false
theorem NoPub.suf {u v : List Tok} (h : NoPub (u ++ v)) : NoPub v := fun a b e hb => h (u ++ a) b (by rw [e,List.append_assoc]) hb
def ApR (rec : Cmd → S → Option S) : Prop := ∀ c s r q w z K,s.rem = q ++ w → nsig w = 0 → sig1 z = constT → NoPub q → Sf K c → Ag K c → KS K s → rec c s = some r → ∃ u p,q = u ++ p ∧ r.rem = p ++ w ∧ rec c (s.at (q ++ z)) = some (r.at (p ++ z))
theorem rc_ap {rec : Cmd → S → Option S} (he : ∀ t c s r,rec (.loop t c) s = some r → r.test t = false) (hr : ApR rec) : ApR (runC body rec) := by
 intro c
 induction c with
 | skip | drop | flag b | leaf k => intro s r q w z K e hw hz hp _ _ hk h; obtain rfl := Option.some.inj h; exact ⟨[],q,rfl,e,rfl⟩
 | before =>
  intro s r q w z K e hw hz hp _ _ hk h
  simp only [runC] at h
  split at h
  ·rename_i t ht
   obtain rfl := Option.some.inj h
   have ht : (s.at (q ++ z)).kids.getLast? = some t := ht
   exact ⟨[],q,rfl,e,by simp only [runC,ht]; rfl⟩
  ·cases h
 | bump =>
  intro s r q w z K e hw hz hp hf _ hk h
  obtain rfl := Option.some.inj h
  have h1 := nsig_of (hf _ _ _ hk)
  rw [e,nsig_w hw] at h1
  refine ⟨taken q,left q,(taken_left q).symm,by show left s.rem = _; rw [e,left_app h1],?_⟩
  show some _ = some _
  simp only [S.bump,S.at,e,left_app h1,taken_app h1]
 | seq a b iha ihb =>
  intro s r q w z K e hw hz hp hf hg hk h
  simp only [runC,Option.bind_eq_some_iff] at h
  obtain ⟨x,h1,h2⟩ := h
  obtain ⟨u,p,rfl,e2,h3⟩ := iha _ _ _ _ _ _ e hw hz hp hf.1 hg.1 hk h1
  obtain ⟨u2,p2,rfl,e3,h4⟩ := ihb _ _ _ _ _ _ e2 hw hz hp.suf hf.2 hg.2 (rc_post he _ _ _ _ h1 hk) h2
  exact ⟨u ++ u2,p2,by rw [List.append_assoc],e3,by simp only [runC,Option.bind_eq_some_iff]; exact ⟨_,h3,h4⟩⟩
 | node k c ih =>
  intro s r q w z K e hw hz hp hf hg hk h
  simp only [runC,Option.map_eq_some_iff] at h
  obtain ⟨x,h1,rfl⟩ := h
  obtain ⟨u,p,e1,e2,h3⟩ := ih { s with kids := [],adds := s.adds + 1 } x q w z K e hw hz hp hf hg hk h1
  exact ⟨u,p,e1,e2,by simp only [runC,Option.map_eq_some_iff]; exact ⟨_,h3,rfl⟩⟩
 | wrap k c ih =>
  intro s r q w z K e hw hz hp hf hg hk h
  simp only [runC] at h
  split at h
  ·rename_i t ht
   simp only [Option.map_eq_some_iff] at h
   obtain ⟨x,h1,rfl⟩ := h
   have ht : (s.at (q ++ z)).kids.getLast? = some t := ht
   obtain ⟨u,p,e1,e2,h3⟩ := ih { s with kids := [t],adds := s.adds + 1 } x q w z K e hw hz hp hf hg hk h1
   exact ⟨u,p,e1,e2,by simp only [runC,ht,Option.map_eq_some_iff]; exact ⟨_,h3,rfl⟩⟩
  ·cases h
 | cond t a b iha ihb =>
  intro s r q w z K e hw hz hp hf hg hk h
  obtain ⟨g0,g1,g2,g3⟩ := hg
  simp only [runC] at h ⊢
  rw [test_ag e hw hz (g0.imp (fun h => h _ _ _ hk) id) g1]
  split at h
  ·rename_i hc; rw [if_pos hc]; exact iha _ _ _ _ _ _ e hw hz hp hf.1 g2 ⟨hk,s.flag,hc⟩ h
  ·rename_i hc; rw [if_neg hc]; exact ihb _ _ _ _ _ _ e hw hz hp hf.2 g3 ⟨hk,s.flag,by simpa [S.test] using hc⟩ h
 | loop t c ih =>
  intro s r q w z K e hw hz hp hf hg hk h
  obtain ⟨g0,g1,g2⟩ := hg
  simp only [runC] at h ⊢
  rw [test_ag e hw hz (.inr g0) g1]
  split at h
  ·rename_i hc
   rw [if_pos hc]
   simp only [Option.bind_eq_some_iff] at h
   obtain ⟨x,h1,h2⟩ := h
   obtain ⟨u,p,rfl,e2,h3⟩ := ih _ _ _ _ _ _ e hw hz hp hf g2 ⟨s.flag,hc⟩ h1
   obtain ⟨u2,p2,rfl,e3,h4⟩ := hr _ _ _ _ _ _ anyK e2 hw hz hp.suf (show Sf anyK (.loop t c) from hf) (show Ag anyK (.loop t c) from ⟨g0,g1,g2⟩) trivial h2
   exact ⟨u ++ u2,p2,by rw [List.append_assoc],e3,by simp only [Option.bind_eq_some_iff]; exact ⟨_,h3,h4⟩⟩
  ·rename_i hc
   rw [if_neg hc]
   obtain rfl := Option.some.inj h
   exact ⟨[],q,rfl,e,rfl⟩
 | prog c a b ihc iha ihb =>
  intro s r q w z K e hw hz hp hf hg hk h
  simp only [runC,Option.bind_eq_some_iff] at h
  obtain ⟨x,h1,h2⟩ := h
  obtain ⟨u,p,rfl,e2,h3⟩ := ihc _ _ _ _ _ _ e hw hz hp hf.1 hg.1 hk h1
  have hc : (x.at (p ++ z)).rem.length = (s.at (u ++ p ++ z)).rem.length ↔ x.rem.length = s.rem.length := by
   simp only [S.at,e,e2,List.length_append]
   omega
  split at h2
  ·rename_i hl
   have hx : x.rem = s.rem := by
    rw [e,e2] at hl ⊢
    have hu : u = [] := List.length_eq_zero_iff.1 (by simp only [List.length_append] at hl; omega)
    rw [hu,List.nil_append]
   obtain ⟨u2,p2,rfl,e3,h4⟩ := iha _ _ _ _ _ _ e2 hw hz hp.suf hf.2.1 hg.2.1 (hk.same hx) h2
   exact ⟨u ++ u2,p2,by rw [List.append_assoc],e3,by simp only [runC,Option.bind_eq_some_iff]; exact ⟨_,h3,by rw [if_pos (hc.2 hl)]; exact h4⟩⟩
  ·rename_i hl
   obtain ⟨u2,p2,rfl,e3,h4⟩ := ihb _ _ _ _ _ _ e2 hw hz hp.suf hf.2.2 hg.2.2 trivial h2
   exact ⟨u ++ u2,p2,by rw [List.append_assoc],e3,by simp only [runC,Option.bind_eq_some_iff]; exact ⟨_,h3,by rw [if_neg (fun hh => hl (hc.1 hh))]; exact h4⟩⟩
 | call x => intro s r q w z K e hw hz hp hf hg hk h; exact hr _ _ _ _ _ _ _ e hw hz hp (sf_body x) (ag_body x hg) (hf _ _ _ hk) h
 | sel f c ih =>
  intro s r q w z K e hw hz hp hf hg hk h
  obtain ⟨g0,g1,g2⟩ := hg
  have h0 := nsig_of (g0 _ _ _ hk)
  rw [e,nsig_w hw] at h0
  simp only [runC] at h ⊢
  have e5 : f (sig1 (s.at (q ++ z)).rem) (sig1 (left (s.at (q ++ z)).rem)) = f (sig1 s.rem) (sig1 (left s.rem)) := by
   simp only [S.at,e]
   rw [sig1_app h0,sig1_app h0,left_app h0,left_app h0,sig1_w hw]
   rcases Nat.eq_zero_or_pos (nsig (left q)) with d | d
   ·rw [sig1_app0 d,hz,sig1_zero d]
    refine (g1 _ (hp [] q rfl ?_)).symm
    have := nsig_left h0
    omega
   ·rw [sig1_app d]
  rw [e5]
  exact ih _ _ _ _ _ _ _ e hw hz hp (hf _) (g2 _) ⟨hk,rfl⟩ h
theorem run_ap : ∀ n,ApR (run body n)
 | 0 => rc_ap (by intro _ _ _ _ h; cases h) (fun _ _ _ _ _ _ _ _ _ _ _ _ _ _ h => by cases h)
 | n + 1 => rc_ap (run_exit n) (run_ap n)
end Go.Proofs.YtiogccmfmjhipaaGreatDoor.Par
namespace Go.Proofs.YtiogccmfmjhipaaGreatDoor.Par
open Cmd
open Lexi (toks)
theorem body_item (n : Nat) (s : S) : run body (n + 1) (.call .item) s = run body n (if itemKind (sig1 s.rem) (sig1 (left s.rem)) = 0 then .call .skipTo else .node (itemKind (sig1 s.rem) (sig1 (left s.rem))) (seqs [acc ⟨#[112,117,98]⟩,.bump,.call (.itemBody (itemKind (sig1 s.rem) (sig1 (left s.rem))))])) s := by
 show run body n (body .item) s = _
 cases n <;> rfl
theorem item_any {n : Nat} {s r : S} (h : run body n (.call .item) s = some r) : ∃ t,r.kids = s.kids ++ [t] ∧ ∀ s',s'.rem = s.rem → ∃ r',run body n (.call .item) s' = some r' ∧ r'.rem = r.rem ∧ r'.kids = s'.kids ++ [t] := by
 have key : ∀ {m : Nat} {k : Int} {c : Cmd} {s r : S},Fin c → run body m (.node k c) s = some r → ∃ t,r.kids = s.kids ++ [t] ∧ ∀ s',s'.rem = s.rem → ∃ r',run body m (.node k c) s' = some r' ∧ r'.rem = r.rem ∧ r'.kids = s'.kids ++ [t] := by
  intro m k c s r hf h
  obtain ⟨q,h1,rfl⟩ := run_node' h
  refine ⟨.mk k nob q.kids,rfl,fun s' hs => ?_⟩
  obtain ⟨q',e1,s1⟩ := run_sim m c { s with kids := [],adds := s.adds + 1 } { s' with kids := [],adds := s'.adds + 1 } _ hf ⟨hs.symm,rfl⟩ h1
  refine ⟨{ q' with kids := s'.kids ++ [.mk k nob q'.kids] },?_,s1.1.symm,by simp only [s1.2]⟩
  cases m <;> simp only [run,runC] at e1 ⊢ <;> rw [e1] <;> rfl
 match n,h with
 | 0,h => cases h
 | n + 1,h =>
  rw [body_item] at h
  by_cases hk : itemKind (sig1 s.rem) (sig1 (left s.rem)) = 0
  ·rw [if_pos hk] at h
   match n,h with
   | 0,h => cases h
   | n + 1,h =>
    have h : run body n (body .skipTo) s = some r := h
    obtain ⟨t,h1,h2⟩ := key (m := n) (k := 46) (c := .seq .bump (.loop (fun t _ _ _ => t.1 != 100 && !isAt items t) .bump)) (Or.inr ⟨trivial,fun _ _ _ _ _ => rfl,trivial⟩) h
    refine ⟨t,h1,fun s' hs => ?_⟩
    obtain ⟨r',h3,h4,h5⟩ := h2 s' hs
    refine ⟨r',?_,h4,h5⟩
    rw [body_item,hs,if_pos hk]
    exact h3
  ·rw [if_neg hk] at h
   obtain ⟨t,h1,h2⟩ := key (show Fin (seqs [acc ⟨#[112,117,98]⟩,.bump,.call (.itemBody _)]) from Or.inr ⟨⟨fun _ _ _ _ _ => rfl,trivial,trivial⟩,Or.inr ⟨trivial,trivial⟩⟩) h
   refine ⟨t,h1,fun s' hs => ?_⟩
   obtain ⟨r',h3,h4,h5⟩ := h2 s' hs
   refine ⟨r',?_,h4,h5⟩
   rw [body_item,hs,if_neg hk]
   exact h3
def Item (l : List Tok) (t : Tr) (v : List Tok) : Prop := (sig1 l).1 ≠ 100 ∧ ∃ n r,run body n (.call .item) ⟨l,[],false,0⟩ = some r ∧ r.kids = [t] ∧ r.rem = v
inductive FileK : List Tok → List Tr → Prop
 | done {l : List Tok} (h : (sig1 l).1 = 100) : FileK l (l.map .tok)
 | item {l v : List Tok} {t : Tr} {ks : List Tr} (h : Item l t v) (k : FileK v ks) : FileK l (t :: ks)
theorem Item.unique {l v v' : List Tok} {t t' : Tr} (h : Item l t v) (h' : Item l t' v') : t = t' ∧ v = v' := by
 obtain ⟨_,n,r,h1,h2,rfl⟩ := h
 obtain ⟨_,m,q,h3,h4,rfl⟩ := h'
 obtain rfl := run_unique h1 h3
 rw [h2] at h4
 injection h4 with h4
 exact ⟨h4,rfl⟩
theorem FileK.unique {l : List Tok} {a b : List Tr} (h : FileK l a) (h' : FileK l b) : a = b := by
 induction h generalizing b with
 | done h =>
  cases h' with
  | done _ => rfl
  | item h2 _ => exact absurd h h2.1
 | item h k ih =>
  cases h' with
  | done h2 => exact absurd h2 h.1
  | item h2 k2 =>
   obtain ⟨rfl,rfl⟩ := h.unique h2
   rw [ih k2]
theorem Item.take {l v : List Tok} {t : Tr} (hv : V l) (h : Item l t v) : ∃ u,l = u ++ v ∧ t.txt = tt u ∧ u ≠ [] ∧ t.wf := by
 obtain ⟨hs,n,r,h1,h2,rfl⟩ := h
 have hj : J (.call .item) ⟨l,[],false,0⟩ ⟨1,0,10,7⟩ := (ends .item ⟨l,[],false,0⟩ hv hs).j
 obtain ⟨m,x,h3,new,g⟩ := hj
 obtain rfl := run_unique h1 h3
 have e : new = [t] := by have := g.kids; rw [h2] at this; simpa using this.symm
 obtain ⟨u,e1,e2⟩ := g.suf
 have hc := g.con
 refine ⟨u,e1,by rw [← e2,e]; simp [txtL],fun hu => ?_,by have := g.wf; rw [e] at this; exact this.1⟩
 subst hu
 simp only at e1 hc
 rw [e1] at hc
 simp only [List.nil_append] at hc
 omega
theorem Item.node {l v : List Tok} {t : Tr} (h : Item l t v) : ∃ k ks,t = .mk k nob ks ∧ k < 100 := by
 obtain ⟨hs,n,r,h1,h2,rfl⟩ := h
 match n,h1 with
 | 0,h1 => cases h1
 | n + 1,h1 =>
  rw [body_item] at h1
  have hr := kind_range (sig1 l) (sig1 (left l))
  by_cases hk : itemKind (sig1 l) (sig1 (left l)) = 0
  ·simp only [hk] at h1
   simp only [if_true] at h1
   match n,h1 with
   | 0,h1 => cases h1
   | n + 1,h1 =>
    have h1 : run body n (.node 46 (.seq .bump (.loop (fun t _ _ _ => t.1 != 100 && !isAt items t) .bump))) ⟨l,[],false,0⟩ = some r := h1
    obtain ⟨q,_,rfl⟩ := run_node' h1
    simp only [List.nil_append,List.cons.injEq,and_true] at h2
    exact ⟨_,_,h2.symm,by decide⟩
  ·simp only [hk,if_false] at h1
   obtain ⟨q,_,rfl⟩ := run_node' h1
   simp only [List.nil_append,List.cons.injEq,and_true] at h2
   exact ⟨_,_,h2.symm,hr.2⟩
theorem loop_fileK : ∀ (m : Nat) (s x : S),V s.rem → run body m (.loop (fun t _ _ _ => t.1 != 100) (.call .item)) s = some x → ∃ ks,x.kids = s.kids ++ ks ∧ (sig1 x.rem).1 = 100 ∧ V x.rem ∧ ∀ l,FileK x.rem l → FileK s.rem (ks ++ l)
 | m,s,x,hv,h => by
  by_cases he : (sig1 s.rem).1 = 100
  ·obtain rfl := run_loopF h (show S.test _ s = false by simp only [S.test,bne,he]; rfl)
   exact ⟨[],by simp,he,hv,fun l hl => hl⟩
  ·obtain ⟨m1,s1,rfl,h1,h2⟩ := run_loopT h (show S.test _ s = true by simp only [S.test,bne_iff_ne]; exact he)
   obtain ⟨t,e1,e2⟩ := item_any h1
   obtain ⟨r0,h3,h4,h5⟩ := e2 ⟨s.rem,[],false,0⟩ rfl
   have hi : Item s.rem t s1.rem := ⟨he,_,r0,h3,h5,h4⟩
   obtain ⟨u,e3,_,_,_⟩ := hi.take hv
   obtain ⟨ks,e4,e5,e6,e7⟩ := loop_fileK m1 s1 x (V_app (e3 ▸ hv)).2 h2
   exact ⟨t :: ks,by rw [e4,e1]; simp,e5,e6,fun l hl => .item hi (e7 l hl)⟩
theorem taken_eof {l : List Tok} (hv : V l) (h : (sig1 l).1 = 100) : taken l = l := by
 have := taken_left l
 rw [(sig1_eof hv h).1] at this
 simpa using this
theorem Parsed.fileK {s : ByteArray} {t : Tr} (h : Parsed s t) : ∃ ks,t = .mk 1 nob ks ∧ FileK (toks s) ks := by
 obtain ⟨n,r,h1,rfl⟩ := h
 obtain ⟨s1,h2,h3⟩ := run_seq' h1
 obtain rfl := run_bump' h3
 obtain ⟨ks,e1,e2,e3,e4⟩ := loop_fileK n _ s1 (toks_V s) h2
 refine ⟨_,rfl,?_⟩
 have := e4 _ (.done e2)
 simp only [S.bump,e1,List.nil_append]
 rw [taken_eof e3 e2]
 exact this
theorem Parsed.of {s : ByteArray} {ks : List Tr} (h : FileK (toks s) ks) : Parsed s (.mk 1 nob ks) := by
 obtain ⟨r,h1,_⟩ := parsed s
 obtain ⟨ks2,e,h2⟩ := h1.fileK
 rw [h.unique h2,← e]
 exact h1
theorem FileK.cut {l : List Tok} {ks : List Tr} (hv : V l) (h : FileK l ks) : ∀ i,i ≤ ks.length → ∃ u v,l = u ++ v ∧ tt u = txtL (ks.take i) ∧ FileK v (ks.drop i) := by
 induction h with
 | done h =>
  rename_i l
  intro i hi
  rw [List.length_map] at hi
  refine ⟨l.take i,l.drop i,(List.take_append_drop i l).symm,?_,?_⟩
  ·rw [← List.map_take,txt_toks]
  ·rw [← List.map_drop]
   refine .done ?_
   obtain ⟨_,ht⟩ := sig1_eof hv h
   have : ∀ l : List Tok,(∀ t ∈ l,isTriv t.1 = true) → (sig1 l).1 = 100 := by
    intro l
    induction l with
    | nil => intro _; rfl
    | cons t l ih => intro ht; simp only [sig1,ht t List.mem_cons_self,if_true]; exact ih fun u hu => ht u (List.mem_cons_of_mem _ hu)
   exact this _ fun t hm => ht t (List.mem_of_mem_drop hm)
 | item h k ih =>
  intro i hi
  obtain ⟨u,e1,e2,_,_⟩ := h.take hv
  cases i with
  | zero => exact ⟨[],_,rfl,rfl,.item h k⟩
  | succ i =>
   obtain ⟨u2,v2,e3,e4,e5⟩ := ih (V_app (e1 ▸ hv)).2 i (by simpa using hi)
   exact ⟨u ++ u2,v2,by rw [e1,e3,List.append_assoc],by rw [List.take_succ_cons,txtL,tt_app,e2,e4],e5⟩
theorem Item.move {q p z z' : List Tok} {t : Tr} (h : Item (q ++ z) t (p ++ z)) (hp : 2 ≤ nsig p) (hq : 1 ≤ nsig q) : Item (q ++ z') t (p ++ z') := by
 obtain ⟨hs,n,r,h1,h2,h3⟩ := h
 refine ⟨by rw [sig1_app hq] at hs ⊢; exact hs,n,_,run_loc n (.call .item) _ _ q p z z' trivial h1 rfl h3 hp,h2,rfl⟩
theorem Item.app {q w z v : List Tok} {t : Tr} (h : Item (q ++ w) t v) (hw : nsig w = 0) (hz : sig1 z = constT) (hp : NoPub q) : ∃ u p,q = u ++ p ∧ v = p ++ w ∧ Item (q ++ z) t (p ++ z) := by
 obtain ⟨hs,n,r,h1,h2,h3⟩ := h
 obtain ⟨u,p,e1,e2,h4⟩ := run_ap n (.call .item) ⟨q ++ w,[],false,0⟩ r q w z hereK rfl hw hz hp (preK_here fun _ _ _ h => h) (show Ag hereK (.call .item) from trivial) hs h1
 rw [sig1_w hw] at hs
 refine ⟨u,p,e1,by rw [← h3,e2],?_,n,_,h4,h2,rfl⟩
 rw [sig1_app (nsig_of hs)]
 exact hs
def lead (l : List Tok) : Tr → Tr
 | .mk k x ks => .mk k x (l.map .tok ++ ks)
theorem left_lead {l z : List Tok} (h : nsig l = 0) : left (l ++ z) = left z ∧ taken (l ++ z) = l ++ taken z := by
 induction l with
 | nil => exact ⟨rfl,rfl⟩
 | cons t l ih =>
  rw [nsig] at h
  split at h
  ·rename_i ht
   obtain ⟨a,b⟩ := ih h
   simp only [List.cons_append,left,taken,if_pos ht]
   exact ⟨a,by rw [b]⟩
  ·omega
theorem itemKind_const (u : Tok) : itemKind constT u = 8 := by
 unfold itemKind
 rw [show isAt [⟨#[112,117,98]⟩] constT = false from by decide]
 simp only [Bool.false_eq_true,if_false]
 decide
theorem Item.lead {l z v : List Tok} {t : Tr} (h : Item z t v) (hz : sig1 z = constT) (hl : nsig l = 0) : Item (l ++ z) (lead l t) v ∧ ∃ ks,t = .mk 8 nob ks := by
 obtain ⟨hs,n,r,h1,h2,h3⟩ := h
 match n,h1 with
 | 0,h1 => cases h1
 | n + 1,h1 =>
  rw [body_item] at h1
  simp only [hz,itemKind_const] at h1
  rw [if_neg (by decide)] at h1
  obtain ⟨q,h4,rfl⟩ := run_node' h1
  obtain ⟨s1,h5,h6⟩ := run_seq' h4
  obtain ⟨s2,h7,h8⟩ := run_seq' h6
  have ht : ∀ l' k f a,(S.mk (l' ++ z) k f a).test (at1 [⟨#[112,117,98]⟩]) = false ∨ nsig l' ≠ 0 := fun l' k f a => by
   rcases Nat.eq_zero_or_pos (nsig l') with c | c
   ·left
    show isAt _ (sig1 (l' ++ z)) = false
    rw [sig1_app0 c,hz]
    decide
   ·right; omega
  have h5' := run_condF h5 ((ht [] _ _ _).resolve_right (by simp [nsig]))
  obtain rfl := run_skip' h5'
  obtain rfl := run_bump' h7
  simp only [List.nil_append,List.cons.injEq,and_true] at h2
  obtain ⟨e1,e2⟩ := left_lead (z := z) hl
  -- the rest goes by its own children
  have h9 := run_fr n _ _ _ 0 (l.map .tok) (show LkOk (.call (.itemBody 8)) 0 from ⟨Nat.zero_le _,Nat.zero_le _⟩) trivial h8
  obtain ⟨b,h10⟩ := run_adds' n _ _ _ (0 + 1 + (l ++ taken z).length) h9
  have hS : S.bump ⟨l ++ z,[],false,0 + 1⟩ = { (S.bump ⟨z,[],false,0 + 1⟩).pre (l.map .tok) with adds := 0 + 1 + (l ++ taken z).length } := by
   simp only [S.bump,S.pre,e1,e2,List.nil_append,List.map_append]
  have key : T (.call .item) ⟨l ++ z,[],false,0⟩ fun x => x.kids = [.mk 8 nob (l.map .tok ++ q.kids)] ∧ x.rem = q.rem := by
   refine T.call ?_
   show T (.sel itemKind fun k => if k = 0 then .call .skipTo else .node k (seqs [acc ⟨#[112,117,98]⟩,.bump,.call (.itemBody k)])) _ _
   refine T.sel ?_
   simp only [sig1_app0 hl,hz,itemKind_const]
   rw [if_neg (by decide)]
   refine T.node (T.seq (T.cond (fun hh => ?_) fun _ => T.skip (T.seq (T.bump ⟨n,{ q.pre (l.map .tok) with adds := b },by rw [hS]; exact h10,?_,rfl⟩))))
   ·rw [(ht l _ _ _).resolve_right (by omega)] at hh
    cases hh
   ·rfl
  obtain ⟨m,x,h11,h12,h13⟩ := key
  refine ⟨⟨by rw [sig1_app0 hl,hz]; decide,m,x,h11,?_,h13.trans h3⟩,_,h2.symm⟩
  rw [h12,← h2]
  rfl
theorem FileK.app {l : List Tok} {ks : List Tr} (h : FileK l ks) : V l → ∀ {q w : List Tok},l = q ++ w → nsig w = 0 → NoPub q → ∃ I q2,ks = I ++ (q2 ++ w).map .tok ∧ nsig q2 = 0 ∧ (∀ t ∈ I,t.kdn < 100) ∧ (∃ u,q = u ++ q2 ∧ tt u = txtL I) ∧ wfL I ∧ ∀ z K,sig1 z = constT → FileK (q2 ++ z) K → FileK (q ++ z) (I ++ K) := by
 induction h with
 | done h =>
  intro hv q w e hw hp
  refine ⟨[],q,by rw [e]; rfl,?_,fun t ht => absurd ht List.not_mem_nil,⟨[],rfl,rfl⟩,trivial,fun z K _ hK => hK⟩
  have h2 := (sig1_eof hv h).2
  rw [e] at h2
  exact nsig0 fun t ht => h2 t (List.mem_append_left _ ht)
 | item h k ih =>
  rename_i l v t ks
  intro hv q w e hw hp
  subst e
  obtain ⟨u,p,rfl,rfl,_⟩ := h.app (z := [constT]) hw (by decide) hp
  obtain ⟨u',e1,e2,_,hwf⟩ := h.take hv
  have e3 : u' = u := by
   rw [List.append_assoc] at e1
   exact (List.append_cancel_right e1).symm
  subst e3
  obtain ⟨I,q2,e4,h4,h5,⟨u2,e6,e7⟩,h8,h9⟩ := ih (V_app (by rw [← List.append_assoc]; exact hv)).2 rfl hw hp.suf
  obtain ⟨kk,kks,rfl,hkk⟩ := h.node
  refine ⟨_ :: I,q2,by rw [e4]; rfl,h4,fun t ht => ?_,⟨u' ++ u2,by rw [e6,List.append_assoc],by rw [tt_app,e7,← e2]; rfl⟩,⟨hwf,h8⟩,fun z K hz hK => ?_⟩
  ·rcases List.mem_cons.1 ht with rfl | ht
   ·exact hkk
   ·exact h5 t ht
  ·obtain ⟨u3,p3,e8,e9,h10⟩ := h.app hw hz hp
   have e10 : p3 = p := (List.append_cancel_right e9).symm
   subst e10
   exact .item h10 (h9 z K hz hK)
end Go.Proofs.YtiogccmfmjhipaaGreatDoor.Par
