/- Arenas of shared trees as plain data: inserting, reading back, what is shared. No program. -/
import Derived.Test.YtcelfjbajdffkaaGreatDoorXe
import Derived.Test.YtcelfjbajdffkaaGreatDoorXf
import Derived.Test.YtcelfjbajdffkaaGreatDoorXc
import Derived.Test.YtcelfjbajdffkaaGreatDoorXb
import Derived.Test.YtcelfjbajdffkaaGreatDoorXa
import Derived.Test.YtcelfjbajdffkaaGreatDoorXj
set_option linter.unusedVariables false
set_option linter.unusedSimpArgs false
namespace Go.Proofs.YtcelfjbajdffkaaGreatDoor.Par
structure Gn where
 kind : Int
 width : Int
 text : ByteArray
 kids : List Nat
deriving DecidableEq
def wd (a : List Gn) (c : Nat) : Int := ((a[c]?).map Gn.width).getD 0
end Go.Proofs.YtcelfjbajdffkaaGreatDoor.Par
namespace Go.Proofs.YtcelfjbajdffkaaGreatDoor.Par
set_option maxRecDepth 20000
open Go.Gx Go.RowKit Go.Lib
open Lexi (Asc)
def ints (l : List Nat) : List Value := l.map fun (k : Nat) => (.int .i64 k : Value)
theorem ints_len (l : List Nat) : (ints l).length = l.length := by simp [ints]
theorem ints_at (l : List Nat) (i : Nat) (h : i < l.length) : ((ints l).drop (i * 1)).take 1 = [.int .i64 l[i]] := by
 rw [Nat.mul_one,List.drop_eq_getElem_cons (by rw [ints_len]; exact h)]
 simp [ints]
def idx : Option Nat → Int
 | some i => i
 | none => -1
end Go.Proofs.YtcelfjbajdffkaaGreatDoor.Par
namespace Go.Proofs.YtcelfjbajdffkaaGreatDoor.Par
set_option maxRecDepth 20000
open Go.Gx Go.RowKit Go.Lib
open Lexi (Asc)
theorem t_sneqF {P : Program} {n : Nat} {L : Env} {w : World} {d : Option Tmp} {ty : TypeId} {pos : String} {af : Array Edge} {g : Option (Nat × Bool)} {t t' : TypeId} {x y : Operand} {u v : ByteArray} (hx : evO L x = some (.string u)) (hy : evO L y = some (.string v)) (h : u = v) : Tm P n ⟨d,.binOp .neq t x y t',ty,pos,af,g⟩ L w (.bool false) := by
 have := t_sneq (P := P) (n := n) (w := w) (d := d) (ty := ty) (pos := pos) (af := af) (g := g) (t := t) (t' := t') hx hy
 rwa [decide_eq_true h] at this
theorem t_sneqT {P : Program} {n : Nat} {L : Env} {w : World} {d : Option Tmp} {ty : TypeId} {pos : String} {af : Array Edge} {g : Option (Nat × Bool)} {t t' : TypeId} {x y : Operand} {u v : ByteArray} (hx : evO L x = some (.string u)) (hy : evO L y = some (.string v)) (h : u ≠ v) : Tm P n ⟨d,.binOp .neq t x y t',ty,pos,af,g⟩ L w (.bool true) := by
 have := t_sneq (P := P) (n := n) (w := w) (d := d) (ty := ty) (pos := pos) (af := af) (g := g) (t := t) (t' := t') hx hy
 rwa [decide_eq_false h] at this
end Go.Proofs.YtcelfjbajdffkaaGreatDoor.Par
namespace Go.Proofs.YtcelfjbajdffkaaGreatDoor.Par
set_option maxRecDepth 20000
open Go.Gx Go.RowKit Go.Lib
open Lexi (Asc)
theorem depL_mem {l : List Tr} {t : Tr} (h : t ∈ l) : t.dep ≤ depL l := by
 induction l with
 | nil => cases h
 | cons u l ih =>
  simp only [depL]
  rcases List.mem_cons.1 h with rfl | h
  ·exact Nat.le_max_left _ _
  ·exact Nat.le_trans (ih h) (Nat.le_max_right _ _)
theorem cntL_mem {l : List Tr} {t : Tr} (h : t ∈ l) : t.cnt ≤ cntL l := by
 induction l with
 | nil => cases h
 | cons u l ih =>
  simp only [cntL]
  rcases List.mem_cons.1 h with rfl | h
  ·exact Nat.le_add_right _ _
  ·exact Nat.le_trans (ih h) (Nat.le_add_left _ _)
theorem len_cntL (l : List Tr) : l.length ≤ cntL l := by
 induction l with
 | nil => exact Nat.le_refl _
 | cons t l ih =>
  cases t
  simp only [cntL,Tr.cnt,List.length_cons]
  omega
theorem erL_at (l : List Gt) (k : Nat) (h : k < l.length) : (erL l)[k]'(by rw [erL_len]; exact h) = l[k].er := by simp [erL_map]
theorem wfL_mem {l : List Tr} (h : wfL l) : ∀ t ∈ l,t.wf := by
 induction l with
 | nil => intro t ht; cases ht
 | cons u l ih =>
  intro t ht
  rcases List.mem_cons.1 ht with rfl | ht
  ·exact h.1
  ·exact ih h.2 t ht
end Go.Proofs.YtcelfjbajdffkaaGreatDoor.Par
namespace Go.Proofs.YtcelfjbajdffkaaGreatDoor.Par
set_option maxRecDepth 20000
open Go.Gx Go.RowKit Go.Lib
open Lexi (Asc)
theorem own_ge {w : World} {v : Value} {B e size n b : Nat} {cs : List Value} (h : w.ownsRow B e size v n cs) (hb : v.ownBlock = some b) : B ≤ b := by
 rcases own_wholeG h with ⟨rfl,_⟩ | ⟨g,cap,sp,rfl,h1,_⟩
 ·cases hb
 ·cases hb
  exact h1
end Go.Proofs.YtcelfjbajdffkaaGreatDoor.Par
namespace Go.Proofs.YtcelfjbajdffkaaGreatDoor.Par
set_option maxRecDepth 20000
open Go.Gx Go.RowKit Go.Lib
open Lexi (Asc)
theorem txtL_take (l : List Tr) (k : Nat) (h : k < l.length) : (txtL (l.take (k + 1))).length = (txtL (l.take k)).length + l[k].txt.length := by
 rw [List.take_succ_eq_append_getElem h,txtL_app]
 simp [txtL]
theorem txtL_le (l : List Tr) (k : Nat) : (txtL (l.take k)).length ≤ (txtL l).length := by
 have := congrArg List.length (txtL_app (l.take k) (l.drop k))
 rw [List.take_append_drop,List.length_append] at this
 omega
theorem txtL_mem {l : List Tr} {t : Tr} (h : t ∈ l) : t.txt.length ≤ (txtL l).length := by
 induction l with
 | nil => cases h
 | cons u l ih =>
  simp only [txtL,List.length_append]
  rcases List.mem_cons.1 h with rfl | h
  ·omega
  ·have := ih h
   omega
end Go.Proofs.YtcelfjbajdffkaaGreatDoor.Par
namespace Go.Proofs.YtcelfjbajdffkaaGreatDoor.Par
set_option maxRecDepth 20000
open Go.Gx Go.RowKit Go.Lib
open Lexi (Asc)
abbrev Lo (w : World) : Fs := fun z => z < w.heap.size
theorem own_one {w : World} {v : Value} {B e size n : Nat} {cs : List Value} (h : w.ownsRow B e size v n cs) : v.oneCell' = true := by
 rcases own_wholeG h with ⟨e,_⟩ | ⟨_,_,_,e,_⟩ <;> rw [e] <;> rfl
theorem GOk.up {w w' : World} {g : Gt} (h : GOk (Lo w) w g) (x : Ext w w') : GOk (Lo w') w' g := (h.bw (Bw.of x fun z hz => hz) fun z hz => hz).mono fun z hz => Nat.lt_of_lt_of_le hz x.le
end Go.Proofs.YtcelfjbajdffkaaGreatDoor.Par
namespace Go.Proofs.YtcelfjbajdffkaaGreatDoor.Par
set_option maxRecDepth 20000
open Go.Gx Go.RowKit Go.Lib
open Lexi (Asc)
end Go.Proofs.YtcelfjbajdffkaaGreatDoor.Par
namespace Go.Proofs.YtcelfjbajdffkaaGreatDoor.Par
set_option maxRecDepth 20000
open Go.Gx Go.RowKit Go.Lib
open Lexi (Asc)
def TreeR (w : World) (t : Tr) (u : Value) (w' : World) : Prop := ∃ g : Gt,u = .tuple #[.agg g.cells.toArray,.int .i64 0] ∧ g.er = t ∧ GOk (Lo w') w' g ∧ Ext w w'
theorem ParseR.tree {w w' : World} {s : ByteArray} {u : Value} (h : ParseR w s u w') : ∃ t,Parsed s t ∧ TreeR w t u w' := by
 obtain ⟨g,h1,h2,h3,h4⟩ := h
 exact ⟨_,h2,g,h1,rfl,h3.mono fun z hz => hz.2,h4⟩
theorem short_ok {w : World} {s : ByteArray} {n : Nat} : Cl Tryz.prog 11 #[.string s,.int .i64 n] w (fun u w' => u = .string (s.extract 0 (min s.size n)) ∧ Ext w w') := by
 have hx := Ext.refl w
 refine Cl.enter Tryz.func11 rfl Tryz.ntmps11 rfl rfl (.sr (.as rfl rfl (.done (.sr (.mv rfl rfl (.mv rfl rfl (.tq (t_len Tryz.underlying9 rfl) rfl (.mv rfl rfl (.tq (t_minI rfl rfl) rfl ?_)))))))))
 rw [show min (s.size : Int) (n : Int) = ((min s.size n : Nat) : Int) from by omega]
 refine .tq (t_sliceS Tryz.underlying9 rfl rfl rfl (by omega)) rfl ?_
 refine .as rfl rfl (.done (Wp.ret ?_))
 exact ⟨[_],⟨rfl,trivial⟩,rfl,hx⟩
theorem sameTree_ok : ∀ (n : Nat) (g h : Gt),g.er.cnt ≤ n → g.er.cnt ≤ 1000000 → ∀ (w : World),GOk (Lo w) w g → GOk (Lo w) w h → Cl Tryz.prog 14 #[.agg g.cells.toArray,.agg h.cells.toArray] w (fun u w' => (∃ b,u = .bool b ∧ (b = true ↔ g.er = h.er)) ∧ Ext w w') := by
 intro n
 induction n with
 | zero =>
  intro g h hn
  cases g
  simp [Gt.er,Tr.cnt] at hn
 | succ n ih =>
  intro g h hn hc w hg hh
  obtain ⟨k1,t1,c1,l1⟩ := g
  obtain ⟨k2,t2,c2,l2⟩ := h
  cases hg with
  | mk hs1 h1 hb1 hk1 =>
   cases hh with
   | mk hs2 h2 hb2 hk2 =>
    simp only [Gt.er,Tr.cnt] at hn hc
    have hlenk := len_cntL (erL l1)
    rw [erL_len] at hlenk
    have hx := Ext.refl w
    by_cases e1 : k1 = k2
    ·by_cases e2 : t1 = t2
     ·by_cases e3 : l1.length = l2.length
      ·skip
       refine Cl.enter Tryz.func14 rfl Tryz.ntmps14 rfl rfl ?_
       have hs10 := hs1
       have hs20 := hs2
       refine .sr (Rg.wd trivial (w_boxed (cs := [.int .i64 k1,.string t1,c1]) rfl rfl) rfl ?_)
       rintro _ w1 ⟨b2,rfl,q2,hx1,hv2⟩
       replace hx := hx.ext hx1
       refine Rg.wd trivial (w_boxed (cs := [.int .i64 k2,.string t2,c2]) rfl rfl) rfl ?_
       rintro _ w2 ⟨b3,rfl,q3,hx2,hv3⟩
       replace hx := hx.ext hx2
       replace hv2 := hv2.ext hx2
       refine .as rfl rfl (.done (.seq (.sr (.tq (t_fieldAddr fa25_0 rfl) rfl (.tq (t_load ty3 rfl (Cells.get (i := 0) hv2.cells rfl)) rfl (.tq (t_fieldAddr fa25_0 rfl) rfl (.tq (t_load ty3 rfl (Cells.get (i := 0) hv3.cells rfl)) rfl (.tq (t_neqF rfl rfl e1) rfl (.mv rfl rfl ?_)))))))))
       first | refine .gd (t_fieldAddr fa25_1 rfl) rfl ?_ | refine .so rfl rfl ?_
       refine .gd (t_load ty9 rfl (Cells.get (i := 1) hv2.cells rfl)) rfl ?_
       first | refine .gd (t_fieldAddr fa25_1 rfl) rfl ?_ | refine .so rfl rfl ?_
       refine .gd (t_load ty9 rfl (Cells.get (i := 1) hv3.cells rfl)) rfl (.gd (t_sneqF rfl rfl e2) rfl (.tq (t_pickF rfl rfl) rfl (.mv rfl rfl ?_)))
       first | refine .gd (t_fieldAddr fa25_2 rfl) rfl ?_ | refine .so rfl rfl ?_
       refine .gd (t_load ty23 rfl (Cells.get (i := 2) hv2.cells rfl)) rfl ?_
       first | refine .gd (t_lenC hs10 Tryz.underlying23 rfl) rfl ?_ | refine .so rfl rfl ?_
       first | refine .gd (t_fieldAddr fa25_2 rfl) rfl ?_ | refine .so rfl rfl ?_
       refine .gd (t_load ty23 rfl (Cells.get (i := 2) hv3.cells rfl)) rfl ?_
       first | refine .gd (t_lenC hs20 Tryz.underlying23 rfl) rfl ?_ | refine .so rfl rfl ?_
       refine .gd (t_neqF rfl rfl (by omega)) rfl ?_
       refine .tq (t_pickF rfl rfl) rfl (.done (.condF rfl (Wp.skip (.seq (.sr (.tq (t_fieldAddr fa25_2 rfl) rfl (.tq (t_load ty23 rfl (Cells.get (i := 2) hv2.cells rfl)) rfl (.tq (t_lenC hs10 Tryz.underlying23 rfl) rfl (.mv rfl rfl (.done (Wp.block ?_)))))))))))
       refine Wp.loop (ι := Nat) (fun k => [(2,.pointer (some ⟨b2,0,none⟩)),(3,.pointer (some ⟨b3,0,none⟩)),(29,.int .i64 l1.length),(30,.int .i64 k)])
        (fun k w' => k ≤ l1.length ∧ (erL l1).take k = (erL l2).take k ∧ Ext w w' ∧ Var w' b2 [.int .i64 k1,.string t1,c1] 25 ∧ Var w' b3 [.int .i64 k2,.string t2,c2] 25) (fun k => l1.length - k) 0 (by repeat (first | exact .nil | refine .cons rfl ?_)) ⟨Nat.zero_le _,rfl,hx,hv2,hv3⟩ ?_
       clear hx hv2 hv3
       rintro k w9 ⟨hk,he,hx,hv2,hv3⟩
       by_cases hlt : k < l1.length
       ·have hlt2 : k < l2.length := by omega
        have hltE : k < (erL l1).length := by rw [erL_len]; exact hlt
        have hltE2 : k < (erL l2).length := by rw [erL_len]; exact hlt2
        have hem := erL_at l1 k hlt
        have hem2 := erL_at l2 k hlt2
        have hcm := cntL_mem (List.getElem_mem hltE)
        rw [hem] at hcm
        by_cases heq : l1[k].er = l2[k].er
        ·skip
         refine .sr ?_
         first | refine .tq (t_lssT rfl rfl (by omega)) rfl ?_ | refine .tq (t_lssF rfl rfl (by omega)) rfl ?_ | refine .tq (t_lss rfl rfl) rfl ?_
         refine .done (.seq (.condT rfl (Wp.skip (.seq (Wp.block (.sr (.mv rfl rfl (.as rfl rfl (.done ?_)))))))))
         refine Wp.seq (Wp.draw [0,1,2,3,4,5,6,7,8,9,10,11] [] mixed (by kernel_rfl) (by kernel_rfl) ?_)
         intro w21 hx21 _
         replace hx := hx.ext hx21
         replace hv2 := hv2.ext hx21
         replace hv3 := hv3.ext hx21
         refine .tq (t_fieldAddr fa25_2 rfl) rfl (.tq (t_load ty23 rfl (Cells.get (i := 2) hv2.cells rfl)) rfl (.mv rfl rfl ?_))
         refine Rg.ix hs10 trivial rfl rfl Tryz.underlying23 ty25 (by omega) rfl ?_
         intro bt36 ot36 ht36
         replace ht36 := ht36.ext hx
         rw [Int.toNat_natCast,encs_at Gt.len l1 k hlt] at ht36
         refine .tq (t_loadA rfl ht36 (by rw [Gt.len]; exact ty25)) rfl ?_
         refine .tq (t_fieldAddr fa25_2 rfl) rfl (.tq (t_load ty23 rfl (Cells.get (i := 2) hv3.cells rfl)) rfl (.mv rfl rfl ?_))
         refine Rg.ix hs20 trivial rfl rfl Tryz.underlying23 ty25 (by omega) rfl ?_
         intro bt41 ot41 ht41
         replace ht41 := ht41.ext hx
         rw [Int.toNat_natCast,encs_at Gt.len l2 k hlt2] at ht41
         refine .tq (t_loadA rfl ht41 (by rw [Gt.len]; exact ty25)) rfl ?_
         refine Rg.wdB trivial rfl (w_call Tryz.call14 rfl (ih l1[k] l2[k] (by omega) (by omega) _ (((hk1 _ (List.getElem_mem hlt)).bw (Bw.of hx fun z hz => hz) fun z hz => hz).mono fun z hz => Nat.lt_of_lt_of_le hz hx.le) (((hk2 _ (List.getElem_mem hlt2)).bw (Bw.of hx fun z hz => hz) fun z hz => hz).mono fun z hz => Nat.lt_of_lt_of_le hz hx.le))) rfl (fun _ _ h => h.2) ?_
         rintro _ w22 ⟨⟨bb,rfl,hbb⟩,hx22⟩
         replace hx := hx.ext hx22
         replace hv2 := hv2.ext hx22
         replace hv3 := hv3.ext hx22
         replace ht36 := ht36.ext hx22
         replace ht41 := ht41.ext hx22
         obtain rfl : bb = true := by
          exact hbb.2 heq
         refine .tq (t_notB rfl) rfl (.done (.condF rfl (Wp.skip (Wp.region ?_))))
         first | refine .tq (t_addI rfl rfl (by omega)) rfl ?_ | refine .tq (t_add rfl rfl) rfl ?_
         refine .mv rfl rfl (.done ?_)
         exact ⟨k + 1,by repeat (first | exact .nil | refine .cons rfl ?_),⟨hlt,by rw [List.take_succ_eq_append_getElem hltE,List.take_succ_eq_append_getElem hltE2,he,hem,hem2,heq],hx,hv2,hv3⟩,by omega⟩
        ·skip
         refine .sr ?_
         first | refine .tq (t_lssT rfl rfl (by omega)) rfl ?_ | refine .tq (t_lssF rfl rfl (by omega)) rfl ?_ | refine .tq (t_lss rfl rfl) rfl ?_
         refine .done (.seq (.condT rfl (Wp.skip (.seq (Wp.block (.sr (.mv rfl rfl (.as rfl rfl (.done ?_)))))))))
         refine Wp.seq (Wp.draw [0,1,2,3,4,5,6,7,8,9,10,11] [] mixed (by kernel_rfl) (by kernel_rfl) ?_)
         intro w21 hx21 _
         replace hx := hx.ext hx21
         replace hv2 := hv2.ext hx21
         replace hv3 := hv3.ext hx21
         refine .tq (t_fieldAddr fa25_2 rfl) rfl (.tq (t_load ty23 rfl (Cells.get (i := 2) hv2.cells rfl)) rfl (.mv rfl rfl ?_))
         refine Rg.ix hs10 trivial rfl rfl Tryz.underlying23 ty25 (by omega) rfl ?_
         intro bt36 ot36 ht36
         replace ht36 := ht36.ext hx
         rw [Int.toNat_natCast,encs_at Gt.len l1 k hlt] at ht36
         refine .tq (t_loadA rfl ht36 (by rw [Gt.len]; exact ty25)) rfl ?_
         refine .tq (t_fieldAddr fa25_2 rfl) rfl (.tq (t_load ty23 rfl (Cells.get (i := 2) hv3.cells rfl)) rfl (.mv rfl rfl ?_))
         refine Rg.ix hs20 trivial rfl rfl Tryz.underlying23 ty25 (by omega) rfl ?_
         intro bt41 ot41 ht41
         replace ht41 := ht41.ext hx
         rw [Int.toNat_natCast,encs_at Gt.len l2 k hlt2] at ht41
         refine .tq (t_loadA rfl ht41 (by rw [Gt.len]; exact ty25)) rfl ?_
         refine Rg.wdB trivial rfl (w_call Tryz.call14 rfl (ih l1[k] l2[k] (by omega) (by omega) _ (((hk1 _ (List.getElem_mem hlt)).bw (Bw.of hx fun z hz => hz) fun z hz => hz).mono fun z hz => Nat.lt_of_lt_of_le hz hx.le) (((hk2 _ (List.getElem_mem hlt2)).bw (Bw.of hx fun z hz => hz) fun z hz => hz).mono fun z hz => Nat.lt_of_lt_of_le hz hx.le))) rfl (fun _ _ h => h.2) ?_
         rintro _ w22 ⟨⟨bb,rfl,hbb⟩,hx22⟩
         replace hx := hx.ext hx22
         replace hv2 := hv2.ext hx22
         replace hv3 := hv3.ext hx22
         replace ht36 := ht36.ext hx22
         replace ht41 := ht41.ext hx22
         obtain rfl : bb = false := by
          cases bb
          ·rfl
          ·exact absurd (hbb.1 rfl) heq
         refine .tq (t_notB rfl) rfl (.done (.condT rfl (.sr (.as rfl rfl (.done (Wp.ret ?_))))))
         refine ⟨[_],⟨rfl,trivial⟩,⟨false,rfl,⟨fun e => by (cases e),fun e => ?_⟩⟩,hx⟩
         injection e with _ _ e
         exact absurd (by rw [← hem,← hem2]; simp only [e]) heq
       ·skip
        refine .sr ?_
        first | refine .tq (t_lssT rfl rfl (by omega)) rfl ?_ | refine .tq (t_lssF rfl rfl (by omega)) rfl ?_ | refine .tq (t_lss rfl rfl) rfl ?_
        refine .done (.seq (.condF rfl (Wp.exit (.sr (.as rfl rfl (.done (Wp.ret ?_)))))))
        refine ⟨[_],⟨rfl,trivial⟩,⟨true,rfl,⟨fun _ => ?_,fun _ => rfl⟩⟩,hx⟩
        have hkl : k = (erL l1).length := by rw [erL_len]; omega
        rw [hkl,List.take_length,show (erL l1).length = (erL l2).length from by rw [erL_len,erL_len,e3],List.take_length] at he
        simp only [Gt.er,e1,e2,he]
      ·skip
       refine Cl.enter Tryz.func14 rfl Tryz.ntmps14 rfl rfl ?_
       have hs10 := hs1
       have hs20 := hs2
       refine .sr (Rg.wd trivial (w_boxed (cs := [.int .i64 k1,.string t1,c1]) rfl rfl) rfl ?_)
       rintro _ w1 ⟨b2,rfl,q2,hx1,hv2⟩
       replace hx := hx.ext hx1
       refine Rg.wd trivial (w_boxed (cs := [.int .i64 k2,.string t2,c2]) rfl rfl) rfl ?_
       rintro _ w2 ⟨b3,rfl,q3,hx2,hv3⟩
       replace hx := hx.ext hx2
       replace hv2 := hv2.ext hx2
       refine .as rfl rfl (.done (.seq (.sr (.tq (t_fieldAddr fa25_0 rfl) rfl (.tq (t_load ty3 rfl (Cells.get (i := 0) hv2.cells rfl)) rfl (.tq (t_fieldAddr fa25_0 rfl) rfl (.tq (t_load ty3 rfl (Cells.get (i := 0) hv3.cells rfl)) rfl (.tq (t_neqF rfl rfl e1) rfl (.mv rfl rfl ?_)))))))))
       first | refine .gd (t_fieldAddr fa25_1 rfl) rfl ?_ | refine .so rfl rfl ?_
       refine .gd (t_load ty9 rfl (Cells.get (i := 1) hv2.cells rfl)) rfl ?_
       first | refine .gd (t_fieldAddr fa25_1 rfl) rfl ?_ | refine .so rfl rfl ?_
       refine .gd (t_load ty9 rfl (Cells.get (i := 1) hv3.cells rfl)) rfl (.gd (t_sneqF rfl rfl e2) rfl (.tq (t_pickF rfl rfl) rfl (.mv rfl rfl ?_)))
       first | refine .gd (t_fieldAddr fa25_2 rfl) rfl ?_ | refine .so rfl rfl ?_
       refine .gd (t_load ty23 rfl (Cells.get (i := 2) hv2.cells rfl)) rfl ?_
       first | refine .gd (t_lenC hs10 Tryz.underlying23 rfl) rfl ?_ | refine .so rfl rfl ?_
       first | refine .gd (t_fieldAddr fa25_2 rfl) rfl ?_ | refine .so rfl rfl ?_
       refine .gd (t_load ty23 rfl (Cells.get (i := 2) hv3.cells rfl)) rfl ?_
       first | refine .gd (t_lenC hs20 Tryz.underlying23 rfl) rfl ?_ | refine .so rfl rfl ?_
       refine .gd (t_neqT rfl rfl (by omega)) rfl ?_
       refine .tq (t_pickF rfl rfl) rfl (.done (.condT rfl (.sr (.as rfl rfl (.done (Wp.ret ?_))))))
       refine ⟨[_],⟨rfl,trivial⟩,⟨false,rfl,⟨fun e => by (cases e),fun e => ?_⟩⟩,hx⟩
       refine absurd ?_ e3
       injection e with _ _ e
       rw [← erL_len,e,erL_len]
     ·skip
      refine Cl.enter Tryz.func14 rfl Tryz.ntmps14 rfl rfl (.sr (Rg.wd trivial (w_boxed (cs := [.int .i64 k1,.string t1,c1]) rfl rfl) rfl ?_))
      rintro _ w1 ⟨b2,rfl,q2,hx1,hv2⟩
      replace hx := hx.ext hx1
      refine Rg.wd trivial (w_boxed (cs := [.int .i64 k2,.string t2,c2]) rfl rfl) rfl ?_
      rintro _ w2 ⟨b3,rfl,q3,hx2,hv3⟩
      replace hx := hx.ext hx2
      replace hv2 := hv2.ext hx2
      refine .as rfl rfl (.done (.seq (.sr (.tq (t_fieldAddr fa25_0 rfl) rfl (.tq (t_load ty3 rfl (Cells.get (i := 0) hv2.cells rfl)) rfl (.tq (t_fieldAddr fa25_0 rfl) rfl (.tq (t_load ty3 rfl (Cells.get (i := 0) hv3.cells rfl)) rfl (.tq (t_neqF rfl rfl e1) rfl (.mv rfl rfl ?_)))))))))
      first | refine .gd (t_fieldAddr fa25_1 rfl) rfl ?_ | refine .so rfl rfl ?_
      refine .gd (t_load ty9 rfl (Cells.get (i := 1) hv2.cells rfl)) rfl ?_
      first | refine .gd (t_fieldAddr fa25_1 rfl) rfl ?_ | refine .so rfl rfl ?_
      refine .gd (t_load ty9 rfl (Cells.get (i := 1) hv3.cells rfl)) rfl (.gd (t_sneqT rfl rfl e2) rfl (.tq (t_pickF rfl rfl) rfl (.mv rfl rfl (.so rfl rfl (.so rfl rfl (.so rfl rfl (.so rfl rfl (.so rfl rfl (.so rfl rfl (.so rfl rfl (.tq (t_pickT rfl rfl) rfl (.done ?_))))))))))))
      refine .condT rfl (.sr (.as rfl rfl (.done (Wp.ret ?_))))
      refine ⟨[_],⟨rfl,trivial⟩,⟨false,rfl,⟨fun e => by (cases e),fun e => ?_⟩⟩,hx⟩
      exact absurd (by injection e) e2
    ·skip
     refine Cl.enter Tryz.func14 rfl Tryz.ntmps14 rfl rfl (.sr (Rg.wd trivial (w_boxed (cs := [.int .i64 k1,.string t1,c1]) rfl rfl) rfl ?_))
     rintro _ w1 ⟨b2,rfl,q2,hx1,hv2⟩
     replace hx := hx.ext hx1
     refine Rg.wd trivial (w_boxed (cs := [.int .i64 k2,.string t2,c2]) rfl rfl) rfl ?_
     rintro _ w2 ⟨b3,rfl,q3,hx2,hv3⟩
     replace hx := hx.ext hx2
     replace hv2 := hv2.ext hx2
     refine .as rfl rfl (.done (.seq (.sr (.tq (t_fieldAddr fa25_0 rfl) rfl (.tq (t_load ty3 rfl (Cells.get (i := 0) hv2.cells rfl)) rfl (.tq (t_fieldAddr fa25_0 rfl) rfl (.tq (t_load ty3 rfl (Cells.get (i := 0) hv3.cells rfl)) rfl (.tq (t_neqT rfl rfl e1) rfl (.mv rfl rfl (.so rfl rfl (.so rfl rfl (.so rfl rfl ?_))))))))))))
     refine .so rfl rfl (.so rfl rfl (.tq (t_pickT rfl rfl) rfl (.mv rfl rfl (.so rfl rfl (.so rfl rfl (.so rfl rfl (.so rfl rfl (.so rfl rfl (.so rfl rfl (.so rfl rfl (.tq (t_pickT rfl rfl) rfl (.done ?_))))))))))))
     refine .condT rfl (.sr (.as rfl rfl (.done (Wp.ret ?_))))
     refine ⟨[_],⟨rfl,trivial⟩,⟨false,rfl,⟨fun e => by (cases e),fun e => ?_⟩⟩,hx⟩
     exact absurd (by injection e) e1
end Go.Proofs.YtcelfjbajdffkaaGreatDoor.Par
namespace Go.Proofs.YtcelfjbajdffkaaGreatDoor.Par
set_option maxRecDepth 20000
open Go.Gx Go.RowKit Go.Lib
open Lexi (Asc)
def GoL (w : World) (g : Gt) : Prop := GOk (Lo w) w g
theorem GoL.ext {w w' : World} {g : Gt} (h : GoL w g) (x : Ext w w') : GoL w' g := GOk.up h x
theorem GoL.oneL {w : World} {g : Gt} (h : GoL w g) : (g.cells.all (·.oneCell')) = true := List.all_eq_true.2 (GOk.one h)
structure Small (s : ByteArray) (t : Tr) : Prop where
 parsed : Parsed s t
 wf : t.wf
 cnt : t.cnt ≤ 24 * s.size + 1
 dep : t.dep ≤ 2 * s.size + 8
 txt : t.txt = s.data.toList
 kids : ∃ ks,t = .mk 1 nob ks
theorem Parsed.small {s : ByteArray} {t : Tr} (h : Parsed s t) : Small s t := by
 obtain ⟨r,h1,h2,h3,h4,h5⟩ := parsed s
 obtain rfl := h.unique h1
 refine ⟨h,.inr ⟨by decide,by decide,rfl,h3⟩,by simp only [Tr.cnt]; omega,by simp only [Tr.dep]; omega,?_,r,rfl⟩
 show nob.data.toList ++ txtL r = _
 rw [h2]
 rfl
theorem Small.len {s : ByteArray} {t : Tr} (h : Small s t) : t.txt.length = s.size := by rw [h.txt]; simp
end Go.Proofs.YtcelfjbajdffkaaGreatDoor.Par
namespace Go.Proofs.YtcelfjbajdffkaaGreatDoor.Lexi
theorem catT_app : ∀ a b : List (Int × ByteArray),catT (a ++ b) = catT a ++ catT b
 | [],b => by
  show catT b = ByteArray.empty ++ catT b
  rw [ByteArray.empty_append]
 | t :: a,b => by
  show t.2 ++ catT (a ++ b) = t.2 ++ catT a ++ catT b
  rw [catT_app a b,ByteArray.append_assoc]
def off (s : ByteArray) (k : Nat) : Nat := (catT ((toks s).take k)).size
theorem off_zero (s : ByteArray) : off s 0 = 0 := rfl
theorem off_succ {s : ByteArray} (h : 0 < s.size) (k : Nat) : off s (k + 1) = (tok s).1 + off (s.extract (tok s).1 s.size) k := by
 have h1 := tok_in h
 unfold off
 rw [toks_cons h,List.take_succ_cons]
 show (s.extract 0 (tok s).1 ++ catT ((toks (s.extract (tok s).1 s.size)).take k)).size = _
 rw [ByteArray.size_append,ByteArray.size_extract]
 omega
theorem off_split (s : ByteArray) (k : Nat) : catT ((toks s).drop k) = s.extract (off s k) s.size := by
 have h := catT_app ((toks s).take k) ((toks s).drop k)
 rw [List.take_append_drop,cat_toks] at h
 apply by_list
 rw [list_tail]
 have h2 := congrArg (fun x => x.data.toList) h
 simp only [list_app] at h2
 rw [h2]
 unfold off
 rw [← list_len,List.drop_left']
 rfl
theorem off_le (s : ByteArray) (k : Nat) : off s k ≤ s.size := by
 have h := congrArg ByteArray.size (catT_app ((toks s).take k) ((toks s).drop k))
 rw [List.take_append_drop,cat_toks,ByteArray.size_append] at h
 unfold off
 omega
theorem off_step {s : ByteArray} {k : Nat} (h : k < (toks s).length) : off s (k + 1) = off s k + ((toks s)[k]).2.size ∧ off s k < off s (k + 1) := by
 have h1 := toks_full s _ (List.getElem_mem h)
 have h2 : off s (k + 1) = off s k + ((toks s)[k]).2.size := by
  unfold off
  rw [List.take_succ_eq_append_getElem h,catT_app,ByteArray.size_append]
  show _ + ((toks s)[k].2 ++ ByteArray.empty).size = _
  rw [ByteArray.append_empty]
 omega
theorem off_mono {s : ByteArray} : ∀ (d : Nat) {k : Nat},k + d ≤ (toks s).length → off s k + d ≤ off s (k + d)
 | 0,_,_ => Nat.le_refl _
 | d + 1,k,h => by
  have h1 := off_mono (s := s) d (k := k) (by omega)
  have h2 := (off_step (s := s) (k := k + d) (by omega)).2
  rw [show k + (d + 1) = k + d + 1 from by omega]
  omega
theorem off_lt {s : ByteArray} {i k : Nat} (hi : i ≤ (toks s).length) (hk : k ≤ (toks s).length) (h : off s i ≤ off s k) : i ≤ k := by
 rcases Nat.lt_or_ge k i with h1 | h1
 ·have := off_mono (s := s) (i - k) (k := k) (by omega)
  rw [show k + (i - k) = i from by omega] at this
  omega
 ·exact h1
theorem tail_tail {s : ByteArray} {m n : Nat} (hm : m ≤ s.size) : (s.extract m s.size).extract n (s.extract m s.size).size = s.extract (m + n) s.size := by
 apply by_list
 rw [list_tail,list_tail,list_tail,List.drop_drop]
theorem keep_front : ∀ (r : Nat) (s N : ByteArray) (a : Nat),a ≤ s.size → a ≤ N.size → (∀ i,i < a → bt N i = bt s i) → r ≤ (toks s).length → (r = 0 ∨ off s r < a) →
  toks N = (toks s).take r ++ toks (N.extract (off s r) N.size)
 | 0,s,N,a,h1,h2,h3,h4,h5 => by rw [off_zero,full]; rfl
 | r + 1,s,N,a,h1,h2,h3,h4,h5 => by
  have h5 : off s (r + 1) < a := h5.elim (fun h => by cases h) id
  have hs : 0 < s.size := by omega
  have hin := tok_in hs
  have eo := off_succ hs r
  obtain ⟨n,hn⟩ : ∃ n,(tok s).1 = n := ⟨_,rfl⟩
  rw [hn] at hin eo
  have et : tok N = tok s := by
   by_cases hsp : isSp (bt s 0) = true
   ·have e1 := tok_sp hsp
    have e2 : scan isSp s 0 = n := by rw [← hn,e1]
    obtain ⟨_,_,k3,k4⟩ := scan_spec isSp s 0
    rw [e2] at k3 k4
    have e3 : scan isSp N 0 = n := scan_unique (Nat.zero_le _) (by omega) (fun k c1 c2 => by rw [h3 k (by omega)]; exact k3 k c1 c2) (fun _ => by rw [h3 n (by omega)]; exact k4 (by omega))
    rw [e1,tok_sp (by rw [h3 0 (by omega)]; exact hsp),e2,e3]
   ·refine tok_local hs (tok_ns hsp) fun i hi => ?_
    rw [hn] at hi
    rw [bz_in (by omega),bz_in (by omega)]
    exact h3 i (by omega)
  have ex : N.extract 0 n = s.extract 0 n := ext_eq (by omega) (by omega) fun i hi => h3 i (by omega)
  have h4' : r ≤ (toks (s.extract n s.size)).length := by
   have := h4
   rw [toks_cons hs,List.length_cons,hn] at this
   omega
  have ih := keep_front r (s.extract n s.size) (N.extract n N.size) (a - n) (by rw [size_tail]; omega) (by rw [size_tail]; omega)
   (fun i hi => by rw [bt_tail,bt_tail]; exact h3 _ (by omega)) h4' (.inr (by omega))
  rw [tail_tail (by omega),← eo] at ih
  rw [toks_cons (show 0 < N.size by omega),toks_cons hs,et,hn,ex,ih,List.take_succ_cons]
  rfl
def spl (s : ByteArray) (a b : Nat) (t : ByteArray) : ByteArray := s.extract 0 a ++ t ++ s.extract b s.size
theorem spl_size {s : ByteArray} {a b : Nat} {t : ByteArray} (h1 : a ≤ b) (h2 : b ≤ s.size) : (spl s a b t).size + b = s.size + a + t.size := by
 unfold spl
 rw [ByteArray.size_append,ByteArray.size_append,ByteArray.size_extract,ByteArray.size_extract]
 omega
theorem front_keep {s : ByteArray} {a b : Nat} {t : ByteArray} (h1 : a ≤ b) (h2 : b ≤ s.size) {r : Nat} (hr : r ≤ (toks s).length) (h : r = 0 ∨ off s r < a) :
  toks (spl s a b t) = (toks s).take r ++ toks ((spl s a b t).extract (off s r) (spl s a b t).size) := by
 have hz := spl_size (s := s) (t := t) h1 h2
 refine keep_front r s _ a (by omega) (by omega) (fun i hi => ?_) hr h
 unfold spl
 rw [ByteArray.append_assoc,bt_app_l (by rw [ByteArray.size_extract]; omega)]
 unfold bt
 rw [list_front,List.getD_eq_getElem?_getD,List.getElem?_take,if_pos hi,List.getD_eq_getElem?_getD]
theorem back_keep {s : ByteArray} {a b : Nat} {t : ByteArray} (h1 : a ≤ b) (h2 : b ≤ s.size) {i : Nat} (h : b ≤ off s i) :
  toks ((spl s a b t).extract (off s i - b + (a + t.size)) (spl s a b t).size) = (toks s).drop i := by
 have e : (s.extract 0 a ++ t).size = a + t.size := by rw [ByteArray.size_append,ByteArray.size_extract]; omega
 have e2 : (spl s a b t).extract (off s i - b + (a + t.size)) (spl s a b t).size = s.extract (off s i) s.size := by
  unfold spl
  rw [Nat.add_comm,← e,tail_past,tail_tail h2]
  congr 1
  omega
 rw [e2,← off_split,toks_drop]
end Go.Proofs.YtcelfjbajdffkaaGreatDoor.Lexi
namespace Go.Proofs.YtcelfjbajdffkaaGreatDoor.Par
set_option maxRecDepth 20000
open Go.Gx Go.RowKit Go.Lib
open Lexi (Asc)
open Lexi (spl spl_size)
theorem mod_ok {w : World} {a m : Int} (hm : 0 < m) (hm2 : m < 4611686018427387904) : Cl Tryz.prog 16 #[.int .i64 a,.int .i64 m] w (fun u w' => (∃ r : Nat,u = .int .i64 r ∧ (r : Int) < m ∧ (r : Int) = a % m) ∧ w = w') := by
 have e1 : a.tmod m = if 0 ≤ a ∨ a % m = 0 then a % m else a % m - m := by
  rw [Int.tmod_eq_emod]
  have hd : m ∣ a ↔ a % m = 0 := Int.dvd_iff_emod_eq_zero
  have habs : m.natAbs = m := by omega
  split <;> rename_i h <;> split <;> rename_i h' <;> simp_all <;> omega
 have e2 := Int.emod_nonneg a (by omega : m ≠ 0)
 have e3 := Int.emod_lt_of_pos a hm
 obtain ⟨r,hr⟩ : ∃ r : Nat,a % m = r := ⟨(a % m).toNat,by omega⟩
 by_cases hneg : a.tmod m < 0
 ·skip
  have e4 : a.tmod m + m = r := by split at e1 <;> omega
  refine Cl.enter Tryz.func16 rfl Tryz.ntmps16 rfl rfl (.sr (.as rfl rfl (.done (.sr (.mv rfl rfl (.mv rfl rfl ?_))))))
  refine .tq (t_remI rfl rfl (by omega)) rfl ?_
  refine .as rfl rfl (.done (.seq (.sr (.mv rfl rfl ?_))))
  first | refine .tq (t_lssT rfl rfl (by omega)) rfl ?_ | refine .tq (t_lssF rfl rfl (by omega)) rfl ?_ | refine .tq (t_lss rfl rfl) rfl ?_
  refine .done (.condT rfl (Wp.region (.mv rfl rfl (.mv rfl rfl ?_))))
  first | refine .tq (t_addI rfl rfl (by omega)) rfl ?_ | refine .tq (t_add rfl rfl) rfl ?_
  refine .as rfl rfl (.done (.sr (.mv rfl rfl (.as rfl rfl (.done (Wp.ret ?_))))))
  exact ⟨[_],⟨rfl,trivial⟩,⟨r,by simp only [tup]; congr 1,by omega,hr.symm⟩,rfl⟩
 ·skip
  have e4 : a.tmod m = r := by split at e1 <;> omega
  refine Cl.enter Tryz.func16 rfl Tryz.ntmps16 rfl rfl (.sr (.as rfl rfl (.done (.sr (.mv rfl rfl (.mv rfl rfl ?_))))))
  refine .tq (t_remI rfl rfl (by omega)) rfl ?_
  refine .as rfl rfl (.done (.seq (.sr (.mv rfl rfl ?_))))
  first | refine .tq (t_lssT rfl rfl (by omega)) rfl ?_ | refine .tq (t_lssF rfl rfl (by omega)) rfl ?_ | refine .tq (t_lss rfl rfl) rfl ?_
  refine .done (.condF rfl (Wp.skip (.sr (.mv rfl rfl (.as rfl rfl (.done (Wp.ret ?_)))))))
  exact ⟨[_],⟨rfl,trivial⟩,⟨r,by simp only [tup]; congr 1,by omega,hr.symm⟩,rfl⟩
def GsL (w : World) (l : List Gt) : Prop := ∀ c ∈ l,GoL w c
theorem GsL.ext {w w' : World} {l : List Gt} (h : GsL w l) (x : Ext w w') : GsL w' l := fun c hc => (h c hc).ext x
theorem GoL.children {w : World} {s : ByteArray} {g : Gt} (h : GoL w g) (hp : Small s g.er) : ∃ cv l,g = .mk 1 nob cv l ∧ SlC w cv 3 l.length (encs Gt.cells l) ∧ GsL w l ∧ (∀ c ∈ l,c.er.wf ∧ c.er.cnt ≤ 24 * s.size ∧ c.er.dep ≤ 2 * s.size + 7 ∧ c.er.txt.length ≤ s.size) ∧ l.length ≤ 24 * s.size := by
 obtain ⟨k,t,cv,l⟩ := g
 obtain ⟨ks,e⟩ := hp.kids
 simp only [Gt.er] at e
 injection e with e1 e2 e3
 subst e1 e2
 have hc := hp.cnt
 have hd := hp.dep
 have hl := hp.len
 have hw := hp.wf
 simp only [Gt.er,Tr.cnt,Tr.dep,Tr.txt,Tr.wf,nob] at hc hd hl hw
 cases h with
 | mk h1 h2 h3 h4 =>
  refine ⟨cv,l,rfl,h1,h4,fun c hc' => ?_,?_⟩
  ·have hm : c.er ∈ erL l := by rw [erL_map]; exact List.mem_map_of_mem hc'
   have m1 := cntL_mem hm
   have m2 := depL_mem hm
   have m3 := txtL_mem hm
   rcases hw with ⟨hw,_⟩ | hw
   ·omega
   ·simp at hl
    exact ⟨wfL_mem hw.2.2.2 _ hm,by omega,by omega,by omega⟩
  ·have := len_cntL (erL l)
   rw [erL_len] at this
   omega
end Go.Proofs.YtcelfjbajdffkaaGreatDoor.Par
