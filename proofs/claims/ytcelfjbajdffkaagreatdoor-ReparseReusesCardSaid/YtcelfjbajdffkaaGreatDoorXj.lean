/- The walk of slices.Insert at syntax trees. Printed by r6/Ny.py. -/
import Derived.Test.YtcelfjbajdffkaaGreatDoorXf
import Derived.Test.YtcelfjbajdffkaaGreatDoorXc
import Derived.Test.YtcelfjbajdffkaaGreatDoorXb
import Derived.Test.YtcelfjbajdffkaaGreatDoorXi
import Derived.Test.YtcelfjbajdffkaaGreatDoorXd
set_option linter.unusedVariables false
set_option linter.unusedSimpArgs false
namespace Go.Proofs.YtcelfjbajdffkaaGreatDoor.Par
set_option maxRecDepth 20000
open Go.Gx Go.RowKit Go.Lib
open Lexi (Asc)
abbrev G3 := Int × ByteArray × Option Addr × Nat × Nat
def gc (x : G3) : List Value := [.int .i64 x.1,.string x.2.1,.slice x.2.2.1 x.2.2.2.1 x.2.2.2.2]
theorem gc_len (x : G3) : (gc x).length = 3 := rfl
theorem gc_one (x : G3) : ∀ u ∈ gc x,u.oneCell' = true := by
 intro u hu
 simp [gc] at hu
 rcases hu with rfl | rfl | rfl <;> rfl
def insert1 {α : Type} (l : List α) (i : Nat) (x : α) : List α := l.take i ++ x :: l.drop i
theorem insert1_length {α : Type} (l : List α) (i : Nat) (x : α) : (insert1 l i x).length = l.length + 1 := by
 simp [insert1]
 omega
theorem encs_drop {α : Type} {f : α → List Value} {k : Nat} (hf : ∀ a,(f a).length = k) : ∀ (l : List α) (i : Nat),(encs f l).drop (i * k) = encs f (l.drop i)
 | l,0 => by simp
 | [],i + 1 => by simp [encs]
 | a :: l,i + 1 => by
  rw [show encs f (a :: l) = f a ++ encs f l from List.flatMap_cons,Nat.add_mul,Nat.one_mul,Nat.add_comm (i * k) k,← List.drop_drop,List.drop_left' (hf a),encs_drop hf l i,List.drop_succ_cons]
theorem encs_take {α : Type} {f : α → List Value} {k : Nat} (hf : ∀ a,(f a).length = k) : ∀ (l : List α) (i : Nat),(encs f l).take (i * k) = encs f (l.take i)
 | l,0 => by simp [encs]
 | [],i + 1 => by simp [encs]
 | a :: l,i + 1 => by
  rw [show encs f (a :: l) = f a ++ encs f l from List.flatMap_cons,List.take_succ_cons,show encs f (a :: l.take i) = f a ++ encs f (l.take i) from List.flatMap_cons,Nat.add_mul,Nat.one_mul,Nat.add_comm (i * k) k,← encs_take hf l i]
  rw [← hf a,List.take_length_add_append]
theorem frozen_var {w : World} {b t : Nat} {cs : List Value} (h : Var w b cs t) (o : Nat) : w.frozen? ⟨b,o,none⟩ = false := by
 unfold Var at h
 unfold World.frozen?
 simp only [h]
 rw [decide_eq_false (Nat.not_lt_zero o),Bool.and_false]
theorem shape_var {w : World} {b t : Nat} {cs : List Value} (h : Var w b cs t) : w.shape? b = some (t,cs.length) := by
 unfold Var at h
 unfold World.shape?
 simp [h]
section
variable {α : Type} {f : α → List Value} {k : Nat}
theorem encs_drop_all (hf : ∀ a,(f a).length = k) (l : List α) (sp : List Value) (i : Nat) (hi : i ≤ l.length) : (encs f l ++ sp).drop (i * k) = encs f (l.drop i) ++ sp := by
 have hl := encs_len hf l
 rw [List.drop_append_of_le_length (by rw [hl]; exact Nat.mul_le_mul_right _ hi),encs_drop hf]
theorem encs_take_all (hf : ∀ a,(f a).length = k) (l : List α) (sp : List Value) (i : Nat) (hi : i ≤ l.length) : (encs f l ++ sp).take (i * k) = encs f (l.take i) := by
 have hl := encs_len hf l
 rw [List.take_append_of_le_length (by rw [hl]; exact Nat.mul_le_mul_right _ hi),encs_take hf]
theorem insert1_encs (l : List α) (i : Nat) (x : α) : encs f (insert1 l i x) = encs f (l.take i) ++ f x ++ encs f (l.drop i) := by
 unfold insert1
 rw [encs_app,show encs f (x :: l.drop i) = f x ++ encs f (l.drop i) from List.flatMap_cons,List.append_assoc]
end
set_option maxHeartbeats 2000000 in
theorem insertTG_ok {w : World} {B vb g cap : Nat} {sp : List Value} {l : List G3} {x : G3} {i : Nat} (hg : B ≤ g) (hcap : l.length ≤ cap) (hmx : cap ≤ maxLen) (hsp : sp.length = (cap - l.length) * 3) (hv : Var w g (encs gc l ++ sp) 25) (hB : B ≤ w.heap.size) (hl : l.length ≤ 1000000000) (hvb : Var w vb (gc x) 25) (hi : i < l.length) (hrm : cap < l.length + 1) (hne : vb ≠ g) :
  Cl Tryz.prog 138 #[.slice (some ⟨g,0,none⟩) l.length cap,.int .i64 i,.slice (some ⟨vb,0,none⟩) 1 1] w (fun u w' => w'.ownsRow B 25 3 u (l.length + 1) (encs gc (insert1 l i x)) ∧ Bw (fun z => z < w.heap.size ∧ some z ≠ u.ownBlock) w w' ∧ (∀ b,u.ownBlock = some b → b = g ∨ w.heap.size ≤ b)) := by
 have hsv : SlC w (.slice (some ⟨vb,0,none⟩) 1 1) 3 1 (gc x) := slc_var hvb rfl
 have hmx' : cap ≤ 9223372036854775807 := hmx
 have hll := encs_len gc_len l
 obtain ⟨i0,hi0,hz0,hsi0,hby0⟩ := inf25
 have hxs : ∀ (w' : World) (a : Nat) (ys : List Value),Var w' g (encs gc l ++ ys) 25 → a ≤ l.length → SlC w' (.slice (some ⟨g,0 + a * 3,none⟩) (l.length - a) (cap - a)) 3 (l.length - a) (encs gc (l.drop a)) := fun w' a ys h ha => by
  refine ⟨by rw [encs_len gc_len,List.length_drop],_,_,rfl,by omega,.inr ⟨g,0 + a * 3,rfl,?_⟩⟩
  have := h.cells.sub (a * 3) ((encs gc (l.drop a)).length)
  rw [encs_drop_all gc_len l ys a ha,List.take_left' rfl] at this
  exact this
 have hst : SlC w (.slice (some ⟨g,0,none⟩) i cap) 3 i (encs gc (l.take i)) := by
  refine ⟨by rw [encs_len gc_len,List.length_take]; congr 1; omega,_,_,rfl,by omega,.inr ⟨g,0,rfl,?_⟩⟩
  have := hv.cells.sub 0 (i * 3)
  rw [List.drop_zero,encs_take_all gc_len l sp i (by omega)] at this
  exact this
 refine Cl.enter Tryz.func138 rfl Tryz.ntmps138 rfl rfl (.sr (.as rfl rfl (.done (.sr (.mv rfl rfl (.mv rfl rfl ?_))))))
 refine .tq (t_sliceL Tryz.underlying23 ty25 rfl rfl rfl (by omega)) rfl ?_
 refine .done (.sr (.mv rfl rfl (.tq (t_lenS Tryz.underlying23 rfl) rfl ?_)))
 rw [show ((1 : Nat) : Int) = 1 from rfl]
 refine .as rfl rfl (.done (.seq (.sr (.mv rfl rfl ?_))))
 first | refine .tq (t_eqlT rfl rfl (by omega)) rfl ?_ | refine .tq (t_eqlF rfl rfl (by omega)) rfl ?_ | refine .tq (t_eql rfl rfl) rfl ?_
 refine .done (.condF rfl (Wp.skip (.sr (.mv rfl rfl (.tq (t_lenS Tryz.underlying23 rfl) rfl (.as rfl rfl (.done (.seq (.sr (.mv rfl rfl (.mv rfl rfl ?_)))))))))))
 first | refine .tq (t_eqlT rfl rfl (by omega)) rfl ?_ | refine .tq (t_eqlF rfl rfl (by omega)) rfl ?_ | refine .tq (t_eql rfl rfl) rfl ?_
 refine .done (.condF rfl (Wp.skip (.seq (.sr (.mv rfl rfl (.mv rfl rfl ?_))))))
 refine .tq (t_addI rfl rfl (by omega)) rfl ?_
 refine .mv rfl rfl (.tq (t_capS Tryz.underlying23 rfl) rfl ?_)
 first | refine .tq (t_gtrT rfl rfl (by omega)) rfl ?_ | refine .tq (t_gtrF rfl rfl (by omega)) rfl ?_ | refine .tq (t_gtr rfl rfl) rfl ?_
 refine .done (.condT rfl (.sr (.mv rfl rfl (.mv rfl rfl ?_))))
 refine .tq (t_sliceL Tryz.underlying23 ty25 rfl rfl rfl (by omega)) rfl ?_
 rw [show (Value.slice (some (if cap = (0 : Int).toNat then (⟨g,0,none⟩ : Addr) else ⟨g,0 + (0 : Int).toNat * 3,none⟩)) ((i : Int).toNat - (0 : Int).toNat) (cap - (0 : Int).toNat)) = .slice (some ⟨g,0,none⟩) i cap from by simp]
 refine .mv rfl rfl (.mv rfl rfl ?_)
 refine .tq (t_addI rfl rfl (by omega)) rfl ?_
 refine .mv rfl rfl ?_
 refine .tq (t_subI rfl rfl (by omega)) rfl ?_
 rw [show ((l.length : Int) + 1 - i) = ((l.length + 1 - i : Nat) : Int) from by omega]
 refine Rg.wd trivial (w_appendZ Tryz.underlying23 Tryz.underlying3 hi0 hz0 hsi0 hby0 rfl rfl (by decide) rfl rfl hst (by omega) (by omega) (by unfold maxLen; omega) (by omega)) rfl ?_
 rintro v9 w1 ⟨hx,news,hnl,ho9⟩
 rw [show i + (l.length + 1 - i) = l.length + 1 from by omega] at ho9
 rcases own_wholeG ho9 with ⟨_,h0⟩ | ⟨g2,cap2,sp2,rfl,hg2,hcap2,hmx2,hsp2,hv2⟩
 ·omega
 have hmx2' : cap2 ≤ 9223372036854775807 := hmx2
 have htl : (encs gc (l.take i)).length = i * 3 := by rw [encs_len gc_len,List.length_take]; congr 1; omega
 have hlt2 := hv2.lt
 refine .as rfl rfl (.done (.sr (.mv rfl rfl (.mv rfl rfl ?_))))
 refine .tq (t_sliceL Tryz.underlying23 ty25 rfl rfl rfl (by omega)) rfl ?_
 rw [show (Value.slice (some (if cap2 = (i : Int).toNat then (⟨g2,0,none⟩ : Addr) else ⟨g2,0 + (i : Int).toNat * 3,none⟩)) (((l.length + 1 : Nat) : Int).toNat - (i : Int).toNat) (cap2 - (i : Int).toNat)) = .slice (some ⟨g2,0 + (i) * 3,none⟩) (l.length + 1 - (i)) (cap2 - (i)) from by rw [if_neg (by omega),show (i : Int).toNat = i from by omega]; rfl]
 refine .mv rfl rfl ?_
 have hmin1 : min 1 (l.length + 1 - i) = 1 := by omega
 have hfit : 0 + i * 3 + min 1 (l.length + 1 - i) * 3 ≤ (encs gc (l.take i) ++ news ++ sp2).length := by
  rw [hmin1,List.length_append,List.length_append,htl,hnl]; omega
 refine Rg.wd trivial (w_copyT Tryz.underlying23 ty25 hv2 rfl rfl (hsv.ext hx) hfit (fun u hu => gc_one x u (List.mem_of_mem_take hu))) rfl ?_
 rintro _ w2 ⟨hu2,hv3⟩
 have hx2 := hx.upd hu2 hg2
 rw [hmin1] at hv3
 replace hv := (hv.ext hx).upd hu2 (by have := hv.lt; omega)
 clear hv2
 refine .done ?_
 refine Wp.seq (Wp.draw [0,1,2,3,4,5,6,7,8] [0] mixed (by kernel_rfl) (by kernel_rfl) ?_)
 intro w1 hx1 _
 have hx2 := Ext.tr hx2 hx1
 replace hv3 := hv3.ext hx1
 replace hv := hv.ext hx1
 refine .mv rfl rfl (.mv rfl rfl (.mv rfl rfl ?_))
 refine .tq (t_addI rfl rfl (by omega)) rfl ?_
 refine .tq (t_sliceL Tryz.underlying23 ty25 rfl rfl rfl (by omega)) rfl ?_
 rw [show (Value.slice (some (if cap2 = ((i : Int) + 1 : Int).toNat then (⟨g2,0,none⟩ : Addr) else ⟨g2,0 + ((i : Int) + 1 : Int).toNat * 3,none⟩)) (((l.length + 1 : Nat) : Int).toNat - ((i : Int) + 1 : Int).toNat) (cap2 - ((i : Int) + 1 : Int).toNat)) = .slice (some ⟨g2,0 + (i + 1) * 3,none⟩) (l.length + 1 - (i + 1)) (cap2 - (i + 1)) from by rw [if_neg (by omega),show ((i : Int) + 1 : Int).toNat = i + 1 from by omega]; rfl]
 refine .mv rfl rfl (.mv rfl rfl ?_)
 refine .tq (t_sliceL Tryz.underlying23 ty25 rfl rfl rfl (by omega)) rfl ?_
 rw [show (Value.slice (some (if cap = (i : Int).toNat then (⟨g,0,none⟩ : Addr) else ⟨g,0 + (i : Int).toNat * 3,none⟩)) (((l.length : Nat) : Int).toNat - (i : Int).toNat) (cap - (i : Int).toNat)) = .slice (some ⟨g,0 + (i) * 3,none⟩) (l.length - (i)) (cap - (i)) from by rw [if_neg (by omega),show (i : Int).toNat = i from by omega]; rfl]
 have hmul : ∀ m,m * 3 = 3 * m := fun m => Nat.mul_comm _ _
 have hnl2 : news.length = 3 * (l.length + 1 - i) := by rw [hnl,hmul]
 have hsp22 : sp2.length = 3 * (cap2 - (l.length + 1)) := by rw [hsp2,hmul]
 have hfit54 : 0 + (i + 1) * 3 + min (l.length - i) (l.length + 1 - (i + 1)) * 3 ≤ (List.take (0 + i * 3) (encs gc (l.take i) ++ news ++ sp2) ++ List.take (1 * 3) (gc x) ++ List.drop (0 + i * 3 + 1 * 3) (encs gc (l.take i) ++ news ++ sp2)).length := by
  rw [List.length_append,List.length_append,List.length_take,List.length_take,List.length_drop,List.length_append,List.length_append,htl,hnl2,hsp22,gc_len,hmul,hmul,hmul]
  omega
 refine rg_wdC trivial rfl (w_copyT Tryz.underlying23 ty25 hv3 rfl rfl (hxs _ i sp hv (by omega)) hfit54 (fun u hu => encs_cell gc_one _ u (List.mem_of_mem_take hu))) rfl (by rfl) ?_
 rintro _ w4 ⟨hu4,hv4⟩
 have hx4 := hx2.upd hu4 hg2
 refine .done (.sr (.mv rfl rfl (.as rfl rfl (.done (Wp.ret ?_)))))
 refine ⟨[_],⟨rfl,trivial⟩,?_,Bw.of hx4 (fun z hz => hz.1),fun b hb => .inr (by injection hb with hb; subst hb; exact hg2)⟩
 have hmin : min (l.length - i) (l.length + 1 - (i + 1)) = l.length - i := by omega
 rw [hmin] at hv4
 have hdl : (encs gc (l.drop i)).length = (l.length - i) * 3 := by rw [encs_len gc_len,List.length_drop]
 have e1 : (encs gc (l.take i) ++ news ++ sp2).take (0 + i * 3) = encs gc (l.take i) := by rw [Nat.zero_add,List.append_assoc,List.take_left' htl]
 have e2 : (gc x).take (1 * 3) = gc x := List.take_of_length_le (Nat.le_refl _)
 have e3 : (encs gc (l.take i) ++ gc x).length = (i + 1) * 3 := by rw [List.length_append,htl,gc_len,Nat.add_mul,Nat.one_mul]
 have e4 : (encs gc (l.drop i)).take ((l.length - i) * 3) = encs gc (l.drop i) := List.take_of_length_le (by rw [hdl]; exact Nat.le_refl _)
 rw [e1,e2,Nat.zero_add,List.take_left' e3,e4] at hv4
 obtain ⟨tl,htl2⟩ : ∃ tl,tl = (encs gc (l.take i) ++ gc x ++ (encs gc (l.take i) ++ news ++ sp2).drop (0 + i * 3 + 1 * 3)).drop ((i + 1) * 3 + (l.length - i) * 3) := ⟨_,rfl⟩
 rw [← htl2] at hv4
 refine whole_ownG (sp := tl) (Nat.le_trans hB hg2) (by rw [encs_len gc_len,insert1_length]) hcap2 hmx2 ?_ (by rw [insert1_encs]; exact hv4)
 rw [htl2]
 simp only [List.length_drop,List.length_append,htl,hnl,gc_len,hsp2]
 have h1 : (i + 1) * 3 + (l.length - i) * 3 = (l.length + 1) * 3 := by rw [← Nat.add_mul]; congr 1; omega
 omega
set_option maxHeartbeats 2000000 in
theorem insertTR_ok {w : World} {B vb g cap : Nat} {sp : List Value} {l : List G3} {x : G3} {i : Nat} (hg : B ≤ g) (hcap : l.length ≤ cap) (hmx : cap ≤ maxLen) (hsp : sp.length = (cap - l.length) * 3) (hv : Var w g (encs gc l ++ sp) 25) (hB : B ≤ w.heap.size) (hl : l.length ≤ 1000000000) (hvb : Var w vb (gc x) 25) (hi : i < l.length) (hrm : l.length + 1 ≤ cap) (hne : vb ≠ g) :
  Cl Tryz.prog 138 #[.slice (some ⟨g,0,none⟩) l.length cap,.int .i64 i,.slice (some ⟨vb,0,none⟩) 1 1] w (fun u w' => w'.ownsRow B 25 3 u (l.length + 1) (encs gc (insert1 l i x)) ∧ Bw (fun z => z < w.heap.size ∧ some z ≠ u.ownBlock) w w' ∧ (∀ b,u.ownBlock = some b → b = g ∨ w.heap.size ≤ b)) := by
 have hsv : SlC w (.slice (some ⟨vb,0,none⟩) 1 1) 3 1 (gc x) := slc_var hvb rfl
 have hmx' : cap ≤ 9223372036854775807 := hmx
 have hll := encs_len gc_len l
 obtain ⟨i0,hi0,hz0,hsi0,hby0⟩ := inf25
 have hxs : ∀ (w' : World) (a : Nat) (ys : List Value),Var w' g (encs gc l ++ ys) 25 → a ≤ l.length → SlC w' (.slice (some ⟨g,0 + a * 3,none⟩) (l.length - a) (cap - a)) 3 (l.length - a) (encs gc (l.drop a)) := fun w' a ys h ha => by
  refine ⟨by rw [encs_len gc_len,List.length_drop],_,_,rfl,by omega,.inr ⟨g,0 + a * 3,rfl,?_⟩⟩
  have := h.cells.sub (a * 3) ((encs gc (l.drop a)).length)
  rw [encs_drop_all gc_len l ys a ha,List.take_left' rfl] at this
  exact this
 refine Cl.enter Tryz.func138 rfl Tryz.ntmps138 rfl rfl (.sr (.as rfl rfl (.done (.sr (.mv rfl rfl (.mv rfl rfl ?_))))))
 refine .tq (t_sliceL Tryz.underlying23 ty25 rfl rfl rfl (by omega)) rfl ?_
 refine .done (.sr (.mv rfl rfl (.tq (t_lenS Tryz.underlying23 rfl) rfl ?_)))
 rw [show ((1 : Nat) : Int) = 1 from rfl]
 refine .as rfl rfl (.done (.seq (.sr (.mv rfl rfl ?_))))
 first | refine .tq (t_eqlT rfl rfl (by omega)) rfl ?_ | refine .tq (t_eqlF rfl rfl (by omega)) rfl ?_ | refine .tq (t_eql rfl rfl) rfl ?_
 refine .done (.condF rfl (Wp.skip (.sr (.mv rfl rfl (.tq (t_lenS Tryz.underlying23 rfl) rfl (.as rfl rfl (.done (.seq (.sr (.mv rfl rfl (.mv rfl rfl ?_)))))))))))
 first | refine .tq (t_eqlT rfl rfl (by omega)) rfl ?_ | refine .tq (t_eqlF rfl rfl (by omega)) rfl ?_ | refine .tq (t_eql rfl rfl) rfl ?_
 refine .done (.condF rfl (Wp.skip (.seq (.sr (.mv rfl rfl (.mv rfl rfl ?_))))))
 refine .tq (t_addI rfl rfl (by omega)) rfl ?_
 refine .mv rfl rfl (.tq (t_capS Tryz.underlying23 rfl) rfl ?_)
 first | refine .tq (t_gtrT rfl rfl (by omega)) rfl ?_ | refine .tq (t_gtrF rfl rfl (by omega)) rfl ?_ | refine .tq (t_gtr rfl rfl) rfl ?_
 refine .done (.condF rfl (Wp.skip (.sr (.mv rfl rfl (.mv rfl rfl (.mv rfl rfl ?_))))))
 refine .tq (t_addI rfl rfl (by omega)) rfl ?_
 refine .tq (t_sliceL Tryz.underlying23 ty25 rfl rfl rfl (by omega)) rfl ?_
 rw [show (Value.slice (some (if cap = (0 : Int).toNat then (⟨g,0,none⟩ : Addr) else ⟨g,0 + (0 : Int).toNat * 3,none⟩)) (((l.length : Int) + 1).toNat - (0 : Int).toNat) (cap - (0 : Int).toNat)) = .slice (some ⟨g,0,none⟩) (l.length + 1) cap from by simp]
 refine .as rfl rfl (.done (.seq (.sr (.mv rfl rfl (.mv rfl rfl (.mv rfl rfl (.mv rfl rfl ?_)))))))
 refine .tq (t_addI rfl rfl (by omega)) rfl ?_
 refine .tq (t_sliceL Tryz.underlying23 ty25 rfl rfl rfl (by omega)) rfl ?_
 rw [show (Value.slice (some (if cap = ((i : Int) + 1 : Int).toNat then (⟨g,0,none⟩ : Addr) else ⟨g,0 + ((i : Int) + 1 : Int).toNat * 3,none⟩)) (((l.length + 1 : Nat) : Int).toNat - ((i : Int) + 1 : Int).toNat) (cap - ((i : Int) + 1 : Int).toNat)) = .slice (some ⟨g,0 + (i + 1) * 3,none⟩) (l.length + 1 - (i + 1)) (cap - (i + 1)) from by rw [if_neg (by omega),show ((i : Int) + 1 : Int).toNat = i + 1 from by omega]; rfl]
 have hspl : 3 ≤ sp.length := by
  rw [hsp]
  have : 1 ≤ cap - l.length := by omega
  calc 3 = 1 * 3 := by simp
   _ ≤ (cap - l.length) * 3 := Nat.mul_le_mul_right _ this
 have hcapk : l.length * 3 + sp.length = cap * 3 := by rw [hsp,← Nat.add_mul]; congr 1; omega
 have hn1 : (l.length + 1) * 3 ≤ cap * 3 := Nat.mul_le_mul_right _ hrm
 refine Rg.wd trivial (w_extern (R := fun v w' => v = .bool false ∧ w = w') Tryz.func157 (by kernel_rfl) (by kernel_rfl) (by kernel_rfl) (by kernel_rfl) rfl ⟨_,_,Lib.run_overlaps_apart _ 23 4 25 Tryz.underlying23 3 Tryz.sizeOf25 ⟨vb,0,none⟩ ⟨g,_,none⟩ 1 1 _ _ hne _ _ _ _ (shape_var hvb) (shape_var hv) (by rw [List.length_append,hll]; omega) (frozen_var hvb _) (frozen_var hvb _),rfl,rfl⟩) rfl ?_
 rintro _ _ ⟨rfl,rfl⟩
 refine .tq (t_notB rfl) rfl (.done (.condT rfl ?_))
 refine Wp.seq (Wp.draw [0,1,2,3,4,5,6,7,8] [0] mixed (by kernel_rfl) (by kernel_rfl) ?_)
 intro w1 hx1 _
 replace hvb := hvb.ext hx1
 replace hv := hv.ext hx1
 have hko : Bw (fun z => z < w.heap.size ∧ z ≠ g) w _ := Bw.of hx1 (fun z hz => hz.1)
 refine .mv rfl rfl (.mv rfl rfl (.mv rfl rfl ?_))
 refine .tq (t_addI rfl rfl (by omega)) rfl ?_
 refine .tq (t_sliceL Tryz.underlying23 ty25 rfl rfl rfl (by omega)) rfl ?_
 rw [show (Value.slice (some (if cap = ((i : Int) + 1 : Int).toNat then (⟨g,0,none⟩ : Addr) else ⟨g,0 + ((i : Int) + 1 : Int).toNat * 3,none⟩)) (((l.length + 1 : Nat) : Int).toNat - ((i : Int) + 1 : Int).toNat) (cap - ((i : Int) + 1 : Int).toNat)) = .slice (some ⟨g,0 + (i + 1) * 3,none⟩) (l.length + 1 - (i + 1)) (cap - (i + 1)) from by rw [if_neg (by omega),show ((i : Int) + 1 : Int).toNat = i + 1 from by omega]; rfl]
 refine .mv rfl rfl (.mv rfl rfl ?_)
 refine .tq (t_sliceL Tryz.underlying23 ty25 rfl rfl rfl (by omega)) rfl ?_
 rw [show (Value.slice (some (if cap = (i : Int).toNat then (⟨g,0,none⟩ : Addr) else ⟨g,0 + (i : Int).toNat * 3,none⟩)) (((l.length + 1 : Nat) : Int).toNat - (i : Int).toNat) (cap - (i : Int).toNat)) = .slice (some ⟨g,0 + (i) * 3,none⟩) (l.length + 1 - (i)) (cap - (i)) from by rw [if_neg (by omega),show (i : Int).toNat = i from by omega]; rfl]
 have hmin2 : min (l.length + 1 - i) (l.length + 1 - (i + 1)) = l.length - i := by omega
 have hik : i * 3 + (l.length - i) * 3 = l.length * 3 := by rw [← Nat.add_mul]; congr 1; omega
 have hik1 : (i + 1) * 3 + (l.length - i) * 3 = (l.length + 1) * 3 := by rw [← Nat.add_mul]; congr 1; omega
 have hk1 : (l.length + 1) * 3 = l.length * 3 + 3 := by rw [Nat.add_mul,Nat.one_mul]
 have hi1 : (i + 1) * 3 = i * 3 + 3 := by rw [Nat.add_mul,Nat.one_mul]
 have hfit2 : 0 + (i + 1) * 3 + min (l.length + 1 - i) (l.length + 1 - (i + 1)) * 3 ≤ (encs gc l ++ sp).length := by rw [hmin2,List.length_append,hll]; omega
 have hdl : (encs gc (l.drop i)).length = (l.length - i) * 3 := by rw [encs_len gc_len,List.length_drop]
 have hcs2 : ∀ m,(((encs gc l ++ sp).drop (i * 3)).take m).take ((l.length - i) * 3) = (encs gc (l.drop i)).take m := fun m => by
  rw [List.take_take,Nat.min_comm,← List.take_take,encs_drop_all gc_len l sp i (by omega),List.take_left' hdl]
 have hone2 : ∀ u ∈ (((encs gc l ++ sp).drop (i * 3)).take ((l.length + 1 - i) * 3)).take (min (l.length + 1 - i) (l.length + 1 - (i + 1)) * 3),u.oneCell' = true := by
  rw [hmin2,hcs2]
  exact fun u hu => encs_cell gc_one _ u (List.mem_of_mem_take hu)
 have hs2 : ∀ w',Var w' g (encs gc l ++ sp) 25 → SlC w' (.slice (some ⟨g,0 + i * 3,none⟩) (l.length + 1 - i) (cap - i)) 3 (l.length + 1 - i) (((encs gc l ++ sp).drop (i * 3)).take ((l.length + 1 - i) * 3)) := fun w' h => by
  refine ⟨?_,_,_,rfl,by omega,.inr ⟨g,0 + i * 3,rfl,h.cells.sub _ _⟩⟩
  rw [List.length_take,List.length_drop,List.length_append,hll]
  have : (l.length + 1 - i) * 3 = (l.length + 1) * 3 - i * 3 := Nat.mul_sub_right_distrib _ _ _
  omega
 refine rg_wdC trivial rfl (w_copyT Tryz.underlying23 ty25 hv rfl rfl (hs2 _ hv) hfit2 hone2) rfl (by rfl) ?_
 rintro _ w4 ⟨hu4,hv4⟩
 refine .done (.sr (.mv rfl rfl (.mv rfl rfl ?_)))
 refine .tq (t_sliceL Tryz.underlying23 ty25 rfl rfl rfl (by omega)) rfl ?_
 rw [show (Value.slice (some (if cap = (i : Int).toNat then (⟨g,0,none⟩ : Addr) else ⟨g,0 + (i : Int).toNat * 3,none⟩)) (((l.length + 1 : Nat) : Int).toNat - (i : Int).toNat) (cap - (i : Int).toNat)) = .slice (some ⟨g,0 + (i) * 3,none⟩) (l.length + 1 - (i)) (cap - (i)) from by rw [if_neg (by omega),show (i : Int).toNat = i from by omega]; rfl]
 refine .mv rfl rfl ?_
 replace hvb := hvb.upd hu4 hne
 have hcl4 : (List.take (0 + (i + 1) * 3) (encs gc l ++ sp)).length = (i + 1) * 3 := by rw [List.length_take,List.length_append,hll]; omega
 have e4 : (encs gc (l.drop i)).take ((l.length + 1 - i) * 3) = encs gc (l.drop i) := List.take_of_length_le (by rw [hdl]; exact Nat.mul_le_mul_right _ (by omega))
 rw [hmin2,hcs2,e4] at hv4
 have hmin1 : min 1 (l.length + 1 - i) = 1 := by omega
 have hfit3 : 0 + i * 3 + min 1 (l.length + 1 - i) * 3 ≤ (List.take (0 + (i + 1) * 3) (encs gc l ++ sp) ++ encs gc (l.drop i) ++ List.drop (0 + (i + 1) * 3 + (l.length - i) * 3) (encs gc l ++ sp)).length := by
  rw [hmin1,List.length_append,List.length_append,hcl4,hdl]; omega
 refine Rg.wd trivial (w_copyT Tryz.underlying23 ty25 hv4 rfl rfl (slc_var hvb rfl) hfit3 (fun u hu => gc_one x u (List.mem_of_mem_take hu))) rfl ?_
 rintro _ w5 ⟨hu5,hv5⟩
 refine .done (.sr (.mv rfl rfl (.as rfl rfl (.done (Wp.ret ?_)))))
 rw [hmin1] at hv5
 have ea : (List.take (0 + (i + 1) * 3) (encs gc l ++ sp) ++ encs gc (l.drop i) ++ List.drop (0 + (i + 1) * 3 + (l.length - i) * 3) (encs gc l ++ sp)).take (0 + i * 3) = encs gc (l.take i) := by
  rw [List.append_assoc,List.take_append_of_le_length (by rw [hcl4]; omega),List.take_take,Nat.min_eq_left (by omega),Nat.zero_add,encs_take_all gc_len l sp i (by omega)]
 have eb : (List.take (0 + (i + 1) * 3) (encs gc l ++ sp) ++ encs gc (l.drop i) ++ List.drop (0 + (i + 1) * 3 + (l.length - i) * 3) (encs gc l ++ sp)).drop (0 + i * 3 + 1 * 3) = encs gc (l.drop i) ++ List.drop (0 + (i + 1) * 3 + (l.length - i) * 3) (encs gc l ++ sp) := by
  rw [List.append_assoc,show 0 + i * 3 + 1 * 3 = (i + 1) * 3 from by rw [hi1]; omega,List.drop_left' hcl4]
 rw [ea,eb,List.take_of_length_le (show (gc x).length ≤ 1 * 3 from by rw [gc_len]; omega),← List.append_assoc,← insert1_encs] at hv5
 refine ⟨[_],⟨rfl,trivial⟩,?_,((hko.trans (Bw.upd hu4 fun hh => hh.2 rfl)).trans (Bw.upd hu5 fun hh => hh.2 rfl)).sub (fun z hz => ⟨hz.1,fun e => hz.2 (by rw [e]; rfl)⟩),fun b hb => .inl (by injection hb with hb; exact hb.symm)⟩
 refine whole_ownG hg (by rw [encs_len gc_len,insert1_length]) hrm hmx ?_ hv5
 rw [List.length_drop,List.length_append,hll]
 have : (cap - (l.length + 1)) * 3 = cap * 3 - (l.length + 1) * 3 := Nat.mul_sub_right_distrib _ _ _
 omega
def conv : Gt → G3
 | .mk k t (.slice p n c) _ => (k,t,p,n,c)
 | .mk k t _ _ => (k,t,none,0,0)
theorem conv_cells {F : Fs} {w : World} {g : Gt} (h : GOk F w g) : gc (conv g) = g.cells := by
 cases h with
 | mk hs h1 h2 h3 =>
  obtain ⟨_,p,cap,e,_⟩ := hs
  subst e
  rfl
theorem conv_encs {F : Fs} {w : World} {l : List Gt} (h : ∀ g ∈ l,GOk F w g) : encs gc (l.map conv) = encs Gt.cells l := by
 induction l with
 | nil => rfl
 | cons g l ih =>
  show gc (conv g) ++ encs gc (l.map conv) = g.cells ++ encs Gt.cells l
  rw [conv_cells (h g List.mem_cons_self),ih fun x hx => h x (List.mem_cons_of_mem _ hx)]
theorem insert1_map {α β : Type} (f : α → β) (l : List α) (i : Nat) (x : α) : (insert1 l i x).map f = insert1 (l.map f) i (f x) := by simp [insert1,List.map_take,List.map_drop]
theorem insertT_ok {w : World} {Q : Fs} {vb : Nat} {cv : Value} {kl : List Gt} {i : Nat} (ho : w.ownsRow 0 25 3 cv kl.length (encs Gt.cells kl)) (hok : ∀ g ∈ kl,GOk Q w g) (hl : kl.length ≤ 1000000000) (hi : i < kl.length) (hvb : Var w vb [.int .i64 0,.string nob,.slice none 0 0] 25) (hne : some vb ≠ cv.ownBlock) :
  Cl Tryz.prog 138 #[cv,.int .i64 i,.slice (some ⟨vb,0,none⟩) 1 1] w (fun u w' => w'.ownsRow 0 25 3 u (kl.length + 1) (encs Gt.cells (insert1 kl i (.mk 0 nob (.slice none 0 0) []))) ∧ Bw (fun z => z < w.heap.size ∧ some z ≠ u.ownBlock) w w' ∧ (∀ b,u.ownBlock = some b → cv.ownBlock = some b ∨ w.heap.size ≤ b)) := by
 rcases own_wholeG ho with ⟨_,h0⟩ | ⟨g,cap,sp,rfl,hg,hcap,hmx,hsp,hv⟩
 ·omega
 have e1 : encs gc (kl.map conv) = encs Gt.cells kl := conv_encs hok
 have hleaf : GOk Q w (.mk 0 nob (.slice none 0 0) []) := .mk ⟨by simp [encs],none,0,rfl,Nat.le_refl _,.inl rfl⟩ rfl (fun b hb => by cases hb) fun g hg => by cases hg
 have e2 : encs gc (insert1 (kl.map conv) i (0,nob,none,0,0)) = encs Gt.cells (insert1 kl i (.mk 0 nob (.slice none 0 0) [])) := by
  rw [← conv_encs (F := Q) (w := w) (l := insert1 kl i (.mk 0 nob (.slice none 0 0) [])),insert1_map]
  ·rfl
  ·intro g hg
   simp only [insert1,List.mem_append,List.mem_cons] at hg
   rcases hg with hg | rfl | hg
   ·exact hok g (List.mem_of_mem_take hg)
   ·exact hleaf
   ·exact hok g (List.mem_of_mem_drop hg)
 have hlm : (kl.map conv).length = kl.length := List.length_map _
 have hng : vb ≠ g := fun e => hne (by rw [e]; rfl)
 by_cases hr : kl.length + 1 ≤ cap
 ·have := insertTR_ok (B := 0) (x := (0,nob,none,0,0)) hg (by rw [hlm]; exact hcap) hmx (by rw [hlm]; exact hsp) (by rw [e1]; exact hv) (Nat.zero_le _) (by rw [hlm]; exact hl) hvb (by rw [hlm]; exact hi) (by rw [hlm]; exact hr) hng
  rw [hlm] at this
  exact this.mono fun u w' ⟨a,b,c⟩ => ⟨e2 ▸ a,b,fun z hz => (c z hz).imp (fun e => by rw [e]; rfl) id⟩
 ·have := insertTG_ok (B := 0) (x := (0,nob,none,0,0)) hg (by rw [hlm]; exact hcap) hmx (by rw [hlm]; exact hsp) (by rw [e1]; exact hv) (Nat.zero_le _) (by rw [hlm]; exact hl) hvb (by rw [hlm]; exact hi) (by rw [hlm]; omega) hng
  rw [hlm] at this
  exact this.mono fun u w' ⟨a,b,c⟩ => ⟨e2 ▸ a,b,fun z hz => (c z hz).imp (fun e => by rw [e]; rfl) id⟩
end Go.Proofs.YtcelfjbajdffkaaGreatDoor.Par
namespace Go.Proofs.YtcelfjbajdffkaaGreatDoor.Par
set_option maxRecDepth 20000
open Go.Gx Go.RowKit Go.Lib
open Lexi (Asc)
section
variable {w0 : World} {tv : Value} {toks : List Tok} {F : Fs} {w w' : World} {bP : Nat} {below : List (Int × List Tr)} {k : Int} {s r : S} {n : Nat}
theorem run_before' {n : Nat} {s r : S} (h : run body n .before s = some r) : ∃ l t,s.kids = l ++ [t] ∧ r = { s with kids := l ++ [.leaf 0,t],adds := s.adds + 1 } := by
 have key : ∀ rec,runC body rec .before s = some r → ∃ l t,s.kids = l ++ [t] ∧ r = { s with kids := l ++ [.leaf 0,t],adds := s.adds + 1 } := fun rec h => by
  simp only [runC] at h
  split at h
  ·rename_i t ht
   have hne : s.kids ≠ [] := fun e => by rw [e] at ht; cases ht
   refine ⟨s.kids.dropLast,t,?_,(Option.some.inj h).symm⟩
   have := List.dropLast_concat_getLast hne
   rw [List.getLast?_eq_some_getLast hne] at ht
   rw [← Option.some.inj ht]
   exact this.symm
  ·cases h
 cases n <;> exact key _ h
theorem insert1_last {α : Type} (l : List α) (t x : α) : insert1 (l ++ [t]) ((l ++ [t]).length - 1) x = l ++ [x,t] := by
 unfold insert1
 rw [show (l ++ [t]).length - 1 = l.length by simp,List.take_left' rfl,List.drop_left' rfl]
theorem TopRow.whole {gs np caps pos : Nat} {cv : Value} {kl : List Gt} {Q : Fs} {old : List Value} (h : TopRow w0 tv toks F w bP below k s gs np caps pos cv kl Q old) (hne : s.kids ≠ []) : ∃ gk capk,cv = .slice (some ⟨gk,0,none⟩) kl.length capk ∧ 0 < kl.length := by
 have hkn : kl ≠ [] := fun e => hne (by rw [← h.er,e]; rfl)
 have hpos : 0 < kl.length := List.length_pos_iff.2 hkn
 rcases own_wholeG h.own with ⟨_,h0⟩ | ⟨gk,capk,spk,ek,_,gk1,gk2,gk3,hK⟩
 ·omega
 exact ⟨gk,capk,ek,hpos⟩
theorem gok_leaf {Q : Fs} {w : World} : GOk Q w (.mk 0 nob (.slice none 0 0) []) := .mk ⟨by simp [encs],none,0,rfl,Nat.le_refl _,.inl rfl⟩ rfl (fun b hb => by cases hb) fun g hg => by cases hg
theorem insert1_mem {α : Type} {l : List α} {i : Nat} {x g : α} (h : g ∈ insert1 l i x) : g ∈ l ∨ g = x := by
 simp only [insert1,List.mem_append,List.mem_cons] at h
 rcases h with h | h | h
 ·exact .inl (List.mem_of_mem_take h)
 ·exact .inr h
 ·exact .inl (List.mem_of_mem_drop h)
theorem N_impl (hC : Cx w0 tv toks) (hD : ∀ m,m < n → DN w0 tv toks m) (hp : Ps w0 tv toks F w bP below k s) (hr : run body n (body .impl) s = some r) (hb : r.adds ≤ big) :
  Cl Tryz.prog 109 #[.pointer (some ⟨bP,0,none⟩)] w (fun u w' => (Nm.impl = Nm.statement → u = .bool r.flag) ∧ Ps w0 tv toks F w' bP below k r ∧ Bw F w w') := by
 have hbw := Bw.refl F w
 have hsub : ∀ z,F z → F z := fun z h => h
 have hbase := hp.base
 have hr : run body n (.seq (.call .typeParams) (.seq (.call .typeExpr) (.seq (.cond (at1 [⟨#[102,111,114]⟩]) (.seq .bump (.call .typeExpr)) .before) (.call .members)))) s = some r := hr
 refine Cl.enter Tryz.func109 rfl Tryz.ntmps109 rfl rfl (.sr (.mv rfl rfl ?_))
 obtain ⟨s1,h1a,h1b⟩ := run_seq' hr
 refine Rg.wd trivial (w_call Tryz.call126 rfl (D_call hD hp h1a (adds_le h1b hb))) rfl ?_
 rintro _ w1 ⟨hst,hp1,hb1⟩
 replace hbw := hbw.trans (hb1.sub hsub)
 clear hp
 have hp := hp1
 clear hp1
 refine .done (.sr (.mv rfl rfl ?_))
 obtain ⟨s2,h2a,h2b⟩ := run_seq' h1b
 refine Rg.wd trivial (w_call Tryz.call111 rfl (D_call hD hp h2a (adds_le h2b hb))) rfl ?_
 rintro _ w2 ⟨hst,hp1,hb2⟩
 replace hbw := hbw.trans (hb2.sub hsub)
 clear hp
 have hp := hp1
 clear hp1
 refine .done ?_
 obtain ⟨s3,h3a,h3b⟩ := run_seq' h2b
 refine .seq ?_
 cases haq1 : (isAt [⟨#[102,111,114]⟩] (sig1 s2.rem)) with
 | true =>
  have hq2 := run_condT h3a haq1
  refine .sr (.mv rfl rfl (Rg.wd trivial (w_buildSlice (bs124_1 _) rfl) rfl ?_))
  rintro _ w3 ⟨bt9,rfl,qt9,hx3,hvt9⟩
  replace hbw := hbw.trans (Bw.of hx3 fun z hz => hp.und z (hsub z hz))
  replace hp := hp.extw hx3
  obtain ⟨s4,h4a,h4b⟩ := run_seq' hq2
  obtain rfl := run_bump' h4a
  refine Rg.wd trivial (w_call Tryz.call54 rfl (acc_T hC hp (texts := [⟨#[102,111,114]⟩]) hvt9 (by decide) haq1 (adds_le h4b (adds_le h3b hb)))) rfl ?_
  rintro _ w4 ⟨rfl,hp1,hb4⟩
  replace hbw := hbw.trans (hb4.sub hsub)
  clear hp
  have hp := hp1
  clear hp1
  refine .done (.condT rfl (Wp.region (.mv rfl rfl (Rg.wd trivial (w_call Tryz.call111 rfl (D_call hD hp h4b (adds_le h3b hb))) rfl ?_))))
  rintro _ w5 ⟨hst,hp1,hb5⟩
  replace hbw := hbw.trans (hb5.sub hsub)
  clear hp
  have hp := hp1
  clear hp1
  refine .done (Wp.region (.mv rfl rfl (Rg.wd trivial (w_call Tryz.call108 rfl (D_call hD hp h3b hb)) rfl ?_)))
  rintro _ w6 ⟨hst,hp1,hb6⟩
  replace hbw := hbw.trans (hb6.sub hsub)
  clear hp
  have hp := hp1
  clear hp1
  refine .done ?_
  exact ⟨[],trivial,(fun h => by cases h),hp.sub hsub hbase,hbw⟩
 | false =>
  have hq2 := run_condF h3a haq1
  refine .sr (.mv rfl rfl (Rg.wd trivial (w_buildSlice (bs124_1 _) rfl) rfl ?_))
  rintro _ w3 ⟨bt9,rfl,qt9,hx3,hvt9⟩
  replace hbw := hbw.trans (Bw.of hx3 fun z hz => hp.und z (hsub z hz))
  replace hp := hp.extw hx3
  refine Rg.wd trivial (w_call Tryz.call54 rfl (acc_F hC hp (texts := [⟨#[102,111,114]⟩]) hvt9 (by decide) haq1)) rfl ?_
  rintro _ w4 ⟨rfl,hp1,hb4⟩
  replace hbw := hbw.trans (hb4.sub hsub)
  clear hp
  have hp := hp1
  clear hp1
  refine .done (.condF rfl ?_)
  have hqk : s2.kids ≠ [] := by
   obtain ⟨lz,tz,e1,_⟩ := run_before' hq2
   rw [e1]
   simp
  have hqb2 : s2.adds ≤ 1000000000 := adds_le hq2 (adds_le h3b hb)
  refine Wp.seq (Wp.draw [0,1,2,3,4,5,6,7,8,9,10,11] [] mixed (by kernel_rfl) (by kernel_rfl) ?_)
  intro w5 hx5 _
  replace hbw := hbw.trans (Bw.of hx5 fun z hz => hp.und z (hsub z hz))
  replace hp := hp.extw hx5
  obtain ⟨gs,np,caps,ppos,cvk,kl,Q,old,tr⟩ := hp.topRow
  obtain ⟨gk,capk,rfl,hkpos⟩ := tr.whole hqk
  have trcap := tr.cap
  have trs := tr.small
  have trf := tr.few
  have trc := tr.cell
  refine .mv rfl rfl (.tq (t_nilCheck rfl) rfl (.tq (t_fieldAddr fa62_2 rfl) rfl (.tq (t_load ty23 rfl (Cells.get (i := 2) tr.var.cells rfl)) rfl (.mv rfl rfl (.tq (t_nilCheck rfl) rfl (.tq (t_fieldAddr fa62_2 rfl) rfl (.tq (t_load ty23 rfl (Cells.get (i := 2) tr.var.cells rfl)) rfl (.tq (t_lenS Tryz.underlying23 rfl) rfl ?_))))))))
  refine .tq (t_subI rfl rfl (by omega)) rfl ?_
  refine .tq (t_indexAddrL Tryz.underlying23 ty25 rfl rfl (by omega)) rfl ?_
  refine .as rfl rfl (.done (.sr (.mv rfl rfl (.tq (t_nilCheck rfl) rfl (.tq (t_fieldAddr fa25_2 rfl) rfl (.tq (t_load ty23 rfl trc) rfl (.tq (t_lenS Tryz.underlying23 rfl) rfl ?_)))))))
  refine .tq (t_subI rfl rfl (by omega)) rfl ?_
  rw [show ((kl.length : Int) - 1) = ((kl.length - 1 : Nat) : Int) from by omega]
  refine .as rfl rfl (.done ?_)
  have hb0 := hbw
  refine Wp.region (.mv rfl rfl (.mv rfl rfl (.tq (t_nilCheck rfl) rfl (.tq (t_fieldAddr fa25_2 rfl) rfl (.tq (t_load ty23 rfl trc) rfl (.mv rfl rfl (.tq (t_build (bd25_0 _) rfl) rfl (Rg.wd trivial (w_buildSlice (bs23_1 _ _ _ _ _) rfl) rfl ?_))))))))
  rintro _ w6 ⟨vb,rfl,qvb,hx6,hvb⟩
  have hgl := tr.row.lt
  have hvl := hvb.lt
  have hkb : gk < vb ∨ True := .inr trivial
  replace hbw := hbw.trans (Bw.of hx6 fun z hz => hp.und z (hsub z hz))
  have hownW := own_ext tr.own hx6
  have hokW : ∀ g ∈ kl,GOk Q w6 g := fun g hg => (tr.ok g hg).bw (Bw.of hx6 tr.undQ) fun z hz => hz
  have hneb : some vb ≠ (Value.slice (some ⟨gk,0,none⟩) kl.length capk).ownBlock := fun e => by
   injection e with e
   have e : vb = gk := e
   have h5 : gk < _ := own_lt tr.own (b := gk) rfl
   omega
  have hpB := hp.extw hx6
  refine Rg.wd trivial (w_call Tryz.call138 rfl (insertT_ok hownW hokW (by omega) (by omega) hvb hneb)) rfl ?_
  rintro u5 w7 ⟨hi1,hi2,hi3⟩
  have hgsu : some gs ≠ u5.ownBlock := fun e => (hi3 gs e.symm).elim (fun h => tr.nk h.symm) fun h => by have := hx6.le; omega
  have hrow5 : Var w7 gs old 25 := var_bw (tr.row.ext hx6) hi2 ⟨Nat.lt_of_lt_of_le hgl hx6.le,hgsu⟩
  obtain ⟨p5,n5,c5,rfl⟩ : ∃ p n c,u5 = .slice p n c := by
   rcases own_wholeG hi1 with ⟨e,h0⟩ | ⟨g5,c5,s5,e,_⟩
   ·omega
   ·exact ⟨_,_,_,e⟩
  have hu1 : (Value.slice p5 n5 c5).oneCell' = true := rfl
  refine .tq (t_nilCheck rfl) rfl (.tq (t_fieldAddr fa25_2 rfl) rfl ?_)
  have hoS : 0 + (((np + 1 : Nat) : Int) - 1).toNat * 3 + 2 = np * 3 + 2 := by omega
  have trl := tr.len
  refine Rg.wn trivial (w_putAt (cs := [.slice p5 n5 c5]) hrow5 rfl rfl rfl ty23 (by rw [hoS]; simp only [List.length_singleton]; omega) (by intro u hu; simp at hu; subst hu; exact hu1)) ?_
  rintro _ w8 ⟨hu8,hvS⟩
  rw [hoS] at hvS
  have hbT : Bw (fun z => (z < w5.heap.size ∧ some z ≠ (Value.slice p5 n5 c5).ownBlock) ∧ z ≠ gs) w5 w8 := ((Bw.of hx6 fun z hz => hz.1.1).trans (hi2.sub fun z hz => ⟨Nat.lt_of_lt_of_le hz.1.1 hx6.le,hz.1.2⟩)).trans (Bw.upd hu8 fun hh => hh.2 rfl)
  obtain ⟨hpd,hbd⟩ := tr.next w8 (.slice p5 n5 c5) (insert1 kl (kl.length - 1) (.mk 0 nob (.slice none 0 0) [])) _ (s2.adds + 1) hbT (fun z h1 h2 h3 => ⟨⟨h1,h3⟩,h2⟩) hvS (by rw [insert1_length]; exact own_bw hi1 (Bw.upd (F := fun z => z ≠ gs) hu8 fun hh => hh rfl) fun b hb e => hgsu (by rw [← e,hb])) (fun b hb => (hi3 b hb).imp id fun h => Nat.le_trans hx6.le h) (fun t ht => (insert1_mem ht).elim (tr.ok t) fun e => e ▸ gok_leaf) (Nat.le_succ _) (by rw [insert1_length]; omega)
  have hp1 : Ps w0 tv toks F w8 bP below k s3 := by
   obtain ⟨lz,tz,e1,e2⟩ := run_before' hq2
   have e3 : erL (insert1 kl (kl.length - 1) (.mk 0 nob (.slice none 0 0) [])) = lz ++ [.leaf 0,tz] := by
    rw [erL_map,insert1_map,← erL_map,tr.er,e1,show kl.length - 1 = (lz ++ [tz]).length - 1 from by rw [← e1,← tr.er,erL_map,List.length_map],insert1_last]
    rfl
   rw [e2,← e3]
   exact hpd
  replace hbw := (hb0.trans (hbd.sub hsub))
  clear hp hpB
  have hp := hp1
  clear hp1
  refine .done (Wp.region (.mv rfl rfl (Rg.wd trivial (w_call Tryz.call108 rfl (D_call hD hp h3b hb)) rfl ?_)))
  rintro _ w9 ⟨hst,hp1,hb9⟩
  replace hbw := hbw.trans (hb9.sub hsub)
  clear hp
  have hp := hp1
  clear hp1
  refine .done ?_
  exact ⟨[],trivial,(fun h => by cases h),hp.sub hsub hbase,hbw⟩
end
end Go.Proofs.YtcelfjbajdffkaaGreatDoor.Par
namespace Go.Proofs.YtcelfjbajdffkaaGreatDoor.Par
set_option maxRecDepth 20000
open Go.Gx Go.RowKit Go.Lib
open Lexi (Asc)
section
variable {w0 : World} {tv : Value} {toks : List Tok}
theorem binary_none {l : Nat} (hl : 6 ≤ l) : ∀ (m : Nat) (s r : S),run body m (body (.binary l)) s = some r → False := by
 intro m
 induction m using Nat.strongRecOn generalizing l with
 | _ m ih =>
  intro s r h
  have h : run body m (.seq (.call (.binary (l + 1))) (if l = 2 then .cond (at1 (ops l)) (.wrap 39 (.seq .bump (.call (.binary (l + 1))))) .skip else .loop (at1 (ops l)) (.wrap 39 (.seq .bump (.call (.binary (l + 1))))))) s = some r := by
   have e : body (.binary l) = .seq (.call (.binary (l + 1))) (if l = 2 then .cond (at1 (ops l)) (.wrap 39 (.seq .bump (.call (.binary (l + 1))))) .skip else .loop (at1 (ops l)) (.wrap 39 (.seq .bump (.call (.binary (l + 1)))))) := by
    show (if l = 5 then _ else _) = _
    rw [if_neg (by omega)]
   rw [e] at h
   exact h
  obtain ⟨s1,h1,_⟩ := run_seq' h
  obtain ⟨m',hm,h2⟩ := run_call' h1
  exact ih m' hm (l := l + 1) (by omega) s s1 h2
theorem DN_all (hC : Cx w0 tv toks) : ∀ m,DN w0 tv toks m := by
 intro m
 induction m using Nat.strongRecOn with
 | _ m ih =>
  intro x F w bP below k s r hp hr hb
  cases x with
  | block => exact N_block hC ih hp hr hb
  | statement => exact N_statement hC ih hp hr hb
  | letS => exact N_letS hC ih hp hr hb
  | returnS => exact N_returnS hC ih hp hr hb
  | unary => exact N_unary hC ih hp hr hb
  | arguments => exact N_arguments hC ih hp hr hb
  | postE => exact N_postE hC ih hp hr hb
  | primary => exact N_primary hC ih hp hr hb
  | ifExpr => exact N_ifExpr hC ih hp hr hb
  | matchE => exact N_matchE hC ih hp hr hb
  | structLit => exact N_structLit hC ih hp hr hb
  | lambda => exact N_lambda hC ih hp hr hb
  | pattern => exact N_pattern hC ih hp hr hb
  | item => exact N_item hC ih hp hr hb
  | skipTo => exact N_skipTo hC ih hp hr hb
  | use => exact N_use hC ih hp hr hb
  | typeParams => exact N_typeParams hC ih hp hr hb
  | typeParam => exact N_typeParam hC ih hp hr hb
  | members => exact N_members hC ih hp hr hb
  | impl => exact N_impl hC ih hp hr hb
  | typeExpr => exact N_typeExpr hC ih hp hr hb
  | itemBody kd => exact N_itemBody hC ih hp hr hb
  | params cl => exact N_params hC ih hp hr hb
  | dataType kd => exact N_dataType hC ih hp hr hb
  | function b => cases b with
   | true => exact N_function_true hC ih hp hr hb
   | false => exact N_function_false hC ih hp hr hb
  | path b => cases b with
   | true => exact N_path_true hC ih hp hr hb
   | false => exact N_path_false hC ih hp hr hb
  | binary l =>
   match l,hr with
   | 0,hr => exact N_binary_0 hC ih hp hr hb
   | 1,hr => exact N_binary_1 hC ih hp hr hb
   | 2,hr => exact N_binary_2 hC ih hp hr hb
   | 3,hr => exact N_binary_3 hC ih hp hr hb
   | 4,hr => exact N_binary_4 hC ih hp hr hb
   | 5,hr => exact N_binary_5 hC ih hp hr hb
   | l + 6,hr => exact (binary_none (by omega) m s r hr).elim
end
end Go.Proofs.YtcelfjbajdffkaaGreatDoor.Par
namespace Go.Proofs.YtcelfjbajdffkaaGreatDoor.Par
set_option maxRecDepth 20000
open Go.Gx Go.RowKit Go.Lib
open Lexi (Asc)
theorem lv_agg {w : World} {b t : Nat} {cs : List Value} {t0 : TypeId} (h : Var w b cs t) (ht : Ty Tryz.prog t0 cs.length true) : (loadVar t0 ⟨b,0,none⟩).run Tryz.prog w = .ok (.agg cs.toArray) w := by
 have hl : (loadCells ⟨b,0,none⟩ cs.length).run Tryz.prog w = .ok cs.toArray w := run_loadCells_list (P := Tryz.prog) w ⟨b,0,none⟩ cs (fun j v hv => by
  rw [addr_add]; exact h.cells j v hv)
 simp [loadVar,ht.ag,ht.sz,hl]
def Parsed (s : ByteArray) (t : Tr) : Prop := ∃ n r,run body n file ⟨Lexi.toks s,[],false,0⟩ = some r ∧ t = .mk 1 nob r.kids
theorem Parsed.unique {s : ByteArray} {t u : Tr} (h : Parsed s t) (h' : Parsed s u) : t = u := by
 obtain ⟨n,r,h1,rfl⟩ := h
 obtain ⟨m,q,h2,rfl⟩ := h'
 rw [run_unique h1 h2]
theorem tok_kind (s : ByteArray) : 100 < (Lexi.tok s).2 := by
 unfold Lexi.tok
 repeat' split
 all_goals first | exact (by decide : (100 : Int) < 101) | exact (by decide : (100 : Int) < 102) | exact (by decide : (100 : Int) < 103) | exact (by decide : (100 : Int) < 104) | exact (by decide : (100 : Int) < 105) | exact (by decide : (100 : Int) < 106) | exact (by decide : (100 : Int) < 107) | exact (by decide : (100 : Int) < 108) | (show (100 : Int) < ite _ _ _; split <;> decide)
theorem toks_kind : ∀ s : ByteArray,∀ t ∈ Lexi.toks s,100 < t.1 := Lexi.induct_size fun s ih t ht => by
 rcases Nat.eq_zero_or_pos s.size with h | h
 ·rw [Lexi.toks_nil h] at ht
  cases ht
 ·rw [Lexi.toks_cons h] at ht
  rcases List.mem_cons.1 ht with rfl | ht
  ·exact tok_kind s
  ·refine ih _ ?_ t ht
   have := Lexi.tok_in h
   rw [Lexi.size_tail]
   omega
theorem toks_V (s : ByteArray) : V (Lexi.toks s) := fun t ht => ⟨Lexi.toks_full s t ht,toks_kind s t ht⟩
theorem tcs_encs (l : List Tok) : Lexi.tcs l = encs tokc l := by
 induction l with
 | nil => rfl
 | cons t l ih => show _ :: _ :: Lexi.tcs l = _ ++ encs tokc l; rw [ih]; rfl
theorem catT_data (l : List Tok) : (Lexi.catT l).data.toList = tt l := by
 induction l with
 | nil => rfl
 | cons t l ih => show (t.2 ++ Lexi.catT l).data.toList = _; rw [Lexi.list_app,ih]; rfl
theorem toks_tt (s : ByteArray) : tt (Lexi.toks s) = s.data.toList := by rw [← catT_data,Lexi.cat_toks]
theorem B_tt (l : List Tok) : B l = (tt l).length := by
 induction l with
 | nil => rfl
 | cons t l ih => simp only [B,tt,List.map_cons,List.sum_cons,List.flatMap_cons,List.length_append] at ih ⊢; rw [ih]; simp
theorem B_toks (s : ByteArray) : B (Lexi.toks s) = s.size := by rw [B_tt,toks_tt]; simp
theorem parsed (s : ByteArray) : ∃ r,Parsed s (.mk 1 nob r) ∧ txtL r = s.data.toList ∧ wfL r ∧ cntL r ≤ 24 * s.size ∧ depL r ≤ 2 * s.size + 7 := by
 obtain ⟨n,r,h1,h2,h3,h4,h5,h6,h7⟩ := file_ends (Lexi.toks s) (toks_V s)
 rw [B_toks] at h5 h7
 exact ⟨r.kids,⟨n,r,h1,rfl⟩,h3.trans (toks_tt s),h4,by omega,h7⟩
theorem past_eof {l : List Tok} (hv : V l) (h : (sig1 l).1 = 100) : past l = [] := by
 induction l with
 | nil => rfl
 | cons t l ih =>
  simp only [sig1,past] at h ⊢
  split at h
  ·rename_i ht
   rw [if_pos ht]
   exact ih (fun u hu => hv u (List.mem_cons_of_mem _ hu)) h
  ·have := (hv t List.mem_cons_self).2
   omega
theorem Ps.vals {w0 : World} {tv : Value} {toks : List Tok} {F : Fs} {w : World} {bP : Nat} {below : List (Int × List Tr)} {k : Int} {s : S} (hC : Cx w0 tv toks) (hp : Ps w0 tv toks F w bP below k s) : V s.rem := by
 obtain ⟨g,_,_,h2,_⟩ := hp
 rw [← h2]
 exact fun t ht => hC.val t (List.mem_of_mem_drop ht)
def ParseR (w : World) (s : ByteArray) (u : Value) (w' : World) : Prop := ∃ g : Gt,u = .tuple #[.agg g.cells.toArray,.int .i64 0] ∧ Parsed s g.er ∧ GOk (fun z => w.heap.size ≤ z ∧ z < w'.heap.size) w' g ∧ Ext w w'
theorem parse_ok {w : World} {s : ByteArray} (hs : s.size ≤ 2000) (hA : Asc w) : Cl Tryz.prog 10 #[.string s] w (ParseR w s) := by
 obtain ⟨nf,rf,hrun,hrem,_,_,hadd,_,_⟩ := file_ends (Lexi.toks s) (toks_V s)
 rw [B_toks] at hadd
 obtain ⟨s1,hloop,hbump⟩ := run_seq' hrun
 obtain rfl := run_bump' hbump
 have hbig : s1.bump.adds ≤ big := by show _ ≤ 1000000000; omega
 have hx := Ext.refl w
 refine Cl.enter Tryz.func10 rfl Tryz.ntmps10 rfl rfl (.sr (Rg.wd trivial (w_new Tryz.zeroValue25 rfl) rfl ?_))
 rintro _ w1 ⟨b2,rfl,q2,hx1,hv2⟩
 replace hx := hx.ext hx1
 have hl2 := hv2.lt
 refine .as rfl rfl (.done (.sr (.mv rfl rfl (Rg.wd trivial (w_call Tryz.call24 rfl (Lexi.tokenize_ok hs (hA.ext hx))) rfl ?_))))
 rintro _ w2 ⟨⟨tv,rfl,htv⟩,hx2⟩
 replace hx := hx.ext hx2
 replace hv2 := hv2.ext hx2
 refine .mv rfl rfl (.tq (t_extract rfl rfl) rfl (.tq (t_extract rfl rfl) rfl (.as rfl rfl (.as rfl rfl (.done (.seq (.sr (.mv rfl rfl (.tq (t_neqF rfl rfl rfl) rfl (.done (.condF rfl (Wp.skip ?_))))))))))))
 have hC : Cx w2 tv (Lexi.toks s) := ⟨hA.ext hx,by rw [← tcs_encs]; exact htv,by have := Lexi.toks_length s; omega,toks_V s⟩
 have hW2 := hx2.le
 obtain ⟨tp,tl,tcap,rfl⟩ : ∃ tp tl tcap,tv = .slice tp tl tcap := by
  obtain ⟨_,p,cap,e,_⟩ := htv
  exact ⟨p,_,cap,e⟩
 refine .sr (.mv rfl rfl (.tq (t_build (bd25_0 _) rfl) rfl (Rg.wd trivial (w_buildSlice (bs23_1 _ _ _ _ _) rfl) rfl ?_)))
 rintro _ w3 ⟨b18,rfl,q18,hx3,hv18⟩
 refine .tq (t_build (bd62_0_2 _ _ _ _ _ _) rfl) rfl (Rg.wd trivial (w_boxed rfl rfl) rfl ?_)
 rintro _ w4 ⟨b20,rfl,q20,hx4,hv20⟩
 have hl18 := hv18.lt
 have hp : Ps w2 (.slice tp tl tcap) (Lexi.toks s) (fun z => z < w2.heap.size) w4 b20 [] 1 ⟨Lexi.toks s,[],false,0⟩ := by
  refine ⟨⟨b20,.slice (some ⟨b18,0,none⟩) 1 1,0,[⟨1,.slice none 0 0,[]⟩],fun _ => False⟩,⟨hx3.ext hx4,fun z hz => hz,fun z hz => Nat.lt_of_lt_of_le hz (hx3.ext hx4).le,fun z hz => hz.elim,hv20,whole_ownG (sp := []) (Nat.zero_le _) rfl (Nat.le_refl _) (by decide) rfl (hv18.ext hx4),fun f hf => ?_,fun f hf t ht => ?_,?_,fun b hb => ⟨fun hF => ?_,fun h => h⟩,fun z _ h => h⟩,rfl,rfl,Nat.zero_le _,rfl,fun f hf => ?_,Nat.le_refl _⟩
  ·obtain rfl : f = ⟨1,.slice none 0 0,[]⟩ := by simpa using hf
   exact ⟨rfl,.inl ⟨rfl,rfl⟩⟩
  ·obtain rfl : f = ⟨1,.slice none 0 0,[]⟩ := by simpa using hf
   cases ht
  ·simp [Pg.muts,Value.ownBlock]
   omega
  ·have := hx3.le
   simp [Pg.muts,Value.ownBlock] at hb
   omega
  ·obtain rfl : f = ⟨1,.slice none 0 0,[]⟩ := by simpa using hf
   exact Nat.le_refl _
 clear hv18 hv20
 refine .as rfl rfl (.done (.seq (Wp.block ?_)))
 refine Wp.loop (ι := S × Nat) (fun _ => [(2,.pointer (some ⟨b2,0,none⟩)),(3,.int .i64 0),(6,.pointer (some ⟨b20,0,none⟩))])
  (fun i w' => Ps w2 (.slice tp tl tcap) (Lexi.toks s) (fun z => z < w2.heap.size) w' b20 [] 1 i.1 ∧ run body i.2 (.loop (fun t _ _ _ => t.1 != 100) (.call .item)) i.1 = some s1) (fun i => i.2) (⟨Lexi.toks s,[],false,0⟩,nf) (by repeat (first | exact .nil | refine .cons rfl ?_)) ⟨hp,hloop⟩ ?_
 clear hp
 rintro ⟨sc,m⟩ wl ⟨hp,hrl⟩
 simp only at hp hrl
 cases he : ((sig1 sc.rem).1 == 100) with
 | true =>
  have hval := hp.vals hC
  obtain rfl := run_loopF hrl (show S.test _ _ = false by simp only [S.test,bne,he]; rfl)
  refine .seq (.sr (.mv rfl rfl (Rg.wd trivial (w_call Tryz.call25 rfl (atEOF_ok hC hp)) rfl ?_)))
  rintro _ w5 ⟨rfl,hx5⟩
  replace hp := hp.extw hx5
  rw [he]
  refine .tq (t_notB rfl) rfl (.done (.condF rfl (Wp.exit (.sr (.mv rfl rfl ?_)))))
  refine Rg.wd trivial (w_call Tryz.call27 rfl (skipTrivia_ok hC hp (by rw [← bump_none (past_eof (hp.vals hC) (beq_iff_eq.1 he))]; exact hbig))) rfl ?_
  rintro _ w6 ⟨hp6,hb6⟩
  have hxp := Ps.ext hp6
  replace hv2 := hv2.ext hxp
  clear hp
  refine .done ?_
  obtain ⟨g,hW,e0,hd,hpos,hm,hks,hfl⟩ := hp6
  obtain ⟨gP,sv,pos,frs,Q⟩ := g
  simp only at e0 hd hpos hm hks hfl
  subst e0
  obtain ⟨f,rfl,em⟩ : ∃ f,frs = [f] ∧ (f.kind,erL f.kids) = (1,s1.skipT.kids) := by
   rcases frs with _ | ⟨f,_ | ⟨f2,l2⟩⟩
   ·simp at hm
   ·exact ⟨f,rfl,by simpa using hm⟩
   ·simp at hm
  obtain ⟨fk,cv,kl⟩ := f
  injection em with e3 e4
  simp only at e3 e4
  subst e3
  have hvar := hW.var
  simp only at hvar
  obtain ⟨gs,caps,sps,es,_,gs1,gs2,gs3,hS⟩ : ∃ gs caps sps,sv = .slice (some ⟨gs,0,none⟩) 1 caps ∧ 0 ≤ gs ∧ 1 ≤ caps ∧ caps ≤ maxLen ∧ sps.length = (caps - 1) * 3 ∧ Var w6 gs (encs Fr.cells [(⟨1,cv,kl⟩ : Fr)] ++ sps) 25 := by
   rcases own_wholeG hW.stk with ⟨_,h0⟩ | h
   ·simp at h0
   ·exact h
  subst es
  have hcell : Cells w6 gs (0 + (0 : Int).toNat * 3) [.int .i64 1,.string nob,cv] := by
   have := hS.cells.sub 0 3
   exact this
  have hown := hW.kid ⟨1,cv,kl⟩ (by simp)
  have hok := hW.ok ⟨1,cv,kl⟩ (by simp)
  have hoff := hW.off
  have hlt := hW.lt
  have hfq := hW.fq
  have hund := hW.undQ
  have h1c : cv.oneCell' = true := by
   rcases own_wholeG hown with ⟨e,_⟩ | ⟨_,_,_,e,_⟩ <;> (have e : cv = _ := e; rw [e]; rfl)
  refine .sr (.mv rfl rfl (.tq (t_nilCheck rfl) rfl (.tq (t_fieldAddr fa62_2 rfl) rfl (.tq (t_load ty23 rfl (Cells.get (i := 2) hvar.cells rfl)) rfl ?_))))
  refine .tq (t_indexAddrL Tryz.underlying23 ty25 rfl rfl (by decide)) rfl ?_
  refine .tq (t_loadA rfl hcell ty25) rfl ?_
  refine Rg.wn trivial (w_put hv2 rfl rfl rfl ty25 rfl (by simp only [List.all_cons,h1c,List.all_nil]; rfl)) ?_
  rintro _ w7 ⟨hu7,hv7⟩
  refine .as rfl rfl (.done (Wp.ret ?_))
  have hg : GOk (fun z => w.heap.size ≤ z ∧ z < w6.heap.size ∧ z ≠ b2) w6 (.mk 1 nob cv kl) := by
   have hw2 : w.heap.size ≤ w2.heap.size := hx.le
   have hge : ∀ z,¬ z < w2.heap.size → w.heap.size ≤ z ∧ z ≠ b2 := fun z hz => by
    have := hl2
    have := hx2.le
    omega
   refine .mk (own_slc hown) h1c (fun b hb => ?_) fun t ht => (hok t ht).mono fun z hz => ?_
   ·have hm2 : b ∈ Pg.muts ⟨gP,.slice (some ⟨gs,0,none⟩) 1 caps,pos,[⟨1,cv,kl⟩],Q⟩ := by simp [Pg.muts,hb]
    exact ⟨(hge b (hoff b hm2).1).1,hlt b hm2,(hge b (hoff b hm2).1).2⟩
   ·exact ⟨(hge z fun hF => hfq z hF hz).1,hund z hz,(hge z fun hF => hfq z hF hz).2⟩
  refine ⟨[_,_],⟨⟨_,rfl,lv_agg hv7 ty25⟩,rfl,trivial⟩,.mk 1 nob cv kl,rfl,⟨nf,_,hrun,?_⟩,((hg.bw (G := fun z => w.heap.size ≤ z ∧ z < w6.heap.size ∧ z ≠ b2) (Bw.upd hu7 fun hh => hh.2.2 rfl) fun z hz => hz).mono fun z hz => ⟨hz.1,?_⟩),?_⟩
  ·show Tr.mk 1 nob (erL kl) = .mk 1 nob s1.bump.kids
   rw [e4,bump_none (past_eof hval (beq_iff_eq.1 he))]
  ·rw [hu7.size]
   exact hz.2.1
  ·exact (hx.ext hxp).upd hu7 (by omega)
 | false =>
  obtain ⟨m1,s2,rfl,hbody,hrest⟩ := run_loopT hrl (show S.test _ _ = true by simp only [S.test,bne,he]; rfl)
  refine .seq (.sr (.mv rfl rfl (Rg.wd trivial (w_call Tryz.call25 rfl (atEOF_ok hC hp)) rfl ?_)))
  rintro _ w5 ⟨rfl,hx5⟩
  replace hp := hp.extw hx5
  rw [he]
  refine .tq (t_notB rfl) rfl (.done (.condT rfl (Wp.skip (Wp.block (Wp.region (.mv rfl rfl (Rg.wd trivial (w_call Tryz.call26 rfl (D_call (fun k _ => DN_all hC k) hp hbody (Nat.le_trans (run_adds hrest) (Nat.le_trans (Nat.le_add_right _ _) hbig)))) rfl ?_)))))))
  rintro _ w6 ⟨_,hp6,hb6⟩
  refine .done ?_
  exact ⟨(s2,m1),by repeat (first | exact .nil | refine .cons rfl ?_),⟨hp6,hrest⟩,by simp only; omega⟩
end Go.Proofs.YtcelfjbajdffkaaGreatDoor.Par
