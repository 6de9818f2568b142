/- The walks of slices.Insert at modules and at ints. Printed by r5/srvm.py. -/
import Derived.Test.YtliofpegbcegiaaGreatDoorXg
import Derived.Test.YtliofpegbcegiaaGreatDoorXb
import Derived.Test.YtliofpegbcegiaaGreatDoorXd
import Derived.Test.YtliofpegbcegiaaGreatDoorXn
set_option linter.unusedVariables false
set_option linter.unusedSimpArgs false
namespace Go.Proofs.YtliofpegbcegiaaGreatDoor
set_option maxRecDepth 20000
open Go.Gx Go.RowKit Go.Lib
def ei (x : Int) : List Value := [.int .i64 x]
theorem ei_len (x : Int) : (ei x).length = 1 := rfl
theorem ei_one (x : Int) : ∀ u ∈ ei x,u.oneCell' = true := by intro u hu; simp [ei] at hu; subst hu; rfl
theorem encs_ei (l : List Int) : encs ei l = l.map (.int .i64) := by
 induction l with
 | nil => rfl
 | cons a l ih => rw [show encs ei (a :: l) = ei a ++ encs ei l from List.flatMap_cons,ih]; rfl
theorem frozen_var {w : World} {b t : Nat} {cs : List Value} (h : Var w b cs t) (o : Nat) : w.frozen? ⟨b,o,none⟩ = false := by
 unfold Var at h
 unfold World.frozen?
 simp only [h]
 rw [decide_eq_false (Nat.not_lt_zero o),Bool.and_false]
theorem shape_var {w : World} {b t : Nat} {cs : List Value} (h : Var w b cs t) : w.shape? b = some (t,cs.length) := by
 unfold Var at h
 unfold World.shape?
 simp [h]
section
variable {α : Type} {f : α → List Value} {k : Nat}
theorem encs_drop_all (hf : ∀ a,(f a).length = k) (l : List α) (sp : List Value) (i : Nat) (hi : i ≤ l.length) : (encs f l ++ sp).drop (i * k) = encs f (l.drop i) ++ sp := by
 have hl := encs_len hf l
 rw [List.drop_append_of_le_length (by rw [hl]; exact Nat.mul_le_mul_right _ hi),encs_drop hf]
theorem encs_take_all (hf : ∀ a,(f a).length = k) (l : List α) (sp : List Value) (i : Nat) (hi : i ≤ l.length) : (encs f l ++ sp).take (i * k) = encs f (l.take i) := by
 have hl := encs_len hf l
 rw [List.take_append_of_le_length (by rw [hl]; exact Nat.mul_le_mul_right _ hi),encs_take hf]
theorem insert1_encs (l : List α) (i : Nat) (x : α) : encs f (insert1 l i x) = encs f (l.take i) ++ f x ++ encs f (l.drop i) := by
 unfold insert1
 rw [encs_append,show encs f (x :: l.drop i) = f x ++ encs f (l.drop i) from List.flatMap_cons,List.append_assoc]
end
theorem insertEndM_ok {w : World} {B vb : Nat} {v : Value} {l : List MD} {x : MD} {i : Nat} (ho : w.ownsRow B 52 2 v l.length (encs mc l)) (hB : B ≤ w.heap.size) (hl : l.length ≤ 1000) (hvb : Var w vb (mc x) 52) (hi : i = l.length) :
  Cl Tryz.prog 48 #[v,.int .i64 i,.slice (some ⟨vb,0,none⟩) 1 1] w (fun u w' => w'.ownsRow B 52 2 u (l.length + 1) (encs mc (insert1 l i x)) ∧ Ko 52 B w w') := by
 have hs0 := own_slice ho
 have hsv : SlC w (.slice (some ⟨vb,0,none⟩) 1 1) 2 1 (mc x) := slc_var hvb rfl
 obtain ⟨i0,hi0,hz0,hsi0,hby0⟩ := inf52
 subst hi
 refine Cl.enter Tryz.func48 rfl Tryz.ntmps48 rfl rfl ?_
 refine Wp.seq (Wp.region ?_)
 refine Rg.tm trivial rfl (t_assign rfl) rfl ?_
 refine Rg.done ?_
 refine Wp.seq (Wp.region ?_)
 refine Rg.tm trivial rfl (t_move rfl) rfl ?_
 refine Rg.tm trivial rfl (t_move rfl) rfl ?_
 refine Rg.sl hs0 trivial rfl Tryz.underlying49 ty52 rfl rfl (by omega) rfl ?_
 intro v12 hs12
 refine Rg.done ?_
 refine Wp.seq (Wp.region ?_)
 refine Rg.tm trivial rfl (t_move rfl) rfl ?_
 refine Rg.tm trivial rfl (t_lenS Tryz.underlying49 rfl) rfl ?_
 rw [show ((1 : Nat) : Int) = 1 from rfl]
 refine Rg.tm trivial rfl (t_assign rfl) rfl ?_
 refine Rg.done ?_
 refine Wp.seq ?_
 refine Wp.seq (Wp.region ?_)
 refine Rg.tm trivial rfl (t_move rfl) rfl ?_
 first | refine Rg.tm trivial rfl (t_eqlT rfl rfl (by omega)) rfl ?_ | refine Rg.tm trivial rfl (t_eqlF rfl rfl (by omega)) rfl ?_ | refine Rg.tm trivial rfl (t_eql rfl rfl) rfl ?_
 refine Rg.done ?_
 refine Wp.condF rfl ?_
 refine Wp.skip ?_
 refine Wp.seq (Wp.region ?_)
 refine Rg.tm trivial rfl (t_move rfl) rfl ?_
 refine Rg.tm trivial rfl (t_lenC hs0 Tryz.underlying49 rfl) rfl ?_
 refine Rg.tm trivial rfl (t_assign rfl) rfl ?_
 refine Rg.done ?_
 refine Wp.seq ?_
 refine Wp.seq (Wp.region ?_)
 refine Rg.tm trivial rfl (t_move rfl) rfl ?_
 refine Rg.tm trivial rfl (t_move rfl) rfl ?_
 first | refine Rg.tm trivial rfl (t_eqlT rfl rfl (by omega)) rfl ?_ | refine Rg.tm trivial rfl (t_eqlF rfl rfl (by omega)) rfl ?_ | refine Rg.tm trivial rfl (t_eql rfl rfl) rfl ?_
 refine Rg.done ?_
 refine Wp.condT rfl ?_
 refine Wp.seq (Wp.region ?_)
 refine Rg.tm trivial rfl (t_move rfl) rfl ?_
 refine Rg.tm trivial rfl (t_move rfl) rfl ?_
 refine Rg.wd trivial (w_appendC B Tryz.underlying49 hi0 hz0 hsi0 hby0 rfl (by decide) rfl rfl ho hsv (mc_one _) (by unfold maxLen; omega) (by omega) hB) rfl ?_
 rintro v25 w5 ⟨ho2,hgr,_⟩
 refine Rg.tm trivial rfl (t_assign rfl) rfl ?_
 refine Rg.done ?_
 refine Wp.ret ?_
 refine ⟨[_],⟨rfl,trivial⟩,?_,grown_ko ho hgr hB⟩
 rw [insert1_encs,List.take_length,List.drop_length,show encs mc [] = [] from rfl,List.append_nil]
 exact ho2
theorem insertMG_ok {w : World} {B vb g cap : Nat} {sp : List Value} {l : List MD} {x : MD} {i : Nat} (hg : B ≤ g) (hcap : l.length ≤ cap) (hmx : cap ≤ maxLen) (hsp : sp.length = (cap - l.length) * 2) (hv : Var w g (encs mc l ++ sp) 52) (hB : B ≤ w.heap.size) (hl : l.length ≤ 1000) (hvb : Var w vb (mc x) 52) (hi : i < l.length) (hrm : cap < l.length + 1) (hne : vb ≠ g) :
  Cl Tryz.prog 48 #[.slice (some ⟨g,0,none⟩) l.length cap,.int .i64 i,.slice (some ⟨vb,0,none⟩) 1 1] w (fun u w' => w'.ownsRow B 52 2 u (l.length + 1) (encs mc (insert1 l i x)) ∧ Ko 52 B w w') := by
 have hsv : SlC w (.slice (some ⟨vb,0,none⟩) 1 1) 2 1 (mc x) := slc_var hvb rfl
 have hmx' : cap ≤ 9223372036854775807 := hmx
 have hll := encs_len mc_len l
 obtain ⟨i0,hi0,hz0,hsi0,hby0⟩ := inf52
 have hxs : ∀ (w' : World) (a : Nat) (ys : List Value),Var w' g (encs mc l ++ ys) 52 → a ≤ l.length → SlC w' (.slice (some ⟨g,0 + a * 2,none⟩) (l.length - a) (cap - a)) 2 (l.length - a) (encs mc (l.drop a)) := fun w' a ys h ha => by
  refine ⟨by rw [encs_len mc_len,List.length_drop],_,_,rfl,by omega,.inr ⟨g,0 + a * 2,rfl,?_⟩⟩
  have := h.cells.sub (a * 2) ((encs mc (l.drop a)).length)
  rw [encs_drop_all mc_len l ys a ha,List.take_left' rfl] at this
  exact this
 have hst : SlC w (.slice (some ⟨g,0,none⟩) i cap) 2 i (encs mc (l.take i)) := by
  refine ⟨by rw [encs_len mc_len,List.length_take]; congr 1; omega,_,_,rfl,by omega,.inr ⟨g,0,rfl,?_⟩⟩
  have := hv.cells.sub 0 (i * 2)
  rw [List.drop_zero,encs_take_all mc_len l sp i (by omega)] at this
  exact this
 refine Cl.enter Tryz.func48 rfl Tryz.ntmps48 rfl rfl ?_
 refine Wp.seq (Wp.region ?_)
 refine Rg.tm trivial rfl (t_assign rfl) rfl ?_
 refine Rg.done ?_
 refine Wp.seq (Wp.region ?_)
 refine Rg.tm trivial rfl (t_move rfl) rfl ?_
 refine Rg.tm trivial rfl (t_move rfl) rfl ?_
 refine Rg.tm trivial rfl (t_sliceL Tryz.underlying49 ty52 rfl rfl rfl (by omega)) rfl ?_
 refine Rg.done ?_
 refine Wp.seq (Wp.region ?_)
 refine Rg.tm trivial rfl (t_move rfl) rfl ?_
 refine Rg.tm trivial rfl (t_lenS Tryz.underlying49 rfl) rfl ?_
 rw [show ((1 : Nat) : Int) = 1 from rfl]
 refine Rg.tm trivial rfl (t_assign rfl) rfl ?_
 refine Rg.done ?_
 refine Wp.seq ?_
 refine Wp.seq (Wp.region ?_)
 refine Rg.tm trivial rfl (t_move rfl) rfl ?_
 first | refine Rg.tm trivial rfl (t_eqlT rfl rfl (by omega)) rfl ?_ | refine Rg.tm trivial rfl (t_eqlF rfl rfl (by omega)) rfl ?_ | refine Rg.tm trivial rfl (t_eql rfl rfl) rfl ?_
 refine Rg.done ?_
 refine Wp.condF rfl ?_
 refine Wp.skip ?_
 refine Wp.seq (Wp.region ?_)
 refine Rg.tm trivial rfl (t_move rfl) rfl ?_
 refine Rg.tm trivial rfl (t_lenS Tryz.underlying49 rfl) rfl ?_
 refine Rg.tm trivial rfl (t_assign rfl) rfl ?_
 refine Rg.done ?_
 refine Wp.seq ?_
 refine Wp.seq (Wp.region ?_)
 refine Rg.tm trivial rfl (t_move rfl) rfl ?_
 refine Rg.tm trivial rfl (t_move rfl) rfl ?_
 first | refine Rg.tm trivial rfl (t_eqlT rfl rfl (by omega)) rfl ?_ | refine Rg.tm trivial rfl (t_eqlF rfl rfl (by omega)) rfl ?_ | refine Rg.tm trivial rfl (t_eql rfl rfl) rfl ?_
 refine Rg.done ?_
 refine Wp.condF rfl ?_
 refine Wp.skip ?_
 refine Wp.seq ?_
 refine Wp.seq (Wp.region ?_)
 refine Rg.tm trivial rfl (t_move rfl) rfl ?_
 refine Rg.tm trivial rfl (t_move rfl) rfl ?_
 refine Rg.tm trivial rfl (t_addI rfl rfl (by omega)) rfl ?_
 refine Rg.tm trivial rfl (t_move rfl) rfl ?_
 refine Rg.tm trivial rfl (t_capS Tryz.underlying49 rfl) rfl ?_
 first | refine Rg.tm trivial rfl (t_gtrT rfl rfl (by omega)) rfl ?_ | refine Rg.tm trivial rfl (t_gtrF rfl rfl (by omega)) rfl ?_ | refine Rg.tm trivial rfl (t_gtr rfl rfl) rfl ?_
 refine Rg.done ?_
 refine Wp.condT rfl ?_
 refine Wp.seq (Wp.region ?_)
 refine Rg.tm trivial rfl (t_move rfl) rfl ?_
 refine Rg.tm trivial rfl (t_move rfl) rfl ?_
 refine Rg.tm trivial rfl (t_sliceL Tryz.underlying49 ty52 rfl rfl rfl (by omega)) rfl ?_
 rw [show (Value.slice (some (if cap = (0 : Int).toNat then (⟨g,0,none⟩ : Addr) else ⟨g,0 + (0 : Int).toNat * 2,none⟩)) ((i : Int).toNat - (0 : Int).toNat) (cap - (0 : Int).toNat)) = .slice (some ⟨g,0,none⟩) i cap from by simp]
 refine Rg.tm trivial rfl (t_move rfl) rfl ?_
 refine Rg.tm trivial rfl (t_move rfl) rfl ?_
 refine Rg.tm trivial rfl (t_addI rfl rfl (by omega)) rfl ?_
 refine Rg.tm trivial rfl (t_move rfl) rfl ?_
 refine Rg.tm trivial rfl (t_subI rfl rfl (by omega)) rfl ?_
 rw [show ((l.length : Int) + 1 - i) = ((l.length + 1 - i : Nat) : Int) from by omega]
 refine Rg.wd trivial (w_appendZ Tryz.underlying49 Tryz.underlying3 hi0 hz0 hsi0 hby0 rfl rfl (by decide) rfl rfl hst (by omega) (by omega) (by unfold maxLen; omega) (by omega)) rfl ?_
 rintro v9 w1 ⟨hx,news,hnl,ho9⟩
 rw [show i + (l.length + 1 - i) = l.length + 1 from by omega] at ho9
 rcases own_wholeG ho9 with ⟨_,h0⟩ | ⟨g2,cap2,sp2,rfl,hg2,hcap2,hmx2,hsp2,hv2⟩
 ·omega
 have hmx2' : cap2 ≤ 9223372036854775807 := hmx2
 have htl : (encs mc (l.take i)).length = i * 2 := by rw [encs_len mc_len,List.length_take]; congr 1; omega
 have hlt2 := hv2.lt
 refine Rg.tm trivial rfl (t_assign rfl) rfl ?_
 refine Rg.done ?_
 refine Wp.seq (Wp.region ?_)
 refine Rg.tm trivial rfl (t_move rfl) rfl ?_
 refine Rg.tm trivial rfl (t_move rfl) rfl ?_
 refine Rg.tm trivial rfl (t_sliceL Tryz.underlying49 ty52 rfl rfl rfl (by omega)) rfl ?_
 rw [show (Value.slice (some (if cap2 = (i : Int).toNat then (⟨g2,0,none⟩ : Addr) else ⟨g2,0 + (i : Int).toNat * 2,none⟩)) (((l.length + 1 : Nat) : Int).toNat - (i : Int).toNat) (cap2 - (i : Int).toNat)) = .slice (some ⟨g2,0 + (i) * 2,none⟩) (l.length + 1 - (i)) (cap2 - (i)) from by rw [if_neg (by omega),show (i : Int).toNat = i from by omega]; rfl]
 refine Rg.tm trivial rfl (t_move rfl) rfl ?_
 have hmin1 : min 1 (l.length + 1 - i) = 1 := by omega
 have hfit : 0 + i * 2 + min 1 (l.length + 1 - i) * 2 ≤ (encs mc (l.take i) ++ news ++ sp2).length := by
  rw [hmin1,List.length_append,List.length_append,htl,hnl]; omega
 refine Rg.wd trivial (w_copyT Tryz.underlying49 ty52 hv2 rfl rfl (hsv.ext hx) hfit (fun u hu => mc_one x u (List.mem_of_mem_take hu))) rfl ?_
 rintro _ w2 ⟨hu2,hv3⟩
 have hx2 := hx.upd hu2 hg2
 rw [hmin1] at hv3
 replace hv := (hv.ext hx).upd hu2 (by have := hv.lt; omega)
 clear hv2
 refine Rg.done ?_
 refine Wp.seq (Wp.draw [0,1,2,3,4,5,6,7,8] [0] mixed (by kernel_rfl) (by kernel_rfl) ?_)
 intro w1 hx1 _
 have hx2 := Ext.tr hx2 hx1
 replace hv3 := hv3.ext hx1
 replace hv := hv.ext hx1
 refine Rg.tm trivial rfl (t_move rfl) rfl ?_
 refine Rg.tm trivial rfl (t_move rfl) rfl ?_
 refine Rg.tm trivial rfl (t_move rfl) rfl ?_
 refine Rg.tm trivial rfl (t_addI rfl rfl (by omega)) rfl ?_
 refine Rg.tm trivial rfl (t_sliceL Tryz.underlying49 ty52 rfl rfl rfl (by omega)) rfl ?_
 rw [show (Value.slice (some (if cap2 = ((i : Int) + 1 : Int).toNat then (⟨g2,0,none⟩ : Addr) else ⟨g2,0 + ((i : Int) + 1 : Int).toNat * 2,none⟩)) (((l.length + 1 : Nat) : Int).toNat - ((i : Int) + 1 : Int).toNat) (cap2 - ((i : Int) + 1 : Int).toNat)) = .slice (some ⟨g2,0 + (i + 1) * 2,none⟩) (l.length + 1 - (i + 1)) (cap2 - (i + 1)) from by rw [if_neg (by omega),show ((i : Int) + 1 : Int).toNat = i + 1 from by omega]; rfl]
 refine Rg.tm trivial rfl (t_move rfl) rfl ?_
 refine Rg.tm trivial rfl (t_move rfl) rfl ?_
 refine Rg.tm trivial rfl (t_sliceL Tryz.underlying49 ty52 rfl rfl rfl (by omega)) rfl ?_
 rw [show (Value.slice (some (if cap = (i : Int).toNat then (⟨g,0,none⟩ : Addr) else ⟨g,0 + (i : Int).toNat * 2,none⟩)) (((l.length : Nat) : Int).toNat - (i : Int).toNat) (cap - (i : Int).toNat)) = .slice (some ⟨g,0 + (i) * 2,none⟩) (l.length - (i)) (cap - (i)) from by rw [if_neg (by omega),show (i : Int).toNat = i from by omega]; rfl]
 have hmul : ∀ m,m * 2 = 2 * m := fun m => Nat.mul_comm _ _
 have hnl2 : news.length = 2 * (l.length + 1 - i) := by rw [hnl,hmul]
 have hsp22 : sp2.length = 2 * (cap2 - (l.length + 1)) := by rw [hsp2,hmul]
 have hfit54 : 0 + (i + 1) * 2 + min (l.length - i) (l.length + 1 - (i + 1)) * 2 ≤ (List.take (0 + i * 2) (encs mc (l.take i) ++ news ++ sp2) ++ List.take (1 * 2) (mc x) ++ List.drop (0 + i * 2 + 1 * 2) (encs mc (l.take i) ++ news ++ sp2)).length := by
  rw [List.length_append,List.length_append,List.length_take,List.length_take,List.length_drop,List.length_append,List.length_append,htl,hnl2,hsp22,mc_len,hmul,hmul,hmul]
  omega
 refine rg_wdC trivial rfl (w_copyT Tryz.underlying49 ty52 hv3 rfl rfl (hxs _ i sp hv (by omega)) hfit54 (fun u hu => encs_one mc_one _ u (List.mem_of_mem_take hu))) rfl (by rfl) ?_
 rintro _ w4 ⟨hu4,hv4⟩
 have hx4 := hx2.upd hu4 hg2
 refine Rg.done ?_
 refine Wp.seq (Wp.region ?_)
 refine Rg.tm trivial rfl (t_move rfl) rfl ?_
 refine Rg.tm trivial rfl (t_assign rfl) rfl ?_
 refine Rg.done ?_
 refine Wp.ret ?_
 refine ⟨[_],⟨rfl,trivial⟩,?_,hx4.ko hB⟩
 have hmin : min (l.length - i) (l.length + 1 - (i + 1)) = l.length - i := by omega
 rw [hmin] at hv4
 have hdl : (encs mc (l.drop i)).length = (l.length - i) * 2 := by rw [encs_len mc_len,List.length_drop]
 have e1 : (encs mc (l.take i) ++ news ++ sp2).take (0 + i * 2) = encs mc (l.take i) := by rw [Nat.zero_add,List.append_assoc,List.take_left' htl]
 have e2 : (mc x).take (1 * 2) = mc x := List.take_of_length_le (Nat.le_refl _)
 have e3 : (encs mc (l.take i) ++ mc x).length = (i + 1) * 2 := by rw [List.length_append,htl,mc_len,Nat.add_mul,Nat.one_mul]
 have e4 : (encs mc (l.drop i)).take ((l.length - i) * 2) = encs mc (l.drop i) := List.take_of_length_le (by rw [hdl]; exact Nat.le_refl _)
 rw [e1,e2,Nat.zero_add,List.take_left' e3,e4] at hv4
 obtain ⟨tl,htl2⟩ : ∃ tl,tl = (encs mc (l.take i) ++ mc x ++ (encs mc (l.take i) ++ news ++ sp2).drop (0 + i * 2 + 1 * 2)).drop ((i + 1) * 2 + (l.length - i) * 2) := ⟨_,rfl⟩
 rw [← htl2] at hv4
 refine whole_ownG (sp := tl) (Nat.le_trans hB hg2) (by rw [encs_len mc_len,insert1_length]) hcap2 hmx2 ?_ (by rw [insert1_encs]; exact hv4)
 rw [htl2]
 simp only [List.length_drop,List.length_append,htl,hnl,mc_len,hsp2]
 have h1 : (i + 1) * 2 + (l.length - i) * 2 = (l.length + 1) * 2 := by rw [← Nat.add_mul]; congr 1; omega
 omega
theorem insertMR_ok {w : World} {B vb g cap : Nat} {sp : List Value} {l : List MD} {x : MD} {i : Nat} (hg : B ≤ g) (hcap : l.length ≤ cap) (hmx : cap ≤ maxLen) (hsp : sp.length = (cap - l.length) * 2) (hv : Var w g (encs mc l ++ sp) 52) (hB : B ≤ w.heap.size) (hl : l.length ≤ 1000) (hvb : Var w vb (mc x) 52) (hi : i < l.length) (hrm : l.length + 1 ≤ cap) (hne : vb ≠ g) :
  Cl Tryz.prog 48 #[.slice (some ⟨g,0,none⟩) l.length cap,.int .i64 i,.slice (some ⟨vb,0,none⟩) 1 1] w (fun u w' => w'.ownsRow B 52 2 u (l.length + 1) (encs mc (insert1 l i x)) ∧ Ko 52 B w w') := by
 have hsv : SlC w (.slice (some ⟨vb,0,none⟩) 1 1) 2 1 (mc x) := slc_var hvb rfl
 have hmx' : cap ≤ 9223372036854775807 := hmx
 have hll := encs_len mc_len l
 obtain ⟨i0,hi0,hz0,hsi0,hby0⟩ := inf52
 have hxs : ∀ (w' : World) (a : Nat) (ys : List Value),Var w' g (encs mc l ++ ys) 52 → a ≤ l.length → SlC w' (.slice (some ⟨g,0 + a * 2,none⟩) (l.length - a) (cap - a)) 2 (l.length - a) (encs mc (l.drop a)) := fun w' a ys h ha => by
  refine ⟨by rw [encs_len mc_len,List.length_drop],_,_,rfl,by omega,.inr ⟨g,0 + a * 2,rfl,?_⟩⟩
  have := h.cells.sub (a * 2) ((encs mc (l.drop a)).length)
  rw [encs_drop_all mc_len l ys a ha,List.take_left' rfl] at this
  exact this
 refine Cl.enter Tryz.func48 rfl Tryz.ntmps48 rfl rfl ?_
 refine Wp.seq (Wp.region ?_)
 refine Rg.tm trivial rfl (t_assign rfl) rfl ?_
 refine Rg.done ?_
 refine Wp.seq (Wp.region ?_)
 refine Rg.tm trivial rfl (t_move rfl) rfl ?_
 refine Rg.tm trivial rfl (t_move rfl) rfl ?_
 refine Rg.tm trivial rfl (t_sliceL Tryz.underlying49 ty52 rfl rfl rfl (by omega)) rfl ?_
 refine Rg.done ?_
 refine Wp.seq (Wp.region ?_)
 refine Rg.tm trivial rfl (t_move rfl) rfl ?_
 refine Rg.tm trivial rfl (t_lenS Tryz.underlying49 rfl) rfl ?_
 rw [show ((1 : Nat) : Int) = 1 from rfl]
 refine Rg.tm trivial rfl (t_assign rfl) rfl ?_
 refine Rg.done ?_
 refine Wp.seq ?_
 refine Wp.seq (Wp.region ?_)
 refine Rg.tm trivial rfl (t_move rfl) rfl ?_
 first | refine Rg.tm trivial rfl (t_eqlT rfl rfl (by omega)) rfl ?_ | refine Rg.tm trivial rfl (t_eqlF rfl rfl (by omega)) rfl ?_ | refine Rg.tm trivial rfl (t_eql rfl rfl) rfl ?_
 refine Rg.done ?_
 refine Wp.condF rfl ?_
 refine Wp.skip ?_
 refine Wp.seq (Wp.region ?_)
 refine Rg.tm trivial rfl (t_move rfl) rfl ?_
 refine Rg.tm trivial rfl (t_lenS Tryz.underlying49 rfl) rfl ?_
 refine Rg.tm trivial rfl (t_assign rfl) rfl ?_
 refine Rg.done ?_
 refine Wp.seq ?_
 refine Wp.seq (Wp.region ?_)
 refine Rg.tm trivial rfl (t_move rfl) rfl ?_
 refine Rg.tm trivial rfl (t_move rfl) rfl ?_
 first | refine Rg.tm trivial rfl (t_eqlT rfl rfl (by omega)) rfl ?_ | refine Rg.tm trivial rfl (t_eqlF rfl rfl (by omega)) rfl ?_ | refine Rg.tm trivial rfl (t_eql rfl rfl) rfl ?_
 refine Rg.done ?_
 refine Wp.condF rfl ?_
 refine Wp.skip ?_
 refine Wp.seq ?_
 refine Wp.seq (Wp.region ?_)
 refine Rg.tm trivial rfl (t_move rfl) rfl ?_
 refine Rg.tm trivial rfl (t_move rfl) rfl ?_
 refine Rg.tm trivial rfl (t_addI rfl rfl (by omega)) rfl ?_
 refine Rg.tm trivial rfl (t_move rfl) rfl ?_
 refine Rg.tm trivial rfl (t_capS Tryz.underlying49 rfl) rfl ?_
 first | refine Rg.tm trivial rfl (t_gtrT rfl rfl (by omega)) rfl ?_ | refine Rg.tm trivial rfl (t_gtrF rfl rfl (by omega)) rfl ?_ | refine Rg.tm trivial rfl (t_gtr rfl rfl) rfl ?_
 refine Rg.done ?_
 refine Wp.condF rfl ?_
 refine Wp.skip ?_
 refine Wp.seq (Wp.region ?_)
 refine Rg.tm trivial rfl (t_move rfl) rfl ?_
 refine Rg.tm trivial rfl (t_move rfl) rfl ?_
 refine Rg.tm trivial rfl (t_move rfl) rfl ?_
 refine Rg.tm trivial rfl (t_addI rfl rfl (by omega)) rfl ?_
 refine Rg.tm trivial rfl (t_sliceL Tryz.underlying49 ty52 rfl rfl rfl (by omega)) rfl ?_
 rw [show (Value.slice (some (if cap = (0 : Int).toNat then (⟨g,0,none⟩ : Addr) else ⟨g,0 + (0 : Int).toNat * 2,none⟩)) (((l.length : Int) + 1).toNat - (0 : Int).toNat) (cap - (0 : Int).toNat)) = .slice (some ⟨g,0,none⟩) (l.length + 1) cap from by simp]
 refine Rg.tm trivial rfl (t_assign rfl) rfl ?_
 refine Rg.done ?_
 refine Wp.seq ?_
 refine Wp.seq (Wp.region ?_)
 refine Rg.tm trivial rfl (t_move rfl) rfl ?_
 refine Rg.tm trivial rfl (t_move rfl) rfl ?_
 refine Rg.tm trivial rfl (t_move rfl) rfl ?_
 refine Rg.tm trivial rfl (t_move rfl) rfl ?_
 refine Rg.tm trivial rfl (t_addI rfl rfl (by omega)) rfl ?_
 refine Rg.tm trivial rfl (t_sliceL Tryz.underlying49 ty52 rfl rfl rfl (by omega)) rfl ?_
 rw [show (Value.slice (some (if cap = ((i : Int) + 1 : Int).toNat then (⟨g,0,none⟩ : Addr) else ⟨g,0 + ((i : Int) + 1 : Int).toNat * 2,none⟩)) (((l.length + 1 : Nat) : Int).toNat - ((i : Int) + 1 : Int).toNat) (cap - ((i : Int) + 1 : Int).toNat)) = .slice (some ⟨g,0 + (i + 1) * 2,none⟩) (l.length + 1 - (i + 1)) (cap - (i + 1)) from by rw [if_neg (by omega),show ((i : Int) + 1 : Int).toNat = i + 1 from by omega]; rfl]
 have hspl : 2 ≤ sp.length := by
  rw [hsp]
  have : 1 ≤ cap - l.length := by omega
  calc 2 = 1 * 2 := by simp
   _ ≤ (cap - l.length) * 2 := Nat.mul_le_mul_right _ this
 have hcapk : l.length * 2 + sp.length = cap * 2 := by rw [hsp,← Nat.add_mul]; congr 1; omega
 have hn1 : (l.length + 1) * 2 ≤ cap * 2 := Nat.mul_le_mul_right _ hrm
 refine Rg.wd trivial (w_extern (R := fun v w' => v = .bool false ∧ w = w') Tryz.func64 (by kernel_rfl) (by kernel_rfl) (by kernel_rfl) (by kernel_rfl) rfl ⟨_,_,Lib.run_overlaps_apart _ 49 4 52 Tryz.underlying49 2 Tryz.sizeOf52 ⟨vb,0,none⟩ ⟨g,_,none⟩ 1 1 _ _ hne _ _ _ _ (shape_var hvb) (shape_var hv) (by rw [List.length_append,hll]; omega) (frozen_var hvb _) (frozen_var hvb _),rfl,rfl⟩) rfl ?_
 rintro _ _ ⟨rfl,rfl⟩
 refine Rg.tm trivial rfl (t_notB rfl) rfl ?_
 refine Rg.done ?_
 refine Wp.condT rfl ?_
 refine Wp.seq (Wp.draw [0,1,2,3,4,5,6,7,8] [0] mixed (by kernel_rfl) (by kernel_rfl) ?_)
 intro w1 hx1 _
 replace hvb := hvb.ext hx1
 replace hv := hv.ext hx1
 have hko := (hx1).ko (e := 52) hB
 refine Rg.tm trivial rfl (t_move rfl) rfl ?_
 refine Rg.tm trivial rfl (t_move rfl) rfl ?_
 refine Rg.tm trivial rfl (t_move rfl) rfl ?_
 refine Rg.tm trivial rfl (t_addI rfl rfl (by omega)) rfl ?_
 refine Rg.tm trivial rfl (t_sliceL Tryz.underlying49 ty52 rfl rfl rfl (by omega)) rfl ?_
 rw [show (Value.slice (some (if cap = ((i : Int) + 1 : Int).toNat then (⟨g,0,none⟩ : Addr) else ⟨g,0 + ((i : Int) + 1 : Int).toNat * 2,none⟩)) (((l.length + 1 : Nat) : Int).toNat - ((i : Int) + 1 : Int).toNat) (cap - ((i : Int) + 1 : Int).toNat)) = .slice (some ⟨g,0 + (i + 1) * 2,none⟩) (l.length + 1 - (i + 1)) (cap - (i + 1)) from by rw [if_neg (by omega),show ((i : Int) + 1 : Int).toNat = i + 1 from by omega]; rfl]
 refine Rg.tm trivial rfl (t_move rfl) rfl ?_
 refine Rg.tm trivial rfl (t_move rfl) rfl ?_
 refine Rg.tm trivial rfl (t_sliceL Tryz.underlying49 ty52 rfl rfl rfl (by omega)) rfl ?_
 rw [show (Value.slice (some (if cap = (i : Int).toNat then (⟨g,0,none⟩ : Addr) else ⟨g,0 + (i : Int).toNat * 2,none⟩)) (((l.length + 1 : Nat) : Int).toNat - (i : Int).toNat) (cap - (i : Int).toNat)) = .slice (some ⟨g,0 + (i) * 2,none⟩) (l.length + 1 - (i)) (cap - (i)) from by rw [if_neg (by omega),show (i : Int).toNat = i from by omega]; rfl]
 have hmin2 : min (l.length + 1 - i) (l.length + 1 - (i + 1)) = l.length - i := by omega
 have hik : i * 2 + (l.length - i) * 2 = l.length * 2 := by rw [← Nat.add_mul]; congr 1; omega
 have hik1 : (i + 1) * 2 + (l.length - i) * 2 = (l.length + 1) * 2 := by rw [← Nat.add_mul]; congr 1; omega
 have hk1 : (l.length + 1) * 2 = l.length * 2 + 2 := by rw [Nat.add_mul,Nat.one_mul]
 have hi1 : (i + 1) * 2 = i * 2 + 2 := by rw [Nat.add_mul,Nat.one_mul]
 have hfit2 : 0 + (i + 1) * 2 + min (l.length + 1 - i) (l.length + 1 - (i + 1)) * 2 ≤ (encs mc l ++ sp).length := by rw [hmin2,List.length_append,hll]; omega
 have hdl : (encs mc (l.drop i)).length = (l.length - i) * 2 := by rw [encs_len mc_len,List.length_drop]
 have hcs2 : ∀ m,(((encs mc l ++ sp).drop (i * 2)).take m).take ((l.length - i) * 2) = (encs mc (l.drop i)).take m := fun m => by
  rw [List.take_take,Nat.min_comm,← List.take_take,encs_drop_all mc_len l sp i (by omega),List.take_left' hdl]
 have hone2 : ∀ u ∈ (((encs mc l ++ sp).drop (i * 2)).take ((l.length + 1 - i) * 2)).take (min (l.length + 1 - i) (l.length + 1 - (i + 1)) * 2),u.oneCell' = true := by
  rw [hmin2,hcs2]
  exact fun u hu => encs_one mc_one _ u (List.mem_of_mem_take hu)
 have hs2 : ∀ w',Var w' g (encs mc l ++ sp) 52 → SlC w' (.slice (some ⟨g,0 + i * 2,none⟩) (l.length + 1 - i) (cap - i)) 2 (l.length + 1 - i) (((encs mc l ++ sp).drop (i * 2)).take ((l.length + 1 - i) * 2)) := fun w' h => by
  refine ⟨?_,_,_,rfl,by omega,.inr ⟨g,0 + i * 2,rfl,h.cells.sub _ _⟩⟩
  rw [List.length_take,List.length_drop,List.length_append,hll]
  have : (l.length + 1 - i) * 2 = (l.length + 1) * 2 - i * 2 := Nat.mul_sub_right_distrib _ _ _
  omega
 refine rg_wdC trivial rfl (w_copyT Tryz.underlying49 ty52 hv rfl rfl (hs2 _ hv) hfit2 hone2) rfl (by rfl) ?_
 rintro _ w4 ⟨hu4,hv4⟩
 refine Rg.done ?_
 refine Wp.seq (Wp.region ?_)
 refine Rg.tm trivial rfl (t_move rfl) rfl ?_
 refine Rg.tm trivial rfl (t_move rfl) rfl ?_
 refine Rg.tm trivial rfl (t_sliceL Tryz.underlying49 ty52 rfl rfl rfl (by omega)) rfl ?_
 rw [show (Value.slice (some (if cap = (i : Int).toNat then (⟨g,0,none⟩ : Addr) else ⟨g,0 + (i : Int).toNat * 2,none⟩)) (((l.length + 1 : Nat) : Int).toNat - (i : Int).toNat) (cap - (i : Int).toNat)) = .slice (some ⟨g,0 + (i) * 2,none⟩) (l.length + 1 - (i)) (cap - (i)) from by rw [if_neg (by omega),show (i : Int).toNat = i from by omega]; rfl]
 refine Rg.tm trivial rfl (t_move rfl) rfl ?_
 replace hvb := hvb.upd hu4 hne
 have hcl4 : (List.take (0 + (i + 1) * 2) (encs mc l ++ sp)).length = (i + 1) * 2 := by rw [List.length_take,List.length_append,hll]; omega
 have e4 : (encs mc (l.drop i)).take ((l.length + 1 - i) * 2) = encs mc (l.drop i) := List.take_of_length_le (by rw [hdl]; exact Nat.mul_le_mul_right _ (by omega))
 rw [hmin2,hcs2,e4] at hv4
 have hmin1 : min 1 (l.length + 1 - i) = 1 := by omega
 have hfit3 : 0 + i * 2 + min 1 (l.length + 1 - i) * 2 ≤ (List.take (0 + (i + 1) * 2) (encs mc l ++ sp) ++ encs mc (l.drop i) ++ List.drop (0 + (i + 1) * 2 + (l.length - i) * 2) (encs mc l ++ sp)).length := by
  rw [hmin1,List.length_append,List.length_append,hcl4,hdl]; omega
 refine Rg.wd trivial (w_copyT Tryz.underlying49 ty52 hv4 rfl rfl (slc_var hvb rfl) hfit3 (fun u hu => mc_one x u (List.mem_of_mem_take hu))) rfl ?_
 rintro _ w5 ⟨hu5,hv5⟩
 refine Rg.done ?_
 refine Wp.seq (Wp.region ?_)
 refine Rg.tm trivial rfl (t_move rfl) rfl ?_
 refine Rg.tm trivial rfl (t_assign rfl) rfl ?_
 refine Rg.done ?_
 refine Wp.ret ?_
 rw [hmin1] at hv5
 have ea : (List.take (0 + (i + 1) * 2) (encs mc l ++ sp) ++ encs mc (l.drop i) ++ List.drop (0 + (i + 1) * 2 + (l.length - i) * 2) (encs mc l ++ sp)).take (0 + i * 2) = encs mc (l.take i) := by
  rw [List.append_assoc,List.take_append_of_le_length (by rw [hcl4]; omega),List.take_take,Nat.min_eq_left (by omega),Nat.zero_add,encs_take_all mc_len l sp i (by omega)]
 have eb : (List.take (0 + (i + 1) * 2) (encs mc l ++ sp) ++ encs mc (l.drop i) ++ List.drop (0 + (i + 1) * 2 + (l.length - i) * 2) (encs mc l ++ sp)).drop (0 + i * 2 + 1 * 2) = encs mc (l.drop i) ++ List.drop (0 + (i + 1) * 2 + (l.length - i) * 2) (encs mc l ++ sp) := by
  rw [List.append_assoc,show 0 + i * 2 + 1 * 2 = (i + 1) * 2 from by rw [hi1]; omega,List.drop_left' hcl4]
 rw [ea,eb,List.take_of_length_le (show (mc x).length ≤ 1 * 2 from by rw [mc_len]; omega),← List.append_assoc,← insert1_encs] at hv5
 refine ⟨[_],⟨rfl,trivial⟩,?_,(hko.trans (hu4.ko hv hg)).trans (hu5.ko hv4 hg)⟩
 refine whole_ownG hg (by rw [encs_len mc_len,insert1_length]) hrm hmx ?_ hv5
 rw [List.length_drop,List.length_append,hll]
 have : (cap - (l.length + 1)) * 2 = cap * 2 - (l.length + 1) * 2 := Nat.mul_sub_right_distrib _ _ _
 omega
theorem insertEndI_ok {w : World} {B vb : Nat} {v : Value} {l : List Int} {x : Int} {i : Nat} (ho : w.ownsRow B 3 1 v l.length (encs ei l)) (hB : B ≤ w.heap.size) (hl : l.length ≤ 1000) (hvb : Var w vb (ei x) 3) (hi : i = l.length) :
  Cl Tryz.prog 49 #[v,.int .i64 i,.slice (some ⟨vb,0,none⟩) 1 1] w (fun u w' => w'.ownsRow B 3 1 u (l.length + 1) (encs ei (insert1 l i x)) ∧ Ko 3 B w w') := by
 have hs0 := own_slice ho
 have hsv : SlC w (.slice (some ⟨vb,0,none⟩) 1 1) 1 1 (ei x) := slc_var hvb rfl
 obtain ⟨i0,hi0,hz0,hsi0,hby0⟩ := inf3
 subst hi
 refine Cl.enter Tryz.func49 rfl Tryz.ntmps49 rfl rfl ?_
 refine Wp.seq (Wp.region ?_)
 refine Rg.tm trivial rfl (t_assign rfl) rfl ?_
 refine Rg.done ?_
 refine Wp.seq (Wp.region ?_)
 refine Rg.tm trivial rfl (t_move rfl) rfl ?_
 refine Rg.tm trivial rfl (t_move rfl) rfl ?_
 refine Rg.sl hs0 trivial rfl Tryz.underlying41 ty3 rfl rfl (by omega) rfl ?_
 intro v12 hs12
 refine Rg.done ?_
 refine Wp.seq (Wp.region ?_)
 refine Rg.tm trivial rfl (t_move rfl) rfl ?_
 refine Rg.tm trivial rfl (t_lenS Tryz.underlying41 rfl) rfl ?_
 rw [show ((1 : Nat) : Int) = 1 from rfl]
 refine Rg.tm trivial rfl (t_assign rfl) rfl ?_
 refine Rg.done ?_
 refine Wp.seq ?_
 refine Wp.seq (Wp.region ?_)
 refine Rg.tm trivial rfl (t_move rfl) rfl ?_
 first | refine Rg.tm trivial rfl (t_eqlT rfl rfl (by omega)) rfl ?_ | refine Rg.tm trivial rfl (t_eqlF rfl rfl (by omega)) rfl ?_ | refine Rg.tm trivial rfl (t_eql rfl rfl) rfl ?_
 refine Rg.done ?_
 refine Wp.condF rfl ?_
 refine Wp.skip ?_
 refine Wp.seq (Wp.region ?_)
 refine Rg.tm trivial rfl (t_move rfl) rfl ?_
 refine Rg.tm trivial rfl (t_lenC hs0 Tryz.underlying41 rfl) rfl ?_
 refine Rg.tm trivial rfl (t_assign rfl) rfl ?_
 refine Rg.done ?_
 refine Wp.seq ?_
 refine Wp.seq (Wp.region ?_)
 refine Rg.tm trivial rfl (t_move rfl) rfl ?_
 refine Rg.tm trivial rfl (t_move rfl) rfl ?_
 first | refine Rg.tm trivial rfl (t_eqlT rfl rfl (by omega)) rfl ?_ | refine Rg.tm trivial rfl (t_eqlF rfl rfl (by omega)) rfl ?_ | refine Rg.tm trivial rfl (t_eql rfl rfl) rfl ?_
 refine Rg.done ?_
 refine Wp.condT rfl ?_
 refine Wp.seq (Wp.region ?_)
 refine Rg.tm trivial rfl (t_move rfl) rfl ?_
 refine Rg.tm trivial rfl (t_move rfl) rfl ?_
 refine Rg.wd trivial (w_appendC B Tryz.underlying41 hi0 hz0 hsi0 hby0 rfl (by decide) rfl rfl ho hsv (ei_one _) (by unfold maxLen; omega) (by omega) hB) rfl ?_
 rintro v25 w5 ⟨ho2,hgr,_⟩
 refine Rg.tm trivial rfl (t_assign rfl) rfl ?_
 refine Rg.done ?_
 refine Wp.ret ?_
 refine ⟨[_],⟨rfl,trivial⟩,?_,grown_ko ho hgr hB⟩
 rw [insert1_encs,List.take_length,List.drop_length,show encs ei [] = [] from rfl,List.append_nil]
 exact ho2
theorem insertIG_ok {w : World} {B vb g cap : Nat} {sp : List Value} {l : List Int} {x : Int} {i : Nat} (hg : B ≤ g) (hcap : l.length ≤ cap) (hmx : cap ≤ maxLen) (hsp : sp.length = (cap - l.length) * 1) (hv : Var w g (encs ei l ++ sp) 3) (hB : B ≤ w.heap.size) (hl : l.length ≤ 1000) (hvb : Var w vb (ei x) 3) (hi : i < l.length) (hrm : cap < l.length + 1) (hne : vb ≠ g) :
  Cl Tryz.prog 49 #[.slice (some ⟨g,0,none⟩) l.length cap,.int .i64 i,.slice (some ⟨vb,0,none⟩) 1 1] w (fun u w' => w'.ownsRow B 3 1 u (l.length + 1) (encs ei (insert1 l i x)) ∧ Ko 3 B w w') := by
 have hsv : SlC w (.slice (some ⟨vb,0,none⟩) 1 1) 1 1 (ei x) := slc_var hvb rfl
 have hmx' : cap ≤ 9223372036854775807 := hmx
 have hll := encs_len ei_len l
 obtain ⟨i0,hi0,hz0,hsi0,hby0⟩ := inf3
 have hxs : ∀ (w' : World) (a : Nat) (ys : List Value),Var w' g (encs ei l ++ ys) 3 → a ≤ l.length → SlC w' (.slice (some ⟨g,0 + a * 1,none⟩) (l.length - a) (cap - a)) 1 (l.length - a) (encs ei (l.drop a)) := fun w' a ys h ha => by
  refine ⟨by rw [encs_len ei_len,List.length_drop],_,_,rfl,by omega,.inr ⟨g,0 + a * 1,rfl,?_⟩⟩
  have := h.cells.sub (a * 1) ((encs ei (l.drop a)).length)
  rw [encs_drop_all ei_len l ys a ha,List.take_left' rfl] at this
  exact this
 have hst : SlC w (.slice (some ⟨g,0,none⟩) i cap) 1 i (encs ei (l.take i)) := by
  refine ⟨by rw [encs_len ei_len,List.length_take]; congr 1; omega,_,_,rfl,by omega,.inr ⟨g,0,rfl,?_⟩⟩
  have := hv.cells.sub 0 (i * 1)
  rw [List.drop_zero,encs_take_all ei_len l sp i (by omega)] at this
  exact this
 refine Cl.enter Tryz.func49 rfl Tryz.ntmps49 rfl rfl ?_
 refine Wp.seq (Wp.region ?_)
 refine Rg.tm trivial rfl (t_assign rfl) rfl ?_
 refine Rg.done ?_
 refine Wp.seq (Wp.region ?_)
 refine Rg.tm trivial rfl (t_move rfl) rfl ?_
 refine Rg.tm trivial rfl (t_move rfl) rfl ?_
 refine Rg.tm trivial rfl (t_sliceL Tryz.underlying41 ty3 rfl rfl rfl (by omega)) rfl ?_
 refine Rg.done ?_
 refine Wp.seq (Wp.region ?_)
 refine Rg.tm trivial rfl (t_move rfl) rfl ?_
 refine Rg.tm trivial rfl (t_lenS Tryz.underlying41 rfl) rfl ?_
 rw [show ((1 : Nat) : Int) = 1 from rfl]
 refine Rg.tm trivial rfl (t_assign rfl) rfl ?_
 refine Rg.done ?_
 refine Wp.seq ?_
 refine Wp.seq (Wp.region ?_)
 refine Rg.tm trivial rfl (t_move rfl) rfl ?_
 first | refine Rg.tm trivial rfl (t_eqlT rfl rfl (by omega)) rfl ?_ | refine Rg.tm trivial rfl (t_eqlF rfl rfl (by omega)) rfl ?_ | refine Rg.tm trivial rfl (t_eql rfl rfl) rfl ?_
 refine Rg.done ?_
 refine Wp.condF rfl ?_
 refine Wp.skip ?_
 refine Wp.seq (Wp.region ?_)
 refine Rg.tm trivial rfl (t_move rfl) rfl ?_
 refine Rg.tm trivial rfl (t_lenS Tryz.underlying41 rfl) rfl ?_
 refine Rg.tm trivial rfl (t_assign rfl) rfl ?_
 refine Rg.done ?_
 refine Wp.seq ?_
 refine Wp.seq (Wp.region ?_)
 refine Rg.tm trivial rfl (t_move rfl) rfl ?_
 refine Rg.tm trivial rfl (t_move rfl) rfl ?_
 first | refine Rg.tm trivial rfl (t_eqlT rfl rfl (by omega)) rfl ?_ | refine Rg.tm trivial rfl (t_eqlF rfl rfl (by omega)) rfl ?_ | refine Rg.tm trivial rfl (t_eql rfl rfl) rfl ?_
 refine Rg.done ?_
 refine Wp.condF rfl ?_
 refine Wp.skip ?_
 refine Wp.seq ?_
 refine Wp.seq (Wp.region ?_)
 refine Rg.tm trivial rfl (t_move rfl) rfl ?_
 refine Rg.tm trivial rfl (t_move rfl) rfl ?_
 refine Rg.tm trivial rfl (t_addI rfl rfl (by omega)) rfl ?_
 refine Rg.tm trivial rfl (t_move rfl) rfl ?_
 refine Rg.tm trivial rfl (t_capS Tryz.underlying41 rfl) rfl ?_
 first | refine Rg.tm trivial rfl (t_gtrT rfl rfl (by omega)) rfl ?_ | refine Rg.tm trivial rfl (t_gtrF rfl rfl (by omega)) rfl ?_ | refine Rg.tm trivial rfl (t_gtr rfl rfl) rfl ?_
 refine Rg.done ?_
 refine Wp.condT rfl ?_
 refine Wp.seq (Wp.region ?_)
 refine Rg.tm trivial rfl (t_move rfl) rfl ?_
 refine Rg.tm trivial rfl (t_move rfl) rfl ?_
 refine Rg.tm trivial rfl (t_sliceL Tryz.underlying41 ty3 rfl rfl rfl (by omega)) rfl ?_
 rw [show (Value.slice (some (if cap = (0 : Int).toNat then (⟨g,0,none⟩ : Addr) else ⟨g,0 + (0 : Int).toNat * 1,none⟩)) ((i : Int).toNat - (0 : Int).toNat) (cap - (0 : Int).toNat)) = .slice (some ⟨g,0,none⟩) i cap from by simp]
 refine Rg.tm trivial rfl (t_move rfl) rfl ?_
 refine Rg.tm trivial rfl (t_move rfl) rfl ?_
 refine Rg.tm trivial rfl (t_addI rfl rfl (by omega)) rfl ?_
 refine Rg.tm trivial rfl (t_move rfl) rfl ?_
 refine Rg.tm trivial rfl (t_subI rfl rfl (by omega)) rfl ?_
 rw [show ((l.length : Int) + 1 - i) = ((l.length + 1 - i : Nat) : Int) from by omega]
 refine Rg.wd trivial (w_appendZ Tryz.underlying41 Tryz.underlying3 hi0 hz0 hsi0 hby0 rfl rfl (by decide) rfl rfl hst (by omega) (by omega) (by unfold maxLen; omega) (by omega)) rfl ?_
 rintro v9 w1 ⟨hx,news,hnl,ho9⟩
 rw [show i + (l.length + 1 - i) = l.length + 1 from by omega] at ho9
 rcases own_wholeG ho9 with ⟨_,h0⟩ | ⟨g2,cap2,sp2,rfl,hg2,hcap2,hmx2,hsp2,hv2⟩
 ·omega
 have hmx2' : cap2 ≤ 9223372036854775807 := hmx2
 have htl : (encs ei (l.take i)).length = i * 1 := by rw [encs_len ei_len,List.length_take]; congr 1; omega
 have hlt2 := hv2.lt
 refine Rg.tm trivial rfl (t_assign rfl) rfl ?_
 refine Rg.done ?_
 refine Wp.seq (Wp.region ?_)
 refine Rg.tm trivial rfl (t_move rfl) rfl ?_
 refine Rg.tm trivial rfl (t_move rfl) rfl ?_
 refine Rg.tm trivial rfl (t_sliceL Tryz.underlying41 ty3 rfl rfl rfl (by omega)) rfl ?_
 rw [show (Value.slice (some (if cap2 = (i : Int).toNat then (⟨g2,0,none⟩ : Addr) else ⟨g2,0 + (i : Int).toNat * 1,none⟩)) (((l.length + 1 : Nat) : Int).toNat - (i : Int).toNat) (cap2 - (i : Int).toNat)) = .slice (some ⟨g2,0 + (i) * 1,none⟩) (l.length + 1 - (i)) (cap2 - (i)) from by rw [if_neg (by omega),show (i : Int).toNat = i from by omega]; rfl]
 refine Rg.tm trivial rfl (t_move rfl) rfl ?_
 have hmin1 : min 1 (l.length + 1 - i) = 1 := by omega
 have hfit : 0 + i * 1 + min 1 (l.length + 1 - i) * 1 ≤ (encs ei (l.take i) ++ news ++ sp2).length := by
  rw [hmin1,List.length_append,List.length_append,htl,hnl]; omega
 refine Rg.wd trivial (w_copyT Tryz.underlying41 ty3 hv2 rfl rfl (hsv.ext hx) hfit (fun u hu => ei_one x u (List.mem_of_mem_take hu))) rfl ?_
 rintro _ w2 ⟨hu2,hv3⟩
 have hx2 := hx.upd hu2 hg2
 rw [hmin1] at hv3
 replace hv := (hv.ext hx).upd hu2 (by have := hv.lt; omega)
 clear hv2
 refine Rg.done ?_
 refine Wp.seq (Wp.draw [0,1,2,3,4,5,6,7,8] [0] mixed (by kernel_rfl) (by kernel_rfl) ?_)
 intro w1 hx1 _
 have hx2 := Ext.tr hx2 hx1
 replace hv3 := hv3.ext hx1
 replace hv := hv.ext hx1
 refine Rg.tm trivial rfl (t_move rfl) rfl ?_
 refine Rg.tm trivial rfl (t_move rfl) rfl ?_
 refine Rg.tm trivial rfl (t_move rfl) rfl ?_
 refine Rg.tm trivial rfl (t_addI rfl rfl (by omega)) rfl ?_
 refine Rg.tm trivial rfl (t_sliceL Tryz.underlying41 ty3 rfl rfl rfl (by omega)) rfl ?_
 rw [show (Value.slice (some (if cap2 = ((i : Int) + 1 : Int).toNat then (⟨g2,0,none⟩ : Addr) else ⟨g2,0 + ((i : Int) + 1 : Int).toNat * 1,none⟩)) (((l.length + 1 : Nat) : Int).toNat - ((i : Int) + 1 : Int).toNat) (cap2 - ((i : Int) + 1 : Int).toNat)) = .slice (some ⟨g2,0 + (i + 1) * 1,none⟩) (l.length + 1 - (i + 1)) (cap2 - (i + 1)) from by rw [if_neg (by omega),show ((i : Int) + 1 : Int).toNat = i + 1 from by omega]; rfl]
 refine Rg.tm trivial rfl (t_move rfl) rfl ?_
 refine Rg.tm trivial rfl (t_move rfl) rfl ?_
 refine Rg.tm trivial rfl (t_sliceL Tryz.underlying41 ty3 rfl rfl rfl (by omega)) rfl ?_
 rw [show (Value.slice (some (if cap = (i : Int).toNat then (⟨g,0,none⟩ : Addr) else ⟨g,0 + (i : Int).toNat * 1,none⟩)) (((l.length : Nat) : Int).toNat - (i : Int).toNat) (cap - (i : Int).toNat)) = .slice (some ⟨g,0 + (i) * 1,none⟩) (l.length - (i)) (cap - (i)) from by rw [if_neg (by omega),show (i : Int).toNat = i from by omega]; rfl]
 have hmul : ∀ m,m * 1 = 1 * m := fun m => Nat.mul_comm _ _
 have hnl2 : news.length = 1 * (l.length + 1 - i) := by rw [hnl,hmul]
 have hsp22 : sp2.length = 1 * (cap2 - (l.length + 1)) := by rw [hsp2,hmul]
 have hfit54 : 0 + (i + 1) * 1 + min (l.length - i) (l.length + 1 - (i + 1)) * 1 ≤ (List.take (0 + i * 1) (encs ei (l.take i) ++ news ++ sp2) ++ List.take (1 * 1) (ei x) ++ List.drop (0 + i * 1 + 1 * 1) (encs ei (l.take i) ++ news ++ sp2)).length := by
  rw [List.length_append,List.length_append,List.length_take,List.length_take,List.length_drop,List.length_append,List.length_append,htl,hnl2,hsp22,ei_len,hmul,hmul,hmul]
  omega
 refine rg_wdC trivial rfl (w_copyT Tryz.underlying41 ty3 hv3 rfl rfl (hxs _ i sp hv (by omega)) hfit54 (fun u hu => encs_one ei_one _ u (List.mem_of_mem_take hu))) rfl (by rfl) ?_
 rintro _ w4 ⟨hu4,hv4⟩
 have hx4 := hx2.upd hu4 hg2
 refine Rg.done ?_
 refine Wp.seq (Wp.region ?_)
 refine Rg.tm trivial rfl (t_move rfl) rfl ?_
 refine Rg.tm trivial rfl (t_assign rfl) rfl ?_
 refine Rg.done ?_
 refine Wp.ret ?_
 refine ⟨[_],⟨rfl,trivial⟩,?_,hx4.ko hB⟩
 have hmin : min (l.length - i) (l.length + 1 - (i + 1)) = l.length - i := by omega
 rw [hmin] at hv4
 have hdl : (encs ei (l.drop i)).length = (l.length - i) * 1 := by rw [encs_len ei_len,List.length_drop]
 have e1 : (encs ei (l.take i) ++ news ++ sp2).take (0 + i * 1) = encs ei (l.take i) := by rw [Nat.zero_add,List.append_assoc,List.take_left' htl]
 have e2 : (ei x).take (1 * 1) = ei x := List.take_of_length_le (Nat.le_refl _)
 have e3 : (encs ei (l.take i) ++ ei x).length = (i + 1) * 1 := by rw [List.length_append,htl,ei_len,Nat.add_mul,Nat.one_mul]
 have e4 : (encs ei (l.drop i)).take ((l.length - i) * 1) = encs ei (l.drop i) := List.take_of_length_le (by rw [hdl]; exact Nat.le_refl _)
 rw [e1,e2,Nat.zero_add,List.take_left' e3,e4] at hv4
 obtain ⟨tl,htl2⟩ : ∃ tl,tl = (encs ei (l.take i) ++ ei x ++ (encs ei (l.take i) ++ news ++ sp2).drop (0 + i * 1 + 1 * 1)).drop ((i + 1) * 1 + (l.length - i) * 1) := ⟨_,rfl⟩
 rw [← htl2] at hv4
 refine whole_ownG (sp := tl) (Nat.le_trans hB hg2) (by rw [encs_len ei_len,insert1_length]) hcap2 hmx2 ?_ (by rw [insert1_encs]; exact hv4)
 rw [htl2]
 simp only [List.length_drop,List.length_append,htl,hnl,ei_len,hsp2]
 have h1 : (i + 1) * 1 + (l.length - i) * 1 = (l.length + 1) * 1 := by rw [← Nat.add_mul]; congr 1; omega
 omega
theorem insertIR_ok {w : World} {B vb g cap : Nat} {sp : List Value} {l : List Int} {x : Int} {i : Nat} (hg : B ≤ g) (hcap : l.length ≤ cap) (hmx : cap ≤ maxLen) (hsp : sp.length = (cap - l.length) * 1) (hv : Var w g (encs ei l ++ sp) 3) (hB : B ≤ w.heap.size) (hl : l.length ≤ 1000) (hvb : Var w vb (ei x) 3) (hi : i < l.length) (hrm : l.length + 1 ≤ cap) (hne : vb ≠ g) :
  Cl Tryz.prog 49 #[.slice (some ⟨g,0,none⟩) l.length cap,.int .i64 i,.slice (some ⟨vb,0,none⟩) 1 1] w (fun u w' => w'.ownsRow B 3 1 u (l.length + 1) (encs ei (insert1 l i x)) ∧ Ko 3 B w w') := by
 have hsv : SlC w (.slice (some ⟨vb,0,none⟩) 1 1) 1 1 (ei x) := slc_var hvb rfl
 have hmx' : cap ≤ 9223372036854775807 := hmx
 have hll := encs_len ei_len l
 obtain ⟨i0,hi0,hz0,hsi0,hby0⟩ := inf3
 have hxs : ∀ (w' : World) (a : Nat) (ys : List Value),Var w' g (encs ei l ++ ys) 3 → a ≤ l.length → SlC w' (.slice (some ⟨g,0 + a * 1,none⟩) (l.length - a) (cap - a)) 1 (l.length - a) (encs ei (l.drop a)) := fun w' a ys h ha => by
  refine ⟨by rw [encs_len ei_len,List.length_drop],_,_,rfl,by omega,.inr ⟨g,0 + a * 1,rfl,?_⟩⟩
  have := h.cells.sub (a * 1) ((encs ei (l.drop a)).length)
  rw [encs_drop_all ei_len l ys a ha,List.take_left' rfl] at this
  exact this
 refine Cl.enter Tryz.func49 rfl Tryz.ntmps49 rfl rfl ?_
 refine Wp.seq (Wp.region ?_)
 refine Rg.tm trivial rfl (t_assign rfl) rfl ?_
 refine Rg.done ?_
 refine Wp.seq (Wp.region ?_)
 refine Rg.tm trivial rfl (t_move rfl) rfl ?_
 refine Rg.tm trivial rfl (t_move rfl) rfl ?_
 refine Rg.tm trivial rfl (t_sliceL Tryz.underlying41 ty3 rfl rfl rfl (by omega)) rfl ?_
 refine Rg.done ?_
 refine Wp.seq (Wp.region ?_)
 refine Rg.tm trivial rfl (t_move rfl) rfl ?_
 refine Rg.tm trivial rfl (t_lenS Tryz.underlying41 rfl) rfl ?_
 rw [show ((1 : Nat) : Int) = 1 from rfl]
 refine Rg.tm trivial rfl (t_assign rfl) rfl ?_
 refine Rg.done ?_
 refine Wp.seq ?_
 refine Wp.seq (Wp.region ?_)
 refine Rg.tm trivial rfl (t_move rfl) rfl ?_
 first | refine Rg.tm trivial rfl (t_eqlT rfl rfl (by omega)) rfl ?_ | refine Rg.tm trivial rfl (t_eqlF rfl rfl (by omega)) rfl ?_ | refine Rg.tm trivial rfl (t_eql rfl rfl) rfl ?_
 refine Rg.done ?_
 refine Wp.condF rfl ?_
 refine Wp.skip ?_
 refine Wp.seq (Wp.region ?_)
 refine Rg.tm trivial rfl (t_move rfl) rfl ?_
 refine Rg.tm trivial rfl (t_lenS Tryz.underlying41 rfl) rfl ?_
 refine Rg.tm trivial rfl (t_assign rfl) rfl ?_
 refine Rg.done ?_
 refine Wp.seq ?_
 refine Wp.seq (Wp.region ?_)
 refine Rg.tm trivial rfl (t_move rfl) rfl ?_
 refine Rg.tm trivial rfl (t_move rfl) rfl ?_
 first | refine Rg.tm trivial rfl (t_eqlT rfl rfl (by omega)) rfl ?_ | refine Rg.tm trivial rfl (t_eqlF rfl rfl (by omega)) rfl ?_ | refine Rg.tm trivial rfl (t_eql rfl rfl) rfl ?_
 refine Rg.done ?_
 refine Wp.condF rfl ?_
 refine Wp.skip ?_
 refine Wp.seq ?_
 refine Wp.seq (Wp.region ?_)
 refine Rg.tm trivial rfl (t_move rfl) rfl ?_
 refine Rg.tm trivial rfl (t_move rfl) rfl ?_
 refine Rg.tm trivial rfl (t_addI rfl rfl (by omega)) rfl ?_
 refine Rg.tm trivial rfl (t_move rfl) rfl ?_
 refine Rg.tm trivial rfl (t_capS Tryz.underlying41 rfl) rfl ?_
 first | refine Rg.tm trivial rfl (t_gtrT rfl rfl (by omega)) rfl ?_ | refine Rg.tm trivial rfl (t_gtrF rfl rfl (by omega)) rfl ?_ | refine Rg.tm trivial rfl (t_gtr rfl rfl) rfl ?_
 refine Rg.done ?_
 refine Wp.condF rfl ?_
 refine Wp.skip ?_
 refine Wp.seq (Wp.region ?_)
 refine Rg.tm trivial rfl (t_move rfl) rfl ?_
 refine Rg.tm trivial rfl (t_move rfl) rfl ?_
 refine Rg.tm trivial rfl (t_move rfl) rfl ?_
 refine Rg.tm trivial rfl (t_addI rfl rfl (by omega)) rfl ?_
 refine Rg.tm trivial rfl (t_sliceL Tryz.underlying41 ty3 rfl rfl rfl (by omega)) rfl ?_
 rw [show (Value.slice (some (if cap = (0 : Int).toNat then (⟨g,0,none⟩ : Addr) else ⟨g,0 + (0 : Int).toNat * 1,none⟩)) (((l.length : Int) + 1).toNat - (0 : Int).toNat) (cap - (0 : Int).toNat)) = .slice (some ⟨g,0,none⟩) (l.length + 1) cap from by simp]
 refine Rg.tm trivial rfl (t_assign rfl) rfl ?_
 refine Rg.done ?_
 refine Wp.seq ?_
 refine Wp.seq (Wp.region ?_)
 refine Rg.tm trivial rfl (t_move rfl) rfl ?_
 refine Rg.tm trivial rfl (t_move rfl) rfl ?_
 refine Rg.tm trivial rfl (t_move rfl) rfl ?_
 refine Rg.tm trivial rfl (t_move rfl) rfl ?_
 refine Rg.tm trivial rfl (t_addI rfl rfl (by omega)) rfl ?_
 refine Rg.tm trivial rfl (t_sliceL Tryz.underlying41 ty3 rfl rfl rfl (by omega)) rfl ?_
 rw [show (Value.slice (some (if cap = ((i : Int) + 1 : Int).toNat then (⟨g,0,none⟩ : Addr) else ⟨g,0 + ((i : Int) + 1 : Int).toNat * 1,none⟩)) (((l.length + 1 : Nat) : Int).toNat - ((i : Int) + 1 : Int).toNat) (cap - ((i : Int) + 1 : Int).toNat)) = .slice (some ⟨g,0 + (i + 1) * 1,none⟩) (l.length + 1 - (i + 1)) (cap - (i + 1)) from by rw [if_neg (by omega),show ((i : Int) + 1 : Int).toNat = i + 1 from by omega]; rfl]
 have hspl : 1 ≤ sp.length := by
  rw [hsp]
  have : 1 ≤ cap - l.length := by omega
  calc 1 = 1 * 1 := by simp
   _ ≤ (cap - l.length) * 1 := Nat.mul_le_mul_right _ this
 have hcapk : l.length * 1 + sp.length = cap * 1 := by rw [hsp,← Nat.add_mul]; congr 1; omega
 have hn1 : (l.length + 1) * 1 ≤ cap * 1 := Nat.mul_le_mul_right _ hrm
 refine Rg.wd trivial (w_extern (R := fun v w' => v = .bool false ∧ w = w') Tryz.func66 (by kernel_rfl) (by kernel_rfl) (by kernel_rfl) (by kernel_rfl) rfl ⟨_,_,Lib.run_overlaps_apart _ 41 4 3 Tryz.underlying41 1 Tryz.sizeOf3 ⟨vb,0,none⟩ ⟨g,_,none⟩ 1 1 _ _ hne _ _ _ _ (shape_var hvb) (shape_var hv) (by rw [List.length_append,hll]; omega) (frozen_var hvb _) (frozen_var hvb _),rfl,rfl⟩) rfl ?_
 rintro _ _ ⟨rfl,rfl⟩
 refine Rg.tm trivial rfl (t_notB rfl) rfl ?_
 refine Rg.done ?_
 refine Wp.condT rfl ?_
 refine Wp.seq (Wp.draw [0,1,2,3,4,5,6,7,8] [0] mixed (by kernel_rfl) (by kernel_rfl) ?_)
 intro w1 hx1 _
 replace hvb := hvb.ext hx1
 replace hv := hv.ext hx1
 have hko := (hx1).ko (e := 3) hB
 refine Rg.tm trivial rfl (t_move rfl) rfl ?_
 refine Rg.tm trivial rfl (t_move rfl) rfl ?_
 refine Rg.tm trivial rfl (t_move rfl) rfl ?_
 refine Rg.tm trivial rfl (t_addI rfl rfl (by omega)) rfl ?_
 refine Rg.tm trivial rfl (t_sliceL Tryz.underlying41 ty3 rfl rfl rfl (by omega)) rfl ?_
 rw [show (Value.slice (some (if cap = ((i : Int) + 1 : Int).toNat then (⟨g,0,none⟩ : Addr) else ⟨g,0 + ((i : Int) + 1 : Int).toNat * 1,none⟩)) (((l.length + 1 : Nat) : Int).toNat - ((i : Int) + 1 : Int).toNat) (cap - ((i : Int) + 1 : Int).toNat)) = .slice (some ⟨g,0 + (i + 1) * 1,none⟩) (l.length + 1 - (i + 1)) (cap - (i + 1)) from by rw [if_neg (by omega),show ((i : Int) + 1 : Int).toNat = i + 1 from by omega]; rfl]
 refine Rg.tm trivial rfl (t_move rfl) rfl ?_
 refine Rg.tm trivial rfl (t_move rfl) rfl ?_
 refine Rg.tm trivial rfl (t_sliceL Tryz.underlying41 ty3 rfl rfl rfl (by omega)) rfl ?_
 rw [show (Value.slice (some (if cap = (i : Int).toNat then (⟨g,0,none⟩ : Addr) else ⟨g,0 + (i : Int).toNat * 1,none⟩)) (((l.length + 1 : Nat) : Int).toNat - (i : Int).toNat) (cap - (i : Int).toNat)) = .slice (some ⟨g,0 + (i) * 1,none⟩) (l.length + 1 - (i)) (cap - (i)) from by rw [if_neg (by omega),show (i : Int).toNat = i from by omega]; rfl]
 have hmin2 : min (l.length + 1 - i) (l.length + 1 - (i + 1)) = l.length - i := by omega
 have hik : i * 1 + (l.length - i) * 1 = l.length * 1 := by rw [← Nat.add_mul]; congr 1; omega
 have hik1 : (i + 1) * 1 + (l.length - i) * 1 = (l.length + 1) * 1 := by rw [← Nat.add_mul]; congr 1; omega
 have hk1 : (l.length + 1) * 1 = l.length * 1 + 1 := by rw [Nat.add_mul,Nat.one_mul]
 have hi1 : (i + 1) * 1 = i * 1 + 1 := by rw [Nat.add_mul,Nat.one_mul]
 have hfit2 : 0 + (i + 1) * 1 + min (l.length + 1 - i) (l.length + 1 - (i + 1)) * 1 ≤ (encs ei l ++ sp).length := by rw [hmin2,List.length_append,hll]; omega
 have hdl : (encs ei (l.drop i)).length = (l.length - i) * 1 := by rw [encs_len ei_len,List.length_drop]
 have hcs2 : ∀ m,(((encs ei l ++ sp).drop (i * 1)).take m).take ((l.length - i) * 1) = (encs ei (l.drop i)).take m := fun m => by
  rw [List.take_take,Nat.min_comm,← List.take_take,encs_drop_all ei_len l sp i (by omega),List.take_left' hdl]
 have hone2 : ∀ u ∈ (((encs ei l ++ sp).drop (i * 1)).take ((l.length + 1 - i) * 1)).take (min (l.length + 1 - i) (l.length + 1 - (i + 1)) * 1),u.oneCell' = true := by
  rw [hmin2,hcs2]
  exact fun u hu => encs_one ei_one _ u (List.mem_of_mem_take hu)
 have hs2 : ∀ w',Var w' g (encs ei l ++ sp) 3 → SlC w' (.slice (some ⟨g,0 + i * 1,none⟩) (l.length + 1 - i) (cap - i)) 1 (l.length + 1 - i) (((encs ei l ++ sp).drop (i * 1)).take ((l.length + 1 - i) * 1)) := fun w' h => by
  refine ⟨?_,_,_,rfl,by omega,.inr ⟨g,0 + i * 1,rfl,h.cells.sub _ _⟩⟩
  rw [List.length_take,List.length_drop,List.length_append,hll]
  have : (l.length + 1 - i) * 1 = (l.length + 1) * 1 - i * 1 := Nat.mul_sub_right_distrib _ _ _
  omega
 refine rg_wdC trivial rfl (w_copyT Tryz.underlying41 ty3 hv rfl rfl (hs2 _ hv) hfit2 hone2) rfl (by rfl) ?_
 rintro _ w4 ⟨hu4,hv4⟩
 refine Rg.done ?_
 refine Wp.seq (Wp.region ?_)
 refine Rg.tm trivial rfl (t_move rfl) rfl ?_
 refine Rg.tm trivial rfl (t_move rfl) rfl ?_
 refine Rg.tm trivial rfl (t_sliceL Tryz.underlying41 ty3 rfl rfl rfl (by omega)) rfl ?_
 rw [show (Value.slice (some (if cap = (i : Int).toNat then (⟨g,0,none⟩ : Addr) else ⟨g,0 + (i : Int).toNat * 1,none⟩)) (((l.length + 1 : Nat) : Int).toNat - (i : Int).toNat) (cap - (i : Int).toNat)) = .slice (some ⟨g,0 + (i) * 1,none⟩) (l.length + 1 - (i)) (cap - (i)) from by rw [if_neg (by omega),show (i : Int).toNat = i from by omega]; rfl]
 refine Rg.tm trivial rfl (t_move rfl) rfl ?_
 replace hvb := hvb.upd hu4 hne
 have hcl4 : (List.take (0 + (i + 1) * 1) (encs ei l ++ sp)).length = (i + 1) * 1 := by rw [List.length_take,List.length_append,hll]; omega
 have e4 : (encs ei (l.drop i)).take ((l.length + 1 - i) * 1) = encs ei (l.drop i) := List.take_of_length_le (by rw [hdl]; exact Nat.mul_le_mul_right _ (by omega))
 rw [hmin2,hcs2,e4] at hv4
 have hmin1 : min 1 (l.length + 1 - i) = 1 := by omega
 have hfit3 : 0 + i * 1 + min 1 (l.length + 1 - i) * 1 ≤ (List.take (0 + (i + 1) * 1) (encs ei l ++ sp) ++ encs ei (l.drop i) ++ List.drop (0 + (i + 1) * 1 + (l.length - i) * 1) (encs ei l ++ sp)).length := by
  rw [hmin1,List.length_append,List.length_append,hcl4,hdl]; omega
 refine Rg.wd trivial (w_copyT Tryz.underlying41 ty3 hv4 rfl rfl (slc_var hvb rfl) hfit3 (fun u hu => ei_one x u (List.mem_of_mem_take hu))) rfl ?_
 rintro _ w5 ⟨hu5,hv5⟩
 refine Rg.done ?_
 refine Wp.seq (Wp.region ?_)
 refine Rg.tm trivial rfl (t_move rfl) rfl ?_
 refine Rg.tm trivial rfl (t_assign rfl) rfl ?_
 refine Rg.done ?_
 refine Wp.ret ?_
 rw [hmin1] at hv5
 have ea : (List.take (0 + (i + 1) * 1) (encs ei l ++ sp) ++ encs ei (l.drop i) ++ List.drop (0 + (i + 1) * 1 + (l.length - i) * 1) (encs ei l ++ sp)).take (0 + i * 1) = encs ei (l.take i) := by
  rw [List.append_assoc,List.take_append_of_le_length (by rw [hcl4]; omega),List.take_take,Nat.min_eq_left (by omega),Nat.zero_add,encs_take_all ei_len l sp i (by omega)]
 have eb : (List.take (0 + (i + 1) * 1) (encs ei l ++ sp) ++ encs ei (l.drop i) ++ List.drop (0 + (i + 1) * 1 + (l.length - i) * 1) (encs ei l ++ sp)).drop (0 + i * 1 + 1 * 1) = encs ei (l.drop i) ++ List.drop (0 + (i + 1) * 1 + (l.length - i) * 1) (encs ei l ++ sp) := by
  rw [List.append_assoc,show 0 + i * 1 + 1 * 1 = (i + 1) * 1 from by rw [hi1]; omega,List.drop_left' hcl4]
 rw [ea,eb,List.take_of_length_le (show (ei x).length ≤ 1 * 1 from by rw [ei_len]; omega),← List.append_assoc,← insert1_encs] at hv5
 refine ⟨[_],⟨rfl,trivial⟩,?_,(hko.trans (hu4.ko hv hg)).trans (hu5.ko hv4 hg)⟩
 refine whole_ownG hg (by rw [encs_len ei_len,insert1_length]) hrm hmx ?_ hv5
 rw [List.length_drop,List.length_append,hll]
 have : (cap - (l.length + 1)) * 1 = cap * 1 - (l.length + 1) * 1 := Nat.mul_sub_right_distrib _ _ _
 omega
end Go.Proofs.YtliofpegbcegiaaGreatDoor
namespace Go.Proofs.YtliofpegbcegiaaGreatDoor
set_option maxRecDepth 20000
open Go.Gx Go.RowKit Go.Lib
theorem deleteM_ok {w : World} {b o cap i : Nat} {cur : List Value} {l : List MD} (hv : Var w b cur 52) (hcap : l.length ≤ cap) (hmx : cap ≤ maxLen) (hfit : o + cap * 2 ≤ cur.length) (hseg : (cur.drop o).take (l.length * 2) = encs mc l) (hi : i < l.length) (hl : l.length ≤ 1000) :
  Cl Tryz.prog 50 #[.slice (some ⟨b,o,none⟩) l.length cap,.int .i64 i,.int .i64 ((i : Int) + 1)] w (fun u w' => ∃ cur',u = .slice (some ⟨b,o,none⟩) (l.length - 1) cap ∧ Var w' b cur' 52 ∧ cur'.length = cur.length ∧ (cur'.drop o).take ((l.length - 1) * 2) = encs mc (l.eraseIdx i) ∧ Kp [b] w w') := by
 have hx := Ext.refl w
 have hmx' : cap ≤ 9223372036854775807 := hmx
 have hll := encs_len mc_len l
 have hmul : ∀ m,m * 2 = 2 * m := fun m => Nat.mul_comm _ _
 obtain ⟨i0,hi0,hz0,hsi0,hby0⟩ := inf52
 have hcl : l.length * 2 ≤ cap * 2 := Nat.mul_le_mul_right _ hcap
 have hik : i * 2 + (l.length - (i + 1)) * 2 = (l.length - 1) * 2 := by rw [← Nat.add_mul]; congr 1; omega
 have hn1 : (l.length - 1) * 2 + 2 = l.length * 2 := by
  obtain ⟨m,hm⟩ : ∃ m,l.length = m + 1 := ⟨l.length - 1,by omega⟩
  rw [hm,Nat.add_sub_cancel,Nat.add_mul,Nat.one_mul]
 have hseg2 : ∀ a,a ≤ l.length → (cur.drop (o + a * 2)).take ((l.length - a) * 2) = encs mc (l.drop a) := fun a ha => by
  have := congrArg (List.drop (a * 2)) hseg
  rw [encs_drop mc_len,List.drop_take,List.drop_drop] at this
  rw [← this,Nat.sub_mul]
 have hs25 : ∀ w',Var w' b cur 52 → SlC w' (.slice (some (if cap = ((i : Int) + 1).toNat then (⟨b,o,none⟩ : Addr) else ⟨b,o + ((i : Int) + 1).toNat * 2,none⟩)) ((l.length : Int).toNat - ((i : Int) + 1).toNat) (cap - ((i : Int) + 1).toNat)) 2 (l.length - (i + 1)) (encs mc (l.drop (i + 1))) := fun w' h => by
  rw [show ((i : Int) + 1).toNat = i + 1 from by omega,Int.toNat_natCast]
  refine ⟨by rw [encs_len mc_len,List.length_drop],_,_,rfl,by omega,?_⟩
  by_cases hc : cap = i + 1
  ·left; omega
  ·right
   rw [if_neg hc]
   refine ⟨b,o + (i + 1) * 2,rfl,?_⟩
   have := h.cells.sub (o + (i + 1) * 2) ((l.length - (i + 1)) * 2)
   rw [hseg2 (i + 1) (by omega),Nat.zero_add] at this
   exact this
 refine Cl.enter Tryz.func50 rfl Tryz.ntmps50 rfl rfl ?_
 refine Wp.seq (Wp.region ?_)
 refine Rg.tm trivial rfl (t_assign rfl) rfl ?_
 refine Rg.done ?_
 refine Wp.seq (Wp.region ?_)
 refine Rg.tm trivial rfl (t_move rfl) rfl ?_
 refine Rg.tm trivial rfl (t_move rfl) rfl ?_
 refine Rg.tm trivial rfl (t_move rfl) rfl ?_
 refine Rg.tm trivial rfl (t_move rfl) rfl ?_
 refine Rg.tm trivial rfl (t_lenS Tryz.underlying49 rfl) rfl ?_
 refine Rg.tm trivial rfl (t_slice3 Tryz.underlying49 ty52 rfl rfl rfl rfl (by omega)) rfl ?_
 refine Rg.done ?_
 refine Wp.seq ?_
 refine Wp.seq (Wp.region ?_)
 refine Rg.tm trivial rfl (t_move rfl) rfl ?_
 refine Rg.tm trivial rfl (t_move rfl) rfl ?_
 first | refine Rg.tm trivial rfl (t_eqlT rfl rfl (by omega)) rfl ?_ | refine Rg.tm trivial rfl (t_eqlF rfl rfl (by omega)) rfl ?_ | refine Rg.tm trivial rfl (t_eql rfl rfl) rfl ?_
 refine Rg.done ?_
 refine Wp.condF rfl ?_
 refine Wp.skip ?_
 refine Wp.seq (Wp.region ?_)
 refine Rg.tm trivial rfl (t_move rfl) rfl ?_
 refine Rg.tm trivial rfl (t_lenS Tryz.underlying49 rfl) rfl ?_
 refine Rg.tm trivial rfl (t_assign rfl) rfl ?_
 refine Rg.done ?_
 refine Wp.seq (Wp.draw [0,1,2,3,4,5,6,7] [1] mixed (by kernel_rfl) (by kernel_rfl) ?_)
 intro w1 hx1 _
 replace hx := hx.ext hx1
 replace hv := hv.ext hx1
 refine Rg.tm trivial rfl (t_move rfl) rfl ?_
 refine Rg.tm trivial rfl (t_move rfl) rfl ?_
 refine Rg.tm trivial rfl (t_sliceL Tryz.underlying49 ty52 rfl rfl rfl (by omega)) rfl ?_
 rw [show (Value.slice (some (if cap = (0 : Int).toNat then (⟨b,o,none⟩ : Addr) else ⟨b,o + (0 : Int).toNat * 2,none⟩)) ((i : Int).toNat - (0 : Int).toNat) (cap - (0 : Int).toNat)) = .slice (some ⟨b,o,none⟩) i cap from by simp]
 refine Rg.tm trivial rfl (t_move rfl) rfl ?_
 refine Rg.tm trivial rfl (t_move rfl) rfl ?_
 refine Rg.tm trivial rfl (t_sliceL Tryz.underlying49 ty52 rfl rfl rfl (by omega)) rfl ?_
 refine rg_wdC trivial rfl (w_appendV Tryz.underlying49 hi0 hsi0 hv rfl rfl (hs25 _ hv) (encs_one mc_one _) (by omega) (by rw [show (i + (l.length - (i + 1))) = l.length - 1 from by omega]; omega)) rfl (by rfl) ?_
 rintro _ w2 ⟨rfl,hu2,hv1⟩
 have kp := (hx.kp [b]).trans (hu2.kp (by simp))
 rw [show i + (l.length - (i + 1)) = l.length - 1 from by omega]
 clear hx hv
 obtain ⟨cur1,hcur1⟩ : ∃ c,c = cur.take (o + i * 2) ++ encs mc (l.drop (i + 1)) ++ cur.drop (o + i * 2 + (encs mc (l.drop (i + 1))).length) := ⟨_,rfl⟩
 rw [← hcur1] at hv1
 have hdl : (encs mc (l.drop (i + 1))).length = (l.length - (i + 1)) * 2 := by rw [encs_len mc_len,List.length_drop]
 have htl : (cur.take (o + i * 2)).length = o + i * 2 := by rw [List.length_take]; omega
 have hc1l : cur1.length = cur.length := by rw [hcur1,List.length_append,List.length_append,htl,List.length_drop,hdl]; omega
 have hseg1 : (cur1.drop o).take ((l.length - 1) * 2) = encs mc (l.eraseIdx i) := by
  rw [hcur1,List.append_assoc,List.drop_append_of_le_length (by rw [htl]; omega),List.drop_take,← List.append_assoc,List.take_append_of_le_length (by rw [List.length_append,List.length_take,List.length_drop,hdl]; omega),List.take_of_length_le (by rw [List.length_append,List.length_take,List.length_drop,hdl]; omega),List.eraseIdx_eq_take_drop_succ,encs_append]
  congr 1
  rw [show o + i * 2 - o = i * 2 from by omega,← encs_take mc_len,← hseg,List.take_take]
  congr 1
  omega
 refine Rg.tm trivial rfl (t_assign rfl) rfl ?_
 refine Rg.done ?_
 refine Wp.seq (Wp.region ?_)
 refine Rg.tm trivial rfl (t_move rfl) rfl ?_
 refine Rg.tm trivial rfl (t_move rfl) rfl ?_
 refine Rg.tm trivial rfl (t_lenS Tryz.underlying49 rfl) rfl ?_
 refine Rg.tm trivial rfl (t_move rfl) rfl ?_
 refine Rg.tm trivial rfl (t_sliceL Tryz.underlying49 ty52 rfl rfl rfl (by omega)) rfl ?_
 rw [show (Value.slice (some (if cap = (((l.length - 1 : Nat) : Int)).toNat then (⟨b,o,none⟩ : Addr) else ⟨b,o + (((l.length - 1 : Nat) : Int)).toNat * 2,none⟩)) ((l.length : Int).toNat - (((l.length - 1 : Nat) : Int)).toNat) (cap - (((l.length - 1 : Nat) : Int)).toNat)) = .slice (some ⟨b,o + (l.length - 1) * 2,none⟩) 1 (cap - (l.length - 1)) from by rw [Int.toNat_natCast,Int.toNat_natCast,if_neg (by omega),show l.length - (l.length - 1) = 1 from by omega]]
 refine Rg.wn trivial (w_clearV (size := 2) (z := .agg #[.string ⟨#[]⟩,.string ⟨#[]⟩]) (zs := [.string ⟨#[]⟩,.string ⟨#[]⟩]) Tryz.underlying49 Tryz.zeroValue52 rfl rfl hv1 rfl (by rw [hc1l]; omega) (by simp [Value.oneCell'])) ?_
 rintro _ w9 ⟨hu9,cur2,hv2,hl2,ht2,_⟩
 have hk2 := kp.trans (hu9.kp (by simp))
 refine Rg.done ?_
 refine Wp.seq (Wp.region ?_)
 refine Rg.tm trivial rfl (t_move rfl) rfl ?_
 refine Rg.tm trivial rfl (t_assign rfl) rfl ?_
 refine Rg.done ?_
 refine Wp.ret ?_
 refine ⟨[_],⟨rfl,trivial⟩,cur2,rfl,hv2,by rw [hl2,hc1l],?_,hk2⟩
 rw [← hseg1]
 have := congrArg (List.drop o) ht2
 rw [List.drop_take,List.drop_take,show o + (l.length - 1) * 2 - o = (l.length - 1) * 2 from by omega] at this
 exact this
theorem deleteI_ok {w : World} {b o cap i : Nat} {cur : List Value} {l : List Int} (hv : Var w b cur 3) (hcap : l.length ≤ cap) (hmx : cap ≤ maxLen) (hfit : o + cap * 1 ≤ cur.length) (hseg : (cur.drop o).take (l.length * 1) = encs ei l) (hi : i < l.length) (hl : l.length ≤ 1000) :
  Cl Tryz.prog 51 #[.slice (some ⟨b,o,none⟩) l.length cap,.int .i64 i,.int .i64 ((i : Int) + 1)] w (fun u w' => ∃ cur',u = .slice (some ⟨b,o,none⟩) (l.length - 1) cap ∧ Var w' b cur' 3 ∧ cur'.length = cur.length ∧ (cur'.drop o).take ((l.length - 1) * 1) = encs ei (l.eraseIdx i) ∧ Kp [b] w w') := by
 have hx := Ext.refl w
 have hmx' : cap ≤ 9223372036854775807 := hmx
 have hll := encs_len ei_len l
 have hmul : ∀ m,m * 1 = 1 * m := fun m => Nat.mul_comm _ _
 obtain ⟨i0,hi0,hz0,hsi0,hby0⟩ := inf3
 have hcl : l.length * 1 ≤ cap * 1 := Nat.mul_le_mul_right _ hcap
 have hik : i * 1 + (l.length - (i + 1)) * 1 = (l.length - 1) * 1 := by rw [← Nat.add_mul]; congr 1; omega
 have hn1 : (l.length - 1) * 1 + 1 = l.length * 1 := by
  obtain ⟨m,hm⟩ : ∃ m,l.length = m + 1 := ⟨l.length - 1,by omega⟩
  rw [hm,Nat.add_sub_cancel,Nat.add_mul,Nat.one_mul]
 have hseg2 : ∀ a,a ≤ l.length → (cur.drop (o + a * 1)).take ((l.length - a) * 1) = encs ei (l.drop a) := fun a ha => by
  have := congrArg (List.drop (a * 1)) hseg
  rw [encs_drop ei_len,List.drop_take,List.drop_drop] at this
  rw [← this,Nat.sub_mul]
 have hs25 : ∀ w',Var w' b cur 3 → SlC w' (.slice (some (if cap = ((i : Int) + 1).toNat then (⟨b,o,none⟩ : Addr) else ⟨b,o + ((i : Int) + 1).toNat * 1,none⟩)) ((l.length : Int).toNat - ((i : Int) + 1).toNat) (cap - ((i : Int) + 1).toNat)) 1 (l.length - (i + 1)) (encs ei (l.drop (i + 1))) := fun w' h => by
  rw [show ((i : Int) + 1).toNat = i + 1 from by omega,Int.toNat_natCast]
  refine ⟨by rw [encs_len ei_len,List.length_drop],_,_,rfl,by omega,?_⟩
  by_cases hc : cap = i + 1
  ·left; omega
  ·right
   rw [if_neg hc]
   refine ⟨b,o + (i + 1) * 1,rfl,?_⟩
   have := h.cells.sub (o + (i + 1) * 1) ((l.length - (i + 1)) * 1)
   rw [hseg2 (i + 1) (by omega),Nat.zero_add] at this
   exact this
 refine Cl.enter Tryz.func51 rfl Tryz.ntmps51 rfl rfl ?_
 refine Wp.seq (Wp.region ?_)
 refine Rg.tm trivial rfl (t_assign rfl) rfl ?_
 refine Rg.done ?_
 refine Wp.seq (Wp.region ?_)
 refine Rg.tm trivial rfl (t_move rfl) rfl ?_
 refine Rg.tm trivial rfl (t_move rfl) rfl ?_
 refine Rg.tm trivial rfl (t_move rfl) rfl ?_
 refine Rg.tm trivial rfl (t_move rfl) rfl ?_
 refine Rg.tm trivial rfl (t_lenS Tryz.underlying41 rfl) rfl ?_
 refine Rg.tm trivial rfl (t_slice3 Tryz.underlying41 ty3 rfl rfl rfl rfl (by omega)) rfl ?_
 refine Rg.done ?_
 refine Wp.seq ?_
 refine Wp.seq (Wp.region ?_)
 refine Rg.tm trivial rfl (t_move rfl) rfl ?_
 refine Rg.tm trivial rfl (t_move rfl) rfl ?_
 first | refine Rg.tm trivial rfl (t_eqlT rfl rfl (by omega)) rfl ?_ | refine Rg.tm trivial rfl (t_eqlF rfl rfl (by omega)) rfl ?_ | refine Rg.tm trivial rfl (t_eql rfl rfl) rfl ?_
 refine Rg.done ?_
 refine Wp.condF rfl ?_
 refine Wp.skip ?_
 refine Wp.seq (Wp.region ?_)
 refine Rg.tm trivial rfl (t_move rfl) rfl ?_
 refine Rg.tm trivial rfl (t_lenS Tryz.underlying41 rfl) rfl ?_
 refine Rg.tm trivial rfl (t_assign rfl) rfl ?_
 refine Rg.done ?_
 refine Wp.seq (Wp.draw [0,1,2,3,4,5,6,7] [1] mixed (by kernel_rfl) (by kernel_rfl) ?_)
 intro w1 hx1 _
 replace hx := hx.ext hx1
 replace hv := hv.ext hx1
 refine Rg.tm trivial rfl (t_move rfl) rfl ?_
 refine Rg.tm trivial rfl (t_move rfl) rfl ?_
 refine Rg.tm trivial rfl (t_sliceL Tryz.underlying41 ty3 rfl rfl rfl (by omega)) rfl ?_
 rw [show (Value.slice (some (if cap = (0 : Int).toNat then (⟨b,o,none⟩ : Addr) else ⟨b,o + (0 : Int).toNat * 1,none⟩)) ((i : Int).toNat - (0 : Int).toNat) (cap - (0 : Int).toNat)) = .slice (some ⟨b,o,none⟩) i cap from by simp]
 refine Rg.tm trivial rfl (t_move rfl) rfl ?_
 refine Rg.tm trivial rfl (t_move rfl) rfl ?_
 refine Rg.tm trivial rfl (t_sliceL Tryz.underlying41 ty3 rfl rfl rfl (by omega)) rfl ?_
 refine rg_wdC trivial rfl (w_appendV Tryz.underlying41 hi0 hsi0 hv rfl rfl (hs25 _ hv) (encs_one ei_one _) (by omega) (by rw [show (i + (l.length - (i + 1))) = l.length - 1 from by omega]; omega)) rfl (by rfl) ?_
 rintro _ w2 ⟨rfl,hu2,hv1⟩
 have kp := (hx.kp [b]).trans (hu2.kp (by simp))
 rw [show i + (l.length - (i + 1)) = l.length - 1 from by omega]
 clear hx hv
 obtain ⟨cur1,hcur1⟩ : ∃ c,c = cur.take (o + i * 1) ++ encs ei (l.drop (i + 1)) ++ cur.drop (o + i * 1 + (encs ei (l.drop (i + 1))).length) := ⟨_,rfl⟩
 rw [← hcur1] at hv1
 have hdl : (encs ei (l.drop (i + 1))).length = (l.length - (i + 1)) * 1 := by rw [encs_len ei_len,List.length_drop]
 have htl : (cur.take (o + i * 1)).length = o + i * 1 := by rw [List.length_take]; omega
 have hc1l : cur1.length = cur.length := by rw [hcur1,List.length_append,List.length_append,htl,List.length_drop,hdl]; omega
 have hseg1 : (cur1.drop o).take ((l.length - 1) * 1) = encs ei (l.eraseIdx i) := by
  rw [hcur1,List.append_assoc,List.drop_append_of_le_length (by rw [htl]; omega),List.drop_take,← List.append_assoc,List.take_append_of_le_length (by rw [List.length_append,List.length_take,List.length_drop,hdl]; omega),List.take_of_length_le (by rw [List.length_append,List.length_take,List.length_drop,hdl]; omega),List.eraseIdx_eq_take_drop_succ,encs_append]
  congr 1
  rw [show o + i * 1 - o = i * 1 from by omega,← encs_take ei_len,← hseg,List.take_take]
  congr 1
  omega
 refine Rg.tm trivial rfl (t_assign rfl) rfl ?_
 refine Rg.done ?_
 refine Wp.seq (Wp.region ?_)
 refine Rg.tm trivial rfl (t_move rfl) rfl ?_
 refine Rg.tm trivial rfl (t_move rfl) rfl ?_
 refine Rg.tm trivial rfl (t_lenS Tryz.underlying41 rfl) rfl ?_
 refine Rg.tm trivial rfl (t_move rfl) rfl ?_
 refine Rg.tm trivial rfl (t_sliceL Tryz.underlying41 ty3 rfl rfl rfl (by omega)) rfl ?_
 rw [show (Value.slice (some (if cap = (((l.length - 1 : Nat) : Int)).toNat then (⟨b,o,none⟩ : Addr) else ⟨b,o + (((l.length - 1 : Nat) : Int)).toNat * 1,none⟩)) ((l.length : Int).toNat - (((l.length - 1 : Nat) : Int)).toNat) (cap - (((l.length - 1 : Nat) : Int)).toNat)) = .slice (some ⟨b,o + (l.length - 1) * 1,none⟩) 1 (cap - (l.length - 1)) from by rw [Int.toNat_natCast,Int.toNat_natCast,if_neg (by omega),show l.length - (l.length - 1) = 1 from by omega]]
 refine Rg.wn trivial (w_clearV (size := 1) (z := .int .i64 0) (zs := [.int .i64 0]) Tryz.underlying41 Tryz.zeroValue3 rfl rfl hv1 rfl (by rw [hc1l]; omega) (by simp [Value.oneCell'])) ?_
 rintro _ w9 ⟨hu9,cur2,hv2,hl2,ht2,_⟩
 have hk2 := kp.trans (hu9.kp (by simp))
 refine Rg.done ?_
 refine Wp.seq (Wp.region ?_)
 refine Rg.tm trivial rfl (t_move rfl) rfl ?_
 refine Rg.tm trivial rfl (t_assign rfl) rfl ?_
 refine Rg.done ?_
 refine Wp.ret ?_
 refine ⟨[_],⟨rfl,trivial⟩,cur2,rfl,hv2,by rw [hl2,hc1l],?_,hk2⟩
 rw [← hseg1]
 have := congrArg (List.drop o) ht2
 rw [List.drop_take,List.drop_take,show o + (l.length - 1) * 1 - o = (l.length - 1) * 1 from by omega] at this
 exact this
theorem deleteQ_ok {w : World} {b o cap i : Nat} {cur : List Value} {l : List Rq} (hv : Var w b cur 27) (hcap : l.length ≤ cap) (hmx : cap ≤ maxLen) (hfit : o + cap * 5 ≤ cur.length) (hseg : (cur.drop o).take (l.length * 5) = encs rc l) (hi : i < l.length) (hl : l.length ≤ 1000) :
  Cl Tryz.prog 54 #[.slice (some ⟨b,o,none⟩) l.length cap,.int .i64 i,.int .i64 ((i : Int) + 1)] w (fun u w' => ∃ cur',u = .slice (some ⟨b,o,none⟩) (l.length - 1) cap ∧ Var w' b cur' 27 ∧ cur'.length = cur.length ∧ (cur'.drop o).take ((l.length - 1) * 5) = encs rc (l.eraseIdx i) ∧ Kp [b] w w') := by
 have hx := Ext.refl w
 have hmx' : cap ≤ 9223372036854775807 := hmx
 have hll := encs_len rc_len l
 have hmul : ∀ m,m * 5 = 5 * m := fun m => Nat.mul_comm _ _
 obtain ⟨i0,hi0,hz0,hsi0,hby0⟩ := inf27
 have hcl : l.length * 5 ≤ cap * 5 := Nat.mul_le_mul_right _ hcap
 have hik : i * 5 + (l.length - (i + 1)) * 5 = (l.length - 1) * 5 := by rw [← Nat.add_mul]; congr 1; omega
 have hn1 : (l.length - 1) * 5 + 5 = l.length * 5 := by
  obtain ⟨m,hm⟩ : ∃ m,l.length = m + 1 := ⟨l.length - 1,by omega⟩
  rw [hm,Nat.add_sub_cancel,Nat.add_mul,Nat.one_mul]
 have hseg2 : ∀ a,a ≤ l.length → (cur.drop (o + a * 5)).take ((l.length - a) * 5) = encs rc (l.drop a) := fun a ha => by
  have := congrArg (List.drop (a * 5)) hseg
  rw [encs_drop rc_len,List.drop_take,List.drop_drop] at this
  rw [← this,Nat.sub_mul]
 have hs25 : ∀ w',Var w' b cur 27 → SlC w' (.slice (some (if cap = ((i : Int) + 1).toNat then (⟨b,o,none⟩ : Addr) else ⟨b,o + ((i : Int) + 1).toNat * 5,none⟩)) ((l.length : Int).toNat - ((i : Int) + 1).toNat) (cap - ((i : Int) + 1).toNat)) 5 (l.length - (i + 1)) (encs rc (l.drop (i + 1))) := fun w' h => by
  rw [show ((i : Int) + 1).toNat = i + 1 from by omega,Int.toNat_natCast]
  refine ⟨by rw [encs_len rc_len,List.length_drop],_,_,rfl,by omega,?_⟩
  by_cases hc : cap = i + 1
  ·left; omega
  ·right
   rw [if_neg hc]
   refine ⟨b,o + (i + 1) * 5,rfl,?_⟩
   have := h.cells.sub (o + (i + 1) * 5) ((l.length - (i + 1)) * 5)
   rw [hseg2 (i + 1) (by omega),Nat.zero_add] at this
   exact this
 refine Cl.enter Tryz.func54 rfl Tryz.ntmps54 rfl rfl ?_
 refine Wp.seq (Wp.region ?_)
 refine Rg.tm trivial rfl (t_assign rfl) rfl ?_
 refine Rg.done ?_
 refine Wp.seq (Wp.region ?_)
 refine Rg.tm trivial rfl (t_move rfl) rfl ?_
 refine Rg.tm trivial rfl (t_move rfl) rfl ?_
 refine Rg.tm trivial rfl (t_move rfl) rfl ?_
 refine Rg.tm trivial rfl (t_move rfl) rfl ?_
 refine Rg.tm trivial rfl (t_lenS Tryz.underlying38 rfl) rfl ?_
 refine Rg.tm trivial rfl (t_slice3 Tryz.underlying38 ty27 rfl rfl rfl rfl (by omega)) rfl ?_
 refine Rg.done ?_
 refine Wp.seq ?_
 refine Wp.seq (Wp.region ?_)
 refine Rg.tm trivial rfl (t_move rfl) rfl ?_
 refine Rg.tm trivial rfl (t_move rfl) rfl ?_
 first | refine Rg.tm trivial rfl (t_eqlT rfl rfl (by omega)) rfl ?_ | refine Rg.tm trivial rfl (t_eqlF rfl rfl (by omega)) rfl ?_ | refine Rg.tm trivial rfl (t_eql rfl rfl) rfl ?_
 refine Rg.done ?_
 refine Wp.condF rfl ?_
 refine Wp.skip ?_
 refine Wp.seq (Wp.region ?_)
 refine Rg.tm trivial rfl (t_move rfl) rfl ?_
 refine Rg.tm trivial rfl (t_lenS Tryz.underlying38 rfl) rfl ?_
 refine Rg.tm trivial rfl (t_assign rfl) rfl ?_
 refine Rg.done ?_
 refine Wp.seq (Wp.draw [0,1,2,3,4,5,6,7] [1] mixed (by kernel_rfl) (by kernel_rfl) ?_)
 intro w1 hx1 _
 replace hx := hx.ext hx1
 replace hv := hv.ext hx1
 refine Rg.tm trivial rfl (t_move rfl) rfl ?_
 refine Rg.tm trivial rfl (t_move rfl) rfl ?_
 refine Rg.tm trivial rfl (t_sliceL Tryz.underlying38 ty27 rfl rfl rfl (by omega)) rfl ?_
 rw [show (Value.slice (some (if cap = (0 : Int).toNat then (⟨b,o,none⟩ : Addr) else ⟨b,o + (0 : Int).toNat * 5,none⟩)) ((i : Int).toNat - (0 : Int).toNat) (cap - (0 : Int).toNat)) = .slice (some ⟨b,o,none⟩) i cap from by simp]
 refine Rg.tm trivial rfl (t_move rfl) rfl ?_
 refine Rg.tm trivial rfl (t_move rfl) rfl ?_
 refine Rg.tm trivial rfl (t_sliceL Tryz.underlying38 ty27 rfl rfl rfl (by omega)) rfl ?_
 refine rg_wdC trivial rfl (w_appendV Tryz.underlying38 hi0 hsi0 hv rfl rfl (hs25 _ hv) (encs_one rc_one _) (by omega) (by rw [show (i + (l.length - (i + 1))) = l.length - 1 from by omega]; omega)) rfl (by rfl) ?_
 rintro _ w2 ⟨rfl,hu2,hv1⟩
 have kp := (hx.kp [b]).trans (hu2.kp (by simp))
 rw [show i + (l.length - (i + 1)) = l.length - 1 from by omega]
 clear hx hv
 obtain ⟨cur1,hcur1⟩ : ∃ c,c = cur.take (o + i * 5) ++ encs rc (l.drop (i + 1)) ++ cur.drop (o + i * 5 + (encs rc (l.drop (i + 1))).length) := ⟨_,rfl⟩
 rw [← hcur1] at hv1
 have hdl : (encs rc (l.drop (i + 1))).length = (l.length - (i + 1)) * 5 := by rw [encs_len rc_len,List.length_drop]
 have htl : (cur.take (o + i * 5)).length = o + i * 5 := by rw [List.length_take]; omega
 have hc1l : cur1.length = cur.length := by rw [hcur1,List.length_append,List.length_append,htl,List.length_drop,hdl]; omega
 have hseg1 : (cur1.drop o).take ((l.length - 1) * 5) = encs rc (l.eraseIdx i) := by
  rw [hcur1,List.append_assoc,List.drop_append_of_le_length (by rw [htl]; omega),List.drop_take,← List.append_assoc,List.take_append_of_le_length (by rw [List.length_append,List.length_take,List.length_drop,hdl]; omega),List.take_of_length_le (by rw [List.length_append,List.length_take,List.length_drop,hdl]; omega),List.eraseIdx_eq_take_drop_succ,encs_append]
  congr 1
  rw [show o + i * 5 - o = i * 5 from by omega,← encs_take rc_len,← hseg,List.take_take]
  congr 1
  omega
 refine Rg.tm trivial rfl (t_assign rfl) rfl ?_
 refine Rg.done ?_
 refine Wp.seq (Wp.region ?_)
 refine Rg.tm trivial rfl (t_move rfl) rfl ?_
 refine Rg.tm trivial rfl (t_move rfl) rfl ?_
 refine Rg.tm trivial rfl (t_lenS Tryz.underlying38 rfl) rfl ?_
 refine Rg.tm trivial rfl (t_move rfl) rfl ?_
 refine Rg.tm trivial rfl (t_sliceL Tryz.underlying38 ty27 rfl rfl rfl (by omega)) rfl ?_
 rw [show (Value.slice (some (if cap = (((l.length - 1 : Nat) : Int)).toNat then (⟨b,o,none⟩ : Addr) else ⟨b,o + (((l.length - 1 : Nat) : Int)).toNat * 5,none⟩)) ((l.length : Int).toNat - (((l.length - 1 : Nat) : Int)).toNat) (cap - (((l.length - 1 : Nat) : Int)).toNat)) = .slice (some ⟨b,o + (l.length - 1) * 5,none⟩) 1 (cap - (l.length - 1)) from by rw [Int.toNat_natCast,Int.toNat_natCast,if_neg (by omega),show l.length - (l.length - 1) = 1 from by omega]]
 refine Rg.wn trivial (w_clearV (size := 5) (z := .agg #[.int .i64 0,.int .i64 0,.int .i64 0,.int .i64 0,.string ⟨#[]⟩]) (zs := [.int .i64 0,.int .i64 0,.int .i64 0,.int .i64 0,.string ⟨#[]⟩]) Tryz.underlying38 Tryz.zeroValue27 rfl rfl hv1 rfl (by rw [hc1l]; omega) (by simp [Value.oneCell'])) ?_
 rintro _ w9 ⟨hu9,cur2,hv2,hl2,ht2,_⟩
 have hk2 := kp.trans (hu9.kp (by simp))
 refine Rg.done ?_
 refine Wp.seq (Wp.region ?_)
 refine Rg.tm trivial rfl (t_move rfl) rfl ?_
 refine Rg.tm trivial rfl (t_assign rfl) rfl ?_
 refine Rg.done ?_
 refine Wp.ret ?_
 refine ⟨[_],⟨rfl,trivial⟩,cur2,rfl,hv2,by rw [hl2,hc1l],?_,hk2⟩
 rw [← hseg1]
 have := congrArg (List.drop o) ht2
 rw [List.drop_take,List.drop_take,show o + (l.length - 1) * 5 - o = (l.length - 1) * 5 from by omega] at this
 exact this
end Go.Proofs.YtliofpegbcegiaaGreatDoor
namespace Go.Proofs.YtliofpegbcegiaaGreatDoor
set_option maxRecDepth 20000
open Go.Gx Go.RowKit Go.Lib
open Lexi (tok Asc first_ok)
def cmpB (a b : BA) : Int := Lib.compareBytes a.data.toList b.data.toList
def ltB (a b : BA) : Bool := decide (cmpB a b < 0)
theorem cmpL_irr : ∀ l : List UInt8,Lib.compareBytes l l = 0
 | [] => rfl
 | a :: l => by
  unfold Lib.compareBytes
  rw [if_neg (UInt8.lt_irrefl a),if_neg (UInt8.lt_irrefl a),cmpL_irr l]
theorem cmpL_trans : ∀ a b c : List UInt8,Lib.compareBytes a b < 0 → Lib.compareBytes b c < 0 → Lib.compareBytes a c < 0
 | [],[],_,h,_ => by simp [Lib.compareBytes] at h
 | [],_ :: _,[],_,h => by simp [Lib.compareBytes] at h
 | [],_ :: _,_ :: _,_,_ => by simp [Lib.compareBytes]
 | _ :: _,[],_,h,_ => by simp [Lib.compareBytes] at h
 | _ :: _,_ :: _,[],_,h => by simp [Lib.compareBytes] at h
 | a :: as',b :: bs,c :: cs,h1,h2 => by
  unfold Lib.compareBytes at h1 h2 ⊢
  simp only [UInt8.lt_iff_toNat_lt] at h1 h2 ⊢
  have key : a.toNat = b.toNat → b.toNat = c.toNat → Lib.compareBytes as' bs < 0 → Lib.compareBytes bs cs < 0 → Lib.compareBytes as' cs < 0 := fun _ _ => cmpL_trans as' bs cs
  by_cases x1 : a.toNat < b.toNat
  ·by_cases y1 : b.toNat < c.toNat
   ·rw [if_pos (by omega)]; decide
   ·rw [if_neg y1] at h2
    by_cases y2 : c.toNat < b.toNat
    ·rw [if_pos y2] at h2; exact absurd h2 (by decide)
    ·rw [if_pos (by omega)]; decide
  ·rw [if_neg x1] at h1
   by_cases x2 : b.toNat < a.toNat
   ·rw [if_pos x2] at h1; exact absurd h1 (by decide)
   ·rw [if_neg x2] at h1
    by_cases y1 : b.toNat < c.toNat
    ·rw [if_pos (by omega)]; decide
    ·rw [if_neg y1] at h2
     by_cases y2 : c.toNat < b.toNat
     ·rw [if_pos y2] at h2; exact absurd h2 (by decide)
     ·rw [if_neg y2] at h2
      rw [if_neg (by omega),if_neg (by omega)]
      exact key (by omega) (by omega) h1 h2
theorem cmpL_tri : ∀ a b : List UInt8,a ≠ b → ¬ Lib.compareBytes a b < 0 → Lib.compareBytes b a < 0
 | [],[],h,_ => absurd rfl h
 | [],_ :: _,_,h => absurd (by simp [Lib.compareBytes]) h
 | _ :: _,[],_,_ => by simp [Lib.compareBytes]
 | a :: as',b :: bs,h,h1 => by
  unfold Lib.compareBytes at h1 ⊢
  by_cases x1 : a < b
  ·rw [if_pos x1] at h1; exact absurd (by decide) h1
  ·rw [if_neg x1] at h1
   by_cases x2 : b < a
   ·rw [if_pos x2]; decide
   ·rw [if_neg x2] at h1
    rw [if_neg x2,if_neg x1]
    have e : a = b := UInt8.toNat_inj.1 (by rw [UInt8.lt_iff_toNat_lt] at x1 x2; omega)
    subst e
    exact cmpL_tri as' bs (fun e => h (by rw [e])) h1
theorem ltB_irr (a : BA) : ltB a a = false := by simp [ltB,cmpB,cmpL_irr]
theorem ltB_trans (a b c : BA) (h1 : ltB a b = true) (h2 : ltB b c = true) : ltB a c = true := by
 exact decide_eq_true (cmpL_trans _ _ _ (of_decide_eq_true h1) (of_decide_eq_true h2))
theorem ltB_tri (a b : BA) (h : a ≠ b) (h1 : ltB a b = false) : ltB b a = true := by
 refine decide_eq_true (cmpL_tri _ _ (fun e => h ?_) (of_decide_eq_false h1))
 obtain ⟨⟨x⟩⟩ := a
 obtain ⟨⟨y⟩⟩ := b
 simp only at e
 rw [e]
theorem compare_ok {w : World} {a b : BA} : Cl Tryz.prog 47 #[.string a,.string b] w (fun u w' => u = .int .i64 (cmpB a b) ∧ Ext w w') :=
 (Cl.of (Tryz.strings_Compare a b w)).mono fun _ _ ⟨h1,h2⟩ => ⟨h1,by rw [h2]; exact Ext.refl _⟩
theorem count_split {p : MD → Bool} {l : List MD} {i : Nat} (hi : i ≤ l.length) (h1 : ∀ a (ha : a < l.length),a < i → p l[a] = true) (h2 : ∀ a (ha : a < l.length),i ≤ a → p l[a] = false) : l.countP p = i := by
 have e : l.countP p = (l.take i).countP p + (l.drop i).countP p := by rw [← List.countP_append,List.take_append_drop]
 have e1 : (l.take i).countP p = (l.take i).length := by
  rw [List.countP_eq_length]
  intro a ha
  obtain ⟨j,hj,rfl⟩ := List.getElem_of_mem ha
  rw [List.length_take] at hj
  rw [List.getElem_take]
  exact h1 j (by omega) (by omega)
 have e2 : (l.drop i).countP p = 0 := by
  rw [List.countP_eq_zero]
  intro a ha
  obtain ⟨j,hj,rfl⟩ := List.getElem_of_mem ha
  rw [List.length_drop] at hj
  rw [List.getElem_drop,h2 (i + j) (by omega) (by omega)]
  decide
 rw [e,e1,e2,List.length_take]
 omega
theorem convSum (i j : Nat) (h : i + j ≤ 2000) (w : World) : (convert 3 114 (.int .i64 ((i : Int) + (j : Int)))).run Tryz.prog w = .ok (.int .u64 ((i + j : Nat) : Int)) w := by
 rw [run_convert_int w 3 114 .i64 _ (by kernel_rfl) (by kernel_rfl)]
 rw [show Tryz.prog.intKind 114 = .u64 from by kernel_rfl]
 congr 2
 unfold IntKind.wrap
 simp [IntKind.bits,IntKind.signed]
 omega
theorem convBack (m : Nat) (h : m ≤ 2000) (w : World) : (convert 114 3 (.int .u64 (m : Int))).run Tryz.prog w = .ok (.int .i64 (m : Int)) w := by
 rw [run_convert_int w 114 3 .u64 _ (by kernel_rfl) (by kernel_rfl)]
 rw [show Tryz.prog.intKind 3 = .i64 from by kernel_rfl]
 congr 2
 exact wrap_i64 (by omega) (by omega)
theorem t_half {P : Program} {n : Nat} {L : Env} {w : World} {d : Option Tmp} {ty : TypeId} {pos : String} {af : Array Edge} {g : Option (Nat × Bool)} {t t' : TypeId} {x y : Operand} {u : Nat} (hx : evO L x = some (.int .u64 u)) (hy : evO L y = some (.int .u64 1)) : Tm P n ⟨d,.binOp .shr t x y t',ty,pos,af,g⟩ L w (.int .u64 ((u / 2 : Nat) : Int)) := fun a ha w' _ => by
 simp only [execOp,eqGuard,binOp,ha.eval hx,ha.eval hy]
 rw [shift_shr_any .u64 .u64 u 1 (by decide)]
 have : min (1 : Int).toNat IntKind.u64.bits = 1 := by decide
 simp [this]
 rw [show min 1 IntKind.u64.bits = 1 from by decide]
 simp
theorem cmpMod_ok {w : World} {m : MD} {name : BA} : Cl Tryz.prog 46 #[.agg (mc m).toArray,.string name] w (fun u w' => u = .int .i64 (cmpB m.1 name) ∧ Ext w w') := by
 have hx := Ext.refl w
 obtain ⟨nm,tx⟩ := m
 simp only [mc]
 refine Cl.enter Tryz.func46 rfl Tryz.ntmps46 rfl rfl ?_
 refine Wp.seq (Wp.region ?_)
 refine Rg.wd trivial (w_boxed rfl rfl) rfl ?_
 rintro _ w1 ⟨b2,rfl,qb2,hx1,hv2⟩
 replace hx := hx.ext hx1
 have hc2 := hv2.cells
 refine Rg.tm trivial rfl (t_assign rfl) rfl ?_
 refine Rg.done ?_
 refine Wp.seq (Wp.region ?_)
 refine Rg.tm trivial rfl (t_fieldAddr fa52_0 rfl) rfl ?_
 refine Rg.tm trivial rfl (t_load ty9 rfl (by apply Cells.get (i := 0); (case h => assumption); rfl)) rfl ?_
 refine Rg.tm trivial rfl (t_move rfl) rfl ?_
 refine Rg.wd trivial (w_call Tryz.call47 rfl (compare_ok)) rfl ?_
 rintro _ w2 ⟨rfl,hx2⟩
 replace hx := hx.ext hx2
 replace hv2 := hv2.ext hx2
 replace hc2 := hc2.ext hx2
 refine Rg.tm trivial rfl (t_assign rfl) rfl ?_
 refine Rg.done ?_
 refine Wp.ret ?_
 exact ⟨[_],⟨rfl,trivial⟩,rfl,hx⟩
theorem search_ok {w : World} {v : Value} {l : List MD} {name : BA} (hs0 : SlC w v 2 l.length (encs mc l)) (hl : l.length ≤ 1000) (hmon : ∀ i j (hi : i < l.length) (hj : j < l.length),i < j → ltB l[j].1 name = true → ltB l[i].1 name = true) :
  Cl Tryz.prog 45 #[v,.string name,.func (.func 46) #[] #[]] w (fun u w' => (∃ b,u = .tuple #[.int .i64 ((l.countP fun m => ltB m.1 name : Nat) : Int),.bool b]) ∧ Ext w w') := by
 have hx := Ext.refl w
 refine Cl.enter Tryz.func45 rfl Tryz.ntmps45 rfl rfl ?_
 refine Wp.seq (Wp.region ?_)
 refine Rg.tm trivial rfl (t_assign rfl) rfl ?_
 refine Rg.tm trivial rfl (t_assign rfl) rfl ?_
 refine Rg.done ?_
 refine Wp.seq (Wp.region ?_)
 refine Rg.tm trivial rfl (t_move rfl) rfl ?_
 refine Rg.tm trivial rfl (t_lenC hs0 Tryz.underlying49 rfl) rfl ?_
 refine Rg.tm trivial rfl (t_assign rfl) rfl ?_
 refine Rg.done ?_
 refine Wp.seq (Wp.region ?_)
 refine Rg.tm trivial rfl (t_move rfl) rfl ?_
 refine Rg.tm trivial rfl (t_assign rfl) rfl ?_
 refine Rg.tm trivial rfl (t_assign rfl) rfl ?_
 refine Rg.done ?_
 refine Wp.seq ?_
 refine Wp.block ?_
 refine Wp.loop (ι := Nat × Nat) (fun k => [(0,v),(1,.string name),(2,.func (.func 46) #[] #[]),(8,.int .i64 l.length),(9,.int .i64 k.1),(10,.int .i64 k.2)])
  (fun k w' => k.1 ≤ k.2 ∧ k.2 ≤ l.length ∧ (∀ a (ha : a < l.length),a < k.1 → ltB l[a].1 name = true) ∧ (∀ a (ha : a < l.length),k.2 ≤ a → ltB l[a].1 name = false) ∧ Ext w w') (fun k => k.2 - k.1) (0,l.length) (by repeat (first | exact .nil | refine .cons rfl ?_)) ⟨Nat.zero_le _,Nat.le_refl _,fun a ha h => by omega,fun a ha h => absurd ha (by simpa using h),hx⟩ ?_
 clear hx
 rintro ⟨i,j⟩ w3 ⟨hij,hjl,hlo,hhi,hx⟩
 simp only at hij hjl hlo hhi ⊢
 by_cases hlt : i < j
 ·obtain ⟨h,hh⟩ : ∃ h,(i + j) / 2 = h := ⟨_,rfl⟩
  have hih : i ≤ h ∧ h < j := by omega
  have hhl : h < l.length := by omega
  refine Wp.seq ?_
  refine Wp.seq (Wp.region ?_)
  refine Rg.tm trivial rfl (t_move rfl) rfl ?_
  refine Rg.tm trivial rfl (t_move rfl) rfl ?_
  first | refine Rg.tm trivial rfl (t_lssT rfl rfl (by omega)) rfl ?_ | refine Rg.tm trivial rfl (t_lssF rfl rfl (by omega)) rfl ?_ | refine Rg.tm trivial rfl (t_lss rfl rfl) rfl ?_
  refine Rg.done ?_
  refine Wp.condT rfl ?_
  refine Wp.skip ?_
  refine Wp.block ?_
  refine Wp.seq (Wp.region ?_)
  refine Rg.tm trivial rfl (t_move rfl) rfl ?_
  refine Rg.tm trivial rfl (t_move rfl) rfl ?_
  first | refine Rg.tm trivial rfl (t_addI rfl rfl (by omega)) rfl ?_ | refine Rg.tm trivial rfl (t_add rfl rfl) rfl ?_
  refine Rg.tm trivial rfl (t_conv (convSum i j (by omega)) rfl) rfl ?_
  refine Rg.tm trivial rfl (t_half rfl rfl) rfl ?_
  rw [hh]
  refine Rg.tm trivial rfl (t_conv (convBack h (by omega)) rfl) rfl ?_
  refine Rg.tm trivial rfl (t_assign rfl) rfl ?_
  refine Rg.done ?_
  refine Wp.seq (Wp.region ?_)
  refine Rg.tm trivial rfl (t_move rfl) rfl ?_
  refine Rg.tm trivial rfl (t_move rfl) rfl ?_
  refine Rg.tm trivial rfl (t_move rfl) rfl ?_
  refine Rg.ix hs0 trivial rfl rfl Tryz.underlying49 ty52 (by omega) rfl ?_
  intro bt27 ot27 ht27
  replace ht27 := ht27.ext hx
  rw [Int.toNat_natCast,encs_at mc_len l h hhl] at ht27
  refine Rg.tm trivial rfl (t_loadA rfl ht27 ty52) rfl ?_
  refine Rg.tm trivial rfl (t_move rfl) rfl ?_
  refine Rg.wd trivial (w_callK (vs := [.agg (mc l[h]).toArray,.string name]) (cap := []) rfl Tryz.call46 rfl cmpMod_ok) rfl ?_
  rintro _ w1 ⟨rfl,hx1⟩
  replace hx := hx.ext hx1
  replace ht27 := ht27.ext hx1
  refine Rg.tm trivial rfl (t_lss rfl rfl) rfl ?_
  refine Rg.done ?_
  cases hc : ltB l[h].1 name with
  | true =>
   rw [show decide (cmpB l[h].1 name < 0) = true from hc]
   refine Wp.condT rfl ?_
   refine Wp.region ?_
   refine Rg.tm trivial rfl (t_move rfl) rfl ?_
   first | refine Rg.tm trivial rfl (t_addI rfl rfl (by omega)) rfl ?_ | refine Rg.tm trivial rfl (t_add rfl rfl) rfl ?_
   refine Rg.tm trivial rfl (t_assign rfl) rfl ?_
   refine Rg.done ?_
   refine ⟨(h + 1,j),by repeat (first | exact .nil | refine .cons rfl ?_),⟨by simp only; omega,hjl,fun a ha h2 => ?_,hhi,hx⟩,by simp only; omega⟩
   simp only at h2
   by_cases e : a = h
   ·subst e; exact hc
   ·exact hmon a h ha hhl (by omega) hc
  | false =>
   rw [show decide (cmpB l[h].1 name < 0) = false from hc]
   refine Wp.condF rfl ?_
   refine Wp.region ?_
   refine Rg.tm trivial rfl (t_move rfl) rfl ?_
   refine Rg.tm trivial rfl (t_assign rfl) rfl ?_
   refine Rg.done ?_
   refine ⟨(i,h),by repeat (first | exact .nil | refine .cons rfl ?_),⟨by simp only; omega,by simp only; omega,hlo,fun a ha h2 => ?_,hx⟩,by simp only; omega⟩
   simp only at h2
   by_cases e : a = h
   ·subst e; exact hc
   ·cases hca : ltB l[a].1 name with
    | false => rfl
    | true => rw [hmon h a hhl ha (by omega) hca] at hc; cases hc
 ·obtain rfl : i = j := by omega
  rw [count_split hjl hlo hhi]
  by_cases hil : i < l.length
  ·skip
   refine Wp.seq ?_
   refine Wp.seq (Wp.region ?_)
   refine Rg.tm trivial rfl (t_move rfl) rfl ?_
   refine Rg.tm trivial rfl (t_move rfl) rfl ?_
   first | refine Rg.tm trivial rfl (t_lssT rfl rfl (by omega)) rfl ?_ | refine Rg.tm trivial rfl (t_lssF rfl rfl (by omega)) rfl ?_ | refine Rg.tm trivial rfl (t_lss rfl rfl) rfl ?_
   refine Rg.done ?_
   refine Wp.condF rfl ?_
   refine Wp.exit ?_
   refine Wp.seq (Wp.region ?_)
   refine Rg.tm trivial rfl (t_move rfl) rfl ?_
   refine Rg.tm trivial rfl (t_move rfl) rfl ?_
   refine Rg.tm trivial rfl (t_move rfl) rfl ?_
   first | refine Rg.tm trivial rfl (t_lssT rfl rfl (by omega)) rfl ?_ | refine Rg.tm trivial rfl (t_lssF rfl rfl (by omega)) rfl ?_ | refine Rg.tm trivial rfl (t_lss rfl rfl) rfl ?_
   refine Rg.tm trivial rfl (t_move rfl) rfl ?_
   first | refine Rg.tm ⟨_,rfl,rfl⟩ rfl (t_move rfl) rfl ?_ | refine Rg.so rfl rfl ?_
   first | refine Rg.tm ⟨_,rfl,rfl⟩ rfl (t_move rfl) rfl ?_ | refine Rg.so rfl rfl ?_
   first | refine Rg.tm ⟨_,rfl,rfl⟩ rfl (t_move rfl) rfl ?_ | refine Rg.so rfl rfl ?_
   refine Rg.ix hs0 ⟨_,rfl,rfl⟩ rfl rfl Tryz.underlying49 ty52 (by omega) rfl ?_
   intro bt43 ot43 ht43
   replace ht43 := ht43.ext hx
   rw [Int.toNat_natCast,encs_at mc_len l i hil] at ht43
   refine Rg.tm ⟨_,rfl,rfl⟩ rfl (t_loadA rfl ht43 ty52) rfl ?_
   first | refine Rg.tm ⟨_,rfl,rfl⟩ rfl (t_move rfl) rfl ?_ | refine Rg.so rfl rfl ?_
   refine Rg.wd ⟨_,rfl,rfl⟩ (w_callK (vs := [.agg (mc l[i]).toArray,.string name]) (cap := []) rfl Tryz.call46 rfl cmpMod_ok) rfl ?_
   rintro _ w1 ⟨rfl,hx1⟩
   replace hx := hx.ext hx1
   replace ht43 := ht43.ext hx1
   refine Rg.tm ⟨_,rfl,rfl⟩ rfl (t_eql rfl rfl) rfl ?_
   first | refine Rg.tm trivial rfl (t_pickT rfl rfl) rfl ?_ | refine Rg.tm trivial rfl (t_pickF rfl rfl) rfl ?_
   refine Rg.tm trivial rfl (t_assign rfl) rfl ?_
   refine Rg.tm trivial rfl (t_assign rfl) rfl ?_
   refine Rg.done ?_
   refine Wp.ret ?_
   exact ⟨[_,_],⟨rfl,rfl,trivial⟩,⟨_,rfl⟩,hx⟩
  ·skip
   refine Wp.seq ?_
   refine Wp.seq (Wp.region ?_)
   refine Rg.tm trivial rfl (t_move rfl) rfl ?_
   refine Rg.tm trivial rfl (t_move rfl) rfl ?_
   first | refine Rg.tm trivial rfl (t_lssT rfl rfl (by omega)) rfl ?_ | refine Rg.tm trivial rfl (t_lssF rfl rfl (by omega)) rfl ?_ | refine Rg.tm trivial rfl (t_lss rfl rfl) rfl ?_
   refine Rg.done ?_
   refine Wp.condF rfl ?_
   refine Wp.exit ?_
   refine Wp.seq (Wp.region ?_)
   refine Rg.tm trivial rfl (t_move rfl) rfl ?_
   refine Rg.tm trivial rfl (t_move rfl) rfl ?_
   refine Rg.tm trivial rfl (t_move rfl) rfl ?_
   first | refine Rg.tm trivial rfl (t_lssT rfl rfl (by omega)) rfl ?_ | refine Rg.tm trivial rfl (t_lssF rfl rfl (by omega)) rfl ?_ | refine Rg.tm trivial rfl (t_lss rfl rfl) rfl ?_
   refine Rg.tm trivial rfl (t_move rfl) rfl ?_
   first | refine Rg.tm ⟨_,rfl,rfl⟩ rfl (t_move rfl) rfl ?_ | refine Rg.so rfl rfl ?_
   first | refine Rg.tm ⟨_,rfl,rfl⟩ rfl (t_move rfl) rfl ?_ | refine Rg.so rfl rfl ?_
   first | refine Rg.tm ⟨_,rfl,rfl⟩ rfl (t_move rfl) rfl ?_ | refine Rg.so rfl rfl ?_
   refine Rg.so rfl rfl ?_
   refine Rg.so rfl rfl ?_
   first | refine Rg.tm ⟨_,rfl,rfl⟩ rfl (t_move rfl) rfl ?_ | refine Rg.so rfl rfl ?_
   refine Rg.so rfl rfl ?_
   refine Rg.so rfl rfl ?_
   first | refine Rg.tm trivial rfl (t_pickT rfl rfl) rfl ?_ | refine Rg.tm trivial rfl (t_pickF rfl rfl) rfl ?_
   refine Rg.tm trivial rfl (t_assign rfl) rfl ?_
   refine Rg.tm trivial rfl (t_assign rfl) rfl ?_
   refine Rg.done ?_
   refine Wp.ret ?_
   exact ⟨[_,_],⟨rfl,rfl,trivial⟩,⟨_,rfl⟩,hx⟩
theorem nameIs_ok {w : World} {bn : Nat} {m : MD} {name : BA} (hv : Var w bn [.string name] 9) : Cl Tryz.prog 78 #[.agg (mc m).toArray,.pointer (some ⟨bn,0,none⟩)] w (fun u w' => u = .bool (decide (m.1 = name)) ∧ Ext w w') := by
 have hx := Ext.refl w
 have hcn := hv.cells
 obtain ⟨nm,tx⟩ := m
 simp only [mc]
 refine Cl.enter Tryz.func78 rfl Tryz.ntmps78 rfl rfl ?_
 refine Wp.seq (Wp.region ?_)
 refine Rg.wd trivial (w_boxed rfl rfl) rfl ?_
 rintro _ w1 ⟨b2,rfl,qb2,hx1,hv2⟩
 replace hx := hx.ext hx1
 replace hcn := hcn.ext hx1
 have hc2 := hv2.cells
 refine Rg.tm trivial rfl (t_assign rfl) rfl ?_
 refine Rg.done ?_
 refine Wp.seq (Wp.region ?_)
 refine Rg.tm trivial rfl (t_fieldAddr fa52_0 rfl) rfl ?_
 refine Rg.tm trivial rfl (t_load ty9 rfl (by apply Cells.get (i := 0); (case h => assumption); rfl)) rfl ?_
 refine Rg.tm trivial rfl (t_load ty9 rfl (by first | assumption | (apply Cells.get (i := 0); (case h => assumption); rfl))) rfl ?_
 first | refine Rg.tm trivial rfl (t_seqlT rfl rfl (by first | with_reducible rfl | assumption)) rfl ?_ | refine Rg.tm trivial rfl (t_seqlF rfl rfl (by assumption)) rfl ?_ | refine Rg.tm trivial rfl (t_seql rfl rfl) rfl ?_
 refine Rg.tm trivial rfl (t_assign rfl) rfl ?_
 refine Rg.done ?_
 refine Wp.ret ?_
 exact ⟨[_],⟨rfl,trivial⟩,rfl,hx⟩
theorem wIndexOf_ok {w : World} {v : Value} {l : List MD} {name : BA} (hs : SlC w v 2 l.length (encs mc l)) (hl : l.length ≤ 1000) :
  Cl Tryz.prog 60 #[v,.string name] w (fun u w' => u = .int .i64 (idxM l name) ∧ Ext w w') := by
 have hx := Ext.refl w
 refine Cl.enter Tryz.func60 rfl Tryz.ntmps60 rfl rfl ?_
 refine Wp.seq (Wp.region ?_)
 refine Rg.wd trivial (w_boxed rfl rfl) rfl ?_
 rintro _ w1 ⟨b3,rfl,qb3,hx1,hv3⟩
 replace hx := hx.ext hx1
 replace hs := hs.ext hx1
 refine Rg.tm trivial rfl (t_assign rfl) rfl ?_
 refine Rg.done ?_
 refine Wp.seq (Wp.region ?_)
 refine Rg.tm trivial rfl (t_move rfl) rfl ?_
 refine Rg.tm trivial rfl (t_makeFunc (vs := [_]) rfl) rfl ?_
 refine Rg.wd trivial (w_call Tryz.call77 rfl (indexFM_ok (f := 78) (cap := [.pointer (some ⟨b3,0,none⟩)]) (q := fun m => decide (m.1 = name)) hs hl Tryz.call78 (fun w' a _ hx' => nameIs_ok (hv3.ext hx')))) rfl ?_
 rintro _ w2 ⟨rfl,hx2⟩
 replace hx := hx.ext hx2
 replace hs := hs.ext hx2
 replace hv3 := hv3.ext hx2
 refine Rg.tm trivial rfl (t_assign rfl) rfl ?_
 refine Rg.done ?_
 refine Wp.ret ?_
 exact ⟨[_],⟨rfl,trivial⟩,rfl,hx⟩
def ident (s : BA) : Bool := decide (0 < s.size) && decide (s.size ≤ 30) && decide ((tok s).1 = s.size) && decide ((tok s).2 = 103)
theorem isIdent_ok {w : World} {s : BA} (hA : Asc w) : Cl Tryz.prog 82 #[.string s] w (fun u w' => u = .bool (ident s) ∧ Ext w w') := by
 have hx := Ext.refl w
 by_cases h0 : s.size = 0
 ·skip
  refine Cl.enter Tryz.func82 rfl Tryz.ntmps82 rfl rfl ?_
  refine Wp.seq (Wp.region ?_)
  refine Rg.tm trivial rfl (t_assign rfl) rfl ?_
  refine Rg.done ?_
  refine Wp.seq ?_
  refine Wp.seq (Wp.region ?_)
  refine Rg.tm trivial rfl (t_move rfl) rfl ?_
  refine Rg.tm trivial rfl (t_len Tryz.underlying9 rfl) rfl ?_
  first | refine Rg.tm trivial rfl (t_eqlT rfl rfl (by omega)) rfl ?_ | refine Rg.tm trivial rfl (t_eqlF rfl rfl (by omega)) rfl ?_ | refine Rg.tm trivial rfl (t_eql rfl rfl) rfl ?_
  refine Rg.tm trivial rfl (t_move rfl) rfl ?_
  first | refine Rg.tm ⟨_,rfl,rfl⟩ rfl (t_move rfl) rfl ?_ | refine Rg.so rfl rfl ?_
  first | refine Rg.tm ⟨_,rfl,rfl⟩ rfl (t_len Tryz.underlying9 rfl) rfl ?_ | refine Rg.so rfl rfl ?_
  first | refine Rg.tm ⟨_,rfl,rfl⟩ rfl (t_gtrT rfl rfl (by omega)) rfl ?_ | refine Rg.tm ⟨_,rfl,rfl⟩ rfl (t_gtrF rfl rfl (by omega)) rfl ?_ | refine Rg.tm ⟨_,rfl,rfl⟩ rfl (t_gtr rfl rfl) rfl ?_ | refine Rg.so rfl rfl ?_
  first | refine Rg.tm trivial rfl (t_pickT rfl rfl) rfl ?_ | refine Rg.tm trivial rfl (t_pickF rfl rfl) rfl ?_
  refine Rg.done ?_
  refine Wp.condT rfl ?_
  refine Wp.seq (Wp.region ?_)
  refine Rg.tm trivial rfl (t_assign rfl) rfl ?_
  refine Rg.done ?_
  refine Wp.ret ?_
  exact ⟨[_],⟨rfl,trivial⟩,by simp [ident,h0,tup],hx⟩
 ·by_cases h1 : 30 < s.size
  ·skip
   refine Cl.enter Tryz.func82 rfl Tryz.ntmps82 rfl rfl ?_
   refine Wp.seq (Wp.region ?_)
   refine Rg.tm trivial rfl (t_assign rfl) rfl ?_
   refine Rg.done ?_
   refine Wp.seq ?_
   refine Wp.seq (Wp.region ?_)
   refine Rg.tm trivial rfl (t_move rfl) rfl ?_
   refine Rg.tm trivial rfl (t_len Tryz.underlying9 rfl) rfl ?_
   first | refine Rg.tm trivial rfl (t_eqlT rfl rfl (by omega)) rfl ?_ | refine Rg.tm trivial rfl (t_eqlF rfl rfl (by omega)) rfl ?_ | refine Rg.tm trivial rfl (t_eql rfl rfl) rfl ?_
   refine Rg.tm trivial rfl (t_move rfl) rfl ?_
   first | refine Rg.tm ⟨_,rfl,rfl⟩ rfl (t_move rfl) rfl ?_ | refine Rg.so rfl rfl ?_
   refine Rg.tm ⟨_,rfl,rfl⟩ rfl (t_len Tryz.underlying9 rfl) rfl ?_
   first | refine Rg.tm ⟨_,rfl,rfl⟩ rfl (t_gtrT rfl rfl (by omega)) rfl ?_ | refine Rg.tm ⟨_,rfl,rfl⟩ rfl (t_gtrF rfl rfl (by omega)) rfl ?_ | refine Rg.tm ⟨_,rfl,rfl⟩ rfl (t_gtr rfl rfl) rfl ?_ | refine Rg.so rfl rfl ?_
   first | refine Rg.tm trivial rfl (t_pickT rfl rfl) rfl ?_ | refine Rg.tm trivial rfl (t_pickF rfl rfl) rfl ?_
   refine Rg.done ?_
   refine Wp.condT rfl ?_
   refine Wp.seq (Wp.region ?_)
   refine Rg.tm trivial rfl (t_assign rfl) rfl ?_
   refine Rg.done ?_
   refine Wp.ret ?_
   exact ⟨[_],⟨rfl,trivial⟩,by simp [ident,Nat.not_le.2 h1,tup],hx⟩
  ·by_cases h2 : (tok s).1 = s.size
   ·skip
    refine Cl.enter Tryz.func82 rfl Tryz.ntmps82 rfl rfl ?_
    refine Wp.seq (Wp.region ?_)
    refine Rg.tm trivial rfl (t_assign rfl) rfl ?_
    refine Rg.done ?_
    refine Wp.seq ?_
    refine Wp.seq (Wp.region ?_)
    refine Rg.tm trivial rfl (t_move rfl) rfl ?_
    refine Rg.tm trivial rfl (t_len Tryz.underlying9 rfl) rfl ?_
    first | refine Rg.tm trivial rfl (t_eqlT rfl rfl (by omega)) rfl ?_ | refine Rg.tm trivial rfl (t_eqlF rfl rfl (by omega)) rfl ?_ | refine Rg.tm trivial rfl (t_eql rfl rfl) rfl ?_
    refine Rg.tm trivial rfl (t_move rfl) rfl ?_
    first | refine Rg.tm ⟨_,rfl,rfl⟩ rfl (t_move rfl) rfl ?_ | refine Rg.so rfl rfl ?_
    refine Rg.tm ⟨_,rfl,rfl⟩ rfl (t_len Tryz.underlying9 rfl) rfl ?_
    first | refine Rg.tm ⟨_,rfl,rfl⟩ rfl (t_gtrT rfl rfl (by omega)) rfl ?_ | refine Rg.tm ⟨_,rfl,rfl⟩ rfl (t_gtrF rfl rfl (by omega)) rfl ?_ | refine Rg.tm ⟨_,rfl,rfl⟩ rfl (t_gtr rfl rfl) rfl ?_ | refine Rg.so rfl rfl ?_
    first | refine Rg.tm trivial rfl (t_pickT rfl rfl) rfl ?_ | refine Rg.tm trivial rfl (t_pickF rfl rfl) rfl ?_
    refine Rg.done ?_
    refine Wp.condF rfl ?_
    refine Wp.skip ?_
    refine Wp.seq (Wp.region ?_)
    refine Rg.tm trivial rfl (t_move rfl) rfl ?_
    refine Rg.wd trivial (w_call Tryz.call95 rfl (first_ok (by omega) (by omega) (hA.ext hx))) rfl ?_
    rintro _ w1 ⟨rfl,hx1⟩
    replace hx := hx.ext hx1
    refine Rg.tm trivial rfl (t_move rfl) rfl ?_
    refine Rg.tm trivial rfl (t_extract rfl rfl) rfl ?_
    refine Rg.tm trivial rfl (t_extract rfl rfl) rfl ?_
    refine Rg.tm trivial rfl (t_assign rfl) rfl ?_
    refine Rg.tm trivial rfl (t_assign rfl) rfl ?_
    refine Rg.done ?_
    refine Wp.seq (Wp.region ?_)
    refine Rg.tm trivial rfl (t_move rfl) rfl ?_
    refine Rg.tm trivial rfl (t_move rfl) rfl ?_
    refine Rg.tm trivial rfl (t_len Tryz.underlying9 rfl) rfl ?_
    first | refine Rg.tm trivial rfl (t_eqlT rfl rfl (by omega)) rfl ?_ | refine Rg.tm trivial rfl (t_eqlF rfl rfl (by omega)) rfl ?_ | refine Rg.tm trivial rfl (t_eql rfl rfl) rfl ?_
    refine Rg.tm trivial rfl (t_move rfl) rfl ?_
    first | refine Rg.tm ⟨_,rfl,rfl⟩ rfl (t_move rfl) rfl ?_ | refine Rg.so rfl rfl ?_
    refine Rg.tm ⟨_,rfl,rfl⟩ rfl (t_eql rfl rfl) rfl ?_
    first | refine Rg.tm trivial rfl (t_pickT rfl rfl) rfl ?_ | refine Rg.tm trivial rfl (t_pickF rfl rfl) rfl ?_
    refine Rg.tm trivial rfl (t_assign rfl) rfl ?_
    refine Rg.done ?_
    refine Wp.ret ?_
    exact ⟨[_],⟨rfl,trivial⟩,by simp [ident,h1,h2,tup]; omega,hx⟩
   ·skip
    refine Cl.enter Tryz.func82 rfl Tryz.ntmps82 rfl rfl ?_
    refine Wp.seq (Wp.region ?_)
    refine Rg.tm trivial rfl (t_assign rfl) rfl ?_
    refine Rg.done ?_
    refine Wp.seq ?_
    refine Wp.seq (Wp.region ?_)
    refine Rg.tm trivial rfl (t_move rfl) rfl ?_
    refine Rg.tm trivial rfl (t_len Tryz.underlying9 rfl) rfl ?_
    first | refine Rg.tm trivial rfl (t_eqlT rfl rfl (by omega)) rfl ?_ | refine Rg.tm trivial rfl (t_eqlF rfl rfl (by omega)) rfl ?_ | refine Rg.tm trivial rfl (t_eql rfl rfl) rfl ?_
    refine Rg.tm trivial rfl (t_move rfl) rfl ?_
    first | refine Rg.tm ⟨_,rfl,rfl⟩ rfl (t_move rfl) rfl ?_ | refine Rg.so rfl rfl ?_
    refine Rg.tm ⟨_,rfl,rfl⟩ rfl (t_len Tryz.underlying9 rfl) rfl ?_
    first | refine Rg.tm ⟨_,rfl,rfl⟩ rfl (t_gtrT rfl rfl (by omega)) rfl ?_ | refine Rg.tm ⟨_,rfl,rfl⟩ rfl (t_gtrF rfl rfl (by omega)) rfl ?_ | refine Rg.tm ⟨_,rfl,rfl⟩ rfl (t_gtr rfl rfl) rfl ?_ | refine Rg.so rfl rfl ?_
    first | refine Rg.tm trivial rfl (t_pickT rfl rfl) rfl ?_ | refine Rg.tm trivial rfl (t_pickF rfl rfl) rfl ?_
    refine Rg.done ?_
    refine Wp.condF rfl ?_
    refine Wp.skip ?_
    refine Wp.seq (Wp.region ?_)
    refine Rg.tm trivial rfl (t_move rfl) rfl ?_
    refine Rg.wd trivial (w_call Tryz.call95 rfl (first_ok (by omega) (by omega) (hA.ext hx))) rfl ?_
    rintro _ w1 ⟨rfl,hx1⟩
    replace hx := hx.ext hx1
    refine Rg.tm trivial rfl (t_move rfl) rfl ?_
    refine Rg.tm trivial rfl (t_extract rfl rfl) rfl ?_
    refine Rg.tm trivial rfl (t_extract rfl rfl) rfl ?_
    refine Rg.tm trivial rfl (t_assign rfl) rfl ?_
    refine Rg.tm trivial rfl (t_assign rfl) rfl ?_
    refine Rg.done ?_
    refine Wp.seq (Wp.region ?_)
    refine Rg.tm trivial rfl (t_move rfl) rfl ?_
    refine Rg.tm trivial rfl (t_move rfl) rfl ?_
    refine Rg.tm trivial rfl (t_len Tryz.underlying9 rfl) rfl ?_
    first | refine Rg.tm trivial rfl (t_eqlT rfl rfl (by omega)) rfl ?_ | refine Rg.tm trivial rfl (t_eqlF rfl rfl (by omega)) rfl ?_ | refine Rg.tm trivial rfl (t_eql rfl rfl) rfl ?_
    refine Rg.tm trivial rfl (t_move rfl) rfl ?_
    first | refine Rg.tm ⟨_,rfl,rfl⟩ rfl (t_move rfl) rfl ?_ | refine Rg.so rfl rfl ?_
    first | refine Rg.tm ⟨_,rfl,rfl⟩ rfl (t_eqlT rfl rfl (by omega)) rfl ?_ | refine Rg.tm ⟨_,rfl,rfl⟩ rfl (t_eqlF rfl rfl (by omega)) rfl ?_ | refine Rg.tm ⟨_,rfl,rfl⟩ rfl (t_eql rfl rfl) rfl ?_ | refine Rg.so rfl rfl ?_
    first | refine Rg.tm trivial rfl (t_pickT rfl rfl) rfl ?_ | refine Rg.tm trivial rfl (t_pickF rfl rfl) rfl ?_
    refine Rg.tm trivial rfl (t_assign rfl) rfl ?_
    refine Rg.done ?_
    refine Wp.ret ?_
    exact ⟨[_],⟨rfl,trivial⟩,by simp [ident,h2,tup],hx⟩
theorem isLong_ok {w : World} {m : MD} : Cl Tryz.prog 80 #[.agg (mc m).toArray] w (fun u w' => u = .bool (decide (2000 < m.2.size)) ∧ Ext w w') := by
 have hx := Ext.refl w
 obtain ⟨nm,tx⟩ := m
 simp only [mc]
 refine Cl.enter Tryz.func80 rfl Tryz.ntmps80 rfl rfl ?_
 refine Wp.seq (Wp.region ?_)
 refine Rg.wd trivial (w_boxed rfl rfl) rfl ?_
 rintro _ w1 ⟨b1,rfl,qb1,hx1,hv1⟩
 replace hx := hx.ext hx1
 have hc1 := hv1.cells
 refine Rg.tm trivial rfl (t_assign rfl) rfl ?_
 refine Rg.done ?_
 refine Wp.seq (Wp.region ?_)
 refine Rg.tm trivial rfl (t_fieldAddr fa52_1 rfl) rfl ?_
 refine Rg.tm trivial rfl (t_load ty9 rfl (by apply Cells.get (i := 1); (case h => assumption); rfl)) rfl ?_
 refine Rg.tm trivial rfl (t_len Tryz.underlying9 rfl) rfl ?_
 refine Rg.tm trivial rfl (t_gtr rfl rfl) rfl ?_
 refine Rg.tm trivial rfl (t_assign rfl) rfl ?_
 refine Rg.done ?_
 refine Wp.ret ?_
 exact ⟨[_],⟨rfl,trivial⟩,by
  rw [show decide (2000 < tx.size) = decide ((tx.size : Int) > 2000) from by rw [decide_eq_decide]; omega]; rfl,hx⟩
theorem isNoIdent_ok {w : World} {m : MD} (hA : Asc w) : Cl Tryz.prog 81 #[.agg (mc m).toArray] w (fun u w' => u = .bool (!ident m.1) ∧ Ext w w') := by
 have hx := Ext.refl w
 obtain ⟨nm,tx⟩ := m
 simp only [mc]
 refine Cl.enter Tryz.func81 rfl Tryz.ntmps81 rfl rfl ?_
 refine Wp.seq (Wp.region ?_)
 refine Rg.wd trivial (w_boxed rfl rfl) rfl ?_
 rintro _ w1 ⟨b1,rfl,qb1,hx1,hv1⟩
 replace hx := hx.ext hx1
 have hc1 := hv1.cells
 refine Rg.tm trivial rfl (t_assign rfl) rfl ?_
 refine Rg.done ?_
 refine Wp.seq (Wp.region ?_)
 refine Rg.tm trivial rfl (t_fieldAddr fa52_0 rfl) rfl ?_
 refine Rg.tm trivial rfl (t_load ty9 rfl (by apply Cells.get (i := 0); (case h => assumption); rfl)) rfl ?_
 refine Rg.wd trivial (w_call Tryz.call82 rfl (isIdent_ok (hA.ext hx))) rfl ?_
 rintro _ w2 ⟨rfl,hx2⟩
 replace hx := hx.ext hx2
 replace hv1 := hv1.ext hx2
 replace hc1 := hc1.ext hx2
 refine Rg.tm trivial rfl (t_notB rfl) rfl ?_
 refine Rg.tm trivial rfl (t_assign rfl) rfl ?_
 refine Rg.done ?_
 refine Wp.ret ?_
 exact ⟨[_],⟨rfl,trivial⟩,rfl,hx⟩
def dups (l : List MD) : Bool := (List.range l.length).any fun k => decide (0 ≤ idxM (l.take k) (mdAt l k).1)
def valC (l : List MD) : Int := if 8 < l.length ∨ l.any (fun m => decide (2000 < m.2.size)) = true then 2 else if l.any (fun m => !ident m.1) = true then 3 else if dups l = true then 6 else 0
theorem mdAt_get {l : List MD} {k : Nat} (h : k < l.length) : mdAt l k = l[k] := by unfold mdAt; rw [List.getElem?_eq_getElem h]; rfl
theorem wValidate_ok {w : World} {v : Value} {l : List MD} (hs0 : SlC w v 2 l.length (encs mc l)) (hl : l.length ≤ 1000) (hA : Asc w) :
  Cl Tryz.prog 61 #[v] w (fun u w' => u = .int .i64 (valC l) ∧ Ext w w') := by
 have hx := Ext.refl w
 by_cases h8 : 8 < l.length
 ·rw [show valC l = 2 from by unfold valC; rw [if_pos (.inl h8)]]
  refine Cl.enter Tryz.func61 rfl Tryz.ntmps61 rfl rfl ?_
  refine Wp.seq (Wp.region ?_)
  refine Rg.tm trivial rfl (t_assign rfl) rfl ?_
  refine Rg.done ?_
  refine Wp.seq ?_
  refine Wp.seq (Wp.region ?_)
  refine Rg.tm trivial rfl (t_move rfl) rfl ?_
  refine Rg.tm trivial rfl (t_lenC hs0 Tryz.underlying49 rfl) rfl ?_
  first | refine Rg.tm trivial rfl (t_gtrT rfl rfl (by omega)) rfl ?_ | refine Rg.tm trivial rfl (t_gtrF rfl rfl (by omega)) rfl ?_ | refine Rg.tm trivial rfl (t_gtr rfl rfl) rfl ?_
  refine Rg.tm trivial rfl (t_move rfl) rfl ?_
  first | refine Rg.tm ⟨_,rfl,rfl⟩ rfl (t_move rfl) rfl ?_ | refine Rg.so rfl rfl ?_
  refine Rg.so rfl rfl ?_
  first | refine Rg.tm trivial rfl (t_pickT rfl rfl) rfl ?_ | refine Rg.tm trivial rfl (t_pickF rfl rfl) rfl ?_
  refine Rg.done ?_
  refine Wp.condT rfl ?_
  refine Wp.seq (Wp.region ?_)
  refine Rg.tm trivial rfl (t_assign rfl) rfl ?_
  refine Rg.done ?_
  refine Wp.ret ?_
  exact ⟨[_],⟨rfl,trivial⟩,rfl,hx⟩
 cases hlong : l.any (fun m => decide (2000 < m.2.size)) with
 | true =>
  rw [show valC l = 2 from by unfold valC; rw [if_pos (.inr hlong)]]
  refine Cl.enter Tryz.func61 rfl Tryz.ntmps61 rfl rfl ?_
  refine Wp.seq (Wp.region ?_)
  refine Rg.tm trivial rfl (t_assign rfl) rfl ?_
  refine Rg.done ?_
  refine Wp.seq ?_
  refine Wp.seq (Wp.region ?_)
  refine Rg.tm trivial rfl (t_move rfl) rfl ?_
  refine Rg.tm trivial rfl (t_lenC hs0 Tryz.underlying49 rfl) rfl ?_
  first | refine Rg.tm trivial rfl (t_gtrT rfl rfl (by omega)) rfl ?_ | refine Rg.tm trivial rfl (t_gtrF rfl rfl (by omega)) rfl ?_ | refine Rg.tm trivial rfl (t_gtr rfl rfl) rfl ?_
  refine Rg.tm trivial rfl (t_move rfl) rfl ?_
  first | refine Rg.tm ⟨_,rfl,rfl⟩ rfl (t_move rfl) rfl ?_ | refine Rg.so rfl rfl ?_
  refine Rg.wd ⟨_,rfl,rfl⟩ (w_call Tryz.call79 rfl (containsFM_ok (f := 80) (cap := []) (q := fun m => decide (2000 < m.2.size)) (hs0.ext hx) hl Tryz.call80 (fun w' a _ hx' => isLong_ok))) rfl ?_
  rintro _ w1 ⟨rfl,hx1⟩
  replace hx := hx.ext hx1
  rw [hlong]
  first | refine Rg.tm trivial rfl (t_pickT rfl rfl) rfl ?_ | refine Rg.tm trivial rfl (t_pickF rfl rfl) rfl ?_
  refine Rg.done ?_
  refine Wp.condT rfl ?_
  refine Wp.seq (Wp.region ?_)
  refine Rg.tm trivial rfl (t_assign rfl) rfl ?_
  refine Rg.done ?_
  refine Wp.ret ?_
  exact ⟨[_],⟨rfl,trivial⟩,rfl,hx⟩
 | false =>
  have hno2 : ¬ (8 < l.length ∨ l.any (fun m => decide (2000 < m.2.size)) = true) := by rw [hlong]; simp [h8]
  cases hid : l.any (fun m => !ident m.1) with
  | true =>
   rw [show valC l = 3 from by unfold valC; rw [if_neg hno2,if_pos hid]]
   refine Cl.enter Tryz.func61 rfl Tryz.ntmps61 rfl rfl ?_
   refine Wp.seq (Wp.region ?_)
   refine Rg.tm trivial rfl (t_assign rfl) rfl ?_
   refine Rg.done ?_
   refine Wp.seq ?_
   refine Wp.seq (Wp.region ?_)
   refine Rg.tm trivial rfl (t_move rfl) rfl ?_
   refine Rg.tm trivial rfl (t_lenC hs0 Tryz.underlying49 rfl) rfl ?_
   first | refine Rg.tm trivial rfl (t_gtrT rfl rfl (by omega)) rfl ?_ | refine Rg.tm trivial rfl (t_gtrF rfl rfl (by omega)) rfl ?_ | refine Rg.tm trivial rfl (t_gtr rfl rfl) rfl ?_
   refine Rg.tm trivial rfl (t_move rfl) rfl ?_
   first | refine Rg.tm ⟨_,rfl,rfl⟩ rfl (t_move rfl) rfl ?_ | refine Rg.so rfl rfl ?_
   refine Rg.wd ⟨_,rfl,rfl⟩ (w_call Tryz.call79 rfl (containsFM_ok (f := 80) (cap := []) (q := fun m => decide (2000 < m.2.size)) (hs0.ext hx) hl Tryz.call80 (fun w' a _ hx' => isLong_ok))) rfl ?_
   rintro _ w1 ⟨rfl,hx1⟩
   replace hx := hx.ext hx1
   rw [hlong]
   first | refine Rg.tm trivial rfl (t_pickT rfl rfl) rfl ?_ | refine Rg.tm trivial rfl (t_pickF rfl rfl) rfl ?_
   refine Rg.done ?_
   refine Wp.condF rfl ?_
   refine Wp.skip ?_
   refine Wp.seq ?_
   refine Wp.seq (Wp.region ?_)
   refine Rg.tm trivial rfl (t_move rfl) rfl ?_
   refine Rg.wd trivial (w_call Tryz.call79 rfl (containsFM_ok (f := 81) (cap := []) (q := fun m => !ident m.1) (hs0.ext hx) hl Tryz.call81 (fun w' a _ hx' => isNoIdent_ok (hA.ext (hx.ext hx'))))) rfl ?_
   rintro _ w2 ⟨rfl,hx2⟩
   replace hx := hx.ext hx2
   rw [hid]
   refine Rg.done ?_
   refine Wp.condT rfl ?_
   refine Wp.seq (Wp.region ?_)
   refine Rg.tm trivial rfl (t_assign rfl) rfl ?_
   refine Rg.done ?_
   refine Wp.ret ?_
   exact ⟨[_],⟨rfl,trivial⟩,rfl,hx⟩
  | false =>
   have hno3 : ¬ (l.any (fun m => !ident m.1) = true) := by rw [hid]; decide
   refine Cl.enter Tryz.func61 rfl Tryz.ntmps61 rfl rfl ?_
   refine Wp.seq (Wp.region ?_)
   refine Rg.tm trivial rfl (t_assign rfl) rfl ?_
   refine Rg.done ?_
   refine Wp.seq ?_
   refine Wp.seq (Wp.region ?_)
   refine Rg.tm trivial rfl (t_move rfl) rfl ?_
   refine Rg.tm trivial rfl (t_lenC hs0 Tryz.underlying49 rfl) rfl ?_
   first | refine Rg.tm trivial rfl (t_gtrT rfl rfl (by omega)) rfl ?_ | refine Rg.tm trivial rfl (t_gtrF rfl rfl (by omega)) rfl ?_ | refine Rg.tm trivial rfl (t_gtr rfl rfl) rfl ?_
   refine Rg.tm trivial rfl (t_move rfl) rfl ?_
   first | refine Rg.tm ⟨_,rfl,rfl⟩ rfl (t_move rfl) rfl ?_ | refine Rg.so rfl rfl ?_
   refine Rg.wd ⟨_,rfl,rfl⟩ (w_call Tryz.call79 rfl (containsFM_ok (f := 80) (cap := []) (q := fun m => decide (2000 < m.2.size)) (hs0.ext hx) hl Tryz.call80 (fun w' a _ hx' => isLong_ok))) rfl ?_
   rintro _ w1 ⟨rfl,hx1⟩
   replace hx := hx.ext hx1
   rw [hlong]
   first | refine Rg.tm trivial rfl (t_pickT rfl rfl) rfl ?_ | refine Rg.tm trivial rfl (t_pickF rfl rfl) rfl ?_
   refine Rg.done ?_
   refine Wp.condF rfl ?_
   refine Wp.skip ?_
   refine Wp.seq ?_
   refine Wp.seq (Wp.region ?_)
   refine Rg.tm trivial rfl (t_move rfl) rfl ?_
   refine Rg.wd trivial (w_call Tryz.call79 rfl (containsFM_ok (f := 81) (cap := []) (q := fun m => !ident m.1) (hs0.ext hx) hl Tryz.call81 (fun w' a _ hx' => isNoIdent_ok (hA.ext (hx.ext hx'))))) rfl ?_
   rintro _ w2 ⟨rfl,hx2⟩
   replace hx := hx.ext hx2
   rw [hid]
   refine Rg.done ?_
   refine Wp.condF rfl ?_
   refine Wp.skip ?_
   refine Wp.seq ?_
   refine Wp.seq (Wp.region ?_)
   refine Rg.tm trivial rfl (t_move rfl) rfl ?_
   refine Rg.tm trivial rfl (t_lenC hs0 Tryz.underlying49 rfl) rfl ?_
   refine Rg.tm trivial rfl (t_move rfl) rfl ?_
   refine Rg.done ?_
   refine Wp.block ?_
   refine Wp.loop (ι := Nat) (fun k => [(0,v),(14,v),(15,.int .i64 l.length),(16,.int .i64 k)])
    (fun k w' => k ≤ l.length ∧ (∀ i,i < k → idxM (l.take i) (mdAt l i).1 < 0) ∧ Ext w w') (fun k => l.length - k) 0 (by repeat (first | exact .nil | refine .cons rfl ?_)) ⟨Nat.zero_le _,fun i hi => by omega,hx⟩ ?_
   clear hx
   rintro k w3 ⟨hk,hpre,hx⟩
   by_cases hlt : k < l.length
   ·have hmk := mdAt_get hlt
    refine Wp.seq (Wp.region ?_)
    first | refine Rg.tm trivial rfl (t_lssT rfl rfl (by omega)) rfl ?_ | refine Rg.tm trivial rfl (t_lssF rfl rfl (by omega)) rfl ?_ | refine Rg.tm trivial rfl (t_lss rfl rfl) rfl ?_
    refine Rg.done ?_
    refine Wp.seq ?_
    refine Wp.condT rfl ?_
    refine Wp.skip ?_
    refine Wp.seq ?_
    refine Wp.block ?_
    refine Wp.seq (Wp.region ?_)
    refine Rg.tm trivial rfl (t_move rfl) rfl ?_
    refine Rg.ix hs0 trivial rfl rfl Tryz.underlying49 ty52 (by omega) rfl ?_
    intro bt19 ot19 ht19
    replace ht19 := ht19.ext hx
    rw [Int.toNat_natCast,encs_at mc_len l k hlt] at ht19
    refine Rg.tm trivial rfl (t_loadA rfl ht19 ty52) rfl ?_
    refine Rg.wd trivial (w_new Tryz.zeroValue52 rfl) rfl ?_
    rintro _ wa ⟨b4,rfl,qb4,hxa,hva⟩
    refine Rg.tm trivial rfl (t_assign rfl) rfl ?_
    refine Rg.wn trivial (w_put hva rfl rfl rfl ty52 rfl rfl) ?_
    rintro _ w3 ⟨hu,hv4⟩
    have hx3 := hxa.upd hu (Nat.le_of_eq qb4.symm)
    replace hx := hx.ext hx3
    replace ht19 := ht19.ext hx3
    have hc4 := hv4.cells
    clear hva hu
    refine Rg.done ?_
    refine Wp.seq (Wp.draw [0,1,2,3,4,5,6] [] mixed (by kernel_rfl) (by kernel_rfl) ?_)
    intro w4 hx4 _
    replace hx := hx.ext hx4
    replace ht19 := ht19.ext hx4
    replace hc4 := hc4.ext hx4
    refine Rg.tm trivial rfl (t_move rfl) rfl ?_
    refine Rg.tm trivial rfl (t_move rfl) rfl ?_
    refine Rg.sl hs0 trivial rfl Tryz.underlying49 ty52 rfl rfl (by omega) rfl ?_
    intro vt23 ht230
    refine Rg.tm trivial rfl (t_fieldAddr fa52_0 rfl) rfl ?_
    refine Rg.tm trivial rfl (t_load ty9 rfl (by apply Cells.get (i := 0); (case h => assumption); rfl)) rfl ?_
    refine Rg.wdB trivial rfl (w_call Tryz.call60 rfl (wIndexOf_ok (l := l.take k) (show SlC _ vt23 2 (l.take k).length (encs mc (l.take k)) from by
      rw [List.length_take,Nat.min_eq_left hk,← encs_take mc_len]; simpa using ht230.ext hx) (by rw [List.length_take]; omega))) rfl (fun _ _ h => h.2) ?_
    rintro _ w5 ⟨rfl,hx5⟩
    replace hx := hx.ext hx5
    replace ht19 := ht19.ext hx5
    replace hc4 := hc4.ext hx5
    rw [← hmk]
    refine Rg.tm trivial rfl (t_geq rfl rfl) rfl ?_
    refine Rg.done ?_
    by_cases hd : 0 ≤ idxM (l.take k) (mdAt l k).1
    ·skip
     rw [show decide (idxM (l.take k) (mdAt l k).1 ≥ 0) = true from decide_eq_true hd]
     refine Wp.condT rfl ?_
     refine Wp.seq (Wp.region ?_)
     refine Rg.tm trivial rfl (t_assign rfl) rfl ?_
     refine Rg.done ?_
     refine Wp.ret ?_
     have hdup : dups l = true := List.any_eq_true.2 ⟨k,List.mem_range.2 hlt,decide_eq_true hd⟩
     exact ⟨[_],⟨rfl,trivial⟩,by unfold valC; rw [if_neg hno2,if_neg hno3,if_pos hdup]; rfl,hx⟩
    ·skip
     rw [show decide (idxM (l.take k) (mdAt l k).1 ≥ 0) = false from decide_eq_false hd]
     refine Wp.condF rfl ?_
     refine Wp.skip ?_
     refine Wp.region ?_
     first | refine Rg.tm trivial rfl (t_addI rfl rfl (by omega)) rfl ?_ | refine Rg.tm trivial rfl (t_add rfl rfl) rfl ?_
     refine Rg.tm trivial rfl (t_move rfl) rfl ?_
     refine Rg.done ?_
     refine ⟨k + 1,by repeat (first | exact .nil | refine .cons rfl ?_),⟨hlt,fun i hi => ?_,hx⟩,by omega⟩
     rcases Nat.lt_succ_iff_lt_or_eq.1 hi with h | h
     ·exact hpre i h
     ·subst h; omega
   ·have hdup : ¬ dups l = true := fun h => by
     obtain ⟨i,hi,h2⟩ := List.any_eq_true.1 h
     have := hpre i (by have := List.mem_range.1 hi; omega)
     have := of_decide_eq_true h2
     omega
    refine Wp.seq (Wp.region ?_)
    first | refine Rg.tm trivial rfl (t_lssT rfl rfl (by omega)) rfl ?_ | refine Rg.tm trivial rfl (t_lssF rfl rfl (by omega)) rfl ?_ | refine Rg.tm trivial rfl (t_lss rfl rfl) rfl ?_
    refine Rg.done ?_
    refine Wp.seq ?_
    refine Wp.condF rfl ?_
    refine Wp.exit ?_
    refine Wp.seq (Wp.region ?_)
    refine Rg.tm trivial rfl (t_assign rfl) rfl ?_
    refine Rg.done ?_
    refine Wp.ret ?_
    exact ⟨[_],⟨rfl,trivial⟩,by unfold valC; rw [if_neg hno2,if_neg hno3,if_neg hdup]; rfl,hx⟩
end Go.Proofs.YtliofpegbcegiaaGreatDoor
