/- The walks of the server: setInputs, replace, write. Printed by r3/topi.py. -/
import Derived.Test.YtbnkncemfadfjaaGreatDoorSc
namespace Go.Proofs.YtbnkncemfadfjaaGreatDoor
set_option linter.unusedVariables false
set_option linter.unusedSimpArgs false
set_option maxRecDepth 20000
open Go.Gx Go.RowKit Go.Lib
open Lexi (nameM Asc tokM isIdent_yes)

theorem Upd.grown {g : Nat} {w w' : World} (h : Upd g w w') : w.grownBy w' (some g) := ⟨h.os, h.tape, h.output, Nat.le_of_eq h.size.symm, fun k _ hk => h.block k fun e => hk (by rw [e])⟩
def modCells (text : ByteArray) : List Value := [.string nameM, .string text]
theorem setInputs_ok {w : World} {bS bD bI bM cm : Nat} {pm : Option Addr} {vv vp : Value} {rv : Int} {text : ByteArray} (hS : Var w bS [.slice pm 1 cm, vv, vp, .int .i64 rv, .pointer (some ⟨bD, 0, none⟩)] 72) (hm : w.ownsRow 0 45 2 (.slice pm 1 cm) 1 (modCells text)) (hD : Dat w bD bI) (hI : Inp w bI bM) :
    Cl Tryz.prog 62 #[.pointer (some ⟨bS, 0, none⟩)] w (fun u w' => Inp w' bI bM ∧ Kp [bI, bM] w w') := by
  have hx := Ext.refl w
  have hcS := hS.cells
  refine Cl.enter Tryz.func62 rfl Tryz.ntmps62 rfl rfl ?_
  refine Wp.seq (Wp.draw [0, 1, 2, 3, 4, 5, 6, 7, 8, 9, 10, 11, 12] [0] mixed (by kernel_rfl) (by kernel_rfl) ?_)
  intro w1 hx1 _
  replace hx := hx.ext hx1
  replace hS := hS.ext hx1
  replace hcS := hcS.ext hx1
  replace hD := hD.ext hx1
  replace hI := hI.ext hx1
  replace hm := own_ext hm hx1
  refine Rg.tm trivial rfl (t_move rfl) rfl ?_
  refine Rg.tm trivial rfl (t_nilCheck rfl) rfl ?_
  refine Rg.tm trivial rfl (t_fieldAddr fa72_4 rfl) rfl ?_
  refine Rg.tm trivial rfl (t_load ty61 rfl (by apply Cells.get (i := 4); (case h => assumption); rfl)) rfl ?_
  refine Rg.tm trivial rfl (t_build (bd64_1 _) rfl) rfl ?_
  refine Rg.tm trivial rfl (t_move rfl) rfl ?_
  refine Rg.tm trivial rfl (t_nilCheck rfl) rfl ?_
  refine Rg.tm trivial rfl (t_fieldAddr fa72_0 rfl) rfl ?_
  refine Rg.tm trivial rfl (t_load ty46 rfl (by apply Cells.get (i := 0); (case h => assumption); rfl)) rfl ?_
  refine Rg.tm trivial rfl (t_lenS Tryz.underlying46 rfl) rfl ?_
  refine Rg.wdB trivial rfl (w_buildSlice (bs58_1 _) rfl) rfl (fun _ _ h => by obtain ⟨_, _, _, h, _⟩ := h; exact h) ?_
  rintro _ wb ⟨bb, rfl, qb, hxb, hvb⟩
  replace hx := hx.ext hxb
  replace hm := own_ext hm hxb
  replace hD := hD.ext hxb
  replace hI := hI.ext hxb
  replace hS := hS.ext hxb
  have hnn : OwnI wb (.slice (some ⟨bb, 0, none⟩) 1 1) [1] := own_of_varS hvb (Nat.zero_le _) rfl (by unfold maxLen; omega)
  refine Rg.tm trivial rfl (t_build (bd67_0 _ _ _) rfl) rfl ?_
  refine rg_wdC trivial rfl (w_call Tryz.call81 rfl (memoSet_ok hD hI hnn (by decide))) rfl (by rfl) ?_
  rintro _ w2 ⟨⟨cc2, rfl⟩, hI2, hk2⟩
  replace hm := own_inp hm hI hk2 (by decide)
  replace hD := dat_inp hD hI hk2
  replace hS := var_inp hS hI hk2 (by decide)
  have hk := (hx.kp [bI, bM]).trans hk2
  clear hcS hx
  replace hI := hI2
  have hcS := hS.cells
  refine Rg.done ?_
  refine Wp.seq (Wp.region ?_)
  refine Rg.tm trivial rfl (t_move rfl) rfl ?_
  refine Rg.tm trivial rfl (t_nilCheck rfl) rfl ?_
  refine Rg.tm trivial rfl (t_fieldAddr fa72_0 rfl) rfl ?_
  refine Rg.tm trivial rfl (t_load ty46 rfl (by apply Cells.get (i := 0); (case h => assumption); rfl)) rfl ?_
  refine Rg.tm trivial rfl (t_lenS Tryz.underlying46 rfl) rfl ?_
  refine Rg.tm trivial rfl (t_move rfl) rfl ?_
  refine Rg.done ?_
  refine Wp.block ?_
  refine Wp.loop (ι := Nat) (fun k => [(0, .pointer (some ⟨bS, 0, none⟩)), (20, .slice pm 1 cm), (21, .int .i64 1), (22, .int .i64 k)])
    (fun k w' => k ≤ 1 ∧ Var w' bS [.slice pm 1 cm, vv, vp, .int .i64 rv, .pointer (some ⟨bD, 0, none⟩)] 72 ∧ w'.ownsRow 0 45 2 (.slice pm 1 cm) 1 (modCells text) ∧ Dat w' bD bI ∧ Inp w' bI bM ∧ Kp [bI, bM] w w')
    (fun k => 1 - k) 0 (by repeat (first | exact .nil | refine .cons rfl ?_)) ⟨Nat.zero_le _, hS, hm, hD, hI, hk⟩ ?_
  clear hS hm hD hI hk hcS
  rintro k w3 ⟨hkk, hS, hm, hD, hI, hk⟩
  have hcS := hS.cells
  have hms := own_slice hm
  by_cases hlt : k < 1
  · obtain rfl : k = 0 := by omega
    refine Wp.seq (Wp.region ?_)
    first | refine Rg.tm trivial rfl (t_lssT rfl rfl (by omega)) rfl ?_ | refine Rg.tm trivial rfl (t_lssF rfl rfl (by omega)) rfl ?_ | refine Rg.tm trivial rfl (t_lss rfl rfl) rfl ?_
    refine Rg.done ?_
    refine Wp.seq ?_
    refine Wp.condT rfl ?_
    refine Wp.skip ?_
    refine Wp.seq ?_
    refine Wp.block ?_
    refine Wp.seq (Wp.region ?_)
    refine Rg.tm trivial rfl (t_move rfl) rfl ?_
    refine Rg.ix hms trivial rfl rfl Tryz.underlying46 ty45 (by omega) rfl ?_
    intro bt25 ot25 ht25
    change Cells _ _ _ [.string nameM, .string text] at ht25
    refine Rg.tm trivial rfl (t_loadA rfl ht25 ty45) rfl ?_
    refine Rg.wd trivial (w_new Tryz.zeroValue45 rfl) rfl ?_
    rintro _ wa ⟨b3, rfl, qb3, hxa, hva⟩
    refine Rg.tm trivial rfl (t_assign rfl) rfl ?_
    refine Rg.wn trivial (w_put hva rfl rfl rfl ty45 rfl rfl) ?_
    rintro _ w3 ⟨hu, h3⟩
    have hx3 := hxa.upd hu (Nat.le_of_eq qb3.symm)
    replace hS := hS.ext hx3
    replace hcS := hcS.ext hx3
    replace hD := hD.ext hx3
    replace hI := hI.ext hx3
    replace ht25 := ht25.ext hx3
    replace hm := own_ext hm hx3
    replace hk := hk.trans (hx3.kp _)
    have hc3 := h3.cells
    clear hva hu ht25
    refine Rg.done ?_
    refine Wp.seq (Wp.draw [0, 1, 2, 3, 4, 5, 6, 7, 8, 9] [0] mixed (by kernel_rfl) (by kernel_rfl) ?_)
    intro w4 hx4 _
    replace hS := hS.ext hx4
    replace hcS := hcS.ext hx4
    replace hD := hD.ext hx4
    replace hI := hI.ext hx4
    replace h3 := h3.ext hx4
    replace hc3 := hc3.ext hx4
    replace hm := own_ext hm hx4
    replace hk := hk.trans (hx4.kp _)
    refine Rg.tm trivial rfl (t_move rfl) rfl ?_
    refine Rg.tm trivial rfl (t_nilCheck rfl) rfl ?_
    refine Rg.tm trivial rfl (t_fieldAddr fa72_4 rfl) rfl ?_
    refine Rg.tm trivial rfl (t_load ty61 rfl (by apply Cells.get (i := 4); (case h => assumption); rfl)) rfl ?_
    refine Rg.tm trivial rfl (t_move rfl) rfl ?_
    refine Rg.tm trivial rfl (t_build (bd64_1_2 _ _) rfl) rfl ?_
    refine Rg.tm trivial rfl (t_fieldAddr fa45_0 rfl) rfl ?_
    refine Rg.tm trivial rfl (t_load ty9 rfl (by apply Cells.get (i := 0); (case h => assumption); rfl)) rfl ?_
    refine Rg.tm trivial rfl (t_build (bd67_1 _) rfl) rfl ?_
    refine rg_wdC trivial rfl (w_call Tryz.call81 rfl (memoSet_ok (xs := []) hD hI (own_nil _ _ _ _) (by decide))) rfl (by rfl) ?_
    rintro _ w5 ⟨⟨cc5, rfl⟩, hI5, hk5⟩
    replace hm := own_inp hm hI hk5 (by decide)
    replace hD := dat_inp hD hI hk5
    replace hS := var_inp hS hI hk5 (by decide)
    replace h3 := var_inp h3 hI hk5 (by decide)
    replace hk := hk.trans hk5
    clear hcS hc3
    replace hI := hI5
    have hcS := hS.cells
    have hc3 := h3.cells
    refine Rg.done ?_
    refine Wp.draw [0, 1, 2, 3, 4, 5, 6, 7, 8, 9] [0] mixed (by kernel_rfl) (by kernel_rfl) ?_
    intro w6 hx6 _
    replace hS := hS.ext hx6
    replace hcS := hcS.ext hx6
    replace hD := hD.ext hx6
    replace hI := hI.ext hx6
    replace h3 := h3.ext hx6
    replace hc3 := hc3.ext hx6
    replace hm := own_ext hm hx6
    replace hk := hk.trans (hx6.kp _)
    refine Rg.tm trivial rfl (t_move rfl) rfl ?_
    refine Rg.tm trivial rfl (t_nilCheck rfl) rfl ?_
    refine Rg.tm trivial rfl (t_fieldAddr fa72_4 rfl) rfl ?_
    refine Rg.tm trivial rfl (t_load ty61 rfl (by apply Cells.get (i := 4); (case h => assumption); rfl)) rfl ?_
    refine Rg.tm trivial rfl (t_move rfl) rfl ?_
    refine Rg.tm trivial rfl (t_build (bd64_1_2 _ _) rfl) rfl ?_
    refine Rg.tm trivial rfl (t_fieldAddr fa45_1 rfl) rfl ?_
    refine Rg.tm trivial rfl (t_load ty9 rfl (by apply Cells.get (i := 1); (case h => assumption); rfl)) rfl ?_
    refine Rg.tm trivial rfl (t_build (bd67_1 _) rfl) rfl ?_
    refine rg_wdC trivial rfl (w_call Tryz.call81 rfl (memoSet_ok (xs := []) hD hI (own_nil _ _ _ _) (by decide))) rfl (by rfl) ?_
    rintro _ w7 ⟨⟨cc7, rfl⟩, hI7, hk7⟩
    replace hm := own_inp hm hI hk7 (by decide)
    replace hD := dat_inp hD hI hk7
    replace hS := var_inp hS hI hk7 (by decide)
    replace h3 := var_inp h3 hI hk7 (by decide)
    replace hk := hk.trans hk7
    clear hcS hc3
    replace hI := hI7
    have hcS := hS.cells
    have hc3 := h3.cells
    refine Rg.done ?_
    refine Wp.region ?_
    first | refine Rg.tm trivial rfl (t_addI rfl rfl (by omega)) rfl ?_ | refine Rg.tm trivial rfl (t_add rfl rfl) rfl ?_
    refine Rg.tm trivial rfl (t_move rfl) rfl ?_
    refine Rg.done ?_
    exact ⟨1, by repeat (first | exact .nil | refine .cons rfl ?_), ⟨Nat.le_refl _, hS, hm, hD, hI, hk⟩, by omega⟩
  · skip
    refine Wp.seq (Wp.region ?_)
    first | refine Rg.tm trivial rfl (t_lssT rfl rfl (by omega)) rfl ?_ | refine Rg.tm trivial rfl (t_lssF rfl rfl (by omega)) rfl ?_ | refine Rg.tm trivial rfl (t_lss rfl rfl) rfl ?_
    refine Rg.done ?_
    refine Wp.seq ?_
    refine Wp.condF rfl ?_
    refine Wp.exit ?_
    exact ⟨[], trivial, hI, hk⟩

/-- the server, with one module *m* -/
def Srv (w : World) (bS bD bI bM : Nat) (text : ByteArray) (ver : Int) : Prop := ∃ pm cm pv cv rv, Var w bS [.slice pm 1 cm, .slice pv 1 cv, .slice none 0 0, .int .i64 rv, .pointer (some ⟨bD, 0, none⟩)] 72 ∧
  w.ownsRow 0 45 2 (.slice pm 1 cm) 1 (modCells text) ∧ w.ownsRow 0 3 1 (.slice pv 1 cv) 1 [.int .i64 ver] ∧ Dat w bD bI ∧ Inp w bI bM
theorem Srv.ext {w w' : World} {bS bD bI bM : Nat} {text : ByteArray} {ver : Int} (h : Srv w bS bD bI bM text ver) (k : Ext w w') : Srv w' bS bD bI bM text ver := by
  obtain ⟨pm, cm, pv, cv, rv, h1, h2, h3, h4, h5⟩ := h
  exact ⟨pm, cm, pv, cv, rv, h1.ext k, own_ext h2 k, own_ext h3 k, h4.ext k, h5.ext k⟩
/-- the new server -/
def Srv0 (w : World) (bS bD bI bM : Nat) : Prop := ∃ rv, Var w bS [.slice none 0 0, .slice none 0 0, .slice none 0 0, .int .i64 rv, .pointer (some ⟨bD, 0, none⟩)] 72 ∧ Dat w bD bI ∧ Inp w bI bM
theorem Srv0.ext {w w' : World} {bS bD bI bM : Nat} (h : Srv0 w bS bD bI bM) (k : Ext w w') : Srv0 w' bS bD bI bM := by
  obtain ⟨rv, h1, h4, h5⟩ := h
  exact ⟨rv, h1.ext k, h4.ext k, h5.ext k⟩
/-- the facts that a store into the server leaves -/
theorem own_srv {w w' : World} {bS e size m : Nat} {cs xs : List Value} {v : Value} {B : Nat} (h : w.ownsRow B e size v m xs) (hS : Var w bS cs 72) (hu : Upd bS w w') (he : 72 ≠ e) : w'.ownsRow B e size v m xs := own_upd h hS hu he
theorem Dat.upd {w w' : World} {bD bI b t : Nat} {cs : List Value} (h : Dat w bD bI) (hv : Var w b cs t) (hu : Upd b w w') (ht : t ≠ 102) : Dat w' bD bI := by
  obtain ⟨f, a, b1, c, x, y, h⟩ := h
  exact ⟨f, a, b1, c, x, y, h.upd hu (h.ne hv (Ne.symm ht))⟩
theorem replace_ok {w : World} {bS bD bI bM cm cv : Nat} {pm pv : Option Addr} {va vb : Value} {rv ver : Int} {text : ByteArray} (hS : Var w bS [va, vb, .slice none 0 0, .int .i64 rv, .pointer (some ⟨bD, 0, none⟩)] 72)
    (hm : w.ownsRow 0 45 2 (.slice pm 1 cm) 1 (modCells text)) (hv : w.ownsRow 0 3 1 (.slice pv 1 cv) 1 [.int .i64 ver]) (hD : Dat w bD bI) (hI : Inp w bI bM) (ht : text.size ≤ 2000) (hA : Asc w) :
    Cl Tryz.prog 42 #[.pointer (some ⟨bS, 0, none⟩), .slice pm 1 cm, .slice pv 1 cv] w (fun u w' => u = .int .i64 0 ∧ Srv w' bS bD bI bM text ver ∧ Kp [bS, bI, bM] w w') := by
  have hx := Ext.refl w
  have hms := own_slice hm
  refine Cl.enter Tryz.func42 rfl Tryz.ntmps42 rfl rfl ?_
  refine Wp.seq (Wp.region ?_)
  refine Rg.tm trivial rfl (t_assign rfl) rfl ?_
  refine Rg.done ?_
  refine Wp.seq ?_
  refine Wp.seq (Wp.region ?_)
  refine Rg.tm trivial rfl (t_move rfl) rfl ?_
  refine Rg.wd trivial (w_call Tryz.call61 rfl (wvalid_ok hms ht hA)) rfl ?_
  rintro _ w1 ⟨rfl, hx1⟩
  replace hx := hx.ext hx1
  replace hS := hS.ext hx1
  replace hD := hD.ext hx1
  replace hI := hI.ext hx1
  replace hm := own_ext hm hx1
  replace hv := own_ext hv hx1
  have hk := hx.kp [bS, bI, bM]
  clear hx hms
  refine Rg.tm trivial rfl (t_assign rfl) rfl ?_
  refine Rg.done ?_
  refine Wp.seq (Wp.region ?_)
  refine Rg.tm trivial rfl (t_move rfl) rfl ?_
  first | refine Rg.tm trivial rfl (t_neqT rfl rfl (by omega)) rfl ?_ | refine Rg.tm trivial rfl (t_neqF rfl rfl (by omega)) rfl ?_ | refine Rg.tm trivial rfl (t_neq rfl rfl) rfl ?_
  refine Rg.done ?_
  refine Wp.condF rfl ?_
  refine Wp.skip ?_
  refine Wp.seq (Wp.region ?_)
  refine Rg.tm trivial rfl (t_move rfl) rfl ?_
  refine Rg.tm trivial rfl (t_move rfl) rfl ?_
  refine Rg.tm trivial rfl (t_move rfl) rfl ?_
  refine Rg.tm trivial rfl (t_move rfl) rfl ?_
  refine Rg.tm trivial rfl (t_nilCheck rfl) rfl ?_
  refine Rg.tm trivial rfl (t_fieldAddr fa72_0 rfl) rfl ?_
  refine Rg.wn trivial (by first | exact w_putF hS ty46 rfl rfl rfl rfl rfl | exact w_putF hS ty58 rfl rfl rfl rfl rfl) ?_
  rintro _ w2 ⟨hu2, hS2⟩
  replace hm := own_srv hm hS hu2 (by decide)
  replace hv := own_srv hv hS hu2 (by decide)
  replace hD := hD.upd hS hu2 (by decide)
  replace hI := hI.upd hS hu2 (by decide) (by decide)
  replace hk := hk.trans (hu2.kp (by simp))
  clear hS
  have hS := hS2
  clear hS2
  simp only [List.set] at hS
  have hcS := hS.cells
  refine Rg.tm trivial rfl (t_nilCheck rfl) rfl ?_
  refine Rg.tm trivial rfl (t_fieldAddr fa72_1 rfl) rfl ?_
  refine Rg.wn trivial (by first | exact w_putF hS ty46 rfl rfl rfl rfl rfl | exact w_putF hS ty58 rfl rfl rfl rfl rfl) ?_
  rintro _ w3 ⟨hu3, hS3⟩
  replace hm := own_srv hm hS hu3 (by decide)
  replace hv := own_srv hv hS hu3 (by decide)
  replace hD := hD.upd hS hu3 (by decide)
  replace hI := hI.upd hS hu3 (by decide) (by decide)
  replace hk := hk.trans (hu3.kp (by simp))
  clear hS
  have hS := hS3
  clear hS3
  simp only [List.set] at hS
  have hcS := hS.cells
  refine Rg.done ?_
  refine Wp.seq (Wp.region ?_)
  refine Rg.tm trivial rfl (t_move rfl) rfl ?_
  refine Rg.tm trivial rfl (t_nilCheck rfl) rfl ?_
  refine Rg.tm trivial rfl (t_fieldAddr fa72_3 rfl) rfl ?_
  refine Rg.tm trivial rfl (t_load ty3 rfl (by apply Cells.get (i := 3); (case h => assumption); rfl)) rfl ?_
  first | refine Rg.tm trivial rfl (t_addI rfl rfl (by omega)) rfl ?_ | refine Rg.tm trivial rfl (t_add rfl rfl) rfl ?_
  refine Rg.tm trivial rfl (t_nilCheck rfl) rfl ?_
  refine Rg.tm trivial rfl (t_fieldAddr fa72_3 rfl) rfl ?_
  refine Rg.wn trivial (w_putF hS ty3 rfl rfl rfl rfl rfl) ?_
  rintro _ w4 ⟨hu4, hS4⟩
  replace hm := own_srv hm hS hu4 (by decide)
  replace hv := own_srv hv hS hu4 (by decide)
  replace hD := hD.upd hS hu4 (by decide)
  replace hI := hI.upd hS hu4 (by decide) (by decide)
  replace hk := hk.trans (hu4.kp (by simp))
  clear hS
  have hS := hS4
  clear hS4
  simp only [List.set] at hS
  have hcS := hS.cells
  refine Rg.done ?_
  refine Wp.seq (Wp.region ?_)
  refine Rg.tm trivial rfl (t_move rfl) rfl ?_
  refine Rg.wd trivial (w_call Tryz.call62 rfl (setInputs_ok hS hm hD hI)) rfl ?_
  rintro _ wS ⟨hI2, hk2⟩
  replace hm := own_inp hm hI hk2 (by decide)
  replace hv := own_inp hv hI hk2 (by decide)
  replace hD := dat_inp hD hI hk2
  replace hS := var_inp hS hI hk2 (by decide)
  replace hk := hk.trans (Kp.mono hk2 (by simp))
  refine Rg.done ?_
  refine Wp.seq (Wp.region ?_)
  refine Rg.tm trivial rfl (t_assign rfl) rfl ?_
  refine Rg.done ?_
  refine Wp.ret ?_
  exact ⟨[_], ⟨rfl, trivial⟩, rfl, ⟨_, _, _, _, _, hS, hm, hv, hD, hI2⟩, hk⟩
end Go.Proofs.YtbnkncemfadfjaaGreatDoor
