/- The walks of the server: write, edit, Handle, New, Modules. Printed by r3/topj.py. -/
import Derived.Test.YtbnkncemfadfjaaGreatDoorSd
namespace Go.Proofs.YtbnkncemfadfjaaGreatDoor
set_option linter.unusedVariables false
set_option linter.unusedSimpArgs false
set_option maxRecDepth 20000
open Go.Gx Go.RowKit Go.Lib
open Lexi (nameM Asc tokM isIdent_yes)
theorem own_form {w : World} {B e size n : Nat} {v : Value} {xs : List Value} (h : w.ownsRow B e size v n xs) (hn : 0 < n) : ∃ g cap, v = .slice (some ⟨g, 0, none⟩) n cap ∧ B ≤ g ∧ g < w.heap.size := by
  rcases h.2 with ⟨_, h0⟩ | ⟨g, cap, cur, hv, hb, hg, _⟩
  · omega
  · exact ⟨g, cap, hv, hb, (Array.getElem?_eq_some_iff.1 hg).1⟩

theorem cloneModsN {w : World} : Cl Tryz.prog 33 #[.slice none 0 0] w (fun u w' => u = .slice none 0 0 ∧ Ext w w') := by
  have hx := Ext.refl w
  refine Cl.enter Tryz.func33 rfl Tryz.ntmps33 rfl rfl ?_
  refine Wp.seq (Wp.region ?_)
  refine Rg.tm trivial rfl (t_assign rfl) rfl ?_
  refine Rg.done ?_
  refine Wp.seq ?_
  refine Wp.seq (Wp.region ?_)
  refine Rg.tm trivial rfl (t_move rfl) rfl ?_
  refine Rg.tm trivial rfl (t_slNil Tryz.underlying46 rfl rfl) rfl ?_
  refine Rg.done ?_
  refine Wp.condT rfl ?_
  refine Wp.seq (Wp.region ?_)
  refine Rg.tm trivial rfl (t_assign rfl) rfl ?_
  refine Rg.done ?_
  refine Wp.ret ?_
  exact ⟨[_], ⟨rfl, trivial⟩, rfl, hx⟩
theorem cloneIntsN {w : World} : Cl Tryz.prog 40 #[.slice none 0 0] w (fun u w' => u = .slice none 0 0 ∧ Ext w w') := by
  have hx := Ext.refl w
  refine Cl.enter Tryz.func40 rfl Tryz.ntmps40 rfl rfl ?_
  refine Wp.seq (Wp.region ?_)
  refine Rg.tm trivial rfl (t_assign rfl) rfl ?_
  refine Rg.done ?_
  refine Wp.seq ?_
  refine Wp.seq (Wp.region ?_)
  refine Rg.tm trivial rfl (t_move rfl) rfl ?_
  refine Rg.tm trivial rfl (t_slNil Tryz.underlying58 rfl rfl) rfl ?_
  refine Rg.done ?_
  refine Wp.condT rfl ?_
  refine Wp.seq (Wp.region ?_)
  refine Rg.tm trivial rfl (t_assign rfl) rfl ?_
  refine Rg.done ?_
  refine Wp.ret ?_
  exact ⟨[_], ⟨rfl, trivial⟩, rfl, hx⟩
theorem searchN {w : World} {f : Value} {s : ByteArray} : Cl Tryz.prog 43 #[.slice none 0 0, .string s, f] w (fun u w' => u = .tuple #[.int .i64 0, .bool false] ∧ Ext w w') := by
  have hx := Ext.refl w
  refine Cl.enter Tryz.func43 rfl Tryz.ntmps43 rfl rfl ?_
  refine Wp.seq (Wp.region ?_)
  refine Rg.tm trivial rfl (t_assign rfl) rfl ?_
  refine Rg.tm trivial rfl (t_assign rfl) rfl ?_
  refine Rg.done ?_
  refine Wp.seq (Wp.region ?_)
  refine Rg.tm trivial rfl (t_move rfl) rfl ?_
  refine Rg.tm trivial rfl (t_lenS Tryz.underlying46 rfl) rfl ?_
  refine Rg.tm trivial rfl (t_assign rfl) rfl ?_
  refine Rg.done ?_
  refine Wp.seq (Wp.region ?_)
  refine Rg.tm trivial rfl (t_move rfl) rfl ?_
  refine Rg.tm trivial rfl (t_assign rfl) rfl ?_
  refine Rg.tm trivial rfl (t_assign rfl) rfl ?_
  refine Rg.done ?_
  refine Wp.seq ?_
  refine Wp.block ?_
  refine Wp.loop (ι := Unit) (fun _ => [(0, .slice none 0 0), (1, .string s), (2, f), (8, .int .i64 0), (9, .int .i64 0), (10, .int .i64 0)])
    (fun _ w' => Ext w w') (fun _ => 0) () (by repeat (first | exact .nil | refine .cons rfl ?_)) hx ?_
  clear hx
  rintro _ w3 hx
  refine Wp.seq ?_
  refine Wp.seq (Wp.region ?_)
  refine Rg.tm trivial rfl (t_move rfl) rfl ?_
  refine Rg.tm trivial rfl (t_move rfl) rfl ?_
  first | refine Rg.tm trivial rfl (t_lssT rfl rfl (by omega)) rfl ?_ | refine Rg.tm trivial rfl (t_lssF rfl rfl (by omega)) rfl ?_ | refine Rg.tm trivial rfl (t_lss rfl rfl) rfl ?_
  refine Rg.done ?_
  refine Wp.condF rfl ?_
  refine Wp.exit ?_
  refine Wp.seq (Wp.region ?_)
  refine Rg.tm trivial rfl (t_move rfl) rfl ?_
  refine Rg.tm trivial rfl (t_move rfl) rfl ?_
  refine Rg.tm trivial rfl (t_move rfl) rfl ?_
  first | refine Rg.tm trivial rfl (t_lssT rfl rfl (by omega)) rfl ?_ | refine Rg.tm trivial rfl (t_lssF rfl rfl (by omega)) rfl ?_ | refine Rg.tm trivial rfl (t_lss rfl rfl) rfl ?_
  refine Rg.tm trivial rfl (t_move rfl) rfl ?_
  first | refine Rg.tm ⟨_, rfl, rfl⟩ rfl (t_move rfl) rfl ?_ | refine Rg.sk (.inl ⟨_, _, rfl, rfl, rfl⟩) rfl ?_ | refine Rg.sk (.inr ⟨_, rfl, rfl⟩) rfl ?_
  first | refine Rg.tm ⟨_, rfl, rfl⟩ rfl (t_move rfl) rfl ?_ | refine Rg.sk (.inl ⟨_, _, rfl, rfl, rfl⟩) rfl ?_ | refine Rg.sk (.inr ⟨_, rfl, rfl⟩) rfl ?_
  first | refine Rg.tm ⟨_, rfl, rfl⟩ rfl (t_move rfl) rfl ?_ | refine Rg.sk (.inl ⟨_, _, rfl, rfl, rfl⟩) rfl ?_ | refine Rg.sk (.inr ⟨_, rfl, rfl⟩) rfl ?_
  first | refine Rg.tm ⟨_, rfl, rfl⟩ rfl (t_indexAddrL Tryz.underlying46 ty45 rfl rfl (by omega)) rfl ?_ | refine Rg.sk (.inl ⟨_, _, rfl, rfl, rfl⟩) rfl ?_ | refine Rg.sk (.inr ⟨_, rfl, rfl⟩) rfl ?_
  first | refine Rg.tm ⟨_, rfl, rfl⟩ rfl (t_loadA rfl (by assumption) (by exact ty45)) rfl ?_ | refine Rg.sk (.inl ⟨_, _, rfl, rfl, rfl⟩) rfl ?_ | refine Rg.sk (.inr ⟨_, rfl, rfl⟩) rfl ?_
  first | refine Rg.tm ⟨_, rfl, rfl⟩ rfl (t_move rfl) rfl ?_ | refine Rg.sk (.inl ⟨_, _, rfl, rfl, rfl⟩) rfl ?_ | refine Rg.sk (.inr ⟨_, rfl, rfl⟩) rfl ?_
  first | refine Rg.sk (.inl ⟨_, _, rfl, rfl, rfl⟩) rfl ?_ | refine Rg.sk (.inr ⟨_, rfl, rfl⟩) rfl ?_
  first | refine Rg.tm ⟨_, rfl, rfl⟩ rfl (t_eqlT rfl rfl (by omega)) rfl ?_ | refine Rg.tm ⟨_, rfl, rfl⟩ rfl (t_eqlF rfl rfl (by omega)) rfl ?_ | refine Rg.tm ⟨_, rfl, rfl⟩ rfl (t_eql rfl rfl) rfl ?_ | refine Rg.sk (.inl ⟨_, _, rfl, rfl, rfl⟩) rfl ?_ | refine Rg.sk (.inr ⟨_, rfl, rfl⟩) rfl ?_
  first | refine Rg.tm trivial rfl (t_pickT rfl rfl) rfl ?_ | refine Rg.tm trivial rfl (t_pickF rfl rfl) rfl ?_
  refine Rg.tm trivial rfl (t_assign rfl) rfl ?_
  refine Rg.tm trivial rfl (t_assign rfl) rfl ?_
  refine Rg.done ?_
  refine Wp.ret ?_
  exact ⟨[_, _], ⟨rfl, rfl, trivial⟩, rfl, hx⟩
theorem insMods {w : World} {b : Nat} {cs : List Value} (hv : Var w b cs 45) (hl : cs.length = 2) (hone : ∀ u ∈ cs, u.oneCell' = true) : Cl Tryz.prog 46 #[.slice none 0 0, .int .i64 0, .slice (some ⟨b, 0, none⟩) 1 1] w (fun u w' => (∃ p c, u = .slice p 1 c ∧ w'.ownsRow 0 45 2 (.slice p 1 c) 1 cs) ∧ Ext w w') := by
  obtain ⟨i, hi, hz, hsi, hby⟩ := inf45
  have hx := Ext.refl w
  have hs : SlC w (.slice (some ⟨b, 0, none⟩) 1 1) 2 1 cs := slc_var hv hl
  refine Cl.enter Tryz.func46 rfl Tryz.ntmps46 rfl rfl ?_
  refine Wp.seq (Wp.region ?_)
  refine Rg.tm trivial rfl (t_assign rfl) rfl ?_
  refine Rg.done ?_
  refine Wp.seq (Wp.region ?_)
  refine Rg.tm trivial rfl (t_move rfl) rfl ?_
  refine Rg.tm trivial rfl (t_move rfl) rfl ?_
  first | refine Rg.tm trivial rfl (t_sliceL Tryz.underlying46 ty45 rfl rfl rfl (by omega)) rfl ?_ | refine Rg.tm trivial rfl (t_sliceN Tryz.underlying46 ty45 rfl rfl rfl) rfl ?_
  refine Rg.done ?_
  refine Wp.seq (Wp.region ?_)
  refine Rg.tm trivial rfl (t_move rfl) rfl ?_
  refine Rg.tm trivial rfl (t_lenS Tryz.underlying46 rfl) rfl ?_
  refine Rg.tm trivial rfl (t_assign rfl) rfl ?_
  refine Rg.done ?_
  refine Wp.seq ?_
  refine Wp.seq (Wp.region ?_)
  refine Rg.tm trivial rfl (t_move rfl) rfl ?_
  first | refine Rg.tm trivial rfl (t_eqlT rfl rfl (by omega)) rfl ?_ | refine Rg.tm trivial rfl (t_eqlF rfl rfl (by omega)) rfl ?_ | refine Rg.tm trivial rfl (t_eql rfl rfl) rfl ?_
  refine Rg.done ?_
  refine Wp.condF rfl ?_
  refine Wp.skip ?_
  refine Wp.seq (Wp.region ?_)
  refine Rg.tm trivial rfl (t_move rfl) rfl ?_
  refine Rg.tm trivial rfl (t_lenS Tryz.underlying46 rfl) rfl ?_
  refine Rg.tm trivial rfl (t_assign rfl) rfl ?_
  refine Rg.done ?_
  refine Wp.seq ?_
  refine Wp.seq (Wp.region ?_)
  refine Rg.tm trivial rfl (t_move rfl) rfl ?_
  refine Rg.tm trivial rfl (t_move rfl) rfl ?_
  first | refine Rg.tm trivial rfl (t_eqlT rfl rfl (by omega)) rfl ?_ | refine Rg.tm trivial rfl (t_eqlF rfl rfl (by omega)) rfl ?_ | refine Rg.tm trivial rfl (t_eql rfl rfl) rfl ?_
  refine Rg.done ?_
  refine Wp.condT rfl ?_
  refine Wp.seq (Wp.region ?_)
  refine Rg.tm trivial rfl (t_move rfl) rfl ?_
  refine Rg.tm trivial rfl (t_move rfl) rfl ?_
  refine Rg.wd trivial (w_appendC w.heap.size Tryz.underlying46 hi hz hsi hby rfl (by decide) rfl rfl (own_nil _ _ _ _) hs hone (by unfold maxLen; omega) (by omega) hx.le) rfl ?_
  rintro v2 wc ⟨ho2, hgr, p2, l2, c2, rfl⟩
  replace hx := own_ext3 hx (own_nil _ _ 45 2) hgr
  rw [Nat.zero_add, List.nil_append] at ho2
  obtain ⟨p3, c3, e3⟩ := own_shape ho2
  rw [e3] at ho2
  refine Rg.tm trivial rfl (t_assign rfl) rfl ?_
  refine Rg.done ?_
  refine Wp.ret ?_
  exact ⟨[_], ⟨rfl, trivial⟩, ⟨p3, c3, e3, own_mono0 ho2⟩, hx⟩
theorem insInts {w : World} {b : Nat} {cs : List Value} (hv : Var w b cs 3) (hl : cs.length = 1) (hone : ∀ u ∈ cs, u.oneCell' = true) : Cl Tryz.prog 47 #[.slice none 0 0, .int .i64 0, .slice (some ⟨b, 0, none⟩) 1 1] w (fun u w' => (∃ p c, u = .slice p 1 c ∧ w'.ownsRow 0 3 1 (.slice p 1 c) 1 cs) ∧ Ext w w') := by
  obtain ⟨i, hi, hz, hsi, hby⟩ := inf3
  have hx := Ext.refl w
  have hs : SlC w (.slice (some ⟨b, 0, none⟩) 1 1) 1 1 cs := slc_var hv hl
  refine Cl.enter Tryz.func47 rfl Tryz.ntmps47 rfl rfl ?_
  refine Wp.seq (Wp.region ?_)
  refine Rg.tm trivial rfl (t_assign rfl) rfl ?_
  refine Rg.done ?_
  refine Wp.seq (Wp.region ?_)
  refine Rg.tm trivial rfl (t_move rfl) rfl ?_
  refine Rg.tm trivial rfl (t_move rfl) rfl ?_
  first | refine Rg.tm trivial rfl (t_sliceL Tryz.underlying58 ty3 rfl rfl rfl (by omega)) rfl ?_ | refine Rg.tm trivial rfl (t_sliceN Tryz.underlying58 ty3 rfl rfl rfl) rfl ?_
  refine Rg.done ?_
  refine Wp.seq (Wp.region ?_)
  refine Rg.tm trivial rfl (t_move rfl) rfl ?_
  refine Rg.tm trivial rfl (t_lenS Tryz.underlying58 rfl) rfl ?_
  refine Rg.tm trivial rfl (t_assign rfl) rfl ?_
  refine Rg.done ?_
  refine Wp.seq ?_
  refine Wp.seq (Wp.region ?_)
  refine Rg.tm trivial rfl (t_move rfl) rfl ?_
  first | refine Rg.tm trivial rfl (t_eqlT rfl rfl (by omega)) rfl ?_ | refine Rg.tm trivial rfl (t_eqlF rfl rfl (by omega)) rfl ?_ | refine Rg.tm trivial rfl (t_eql rfl rfl) rfl ?_
  refine Rg.done ?_
  refine Wp.condF rfl ?_
  refine Wp.skip ?_
  refine Wp.seq (Wp.region ?_)
  refine Rg.tm trivial rfl (t_move rfl) rfl ?_
  refine Rg.tm trivial rfl (t_lenS Tryz.underlying58 rfl) rfl ?_
  refine Rg.tm trivial rfl (t_assign rfl) rfl ?_
  refine Rg.done ?_
  refine Wp.seq ?_
  refine Wp.seq (Wp.region ?_)
  refine Rg.tm trivial rfl (t_move rfl) rfl ?_
  refine Rg.tm trivial rfl (t_move rfl) rfl ?_
  first | refine Rg.tm trivial rfl (t_eqlT rfl rfl (by omega)) rfl ?_ | refine Rg.tm trivial rfl (t_eqlF rfl rfl (by omega)) rfl ?_ | refine Rg.tm trivial rfl (t_eql rfl rfl) rfl ?_
  refine Rg.done ?_
  refine Wp.condT rfl ?_
  refine Wp.seq (Wp.region ?_)
  refine Rg.tm trivial rfl (t_move rfl) rfl ?_
  refine Rg.tm trivial rfl (t_move rfl) rfl ?_
  refine Rg.wd trivial (w_appendC w.heap.size Tryz.underlying58 hi hz hsi hby rfl (by decide) rfl rfl (own_nil _ _ _ _) hs hone (by unfold maxLen; omega) (by omega) hx.le) rfl ?_
  rintro v2 wc ⟨ho2, hgr, p2, l2, c2, rfl⟩
  replace hx := own_ext3 hx (own_nil _ _ 3 1) hgr
  rw [Nat.zero_add, List.nil_append] at ho2
  obtain ⟨p3, c3, e3⟩ := own_shape ho2
  rw [e3] at ho2
  refine Rg.tm trivial rfl (t_assign rfl) rfl ?_
  refine Rg.done ?_
  refine Wp.ret ?_
  exact ⟨[_], ⟨rfl, trivial⟩, ⟨p3, c3, e3, own_mono0 ho2⟩, hx⟩
theorem index_ok {w : World} {bS : Nat} {cs : List Value} {mods : List MD} {name : ByteArray} {pm : Option Addr} {lm cm : Nat} {a b c e : Value} (hS : Var w bS [.slice pm lm cm, a, b, c, e] 72) (hs : SlC w (.slice pm lm cm) 2 mods.length (mcs mods)) (hl : mods.length ≤ 1000) :
    Cl Tryz.prog 41 #[.pointer (some ⟨bS, 0, none⟩), .string name] w (fun u w' => u = .int .i64 (idxF (fun m => decide (m.1 = name)) 0 mods) ∧ Ext w w') := by
  have hx := Ext.refl w
  have hcS := hS.cells
  refine Cl.enter Tryz.func41 rfl Tryz.ntmps41 rfl rfl ?_
  refine Wp.seq (Wp.region ?_)
  refine Rg.tm trivial rfl (t_assign rfl) rfl ?_
  refine Rg.done ?_
  refine Wp.seq (Wp.region ?_)
  refine Rg.tm trivial rfl (t_move rfl) rfl ?_
  refine Rg.tm trivial rfl (t_nilCheck rfl) rfl ?_
  refine Rg.tm trivial rfl (t_fieldAddr fa72_0 rfl) rfl ?_
  refine Rg.tm trivial rfl (t_load ty46 rfl (by apply Cells.get (i := 0); (case h => assumption); rfl)) rfl ?_
  refine Rg.tm trivial rfl (t_move rfl) rfl ?_
  refine Rg.wd trivial (w_call Tryz.call60 rfl (indexOf_ok hs hl)) rfl ?_
  rintro _ w1 ⟨rfl, hx1⟩
  replace hx := hx.ext hx1
  refine Rg.tm trivial rfl (t_assign rfl) rfl ?_
  refine Rg.done ?_
  refine Wp.ret ?_
  exact ⟨[_], ⟨rfl, trivial⟩, rfl, hx⟩
theorem idxM (text : ByteArray) : idxF (fun m => decide (m.1 = nameM)) 0 [(nameM, text)] = 0 := by simp [idxF]
theorem writeN_ok {w : World} {bS bD bI bM : Nat} {text : ByteArray} (h0 : Srv0 w bS bD bI bM) (ht : text.size ≤ 2000) (hA : Asc w) :
    Cl Tryz.prog 21 #[.pointer (some ⟨bS, 0, none⟩), .string nameM, .string text] w (fun u w' => u = .int .i64 0 ∧ Srv w' bS bD bI bM text 1 ∧ Kp [bS, bI, bM] w w') := by
  have hx := Ext.refl w
  obtain ⟨rv, hS, hD, hI⟩ := h0
  have hcS := hS.cells
  have hsn : SlC w (.slice none 0 0) 2 ([] : List MD).length (mcs []) := ⟨rfl, _, _, rfl, Nat.le_refl _, .inl rfl⟩
  refine Cl.enter Tryz.func21 rfl Tryz.ntmps21 rfl rfl ?_
  refine Wp.seq (Wp.region ?_)
  refine Rg.tm trivial rfl (t_assign rfl) rfl ?_
  refine Rg.done ?_
  refine Wp.seq (Wp.draw [0, 1, 2, 3, 5, 6, 7, 8, 4, 9, 10, 11] [] mixed (by kernel_rfl) (by kernel_rfl) ?_)
  intro w1 hx1 _
  replace hx := hx.ext hx1
  replace hS := hS.ext hx1
  replace hcS := hcS.ext hx1
  replace hD := hD.ext hx1
  replace hI := hI.ext hx1
  refine Rg.tm trivial rfl (t_move rfl) rfl ?_
  refine Rg.tm trivial rfl (t_nilCheck rfl) rfl ?_
  refine Rg.tm trivial rfl (t_fieldAddr fa72_0 rfl) rfl ?_
  refine Rg.tm trivial rfl (t_load ty46 rfl (by apply Cells.get (i := 0); (case h => assumption); rfl)) rfl ?_
  refine Rg.tm trivial rfl (t_move rfl) rfl ?_
  refine Rg.tm trivial rfl (t_nilCheck rfl) rfl ?_
  refine Rg.tm trivial rfl (t_fieldAddr fa72_1 rfl) rfl ?_
  refine Rg.tm trivial rfl (t_load ty58 rfl (by apply Cells.get (i := 1); (case h => assumption); rfl)) rfl ?_
  refine Rg.wdB trivial rfl (w_call Tryz.call33 rfl cloneModsN) rfl (fun _ _ h => h.2) ?_
  rintro _ w2 ⟨rfl, hx2⟩
  replace hx := hx.ext hx2
  replace hS := hS.ext hx2
  replace hcS := hcS.ext hx2
  replace hD := hD.ext hx2
  replace hI := hI.ext hx2
  refine Rg.wdB trivial rfl (w_call Tryz.call40 rfl cloneIntsN) rfl (fun _ _ h => h.2) ?_
  rintro _ w3 ⟨rfl, hx3⟩
  replace hx := hx.ext hx3
  replace hS := hS.ext hx3
  replace hcS := hcS.ext hx3
  replace hD := hD.ext hx3
  replace hI := hI.ext hx3
  refine Rg.tm trivial rfl (t_assign rfl) rfl ?_
  refine Rg.tm trivial rfl (t_assign rfl) rfl ?_
  refine Rg.done ?_
  refine Wp.seq ?_
  refine Wp.seq (Wp.region ?_)
  refine Rg.tm trivial rfl (t_move rfl) rfl ?_
  refine Rg.tm trivial rfl (t_move rfl) rfl ?_
  refine Rg.wd trivial (w_call Tryz.call41 rfl (index_ok (cs := []) (mods := []) hS (hsn.ext hx) (by simp))) rfl ?_
  rintro _ w4 ⟨rfl, hx4⟩
  replace hx := hx.ext hx4
  replace hS := hS.ext hx4
  replace hcS := hcS.ext hx4
  replace hD := hD.ext hx4
  replace hI := hI.ext hx4
  rw [show idxF (fun m => decide (m.1 = nameM)) 0 [] = -1 from rfl]
  refine Rg.tm trivial rfl (t_assign rfl) rfl ?_
  refine Rg.done ?_
  refine Wp.seq (Wp.region ?_)
  refine Rg.tm trivial rfl (t_move rfl) rfl ?_
  first | refine Rg.tm trivial rfl (t_geqT rfl rfl (by omega)) rfl ?_ | refine Rg.tm trivial rfl (t_geqF rfl rfl (by omega)) rfl ?_ | refine Rg.tm trivial rfl (t_geq rfl rfl) rfl ?_
  refine Rg.done ?_
  refine Wp.condF rfl ?_
  refine Wp.skip ?_
  refine Wp.seq (Wp.region ?_)
  refine Rg.tm trivial rfl (t_move rfl) rfl ?_
  refine Rg.tm trivial rfl (t_move rfl) rfl ?_
  refine Rg.wd trivial (w_call Tryz.call43 rfl searchN) rfl ?_
  rintro _ w5 ⟨rfl, hx5⟩
  replace hx := hx.ext hx5
  replace hS := hS.ext hx5
  replace hcS := hcS.ext hx5
  replace hD := hD.ext hx5
  replace hI := hI.ext hx5
  refine Rg.tm trivial rfl (t_move rfl) rfl ?_
  refine Rg.tm trivial rfl (t_extract rfl rfl) rfl ?_
  refine Rg.tm trivial rfl (t_extract rfl rfl) rfl ?_
  refine Rg.tm trivial rfl (t_assign rfl) rfl ?_
  refine Rg.tm trivial rfl (t_assign rfl) rfl ?_
  refine Rg.done ?_
  refine Wp.seq (Wp.region ?_)
  refine Rg.tm trivial rfl (t_move rfl) rfl ?_
  refine Rg.tm trivial rfl (t_move rfl) rfl ?_
  refine Rg.tm trivial rfl (t_move rfl) rfl ?_
  refine Rg.tm trivial rfl (t_move rfl) rfl ?_
  refine Rg.tm trivial rfl (t_move rfl) rfl ?_
  refine Rg.tm trivial rfl (t_build (bd45_0_1 _ _) rfl) rfl ?_
  refine Rg.wd trivial (w_buildSlice (bs46_1 _ _) rfl) rfl ?_
  rintro _ wb ⟨bb, rfl, qb, hxb, hvb⟩
  replace hx := hx.ext hxb
  replace hcS := hcS.ext hxb
  replace hS := hS.ext hxb
  replace hD := hD.ext hxb
  replace hI := hI.ext hxb
  refine Rg.wd trivial (w_call Tryz.call46 rfl (insMods hvb rfl (by simp [Value.oneCell']))) rfl ?_
  rintro _ w6 ⟨⟨pa, ca, rfl, hoa⟩, hx6⟩
  replace hx := hx.ext hx6
  replace hS := hS.ext hx6
  replace hcS := hcS.ext hx6
  replace hD := hD.ext hx6
  replace hI := hI.ext hx6
  refine Rg.tm trivial rfl (t_move rfl) rfl ?_
  refine Rg.tm trivial rfl (t_move rfl) rfl ?_
  refine Rg.wd trivial (w_buildSlice (bs58_1 _) rfl) rfl ?_
  rintro _ wd ⟨bd, rfl, qd, hxd, hvd⟩
  replace hx := hx.ext hxd
  replace hcS := hcS.ext hxd
  replace hS := hS.ext hxd
  replace hD := hD.ext hxd
  replace hI := hI.ext hxd
  replace hoa := own_ext hoa hxd
  refine Rg.wd trivial (w_call Tryz.call47 rfl (insInts hvd rfl (by simp [Value.oneCell']))) rfl ?_
  rintro _ w7 ⟨⟨pb, cb, rfl, hob⟩, hx7⟩
  replace hx := hx.ext hx7
  replace hS := hS.ext hx7
  replace hcS := hcS.ext hx7
  replace hD := hD.ext hx7
  replace hI := hI.ext hx7
  replace hoa := own_ext hoa hx7
  refine Rg.wd trivial (w_call Tryz.call42 rfl (replace_ok hS hoa hob hD hI ht (hA.ext hx))) rfl ?_
  rintro _ wR ⟨rfl, hR, hk⟩
  refine Rg.tm trivial rfl (t_assign rfl) rfl ?_
  refine Rg.done ?_
  refine Wp.ret ?_
  exact ⟨[_], ⟨rfl, trivial⟩, rfl, hR, (hx.kp _).trans hk⟩
theorem srvWrite_ok {w : World} {bS bD bI bM : Nat} {text0 text : ByteArray} {ver : Int} (h0 : Srv w bS bD bI bM text0 ver) (ht : text.size ≤ 2000) (hA : Asc w) (hver : 0 ≤ ver ∧ ver ≤ 100) :
    Cl Tryz.prog 21 #[.pointer (some ⟨bS, 0, none⟩), .string nameM, .string text] w (fun u w' => u = .int .i64 0 ∧ Srv w' bS bD bI bM text (ver + 1) ∧ Kp [bS, bI, bM] w w') := by
  have hx := Ext.refl w
  obtain ⟨pm, cm, pv, cv, rv, hS, hm, hv, hD, hI⟩ := h0
  have hcS := hS.cells
  have hms := own_slice hm
  have hvs := own_slice hv
  refine Cl.enter Tryz.func21 rfl Tryz.ntmps21 rfl rfl ?_
  refine Wp.seq (Wp.region ?_)
  refine Rg.tm trivial rfl (t_assign rfl) rfl ?_
  refine Rg.done ?_
  refine Wp.seq (Wp.draw [0, 1, 2, 3, 5, 6, 7, 8, 4, 9, 10, 11] [] mixed (by kernel_rfl) (by kernel_rfl) ?_)
  intro w1 hx1 _
  replace hx := hx.ext hx1
  replace hcS := hcS.ext hx1
  replace hms := hms.ext hx1
  replace hvs := hvs.ext hx1
  have hle1 := hx1.le
  refine Rg.tm trivial rfl (t_move rfl) rfl ?_
  refine Rg.tm trivial rfl (t_nilCheck rfl) rfl ?_
  refine Rg.tm trivial rfl (t_fieldAddr fa72_0 rfl) rfl ?_
  refine Rg.tm trivial rfl (t_load ty46 rfl (by apply Cells.get (i := 0); (case h => assumption); rfl)) rfl ?_
  refine Rg.tm trivial rfl (t_move rfl) rfl ?_
  refine Rg.tm trivial rfl (t_nilCheck rfl) rfl ?_
  refine Rg.tm trivial rfl (t_fieldAddr fa72_1 rfl) rfl ?_
  refine Rg.tm trivial rfl (t_load ty58 rfl (by apply Cells.get (i := 1); (case h => assumption); rfl)) rfl ?_
  refine Rg.wdB trivial rfl (w_call Tryz.call33 rfl (cloneMods_ok hms (by simp [modCells, Value.oneCell']) (by decide))) rfl (fun _ _ h => h.2) ?_
  rintro v7 w2 ⟨ho7, hx2⟩
  have hle2 := hx.le
  replace hx := hx.ext hx2
  replace hcS := hcS.ext hx2
  replace hms := hms.ext hx2
  replace hvs := hvs.ext hx2
  refine Rg.wdB trivial rfl (w_call Tryz.call40 rfl (cloneInts_ok (cs := [.int .i64 ver]) hvs (by simp [Value.oneCell']) (by decide))) rfl (fun _ _ h => h.2) ?_
  have hlq := hx.le
  rintro v8 w3 ⟨ho8, hx3⟩
  replace hx := hx.ext hx3
  replace hcS := hcS.ext hx3
  replace hms := hms.ext hx3
  replace hvs := hvs.ext hx3
  replace ho7 := own_ext ho7 hx3
  refine Rg.tm trivial rfl (t_assign rfl) rfl ?_
  refine Rg.tm trivial rfl (t_assign rfl) rfl ?_
  refine Rg.done ?_
  refine Wp.seq ?_
  refine Wp.seq (Wp.region ?_)
  refine Rg.tm trivial rfl (t_move rfl) rfl ?_
  refine Rg.tm trivial rfl (t_move rfl) rfl ?_
  refine Rg.wd trivial (w_call Tryz.call41 rfl (index_ok (cs := []) (mods := [(nameM, text0)]) (hS.ext hx) hms (by simp))) rfl ?_
  rintro _ w4 ⟨rfl, hx4⟩
  replace hx := hx.ext hx4
  replace hcS := hcS.ext hx4
  replace hms := hms.ext hx4
  replace hvs := hvs.ext hx4
  rw [idxM]
  replace ho7 := own_ext ho7 hx4
  replace ho8 := own_ext ho8 hx4
  obtain ⟨g7, c7, rfl, hB7, hlt7⟩ := own_form ho7 (by decide)
  obtain ⟨g8, c8, rfl, hB8, hlt8⟩ := own_form ho8 (by decide)
  refine Rg.tm trivial rfl (t_assign rfl) rfl ?_
  refine Rg.done ?_
  refine Wp.seq (Wp.region ?_)
  refine Rg.tm trivial rfl (t_move rfl) rfl ?_
  first | refine Rg.tm trivial rfl (t_geqT rfl rfl (by omega)) rfl ?_ | refine Rg.tm trivial rfl (t_geqF rfl rfl (by omega)) rfl ?_ | refine Rg.tm trivial rfl (t_geq rfl rfl) rfl ?_
  refine Rg.done ?_
  refine Wp.condT rfl ?_
  refine Wp.seq (Wp.region ?_)
  refine Rg.tm trivial rfl (t_move rfl) rfl ?_
  refine Rg.tm trivial rfl (t_move rfl) rfl ?_
  refine Rg.tm trivial rfl (t_move rfl) rfl ?_
  refine Rg.tm trivial rfl (t_indexAddrL Tryz.underlying46 ty45 rfl rfl (by omega)) rfl ?_
  refine Rg.tm trivial rfl (t_fieldAddr fa45_1 rfl) rfl ?_
  refine Rg.wn trivial (w_setOwn ho7 ty9 rfl rfl rfl rfl rfl) ?_
  rintro _ we ⟨ho7', hu7⟩
  replace ho8 := own_grown ho8 ho7 (Upd.grown hu7) (by decide)
  replace hx := hx.upd hu7 (by omega)
  clear ho7 hcS hms hvs
  refine Rg.done ?_
  refine Wp.seq (Wp.region ?_)
  refine Rg.tm trivial rfl (t_move rfl) rfl ?_
  refine Rg.tm trivial rfl (t_move rfl) rfl ?_
  refine Rg.tm trivial rfl (t_indexAddrL Tryz.underlying58 ty3 rfl rfl (by omega)) rfl ?_
  refine Rg.tm trivial rfl (t_load ty3 rfl (by have h := ho8.cellAt 0 (by decide); simpa using h)) rfl ?_
  first | refine Rg.tm trivial rfl (t_addI rfl rfl (by omega)) rfl ?_ | refine Rg.tm trivial rfl (t_add rfl rfl) rfl ?_
  refine Rg.tm trivial rfl (t_indexAddrL Tryz.underlying58 ty3 rfl rfl (by omega)) rfl ?_
  refine Rg.wn trivial (w_setOwn ho8 ty3 rfl rfl rfl rfl rfl) ?_
  rintro _ wf ⟨ho8', hu8⟩
  replace ho7' := own_grown ho7' ho8 (Upd.grown hu8) (by decide)
  replace hx := hx.upd hu8 (by omega)
  clear ho8
  refine Rg.done ?_
  refine Wp.seq (Wp.region ?_)
  refine Rg.tm trivial rfl (t_move rfl) rfl ?_
  refine Rg.tm trivial rfl (t_move rfl) rfl ?_
  refine Rg.tm trivial rfl (t_move rfl) rfl ?_
  refine Rg.wd trivial (w_call Tryz.call42 rfl (replace_ok (hS.ext hx) (show World.ownsRow _ 0 45 2 _ 1 (modCells text) from own_mono0 ho7') (show World.ownsRow _ 0 3 1 _ 1 [.int .i64 (ver + 1)] from own_mono0 ho8') (hD.ext hx) (hI.ext hx) ht (hA.ext hx))) rfl ?_
  rintro _ wR ⟨rfl, hR, hk⟩
  refine Rg.tm trivial rfl (t_assign rfl) rfl ?_
  refine Rg.done ?_
  refine Wp.ret ?_
  exact ⟨[_], ⟨rfl, trivial⟩, rfl, hR, (hx.kp _).trans hk⟩
theorem edit_ok {w : World} {bS bD bI bM : Nat} {text : ByteArray} {ver : Int} {es : List TE} {ve : Value} (h0 : Srv w bS bD bI bM text ver) (hes : SlC w ve 3 es.length (tes es)) (hle : es.length < 4611686018427387904) (hme : ∀ e ∈ es, (e.s.size : Int) ≤ 140737488355328) (hc : codeE text.size es = 0) (hA : Asc w) (hver : 0 ≤ ver ∧ ver ≤ 100) :
    Cl Tryz.prog 23 #[.pointer (some ⟨bS, 0, none⟩), .string nameM, .int .i64 ver, ve] w (fun u w' => u = .int .i64 0 ∧ Srv w' bS bD bI bM (outE text es) (ver + 1) ∧ Kp [bS, bI, bM] w w') := by
  have hx := Ext.refl w
  obtain ⟨pm, cm, pv, cv, rv, hS, hm, hv, hD, hI⟩ := id h0
  have hcS := hS.cells
  have hms := own_slice hm
  have hvs := own_slice hv
  have hout := (appE_le hc 0).2
  refine Cl.enter Tryz.func23 rfl Tryz.ntmps23 rfl rfl ?_
  refine Wp.seq (Wp.region ?_)
  refine Rg.tm trivial rfl (t_assign rfl) rfl ?_
  refine Rg.done ?_
  refine Wp.seq (Wp.region ?_)
  refine Rg.tm trivial rfl (t_move rfl) rfl ?_
  refine Rg.tm trivial rfl (t_move rfl) rfl ?_
  refine Rg.wd trivial (w_call Tryz.call41 rfl (index_ok (cs := []) (mods := [(nameM, text)]) (hS.ext hx) hms (by simp))) rfl ?_
  rintro _ w1 ⟨rfl, hx1⟩
  replace hx := hx.ext hx1
  replace hcS := hcS.ext hx1
  replace hms := hms.ext hx1
  replace hvs := hvs.ext hx1
  rw [idxM]
  refine Rg.tm trivial rfl (t_assign rfl) rfl ?_
  refine Rg.done ?_
  refine Wp.seq ?_
  refine Wp.block ?_
  refine Wp.seq (Wp.region ?_)
  refine Rg.tm trivial rfl (t_move rfl) rfl ?_
  first | refine Rg.tm trivial rfl (t_lssT rfl rfl (by omega)) rfl ?_ | refine Rg.tm trivial rfl (t_lssF rfl rfl (by omega)) rfl ?_ | refine Rg.tm trivial rfl (t_lss rfl rfl) rfl ?_
  refine Rg.tm trivial rfl (t_assign rfl) rfl ?_
  refine Rg.done ?_
  refine Wp.condF rfl ?_
  refine Wp.seq (Wp.region ?_)
  refine Rg.tm trivial rfl (t_move rfl) rfl ?_
  refine Rg.tm trivial rfl (t_nilCheck rfl) rfl ?_
  refine Rg.tm trivial rfl (t_fieldAddr fa72_1 rfl) rfl ?_
  refine Rg.tm trivial rfl (t_load ty58 rfl (by apply Cells.get (i := 1); (case h => assumption); rfl)) rfl ?_
  refine Rg.tm trivial rfl (t_move rfl) rfl ?_
  refine Rg.ix hvs trivial rfl rfl Tryz.underlying58 ty3 (by omega) rfl ?_
  intro bt24 ot24 ht24
  change Cells _ _ _ [.int .i64 ver] at ht24
  refine Rg.tm trivial rfl (t_load ty3 rfl (by first | assumption | (apply Cells.get (i := 0); (case h => assumption); rfl))) rfl ?_
  refine Rg.tm trivial rfl (t_move rfl) rfl ?_
  first | refine Rg.tm trivial rfl (t_neqT rfl rfl (by omega)) rfl ?_ | refine Rg.tm trivial rfl (t_neqF rfl rfl (by omega)) rfl ?_ | refine Rg.tm trivial rfl (t_neq rfl rfl) rfl ?_
  refine Rg.tm trivial rfl (t_assign rfl) rfl ?_
  refine Rg.done ?_
  refine Wp.condF rfl ?_
  refine Wp.skip ?_
  refine Wp.seq (Wp.region ?_)
  refine Rg.tm trivial rfl (t_move rfl) rfl ?_
  refine Rg.tm trivial rfl (t_nilCheck rfl) rfl ?_
  refine Rg.tm trivial rfl (t_fieldAddr fa72_0 rfl) rfl ?_
  refine Rg.tm trivial rfl (t_load ty46 rfl (by apply Cells.get (i := 0); (case h => assumption); rfl)) rfl ?_
  refine Rg.tm trivial rfl (t_move rfl) rfl ?_
  refine Rg.ix hms trivial rfl rfl Tryz.underlying46 ty45 (by omega) rfl ?_
  intro bt34 ot34 ht34
  change Cells _ _ _ [.string nameM, .string text] at ht34
  refine Rg.tm trivial rfl (t_fieldAddr fa45_1 rfl) rfl ?_
  refine Rg.tm trivial rfl (t_load ty9 rfl (by apply Cells.get (i := 1); (case h => assumption); rfl)) rfl ?_
  refine Rg.tm trivial rfl (t_move rfl) rfl ?_
  refine Rg.wd trivial (w_call Tryz.call8 rfl (textApply_ok (hes.ext hx) hle hme hc)) rfl ?_
  rintro _ w2 ⟨rfl, hx2⟩
  replace hx := hx.ext hx2
  replace hcS := hcS.ext hx2
  replace hms := hms.ext hx2
  replace hvs := hvs.ext hx2
  replace ht24 := ht24.ext hx2
  replace ht34 := ht34.ext hx2
  refine Rg.tm trivial rfl (t_move rfl) rfl ?_
  refine Rg.tm trivial rfl (t_extract rfl rfl) rfl ?_
  refine Rg.tm trivial rfl (t_extract rfl rfl) rfl ?_
  refine Rg.tm trivial rfl (t_assign rfl) rfl ?_
  refine Rg.tm trivial rfl (t_assign rfl) rfl ?_
  refine Rg.done ?_
  refine Wp.seq ?_
  refine Wp.seq (Wp.region ?_)
  refine Rg.tm trivial rfl (t_move rfl) rfl ?_
  first | refine Rg.tm trivial rfl (t_neqT rfl rfl (by omega)) rfl ?_ | refine Rg.tm trivial rfl (t_neqF rfl rfl (by omega)) rfl ?_ | refine Rg.tm trivial rfl (t_neq rfl rfl) rfl ?_
  refine Rg.done ?_
  refine Wp.condF rfl ?_
  refine Wp.skip ?_
  refine Wp.seq (Wp.region ?_)
  refine Rg.tm trivial rfl (t_move rfl) rfl ?_
  refine Rg.tm trivial rfl (t_move rfl) rfl ?_
  refine Rg.tm trivial rfl (t_move rfl) rfl ?_
  refine Rg.wd trivial (w_call Tryz.call21 rfl (srvWrite_ok (h0.ext hx) hout (hA.ext hx) hver)) rfl ?_
  rintro _ wR ⟨rfl, hR, hk⟩
  refine Rg.tm trivial rfl (t_assign rfl) rfl ?_
  refine Rg.done ?_
  refine Wp.ret ?_
  exact ⟨[_], ⟨rfl, trivial⟩, rfl, hR, (hx.kp _).trans hk⟩
theorem handleW {w : World} {bS bD bI bM : Nat} {text : ByteArray} {y z : Int} {vs : List Value} (h0 : Srv0 w bS bD bI bM) (ht : text.size ≤ 2000) (hA : Asc w) :
    Cl Tryz.prog 7 #[.pointer (some ⟨bS, 0, none⟩), .agg #[.int .i64 1, .int .i64 0, .int .i64 0, .string nameM, .string text, .slice none 0 0, .int .i64 0, .int .i64 0, .int .i64 0, .int .i64 0, .string ⟨#[]⟩]] w (fun u w' => u = .tuple #[.slice none 0 0, .int .i64 0] ∧ Srv w' bS bD bI bM text 1 ∧ Kp [bS, bI, bM] w w') := by
  have hx := Ext.refl w
  refine Cl.enter Tryz.func7 rfl Tryz.ntmps7 rfl rfl ?_
  refine Wp.seq (Wp.region ?_)
  refine Rg.wd trivial (w_boxed rfl rfl) rfl ?_
  rintro _ w1 ⟨b3, rfl, qb3, hx1, hv3⟩
  replace hx := hx.ext hx1
  have hc3 := hv3.cells
  refine Rg.tm trivial rfl (t_assign rfl) rfl ?_
  refine Rg.tm trivial rfl (t_assign rfl) rfl ?_
  refine Rg.done ?_
  refine Wp.seq ?_
  refine Wp.seq (Wp.region ?_)
  refine Rg.tm trivial rfl (t_fieldAddr fa35_0 rfl) rfl ?_
  refine Rg.tm trivial rfl (t_load ty3 rfl (by apply Cells.get (i := 0); (case h => assumption); rfl)) rfl ?_
  refine Rg.done ?_
  refine Wp.block ?_
  refine Wp.seq (Wp.region ?_)
  first | refine Rg.tm trivial rfl (t_eqlT rfl rfl (by omega)) rfl ?_ | refine Rg.tm trivial rfl (t_eqlF rfl rfl (by omega)) rfl ?_ | refine Rg.tm trivial rfl (t_eql rfl rfl) rfl ?_
  refine Rg.tm trivial rfl (t_assign rfl) rfl ?_
  refine Rg.done ?_
  refine Wp.condT rfl ?_
  refine Wp.seq (Wp.region ?_)
  refine Rg.tm trivial rfl (t_move rfl) rfl ?_
  refine Rg.tm trivial rfl (t_fieldAddr fa35_3 rfl) rfl ?_
  refine Rg.tm trivial rfl (t_load ty9 rfl (by apply Cells.get (i := 3); (case h => assumption); rfl)) rfl ?_
  refine Rg.tm trivial rfl (t_fieldAddr fa35_4 rfl) rfl ?_
  refine Rg.tm trivial rfl (t_load ty9 rfl (by apply Cells.get (i := 4); (case h => assumption); rfl)) rfl ?_
  refine Rg.wd trivial (w_call Tryz.call21 rfl (writeN_ok (h0.ext hx) ht (hA.ext hx))) rfl ?_
  rintro _ wR ⟨rfl, hR, hk⟩
  refine Rg.tm trivial rfl (t_assign rfl) rfl ?_
  refine Rg.tm trivial rfl (t_assign rfl) rfl ?_
  refine Rg.done ?_
  refine Wp.ret ?_
  exact ⟨[_, _], ⟨rfl, rfl, trivial⟩, rfl, hR, (hx.kp _).trans hk⟩
theorem handleE {w : World} {bS bD bI bM : Nat} {text : ByteArray} {ver : Int} {es : List TE} {pe : Option Addr} {le ce : Nat} (h0 : Srv w bS bD bI bM text ver) (hes : SlC w (.slice pe le ce) 3 es.length (tes es)) (hle : es.length < 4611686018427387904) (hme : ∀ e ∈ es, (e.s.size : Int) ≤ 140737488355328) (hc : codeE text.size es = 0) (hA : Asc w) (hver : 0 ≤ ver ∧ ver ≤ 100) :
    Cl Tryz.prog 7 #[.pointer (some ⟨bS, 0, none⟩), .agg #[.int .i64 3, .int .i64 0, .int .i64 ver, .string nameM, .string ⟨#[]⟩, .slice pe le ce, .int .i64 0, .int .i64 0, .int .i64 0, .int .i64 0, .string ⟨#[]⟩]] w (fun u w' => u = .tuple #[.slice none 0 0, .int .i64 0] ∧ Srv w' bS bD bI bM (outE text es) (ver + 1) ∧ Kp [bS, bI, bM] w w') := by
  have hx := Ext.refl w
  refine Cl.enter Tryz.func7 rfl Tryz.ntmps7 rfl rfl ?_
  refine Wp.seq (Wp.region ?_)
  refine Rg.wd trivial (w_boxed rfl rfl) rfl ?_
  rintro _ w1 ⟨b3, rfl, qb3, hx1, hv3⟩
  replace hx := hx.ext hx1
  have hc3 := hv3.cells
  refine Rg.tm trivial rfl (t_assign rfl) rfl ?_
  refine Rg.tm trivial rfl (t_assign rfl) rfl ?_
  refine Rg.done ?_
  refine Wp.seq ?_
  refine Wp.seq (Wp.region ?_)
  refine Rg.tm trivial rfl (t_fieldAddr fa35_0 rfl) rfl ?_
  refine Rg.tm trivial rfl (t_load ty3 rfl (by apply Cells.get (i := 0); (case h => assumption); rfl)) rfl ?_
  refine Rg.done ?_
  refine Wp.block ?_
  refine Wp.seq (Wp.region ?_)
  first | refine Rg.tm trivial rfl (t_eqlT rfl rfl (by omega)) rfl ?_ | refine Rg.tm trivial rfl (t_eqlF rfl rfl (by omega)) rfl ?_ | refine Rg.tm trivial rfl (t_eql rfl rfl) rfl ?_
  refine Rg.tm trivial rfl (t_assign rfl) rfl ?_
  refine Rg.done ?_
  refine Wp.condF rfl ?_
  refine Wp.seq (Wp.region ?_)
  first | refine Rg.tm trivial rfl (t_eqlT rfl rfl (by omega)) rfl ?_ | refine Rg.tm trivial rfl (t_eqlF rfl rfl (by omega)) rfl ?_ | refine Rg.tm trivial rfl (t_eql rfl rfl) rfl ?_
  refine Rg.tm trivial rfl (t_assign rfl) rfl ?_
  refine Rg.done ?_
  refine Wp.condF rfl ?_
  refine Wp.seq (Wp.region ?_)
  first | refine Rg.tm trivial rfl (t_eqlT rfl rfl (by omega)) rfl ?_ | refine Rg.tm trivial rfl (t_eqlF rfl rfl (by omega)) rfl ?_ | refine Rg.tm trivial rfl (t_eql rfl rfl) rfl ?_
  refine Rg.tm trivial rfl (t_assign rfl) rfl ?_
  refine Rg.done ?_
  refine Wp.condT rfl ?_
  refine Wp.seq (Wp.region ?_)
  refine Rg.tm trivial rfl (t_move rfl) rfl ?_
  refine Rg.tm trivial rfl (t_fieldAddr fa35_3 rfl) rfl ?_
  refine Rg.tm trivial rfl (t_load ty9 rfl (by apply Cells.get (i := 3); (case h => assumption); rfl)) rfl ?_
  refine Rg.tm trivial rfl (t_fieldAddr fa35_2 rfl) rfl ?_
  refine Rg.tm trivial rfl (t_load ty3 rfl (by apply Cells.get (i := 2); (case h => assumption); rfl)) rfl ?_
  refine Rg.tm trivial rfl (t_fieldAddr fa35_5 rfl) rfl ?_
  refine Rg.tm trivial rfl (t_load ty22 rfl (by apply Cells.get (i := 5); (case h => assumption); rfl)) rfl ?_
  refine Rg.wd trivial (w_call Tryz.call23 rfl (edit_ok (h0.ext hx) (hes.ext hx) hle hme hc (hA.ext hx) hver)) rfl ?_
  rintro _ wR ⟨rfl, hR, hk⟩
  refine Rg.tm trivial rfl (t_assign rfl) rfl ?_
  refine Rg.tm trivial rfl (t_assign rfl) rfl ?_
  refine Rg.done ?_
  refine Wp.ret ?_
  exact ⟨[_, _], ⟨rfl, rfl, trivial⟩, rfl, hR, (hx.kp _).trans hk⟩
theorem bd102f (f : FuncId) (cap : Array Value) (x : Option Addr) (y z : Option Nat) (w : World) : (Instr.build 102 [(0, .func (.func f) #[] cap), (1, .pointer x), (2, .map y), (3, .map z)].toArray).run Tryz.prog w = .ok (.agg #[.func (.func f) #[] cap, .pointer x, .map y, .map z, .nilFunc, .int .i64 0, .int .i64 0]) w := by kernel_rfl
theorem inputsNew_ok {w : World} : Cl Tryz.prog 37 #[] w (fun u w' => (∃ bI bM, u = .pointer (some ⟨bI, 0, none⟩) ∧ w.heap.size ≤ bI ∧ w.heap.size ≤ bM ∧ Inp w' bI bM) ∧ Ext w w') := by
  have hx := Ext.refl w
  refine Cl.enter Tryz.func37 rfl Tryz.ntmps37 rfl rfl ?_
  refine Wp.seq (Wp.region ?_)
  refine Rg.tm trivial rfl (t_assign rfl) rfl ?_
  refine Rg.done ?_
  refine Wp.seq (Wp.region ?_)
  refine Rg.wd trivial (w_makeMap) rfl ?_
  rintro _ w1 ⟨bM, rfl, qbM, hx1, hm⟩
  replace hx := hx.ext hx1
  refine Rg.tm trivial rfl (t_build (bd130_2 _) rfl) rfl ?_
  have k3 := hx.le
  refine Rg.wd trivial (w_boxed rfl rfl) rfl ?_
  rintro _ w2 ⟨bI, rfl, qbI, hx2, hI⟩
  replace hx := hx.ext hx2
  replace hm := hm.ext hx2
  refine Rg.tm trivial rfl (t_assign rfl) rfl ?_
  refine Rg.done ?_
  refine Wp.ret ?_
  exact ⟨[_], ⟨rfl, trivial⟩, ⟨bI, bM, rfl, by omega, by omega, ⟨_, _, _, _, _, hI, hm, fun e he => by simp at he⟩⟩, hx⟩
theorem memoNew_ok {w : World} {f : FuncId} {cap : Array Value} : Cl Tryz.prog 18 #[.func (.func f) #[] cap] w (fun u w' => (∃ bD bI bM, u = .pointer (some ⟨bD, 0, none⟩) ∧ w.heap.size ≤ bI ∧ w.heap.size ≤ bM ∧ Dat w' bD bI ∧ Inp w' bI bM) ∧ Ext w w') := by
  have hx := Ext.refl w
  refine Cl.enter Tryz.func18 rfl Tryz.ntmps18 rfl rfl ?_
  refine Wp.seq (Wp.region ?_)
  refine Rg.tm trivial rfl (t_assign rfl) rfl ?_
  refine Rg.done ?_
  refine Wp.seq ?_
  refine Wp.seq (Wp.region ?_)
  refine Rg.tm trivial rfl (t_move rfl) rfl ?_
  refine Rg.tm trivial rfl (t_fnNilF Tryz.underlying69 rfl rfl) rfl ?_
  refine Rg.done ?_
  refine Wp.condF rfl ?_
  refine Wp.skip ?_
  refine Wp.seq (Wp.region ?_)
  refine Rg.tm trivial rfl (t_move rfl) rfl ?_
  refine Rg.wd trivial (w_call Tryz.call37 rfl inputsNew_ok) rfl ?_
  rintro _ w1 ⟨⟨bI, bM, rfl, qI, qM, hI⟩, hx1⟩
  replace hx := hx.ext hx1
  refine Rg.wd trivial (w_makeMap) rfl ?_
  rintro _ w2 ⟨b7, rfl, qb7, hx2, h7⟩
  replace hx := hx.ext hx2
  replace hI := hI.ext hx2
  refine Rg.wd trivial (w_makeMap) rfl ?_
  rintro _ w3 ⟨b8, rfl, qb8, hx3, h8⟩
  replace hx := hx.ext hx3
  replace hI := hI.ext hx3
  replace h7 := h7.ext hx3
  refine Rg.tm trivial rfl (t_build (bd102f _ _ _ _ _) rfl) rfl ?_
  refine Rg.wd trivial (w_boxed rfl rfl) rfl ?_
  rintro _ w4 ⟨bD, rfl, qbD, hx4, hD⟩
  replace hx := hx.ext hx4
  replace hI := hI.ext hx4
  replace h7 := h7.ext hx4
  replace h8 := h8.ext hx4
  refine Rg.tm trivial rfl (t_assign rfl) rfl ?_
  refine Rg.done ?_
  refine Wp.ret ?_
  exact ⟨[_], ⟨rfl, trivial⟩, ⟨bD, bI, bM, rfl, by omega, by omega, ⟨_, _, _, _, _, _, hD⟩, hI⟩, hx⟩
theorem serverNew_ok {w : World} : Cl Tryz.prog 6 #[.nilFunc] w (fun u w' => (∃ bS bD bI bM, u = .pointer (some ⟨bS, 0, none⟩) ∧ w.heap.size ≤ bS ∧ w.heap.size ≤ bI ∧ w.heap.size ≤ bM ∧ Srv0 w' bS bD bI bM) ∧ Ext w w') := by
  have hx := Ext.refl w
  refine Cl.enter Tryz.func6 rfl Tryz.ntmps6 rfl rfl ?_
  refine Wp.seq (Wp.region ?_)
  refine Rg.wd trivial (w_boxed rfl rfl) rfl ?_
  rintro _ w1 ⟨b1, rfl, qb1, hx1, hv1⟩
  replace hx := hx.ext hx1
  have hc1 := hv1.cells
  have k1 := hx1.le
  refine Rg.tm trivial rfl (t_assign rfl) rfl ?_
  refine Rg.done ?_
  refine Wp.seq ?_
  refine Wp.seq (Wp.region ?_)
  refine Rg.tm trivial rfl (t_load ty57 rfl (by first | assumption | (apply Cells.get (i := 0); (case h => assumption); rfl))) rfl ?_
  refine Rg.tm trivial rfl (t_fnNilT Tryz.underlying57 rfl rfl) rfl ?_
  refine Rg.done ?_
  refine Wp.condT rfl ?_
  refine Wp.region ?_
  refine Rg.wn trivial (w_put hv1 rfl rfl rfl ty57 rfl rfl) ?_
  rintro _ we ⟨hu, hv1'⟩
  replace hx := hx.upd hu (by omega)
  clear hv1 hc1
  refine Rg.done ?_
  refine Wp.seq (Wp.region ?_)
  refine Rg.tm trivial rfl (t_makeFunc (vs := [_]) rfl) rfl ?_
  have k6 := hx.le
  refine Rg.wd trivial (w_call Tryz.call18 rfl memoNew_ok) rfl ?_
  rintro _ w2 ⟨⟨bD, bI, bM, rfl, qI, qM, hD, hI⟩, hx2⟩
  replace hx := hx.ext hx2
  refine Rg.tm trivial rfl (t_build (bd72_4 _) rfl) rfl ?_
  have k8 := hx.le
  refine Rg.wd trivial (w_boxed rfl rfl) rfl ?_
  rintro _ w3 ⟨bS, rfl, qbS, hx3, hS⟩
  replace hx := hx.ext hx3
  replace hD := hD.ext hx3
  replace hI := hI.ext hx3
  refine Rg.tm trivial rfl (t_assign rfl) rfl ?_
  refine Rg.done ?_
  refine Wp.ret ?_
  exact ⟨[_], ⟨rfl, trivial⟩, ⟨bS, bD, bI, bM, rfl, by omega, by omega, by omega, ⟨_, hS, hD, hI⟩⟩, hx⟩
theorem modules_ok {w : World} {bS bD bI bM : Nat} {text : ByteArray} {ver : Int} (h0 : Srv w bS bD bI bM text ver) :
    Cl Tryz.prog 11 #[.pointer (some ⟨bS, 0, none⟩)] w (fun u w' => SlC w' u 2 1 (modCells text) ∧ Ext w w') := by
  have hx := Ext.refl w
  obtain ⟨pm, cm, pv, cv, rv, hS, hm, hv, hD, hI⟩ := h0
  have hcS := hS.cells
  have hms := own_slice hm
  refine Cl.enter Tryz.func11 rfl Tryz.ntmps11 rfl rfl ?_
  refine Wp.seq (Wp.region ?_)
  refine Rg.tm trivial rfl (t_assign rfl) rfl ?_
  refine Rg.done ?_
  refine Wp.seq (Wp.region ?_)
  refine Rg.tm trivial rfl (t_move rfl) rfl ?_
  refine Rg.tm trivial rfl (t_nilCheck rfl) rfl ?_
  refine Rg.tm trivial rfl (t_fieldAddr fa72_0 rfl) rfl ?_
  refine Rg.tm trivial rfl (t_load ty46 rfl (by apply Cells.get (i := 0); (case h => assumption); rfl)) rfl ?_
  refine Rg.wd trivial (w_call Tryz.call33 rfl (cloneMods_ok hms (by simp [modCells, Value.oneCell']) (by decide))) rfl ?_
  rintro v7 w1 ⟨ho7, hx1⟩
  replace hx := hx.ext hx1
  refine Rg.tm trivial rfl (t_assign rfl) rfl ?_
  refine Rg.done ?_
  refine Wp.ret ?_
  exact ⟨[_], ⟨rfl, trivial⟩, own_slice ho7, hx⟩
end Go.Proofs.YtbnkncemfadfjaaGreatDoor
