/- The walks of the closure that reads an input; of server.modulesOf, compute. Printed by r5/srve.py. -/
import Derived.Test.YtliofpegbcegiaaGreatDoorXe
import Derived.Test.YtliofpegbcegiaaGreatDoorXb
set_option linter.unusedVariables false
set_option linter.unusedSimpArgs false
namespace Go.Proofs.YtliofpegbcegiaaGreatDoor
set_option maxRecDepth 20000
open Go.Gx Go.RowKit Go.Lib
def Kq (p B : Nat) (w w' : World) : Prop := w.heap.size ≤ w'.heap.size ∧ ∀ b cs t,b ≠ p → (t ≠ 63 ∨ b < B) → Var w b cs t → Var w' b cs t
theorem Kq.refl (p B : Nat) (w : World) : Kq p B w w := ⟨Nat.le_refl _,fun _ _ _ _ _ h => h⟩
theorem Kq.trans {p B : Nat} {a b c : World} (h : Kq p B a b) (k : Kq p B b c) : Kq p B a c := ⟨Nat.le_trans h.1 k.1,fun x cs t h1 h2 h3 => k.2 x cs t h1 h2 (h.2 x cs t h1 h2 h3)⟩
theorem Kq.mono {p B B' : Nat} {a b : World} (h : Kq p B a b) (hb : B' ≤ B) : Kq p B' a b := ⟨h.1,fun x cs t h1 h2 h3 => h.2 x cs t h1 (h2.imp id fun h => by omega) h3⟩
theorem Kq.ext {p B : Nat} {a b c : World} (h : Kq p B a b) (k : Ext b c) : Kq p B a c := ⟨Nat.le_trans h.1 k.le,fun x cs t h1 h2 h3 => (h.2 x cs t h1 h2 h3).ext k⟩
theorem Kq.updF {p B b : Nat} {w a c : World} (h : Kq p B w a) (hu : Upd b a c) (hb : b = p ∨ w.heap.size ≤ b) : Kq p B w c := ⟨hu.size ▸ h.1,fun x cs t h1 h2 h3 => (h.2 x cs t h1 h2 h3).upd hu (by
 have := h3.lt
 rcases hb with hb | hb
 ·rw [hb]; exact h1
 ·omega)⟩
theorem var_grown2 {w w' : World} {b t B e size n : Nat} {cs xs : List Value} {v : Value} (h : Var w b cs t) (hown : w.ownsRow B e size v n xs) (hg : w.grownBy w' v.ownBlock) (ht : t ≠ e ∨ b < B) : Var w' b cs t := by
 rcases ht with ht | ht
 ·exact h.grown hown hg ht
 ·unfold Var at h ⊢
  rw [hg.block b (by have := h; exact (Var.lt (w := w) (b := b) (cs := cs) (t := t) this)) (fun e => by have := (hown.lt b e.symm).1; omega)]
  exact h
theorem Kq.grown {p B n : Nat} {w a c : World} {v : Value} {xs : List Value} (h : Kq p B w a) (hown : a.ownsRow B 63 3 v n xs) (hg : a.grownBy c v.ownBlock) : Kq p B w c := ⟨Nat.le_trans h.1 hg.size,fun x cs t h1 h2 h3 => var_grown2 (h.2 x cs t h1 h2 h3) hown hg h2⟩
theorem Kq.grownF {p B B2 e size n : Nat} {w a c : World} {v : Value} {xs : List Value} (h : Kq p B w a) (hown : a.ownsRow B2 e size v n xs) (hg : a.grownBy c v.ownBlock) (hB : w.heap.size ≤ B2) : Kq p B w c := ⟨Nat.le_trans h.1 hg.size,fun x cs t h1 h2 h3 => var_grown2 (h.2 x cs t h1 h2 h3) hown hg (.inr (by have := h3.lt; omega))⟩
theorem Row.kq {p BB e size n : Nat} {w w' : World} {v : Value} {xs cp : List Value} (h : Row w e size v n xs) (k : Kq p BB w w') (hp : Var w p cp 139) (h1 : e ≠ 139) (h2 : e ≠ 63) : Row w' e size v n xs := by
 refine ⟨h.1,h.2.imp id ?_⟩
 rintro ⟨b,o,cap,cur,rfl,a1,a2,a3,a4⟩
 exact ⟨b,o,cap,cur,rfl,a1,a2,k.2 b cur e (a3.ne hp h1) (.inl h2) a3,a4⟩
theorem own_kq {p BB B e size n : Nat} {w w' : World} {v : Value} {xs cp : List Value} (h : w.ownsRow B e size v n xs) (k : Kq p BB w w') (hp : Var w p cp 139) (h1 : e ≠ 139) (h2 : e ≠ 63) : w'.ownsRow B e size v n xs := by
 refine ⟨h.1,h.2.imp id ?_⟩
 rintro ⟨g,cap,cur,rfl,a1,a2,a3⟩
 have hv : Var w g cur.toList e := by unfold Var; simpa using a2
 have := k.2 g _ e (hv.ne hp h1) (.inl h2) hv
 exact ⟨g,cap,cur,rfl,a1,by unfold Var at this; simpa using this,a3⟩
def Rec (w : World) (B p : Nat) (ver : Int) (ds : List Key) : Prop := ∃ vd,Var w p [.slice none 0 0,.string ⟨#[]⟩,.int .i64 ver,.int .i64 ver,.int .i64 (if ds = [] then 2 else 0),vd,.int .i64 0] 139 ∧ w.ownsRow B 63 3 vd ds.length (encs kc ds)
theorem Rec.ext {w w' : World} {B p : Nat} {ver : Int} {ds : List Key} (h : Rec w B p ver ds) (k : Ext w w') : Rec w' B p ver ds := by
 obtain ⟨vd,h1,h2⟩ := h
 exact ⟨vd,h1.ext k,own_ext h2 k⟩
theorem Rec.upd {w w' : World} {B p b t : Nat} {cs : List Value} {ver : Int} {ds : List Key} (h : Rec w B p ver ds) (hv : Var w b cs t) (k : Upd b w w') (h1 : t ≠ 139) (h2 : t ≠ 63) : Rec w' B p ver ds := by
 obtain ⟨vd,h3,h4⟩ := h
 exact ⟨vd,h3.upd k (h3.ne hv (Ne.symm h1)),own_upd h4 hv k h2⟩
theorem Rec.grown {w w' : World} {B p e size n B2 : Nat} {ver : Int} {ds : List Key} {v : Value} {xs : List Value} (h : Rec w B p ver ds) (hown : w.ownsRow B2 e size v n xs) (hg : w.grownBy w' v.ownBlock) (h1 : e ≠ 139) (h2 : e ≠ 63) : Rec w' B p ver ds := by
 obtain ⟨vd,h3,h4⟩ := h
 exact ⟨vd,h3.grown hown hg (Ne.symm h1),own_grown h4 hown hg (Ne.symm h2)⟩
theorem Rec.var {w : World} {B p : Nat} {ver : Int} {ds : List Key} (h : Rec w B p ver ds) : ∃ cs,Var w p cs 139 := by
 obtain ⟨vd,h3,h4⟩ := h
 exact ⟨_,h3⟩
def addD (ds : List Key) (k : Key) : List Key := if k ∈ ds then ds else ds ++ [k]
theorem getc_ok {wB w : World} {q : DbQ} {b2 b6 p B : Nat} {ver ka kb : Int} {ds : List Key} (hxB : Ext wB w) (hD0 : DbW wB q) (hpB : wB.heap.size ≤ p) (h2 : Var w b2 [.pointer (some ⟨q.bD,0,none⟩)] 60) (h6 : Var w b6 [.pointer (some ⟨p,0,none⟩)] 137) (hBB : wB.heap.size ≤ B) (hBw : B ≤ w.heap.size) (hr : Rec w B p ver ds) (hds : ds.length ≤ 100) :
  Cl Tryz.prog 124 #[.agg #[.int .i64 0,.int .i64 ka,.int .i64 kb],.pointer (some ⟨b2,0,none⟩),.pointer (some ⟨b6,0,none⟩)] w (fun u w' => (∃ pn cn,u = .agg #[.slice pn (q.ins.val (0,ka,kb)).1.length cn,.string (q.ins.val (0,ka,kb)).2] ∧ w'.ownsRow wB.heap.size 3 1 (.slice pn (q.ins.val (0,ka,kb)).1.length cn) (q.ins.val (0,ka,kb)).1.length ((q.ins.val (0,ka,kb)).1.map (.int .i64))) ∧
   Rec w' B p ver (addD ds (0,ka,kb)) ∧ Ext wB w' ∧ Kq p B w w') := by
 have hx := Ext.refl w
 have kq := Kq.refl p B w
 have hleB := hxB.le
 obtain ⟨vd,hvp,hod⟩ := hr
 obtain ⟨i63,hi63,hz63,hsi63,hby63⟩ := inf63
 have hc2 := h2.cells
 have hc6 := h6.cells
 have hcp := hvp.cells
 have hpw := hvp.lt
 have hcD := (hD0.var.ext hxB).cells
 unfold DbQ.cells at hcD
 obtain ⟨pd,cd,rfl⟩ := own_shape hod
 refine Cl.enter Tryz.func124 rfl Tryz.ntmps124 rfl rfl ?_
 refine Wp.seq (Wp.region ?_)
 have k0 := hx.le
 have nbk := fun k hk => (hod.lt k hk).2
 refine Rg.wd trivial (w_boxed rfl rfl) rfl ?_
 rintro _ w1 ⟨b3,rfl,qb3,hx1,hv3⟩
 replace hx := hx.ext hx1
 replace hxB := hxB.ext hx1
 replace kq := kq.ext hx1
 replace h2 := h2.ext hx1
 replace h6 := h6.ext hx1
 replace hc2 := hc2.ext hx1
 replace hc6 := hc6.ext hx1
 replace hvp := hvp.ext hx1
 replace hcp := hcp.ext hx1
 replace hcD := hcD.ext hx1
 have hc3 := hv3.cells
 replace hod := own_ext hod hx1
 have nb3 : b3 ∉ (Value.slice pd ds.length cd).ownBlock.toList := fun hm => by
  cases hb : (Value.slice pd ds.length cd).ownBlock with
  | none => rw [hb] at hm; simp at hm
  | some k => rw [hb] at hm; obtain rfl : b3 = k := (by simpa using hm); have := nbk _ hb; omega
 have k3x := hx.le
 refine Rg.wd trivial (w_new Tryz.zeroValue66 rfl) rfl ?_
 rintro _ w2 ⟨b4,rfl,qb4,hx2,hv4⟩
 replace hx := hx.ext hx2
 replace hxB := hxB.ext hx2
 replace kq := kq.ext hx2
 replace h2 := h2.ext hx2
 replace h6 := h6.ext hx2
 replace hc2 := hc2.ext hx2
 replace hc6 := hc6.ext hx2
 replace hvp := hvp.ext hx2
 replace hcp := hcp.ext hx2
 replace hcD := hcD.ext hx2
 replace hv3 := hv3.ext hx2
 replace hc3 := hc3.ext hx2
 replace hod := own_ext hod hx2
 have k4 := hx.le
 refine Rg.done ?_
 refine Wp.seq (Wp.region ?_)
 have k4x := hx.le
 have lt4 := hv4.lt
 refine Rg.wd trivial (w_new Tryz.zeroValue66 rfl) rfl ?_
 rintro _ w3 ⟨b5,rfl,qb5,hx3,hv5⟩
 replace hx := hx.ext hx3
 replace hxB := hxB.ext hx3
 replace kq := kq.ext hx3
 replace h2 := h2.ext hx3
 replace h6 := h6.ext hx3
 replace hc2 := hc2.ext hx3
 replace hc6 := hc6.ext hx3
 replace hvp := hvp.ext hx3
 replace hcp := hcp.ext hx3
 replace hcD := hcD.ext hx3
 replace hv3 := hv3.ext hx3
 replace hc3 := hc3.ext hx3
 replace hv4 := hv4.ext hx3
 replace hod := own_ext hod hx3
 have k5 := hx.le
 have kB := hxB.le
 refine Rg.done ?_
 refine Wp.seq (Wp.region ?_)
 refine Rg.tm trivial rfl (t_assign rfl) rfl ?_
 refine Rg.done ?_
 refine Wp.seq ?_
 refine Wp.seq (Wp.region ?_)
 refine Rg.tm trivial rfl (t_fieldAddr fa63_0 rfl) rfl ?_
 refine Rg.tm trivial rfl (t_load ty3 rfl (by apply Cells.get (i := 0); (case h => assumption); rfl)) rfl ?_
 first | refine Rg.tm trivial rfl (t_eqlT rfl rfl (by omega)) rfl ?_ | refine Rg.tm trivial rfl (t_eqlF rfl rfl (by omega)) rfl ?_ | refine Rg.tm trivial rfl (t_eql rfl rfl) rfl ?_
 refine Rg.done ?_
 refine Wp.condT rfl ?_
 refine Wp.drawZ [b5] [0,1,2,3,4,5,6,7,8,9,10,11] mixed (by kernel_rfl) (by kernel_rfl) ?_
 intro w4 hx4 _
 replace hx := hx.ext hx4
 replace hxB := hxB.ext hx4
 replace kq := kq.ext hx4
 replace h2 := h2.ext hx4
 replace h6 := h6.ext hx4
 replace hc2 := hc2.ext hx4
 replace hc6 := hc6.ext hx4
 replace hvp := hvp.ext hx4
 replace hcp := hcp.ext hx4
 replace hcD := hcD.ext hx4
 replace hv3 := hv3.ext hx4
 replace hc3 := hc3.ext hx4
 replace hv4 := hv4.ext hx4
 replace hv5 := hv5.ext hx4
 replace hod := own_ext hod hx4
 try replace ho17 := own_ext ho17 hx4
 refine Rz.tm trivial rfl (tz fun wz hkz => by have q2 := (h2.kp hkz (by simp [h2.ne hv5 (by decide)])).cells; have qD := ((hD0.var.ext hxB).kp hkz (by simp [(hD0.var.ext hxB).ne hv5 (by decide)])).cells; unfold DbQ.cells at qD; exact t_load ty60 rfl (by first | assumption | (apply Cells.get (i := 0); (case h => assumption); rfl))) rfl ?_
 refine Rz.tm trivial rfl (tz fun wz hkz => by exact t_nilCheck rfl) rfl ?_
 refine Rz.tm trivial rfl (tz fun wz hkz => by exact t_fieldAddr fa87_1 rfl) rfl ?_
 refine Rz.tm trivial rfl (tz fun wz hkz => by have q2 := (h2.kp hkz (by simp [h2.ne hv5 (by decide)])).cells; have qD := ((hD0.var.ext hxB).kp hkz (by simp [(hD0.var.ext hxB).ne hv5 (by decide)])).cells; unfold DbQ.cells at qD; exact t_load ty82 rfl (by apply Cells.get (i := 1); (case h => assumption); rfl)) rfl ?_
 refine Rz.tm trivial rfl (tz fun wz hkz => t_loadA rfl (hv3.kp hkz (by simp [hv3.ne hv5 (by decide)])).cells ty63) rfl ?_
 refine Rz.wd trivial rfl (w_call Tryz.call88 rfl (get_ok (hD0.ext hxB).ins)) rfl (fun _ _ h => h.2.kp _) ?_
 have kB17 := hxB.le
 rintro _ w5 ⟨⟨p17,c17,rfl,ho17,hl17⟩,hx5⟩
 replace hx := hx.ext hx5
 replace hxB := hxB.ext hx5
 replace kq := kq.ext hx5
 replace h2 := h2.ext hx5
 replace h6 := h6.ext hx5
 replace hc2 := hc2.ext hx5
 replace hc6 := hc6.ext hx5
 replace hvp := hvp.ext hx5
 replace hcp := hcp.ext hx5
 replace hcD := hcD.ext hx5
 replace hv3 := hv3.ext hx5
 replace hc3 := hc3.ext hx5
 replace hv4 := hv4.ext hx5
 replace hv5 := hv5.ext hx5
 replace hod := own_ext hod hx5
 replace ho17 := own_mono ho17 kB17
 refine Rz.tm trivial rfl (tz fun wz hkz => by exact t_move rfl) rfl ?_
 refine Rz.tm trivial rfl (tz fun wz hkz => by exact t_extract rfl rfl) rfl ?_
 refine Rz.tm trivial rfl (tz fun wz hkz => by exact t_extract rfl rfl) rfl ?_
 refine Rz.tm trivial rfl (tz fun wz hkz => by exact t_extract rfl rfl) rfl ?_
 skip
 refine Rz.wn trivial rfl (w_put hv5 rfl rfl rfl ty66 rfl rfl) (fun _ _ h => h.1.kp (by simp)) ?_
 have ne45 : b4 ≠ b5 := by omega
 rintro _ w6 ⟨hu6,hv5_⟩
 replace hx := hx.upd hu6 (by omega)
 replace hxB := hxB.upd hu6 (by omega)
 replace kq := kq.updF hu6 (by omega)
 replace h2 := h2.upd hu6 (h2.ne hv5 (by decide))
 replace h6 := h6.upd hu6 (h6.ne hv5 (by decide))
 replace hvp := hvp.upd hu6 (hvp.ne hv5 (by decide))
 replace hv3 := hv3.upd hu6 (hv3.ne hv5 (by decide))
 replace hod := own_upd hod hv5 hu6 (by decide)
 replace ho17 := own_upd ho17 hv5 hu6 (by decide)
 replace hv4 := hv4.upd hu6 ne45
 clear hv5 hc2 hc3 hc6 hcp hcD
 have hv5 := hv5_
 clear hv5_
 have hc2 := h2.cells
 have hc3 := hv3.cells
 have hc5 := hv5.cells
 have hc6 := h6.cells
 have hcp := hvp.cells
 have hcD := (hD0.var.ext hxB).cells
 unfold DbQ.cells at hcD
 refine Rz.tm trivial rfl (tz fun wz hkz => by exact t_assign rfl) rfl ?_
 refine Rz.done ?_
 refine Wp.seq ?_
 refine Wp.seq (Wp.draw [0,1,2,3,4,5,6] [] mixed (by kernel_rfl) (by kernel_rfl) ?_)
 intro w7 hx7 _
 replace hx := hx.ext hx7
 replace hxB := hxB.ext hx7
 replace kq := kq.ext hx7
 replace h2 := h2.ext hx7
 replace h6 := h6.ext hx7
 replace hvp := hvp.ext hx7
 replace hv3 := hv3.ext hx7
 replace hv4 := hv4.ext hx7
 replace hv5 := hv5.ext hx7
 replace hc5 := hc5.ext hx7
 replace hc2 := hc2.ext hx7
 replace hc3 := hc3.ext hx7
 replace hc6 := hc6.ext hx7
 replace hcp := hcp.ext hx7
 replace hcD := hcD.ext hx7
 replace hod := own_ext hod hx7
 try replace ho17 := own_ext ho17 hx7
 refine Rg.tm trivial rfl (t_load ty137 rfl (by first | assumption | (apply Cells.get (i := 0); (case h => assumption); rfl))) rfl ?_
 refine Rg.tm trivial rfl (t_nilCheck rfl) rfl ?_
 refine Rg.tm trivial rfl (t_fieldAddr fa139_4 rfl) rfl ?_
 refine Rg.tm trivial rfl (t_load ty106 rfl (by apply Cells.get (i := 5); (case h => assumption); rfl)) rfl ?_
 refine Rg.tm trivial rfl (t_loadA rfl hc3 ty63) rfl ?_
 refine Rg.wdB trivial rfl (w_call Tryz.call125 rfl (containsK_ok (own_slice hod) (by omega))) rfl (fun _ _ h => h.2) ?_
 rintro _ w8 ⟨rfl,hx8⟩
 replace hx := hx.ext hx8
 replace hxB := hxB.ext hx8
 replace kq := kq.ext hx8
 replace h2 := h2.ext hx8
 replace h6 := h6.ext hx8
 replace hvp := hvp.ext hx8
 replace hv3 := hv3.ext hx8
 replace hv4 := hv4.ext hx8
 replace hv5 := hv5.ext hx8
 replace hc5 := hc5.ext hx8
 replace hc2 := hc2.ext hx8
 replace hc3 := hc3.ext hx8
 replace hc6 := hc6.ext hx8
 replace hcp := hcp.ext hx8
 replace hcD := hcD.ext hx8
 replace hod := own_ext hod hx8
 replace ho17 := own_ext ho17 hx8
 refine Rg.tm trivial rfl (t_notB rfl) rfl ?_
 refine Rg.done ?_
 by_cases hin : ((0,ka,kb) : Key) ∈ ds
 ·rw [decide_eq_true hin]
  have had : addD ds (0,ka,kb) = ds := if_pos hin
  rw [had]
  have hne : ds ≠ [] := fun e => by rw [e] at hin; cases hin
  rw [if_neg hne] at hvp hcp
  refine Wp.condF rfl ?_
  refine Wp.skip ?_
  refine Wp.seq (Wp.draw [0,1,2,3,4,5,6,7,8,9] [0] mixed (by kernel_rfl) (by kernel_rfl) ?_)
  intro w9 hx9 _
  replace hx := hx.ext hx9
  replace hxB := hxB.ext hx9
  replace kq := kq.ext hx9
  replace h2 := h2.ext hx9
  replace h6 := h6.ext hx9
  replace hvp := hvp.ext hx9
  replace hv3 := hv3.ext hx9
  replace hv4 := hv4.ext hx9
  replace hv5 := hv5.ext hx9
  replace hc5 := hc5.ext hx9
  replace hc2 := hc2.ext hx9
  replace hc3 := hc3.ext hx9
  replace hc6 := hc6.ext hx9
  replace hcp := hcp.ext hx9
  replace hcD := hcD.ext hx9
  replace hod := own_ext hod hx9
  try replace ho17 := own_ext ho17 hx9
  refine Rg.tm trivial rfl (t_load ty137 rfl (by first | assumption | (apply Cells.get (i := 0); (case h => assumption); rfl))) rfl ?_
  refine Rg.tm trivial rfl (t_load ty137 rfl (by first | assumption | (apply Cells.get (i := 0); (case h => assumption); rfl))) rfl ?_
  refine Rg.tm trivial rfl (t_nilCheck rfl) rfl ?_
  refine Rg.tm trivial rfl (t_fieldAddr fa139_3 rfl) rfl ?_
  refine Rg.tm trivial rfl (t_load ty3 rfl (by apply Cells.get (i := 4); (case h => assumption); rfl)) rfl ?_
  refine Rg.tm trivial rfl (t_move rfl) rfl ?_
  refine Rg.tm trivial rfl (t_minI rfl rfl) rfl ?_
  refine Rg.tm trivial rfl (t_nilCheck rfl) rfl ?_
  refine Rg.tm trivial rfl (t_fieldAddr fa139_3 rfl) rfl ?_
  refine Rg.wnB trivial rfl (w_putF hvp ty3 rfl rfl rfl rfl rfl) (by rfl) ?_
  rintro _ w10 ⟨hu10,hvp_⟩
  replace hxB := hxB.upd hu10 (by omega)
  replace kq := kq.updF hu10 (.inl rfl)
  replace hod := own_upd hod hvp hu10 (by decide)
  replace ho17 := own_upd ho17 hvp hu10 (by decide)
  replace hv5 := hv5.upd hu10 (hv5.ne hvp (by decide))
  replace hv4 := hv4.upd hu10 (hv4.ne hvp (by decide))
  clear hvp hc5 hcp hx hc2 hc3 hc6 hcD
  have hvp := hvp_
  clear hvp_
  simp only [List.set] at hvp
  have hc5 := hv5.cells
  refine Rg.done ?_
  refine Wp.seq (Wp.region ?_)
  refine Rg.tm trivial rfl (t_loadA rfl hc5 ty66) rfl ?_
  refine Rg.wn trivial (w_put hv4 rfl rfl rfl ty66 rfl rfl) ?_
  rintro _ w11 ⟨hu11,hv4_⟩
  replace hxB := hxB.upd hu11 (by omega)
  replace kq := kq.updF hu11 (.inr (by omega))
  replace hod := own_upd hod hv4 hu11 (by decide)
  replace ho17 := own_upd ho17 hv4 hu11 (by decide)
  replace hvp := hvp.upd hu11 (hvp.ne hv4 (by decide))
  refine Rg.done ?_
  refine Wp.ret ?_
  exact ⟨[_],⟨RV.cellA (vs := [_,_]) ty66 rfl hv4_.cells,trivial⟩,⟨p17,c17,rfl,ho17⟩,⟨_,by rw [if_neg hne]; exact hvp,hod⟩,hxB,kq⟩
 ·rw [decide_eq_false hin]
  have had : addD ds (0,ka,kb) = ds ++ [(0,ka,kb)] := if_neg hin
  rw [had]
  refine Wp.condT rfl ?_
  refine Wp.drawY (Value.slice pd ds.length cd).ownBlock.toList [0,1,2,3,4,5,6,7,8,9,10] [0] mixed (by kernel_rfl) (by kernel_rfl) ?_
  intro w9 hx9 _
  replace hx := hx.ext hx9
  replace hxB := hxB.ext hx9
  replace kq := kq.ext hx9
  replace h2 := h2.ext hx9
  replace h6 := h6.ext hx9
  replace hvp := hvp.ext hx9
  replace hv3 := hv3.ext hx9
  replace hv4 := hv4.ext hx9
  replace hv5 := hv5.ext hx9
  replace hc5 := hc5.ext hx9
  replace hc2 := hc2.ext hx9
  replace hc3 := hc3.ext hx9
  replace hc6 := hc6.ext hx9
  replace hcp := hcp.ext hx9
  replace hcD := hcD.ext hx9
  replace hod := own_ext hod hx9
  try replace ho17 := own_ext ho17 hx9
  refine Ry.tm trivial rfl (tz fun wz hkz => by have q2 := (h6.kp hkz (own_notin hod h6 (by decide))).cells; have q3 := (hv3.kp hkz nb3).cells; have q4 := (hvp.kp hkz (own_notin hod hvp (by decide))).cells; exact t_load ty137 rfl (by first | assumption | (apply Cells.get (i := 0); (case h => assumption); rfl))) rfl ?_
  refine Ry.tm trivial rfl (tz fun wz hkz => by have q2 := (h6.kp hkz (own_notin hod h6 (by decide))).cells; have q3 := (hv3.kp hkz nb3).cells; have q4 := (hvp.kp hkz (own_notin hod hvp (by decide))).cells; exact t_load ty137 rfl (by first | assumption | (apply Cells.get (i := 0); (case h => assumption); rfl))) rfl ?_
  refine Ry.tm trivial rfl (tz fun wz hkz => by exact t_nilCheck rfl) rfl ?_
  refine Ry.tm trivial rfl (tz fun wz hkz => by exact t_fieldAddr fa139_4 rfl) rfl ?_
  refine Ry.tm trivial rfl (tz fun wz hkz => by have q2 := (h6.kp hkz (own_notin hod h6 (by decide))).cells; have q3 := (hv3.kp hkz nb3).cells; have q4 := (hvp.kp hkz (own_notin hod hvp (by decide))).cells; exact t_load ty106 rfl (by apply Cells.get (i := 5); (case h => assumption); rfl)) rfl ?_
  refine Ry.tm trivial rfl (tz fun wz hkz => t_loadA rfl (hv3.kp hkz nb3).cells ty63) rfl ?_
  refine Ry.wd trivial rfl (w_buildSlice (bs106_1 _ _ _) rfl) rfl (fun _ => fun _ _ h => by obtain ⟨_,_,_,h,_⟩ := h; exact h.kp _) ?_
  have hxk := hx.le
  rintro _ w10 ⟨b46,rfl,q46,hx10,hv46⟩
  replace hx := hx.ext hx10
  replace hxB := hxB.ext hx10
  replace kq := kq.ext hx10
  replace h2 := h2.ext hx10
  replace h6 := h6.ext hx10
  replace hvp := hvp.ext hx10
  replace hv3 := hv3.ext hx10
  replace hv4 := hv4.ext hx10
  replace hv5 := hv5.ext hx10
  replace hc5 := hc5.ext hx10
  replace hc2 := hc2.ext hx10
  replace hc3 := hc3.ext hx10
  replace hc6 := hc6.ext hx10
  replace hcp := hcp.ext hx10
  replace hcD := hcD.ext hx10
  replace hod := own_ext hod hx10
  replace ho17 := own_ext ho17 hx10
  have hs46 : SlC w10 (.slice (some ⟨b46,0,none⟩) 1 1) 3 1 (kc (0,ka,kb)) := slc_var hv46 rfl
  refine Ry.wd trivial rfl (w_appendC B Tryz.underlying106 hi63 hz63 hsi63 hby63 rfl (by decide) rfl rfl hod hs46 (kc_one _) (by unfold maxLen; omega) (by omega) (Nat.le_trans hBw hx.le)) rfl (fun _ => fun _ _ h => grown_kp h.2.1) ?_
  rintro v47 w47 ⟨ho2,hgr,p47,l47,c47,rfl⟩
  obtain ⟨_,_,e47⟩ := own_shape ho2
  injection e47 with _ e47 _
  subst e47
  replace kq := kq.grown hod hgr
  have hxB' := own_ext3 hxB (own_mono hod hBB) hgr
  replace ho17 := own_grown ho17 hod hgr (by decide)
  replace hvp := hvp.grown hod hgr (by decide)
  replace hv4 := hv4.grown hod hgr (by decide)
  replace hv5 := hv5.grown hod hgr (by decide)
  replace h2 := h2.grown hod hgr (by decide)
  replace h6 := h6.grown hod hgr (by decide)
  clear hxB hod hc2 hc6 hcp hc5 hcD hx hc3 hv3 hs46 hv46
  have hxB := hxB'
  clear hxB'
  have hod := ho2
  clear ho2
  have hc6 := h6.cells
  refine Ry.tm trivial rfl (tz fun wz hkz => by exact t_nilCheck rfl) rfl ?_
  refine Ry.tm trivial rfl (tz fun wz hkz => by exact t_fieldAddr fa139_4 rfl) rfl ?_
  refine Ry.wnB trivial rfl (w_putF hvp ty106 rfl rfl rfl rfl rfl) (by rfl) ?_
  rintro _ w11 ⟨hu11,hvp_⟩
  replace hxB := hxB.upd hu11 (by omega)
  replace kq := kq.updF hu11 (.inl rfl)
  replace hod := own_upd hod hvp hu11 (by decide)
  replace ho17 := own_upd ho17 hvp hu11 (by decide)
  replace hv5 := hv5.upd hu11 (hv5.ne hvp (by decide))
  replace hv4 := hv4.upd hu11 (hv4.ne hvp (by decide))
  replace h6 := h6.upd hu11 (h6.ne hvp (by decide))
  replace h2 := h2.upd hu11 (h2.ne hvp (by decide))
  clear hvp hc6
  have hvp := hvp_
  clear hvp_
  simp only [List.set] at hvp
  have hc6 := h6.cells
  have hcp := hvp.cells
  refine Ry.done ?_
  refine Wp.seq (Wp.draw [0,1,2,3,4,5,6,7,8,9] [0] mixed (by kernel_rfl) (by kernel_rfl) ?_)
  intro w12 hx12 _
  replace hxB := hxB.ext hx12
  replace kq := kq.ext hx12
  replace h2 := h2.ext hx12
  replace h6 := h6.ext hx12
  replace hc6 := hc6.ext hx12
  replace hvp := hvp.ext hx12
  replace hcp := hcp.ext hx12
  replace hv4 := hv4.ext hx12
  replace hv5 := hv5.ext hx12
  replace hod := own_ext hod hx12
  try replace ho17 := own_ext ho17 hx12
  refine Rg.tm trivial rfl (t_load ty137 rfl (by first | assumption | (apply Cells.get (i := 0); (case h => assumption); rfl))) rfl ?_
  refine Rg.tm trivial rfl (t_load ty137 rfl (by first | assumption | (apply Cells.get (i := 0); (case h => assumption); rfl))) rfl ?_
  refine Rg.tm trivial rfl (t_nilCheck rfl) rfl ?_
  refine Rg.tm trivial rfl (t_fieldAddr fa139_3 rfl) rfl ?_
  refine Rg.tm trivial rfl (t_load ty3 rfl (by apply Cells.get (i := 4); (case h => assumption); rfl)) rfl ?_
  refine Rg.tm trivial rfl (t_move rfl) rfl ?_
  refine Rg.tm trivial rfl (t_minI rfl rfl) rfl ?_
  refine Rg.tm trivial rfl (t_nilCheck rfl) rfl ?_
  refine Rg.tm trivial rfl (t_fieldAddr fa139_3 rfl) rfl ?_
  refine Rg.wnB trivial rfl (w_putF hvp ty3 rfl rfl rfl rfl rfl) (by rfl) ?_
  rintro _ w13 ⟨hu13,hvp_⟩
  replace hxB := hxB.upd hu13 (by omega)
  replace kq := kq.updF hu13 (.inl rfl)
  replace hod := own_upd hod hvp hu13 (by decide)
  replace ho17 := own_upd ho17 hvp hu13 (by decide)
  replace hv5 := hv5.upd hu13 (hv5.ne hvp (by decide))
  replace hv4 := hv4.upd hu13 (hv4.ne hvp (by decide))
  clear hvp hcp hc6
  have hvp := hvp_
  clear hvp_
  simp only [List.set] at hvp
  have hc5 := hv5.cells
  refine Rg.done ?_
  refine Wp.seq (Wp.region ?_)
  refine Rg.tm trivial rfl (t_loadA rfl hc5 ty66) rfl ?_
  refine Rg.wn trivial (w_put hv4 rfl rfl rfl ty66 rfl rfl) ?_
  rintro _ w14 ⟨hu14,hv4_⟩
  replace hxB := hxB.upd hu14 (by omega)
  replace kq := kq.updF hu14 (.inr (by omega))
  replace hod := own_upd hod hv4 hu14 (by decide)
  replace ho17 := own_upd ho17 hv4 hu14 (by decide)
  replace hvp := hvp.upd hu14 (hvp.ne hv4 (by decide))
  refine Rg.done ?_
  refine Wp.ret ?_
  have hmin : min (if ds = [] then (2 : Int) else 0) 0 = 0 := by split <;> rfl
  rw [hmin] at hvp
  refine ⟨[_],⟨RV.cellA (vs := [_,_]) ty66 rfl hv4_.cells,trivial⟩,⟨p17,c17,rfl,ho17⟩,⟨_,by rw [if_neg (by simp)]; exact hvp,?_⟩,hxB,kq⟩
  rw [encs_append,encs_single,List.length_append]
  exact hod
end Go.Proofs.YtliofpegbcegiaaGreatDoor
namespace Go.Proofs.YtliofpegbcegiaaGreatDoor
set_option maxRecDepth 20000
open Go.Gx Go.RowKit Go.Lib
structure Gc (wB w : World) (q : DbQ) (b2 b6 p B : Nat) (ver : Int) (ds : List Key) : Prop where
 hxB : Ext wB w
 D : DbW wB q
 hp : wB.heap.size ≤ p
 h2 : Var w b2 [.pointer (some ⟨q.bD,0,none⟩)] 60
 h6 : Var w b6 [.pointer (some ⟨p,0,none⟩)] 137
 hB : wB.heap.size ≤ B
 hBw : B ≤ w.heap.size
 rc : Rec w B p ver ds
theorem Gc.ext {wB w w' : World} {q : DbQ} {b2 b6 p B : Nat} {ver : Int} {ds : List Key} (h : Gc wB w q b2 b6 p B ver ds) (k : Ext w w') : Gc wB w' q b2 b6 p B ver ds :=
 ⟨h.hxB.trans (k.mono h.hxB.le),h.D,h.hp,h.h2.ext k,h.h6.ext k,h.hB,Nat.le_trans h.hBw k.le,h.rc.ext k⟩
theorem Gc.upd {wB w w' : World} {q : DbQ} {b2 b6 p B b t : Nat} {cs : List Value} {ver : Int} {ds : List Key} (h : Gc wB w q b2 b6 p B ver ds) (hv : Var w b cs t) (k : Upd b w w') (hb : wB.heap.size ≤ b) (h1 : t ≠ 139) (h2 : t ≠ 63) (h3 : t ≠ 60) (h4 : t ≠ 137) : Gc wB w' q b2 b6 p B ver ds :=
 ⟨h.hxB.upd k hb,h.D,h.hp,h.h2.upd k (h.h2.ne hv (Ne.symm h3)),h.h6.upd k (h.h6.ne hv (Ne.symm h4)),h.hB,(by rw [k.size]; exact h.hBw),h.rc.upd hv k h1 h2⟩
theorem Gc.grown {wB w w' : World} {q : DbQ} {b2 b6 p B B2 e size n : Nat} {v : Value} {xs : List Value} {ver : Int} {ds : List Key} (h : Gc wB w q b2 b6 p B ver ds) (hown : w.ownsRow B2 e size v n xs) (hg : w.grownBy w' v.ownBlock) (hb : wB.heap.size ≤ B2) (h1 : e ≠ 139) (h2 : e ≠ 63) (h3 : e ≠ 60) (h4 : e ≠ 137) : Gc wB w' q b2 b6 p B ver ds :=
 ⟨own_ext3 h.hxB (own_mono hown hb) hg,h.D,h.hp,h.h2.grown hown hg (Ne.symm h3),h.h6.grown hown hg (Ne.symm h4),h.hB,Nat.le_trans h.hBw hg.size,h.rc.grown hown hg h1 h2⟩
def getF (b2 b6 : Nat) : Value := .func (.func 124) #[] #[.pointer (some ⟨b2,0,none⟩),.pointer (some ⟨b6,0,none⟩)]
theorem getg_ok {wB w : World} {q : DbQ} {b2 b6 p B : Nat} {ver ka kb : Int} {ds : List Key} (h : Gc wB w q b2 b6 p B ver ds) (hds : ds.length ≤ 100) :
  Cl Tryz.prog 124 (([.agg #[.int .i64 0,.int .i64 ka,.int .i64 kb]] : List Value) ++ ([.pointer (some ⟨b2,0,none⟩),.pointer (some ⟨b6,0,none⟩)] : List Value)).toArray w (fun u w' => (∃ pn cn,u = .agg #[.slice pn (q.ins.val (0,ka,kb)).1.length cn,.string (q.ins.val (0,ka,kb)).2] ∧ w'.ownsRow wB.heap.size 3 1 (.slice pn (q.ins.val (0,ka,kb)).1.length cn) (q.ins.val (0,ka,kb)).1.length ((q.ins.val (0,ka,kb)).1.map (.int .i64))) ∧
   Gc wB w' q b2 b6 p B ver (addD ds (0,ka,kb)) ∧ Kq p B w w') := by
 refine (getc_ok h.hxB h.D h.hp h.h2 h.h6 h.hB h.hBw h.rc hds).mono ?_
 rintro u w' ⟨h1,h2,h3,h4⟩
 obtain ⟨_,hv⟩ := h.rc.var
 exact ⟨h1,⟨h3,h.D,h.hp,h4.2 _ _ _ (h.h2.ne hv (by decide)) (.inl (by decide)) h.h2,h4.2 _ _ _ (h.h6.ne hv (by decide)) (.inl (by decide)) h.h6,h.hB,Nat.le_trans h.hBw h4.1,h2⟩,h4⟩
theorem addD_new {ds : List Key} {k : Key} (h : k ∉ ds) : addD ds k = ds ++ [k] := if_neg h
theorem mdeps_succ (n : Nat) : addD (addD (mdeps n) (0,1,(n : Int))) (0,2,(n : Int)) = mdeps (n + 1) := by
 have h1 : ((0,1,(n : Int)) : Key) ∉ mdeps n := by
  intro h
  simp only [mdeps,List.mem_cons,List.mem_flatMap,List.mem_range,Prod.mk.injEq] at h
  rcases h with h | ⟨i,hi,h | h | h⟩
  ·omega
  ·omega
  ·omega
  ·cases h
 have h2 : ((0,2,(n : Int)) : Key) ∉ mdeps n ++ [(0,1,(n : Int))] := by
  intro h
  rw [List.mem_append,List.mem_singleton] at h
  rcases h with h | h
  ·simp only [mdeps,List.mem_cons,List.mem_flatMap,List.mem_range,Prod.mk.injEq] at h
   rcases h with h | ⟨i,hi,h | h | h⟩
   ·omega
   ·omega
   ·omega
   ·cases h
  ·simp at h
 rw [addD_new h1,addD_new h2]
 unfold mdeps
 rw [List.range_succ,List.flatMap_append]
 simp
theorem mdeps_len (n : Nat) : (mdeps n).length = 1 + 2 * n := by
 unfold mdeps
 induction n with
 | zero => rfl
 | succ n ih => rw [List.range_succ,List.flatMap_append]; simp at ih ⊢; omega
def mrow (f : Key → QV) (k : Nat) : List MD := (List.range k).map fun (i : Nat) => ((f (0,1,(i : Int))).2,(f (0,2,(i : Int))).2)
theorem mrow_succ (f : Key → QV) (k : Nat) : mrow f (k + 1) = mrow f k ++ [((f (0,1,(k : Int))).2,(f (0,2,(k : Int))).2)] := by unfold mrow; rw [List.range_succ,List.map_append]; rfl
theorem mrow_len (f : Key → QV) (k : Nat) : (mrow f k).length = k := by simp [mrow]
theorem modulesOf_ok {wB w : World} {q : DbQ} {b2 b6 p B n : Nat} {ver : Int} (hg : Gc wB w q b2 b6 p B ver []) (hn : q.ins.val (0,0,0) = ([(n : Int)],noB)) (hn20 : n ≤ 20) :
  Cl Tryz.prog 42 #[getF b2 b6] w (fun u w' => (∃ pm cm,u = .slice pm n cm ∧ w'.ownsRow w.heap.size 52 2 (.slice pm n cm) n (encs mc (mrow q.ins.val n))) ∧ Gc wB w' q b2 b6 p B ver (mdeps n) ∧ Kq p B w w') := by
 have kq := Kq.refl p B w
 have hle := hg.hxB.le
 obtain ⟨i52,hi52,hz52,hsi52,hby52⟩ := inf52
 refine Cl.enter Tryz.func42 rfl Tryz.ntmps42 rfl rfl ?_
 refine Wp.seq (Wp.region ?_)
 refine Rg.tm trivial rfl (t_assign rfl) rfl ?_
 refine Rg.done ?_
 refine Wp.seq (Wp.region ?_)
 refine Rg.tm trivial rfl (t_assign rfl) rfl ?_
 refine Rg.done ?_
 refine Wp.seq (Wp.region ?_)
 refine Rg.tm trivial rfl (t_move rfl) rfl ?_
 refine Rg.tm trivial rfl (t_build (bd63_1 _) rfl) rfl ?_
 refine Rg.wd trivial (w_callK (vs := [.agg #[.int .i64 0,.int .i64 0,.int .i64 0]]) (cap := [.pointer (some ⟨b2,0,none⟩),.pointer (some ⟨b6,0,none⟩)]) rfl Tryz.call124 rfl (getg_ok hg (by simp))) rfl ?_
 obtain ⟨_,hvp8⟩ := hg.rc.var
 rintro _ w1 ⟨⟨p8,c8,rfl,ho8⟩,hg_,kq_⟩
 replace kq := kq.trans kq_
 clear hg kq_ hvp8
 have hg := hg_
 clear hg_
 have hv := congrArg Prod.fst hn
 simp only at hv
 rw [hv] at ho8
 rw [hv]
 rw [show ([(n : Int)]).length = 1 from rfl] at ho8 ⊢
 replace ho8 := own_mono0 ho8
 clear hv
 refine Rg.wd trivial (w_new Tryz.zeroValue66 rfl) rfl ?_
 have kz := kq.1
 rintro _ w2 ⟨b4,rfl,q4,hx2,hv4⟩
 replace hg := hg.ext hx2
 replace kq := kq.ext hx2
 replace ho8 := own_ext ho8 hx2
 refine Rg.wn trivial (w_put hv4 rfl rfl rfl ty66 rfl rfl) ?_
 rintro _ w3 ⟨hu3,hv4_⟩
 replace hg := hg.upd hv4 hu3 (by omega) (by decide) (by decide) (by decide) (by decide)
 replace kq := kq.updF hu3 (.inr (by omega))
 replace ho8 := own_upd ho8 hv4 hu3 (by decide)
 clear hv4
 have hv4 := hv4_
 clear hv4_
 have hc4 := hv4.cells
 have hs8 := own_slice ho8
 refine Rg.done ?_
 refine Wp.seq ?_
 refine Wp.seq (Wp.region ?_)
 refine Rg.tm trivial rfl (t_fieldAddr fa66_0 rfl) rfl ?_
 refine Rg.tm trivial rfl (t_load ty41 rfl (by apply Cells.get (i := 0); (case h => assumption); rfl)) rfl ?_
 refine Rg.tm trivial rfl (t_lenS Tryz.underlying41 rfl) rfl ?_
 first | refine Rg.tm trivial rfl (t_eqlT rfl rfl (by omega)) rfl ?_ | refine Rg.tm trivial rfl (t_eqlF rfl rfl (by omega)) rfl ?_ | refine Rg.tm trivial rfl (t_eql rfl rfl) rfl ?_
 refine Rg.done ?_
 refine Wp.condF rfl ?_
 refine Wp.skip ?_
 refine Wp.seq ?_
 refine Wp.seq (Wp.region ?_)
 refine Rg.tm trivial rfl (t_fieldAddr fa66_0 rfl) rfl ?_
 refine Rg.tm trivial rfl (t_load ty41 rfl (by apply Cells.get (i := 0); (case h => assumption); rfl)) rfl ?_
 refine Rg.ix hs8 trivial rfl rfl Tryz.underlying41 ty3 (by omega) rfl ?_
 intro bt15 ot15 ht15
 refine Rg.tm trivial rfl (t_load ty3 rfl (Cells.get (i := 0) ht15 rfl)) rfl ?_
 refine Rg.tm trivial rfl (t_move rfl) rfl ?_
 refine Rg.done ?_
 refine Wp.block ?_
 refine Wp.loop (ι := Nat × Option Addr × Nat) (fun k => [(0,getF b2 b6),(3,.slice k.2.1 k.1 k.2.2),(16,.int .i64 n),(17,.int .i64 k.1)])
  (fun k w' => k.1 ≤ n ∧ w'.ownsRow w.heap.size 52 2 (.slice k.2.1 k.1 k.2.2) k.1 (encs mc (mrow q.ins.val k.1)) ∧ Gc wB w' q b2 b6 p B ver (mdeps k.1) ∧ Kq p B w w')
  (fun k => n - k.1) (0,none,0) (by repeat (first | exact .nil | refine .cons rfl ?_)) ⟨Nat.zero_le _,own_nil _ _ _ _,hg,kq⟩ ?_
 clear hg kq hc4 hv4 hs8 ho8
 rintro ⟨k,pm,cm⟩ wl ⟨hk,ho,hg,kq⟩
 simp only at hk ho hg ⊢
 by_cases hlt : k < n
 ·have hml := mdeps_len k
  refine Wp.seq (Wp.region ?_)
  first | refine Rg.tm trivial rfl (t_lssT rfl rfl (by omega)) rfl ?_ | refine Rg.tm trivial rfl (t_lssF rfl rfl (by omega)) rfl ?_ | refine Rg.tm trivial rfl (t_lss rfl rfl) rfl ?_
  refine Rg.done ?_
  refine Wp.seq ?_
  refine Wp.condT rfl ?_
  refine Wp.skip ?_
  refine Wp.seq ?_
  refine Wp.block ?_
  refine Wp.seq (Wp.region ?_)
  refine Rg.tm trivial rfl (t_move rfl) rfl ?_
  refine Rg.tm trivial rfl (t_assign rfl) rfl ?_
  refine Rg.done ?_
  refine Wp.region ?_
  refine Rg.tm trivial rfl (t_move rfl) rfl ?_
  refine Rg.tm trivial rfl (t_move rfl) rfl ?_
  refine Rg.tm trivial rfl (t_move rfl) rfl ?_
  refine Rg.tm trivial rfl (t_build (bd63_1_2 _ _) rfl) rfl ?_
  refine Rg.wd trivial (w_callK (vs := [.agg #[.int .i64 0,.int .i64 1,.int .i64 k]]) (cap := [.pointer (some ⟨b2,0,none⟩),.pointer (some ⟨b6,0,none⟩)]) rfl Tryz.call124 rfl (getg_ok hg (by omega))) rfl ?_
  obtain ⟨_,hvp24⟩ := hg.rc.var
  rintro _ w4 ⟨⟨p24,c24,rfl,ho24⟩,hg_,kq_⟩
  replace ho := own_kq ho kq_ hvp24 (by decide) (by decide)
  replace kq := kq.trans kq_
  clear hg kq_ hvp24
  have hg := hg_
  clear hg_
  refine Rg.tm trivial rfl (t_field rfl (fun w => rfl)) rfl ?_
  refine Rg.tm trivial rfl (t_move rfl) rfl ?_
  refine Rg.tm trivial rfl (t_move rfl) rfl ?_
  refine Rg.tm trivial rfl (t_build (bd63_1_2 _ _) rfl) rfl ?_
  refine Rg.wd trivial (w_callK (vs := [.agg #[.int .i64 0,.int .i64 2,.int .i64 k]]) (cap := [.pointer (some ⟨b2,0,none⟩),.pointer (some ⟨b6,0,none⟩)]) rfl Tryz.call124 rfl (getg_ok hg (by have := hml; unfold addD; split <;> (try rw [List.length_append]) <;> simp <;> omega))) rfl ?_
  obtain ⟨_,hvp29⟩ := hg.rc.var
  rintro _ w5 ⟨⟨p29,c29,rfl,ho29⟩,hg_,kq_⟩
  replace ho := own_kq ho kq_ hvp29 (by decide) (by decide)
  replace kq := kq.trans kq_
  clear hg kq_ hvp29
  have hg := hg_
  clear hg_
  refine Rg.tm trivial rfl (t_field rfl (fun w => rfl)) rfl ?_
  refine Rg.tm trivial rfl (t_build (bd52_0_1 _ _) rfl) rfl ?_
  refine Rg.wd trivial (w_buildSlice (bs49_1 _ _) rfl) rfl ?_
  rintro _ wc ⟨b32,rfl,q32,hx32,hv32⟩
  replace hg := hg.ext hx32
  replace kq := kq.ext hx32
  replace ho := own_ext ho hx32
  have hs32 : SlC wc (.slice (some ⟨b32,0,none⟩) 1 1) 2 1 (mc ((q.ins.val (0,1,(k : Int))).2,(q.ins.val (0,2,(k : Int))).2)) := slc_var hv32 rfl
  have kz := kq.1
  refine Rg.wd trivial (w_appendC w.heap.size Tryz.underlying49 hi52 hz52 hsi52 hby52 rfl (by decide) rfl rfl ho hs32 (mc_one _) (by unfold maxLen; omega) (by omega) kz) rfl ?_
  rintro v33 wd ⟨ho2,hgr,p33,l33,c33,rfl⟩
  obtain ⟨_,_,e33⟩ := own_shape ho2
  injection e33 with _ e33 _
  subst e33
  replace hg := hg.grown ho hgr hle (by decide) (by decide) (by decide) (by decide)
  replace kq := kq.grownF ho hgr (Nat.le_refl _)
  clear ho
  refine Rg.tm trivial rfl (t_assign rfl) rfl ?_
  refine Rg.done ?_
  refine Wp.region ?_
  first | refine Rg.tm trivial rfl (t_addI rfl rfl (by omega)) rfl ?_ | refine Rg.tm trivial rfl (t_add rfl rfl) rfl ?_
  refine Rg.tm trivial rfl (t_move rfl) rfl ?_
  refine Rg.done ?_
  rw [mdeps_succ] at hg
  refine ⟨(k + 1,p33,c33),by repeat (first | exact .nil | refine .cons rfl ?_),⟨hlt,?_,hg,kq⟩,by simp only; omega⟩
  rw [mrow_succ,encs_append,encs_single]
  exact ho2
 ·obtain rfl : k = n := by omega
  refine Wp.seq (Wp.region ?_)
  first | refine Rg.tm trivial rfl (t_lssT rfl rfl (by omega)) rfl ?_ | refine Rg.tm trivial rfl (t_lssF rfl rfl (by omega)) rfl ?_ | refine Rg.tm trivial rfl (t_lss rfl rfl) rfl ?_
  refine Rg.done ?_
  refine Wp.seq ?_
  refine Wp.condF rfl ?_
  refine Wp.exit ?_
  refine Wp.seq (Wp.region ?_)
  refine Rg.tm trivial rfl (t_move rfl) rfl ?_
  refine Rg.tm trivial rfl (t_assign rfl) rfl ?_
  refine Rg.done ?_
  refine Wp.ret ?_
  exact ⟨[_],⟨rfl,trivial⟩,⟨pm,cm,rfl,ho⟩,hg,kq⟩
theorem flat2 (l : List MD) (arg : Int) : (l.flatMap (fun m => [(m.2.size : Int),arg])).length = l.length * 2 := by
 induction l with
 | nil => rfl
 | cons a l ih => rw [List.flatMap_cons,List.length_append,ih]; simp; omega
theorem sketch_len (l : List MD) (query arg : Int) (name : ByteArray) : (sketch l query arg name).2.1.length ≤ 2 + 2 * l.length := by
 unfold sketch
 split
 ·simp
 ·split
  ·simp
  ·rw [flat2]; omega
theorem compute_ok {wB w : World} {q : DbQ} {b2 b6 p n : Nat} {ver query arg idx : Int} (hxB : Ext wB w) (hD : DbW wB q) (hp : wB.heap.size ≤ p) (h2 : Var w b2 [.pointer (some ⟨q.bD,0,none⟩)] 60) (h6 : Var w b6 [.pointer (some ⟨p,0,none⟩)] 137)
  (hr0 : Var w p [.slice none 0 0,.string ⟨#[]⟩,.int .i64 ver,.int .i64 ver,.int .i64 2,.slice none 0 0,.int .i64 0] 139) (hn : q.ins.val (0,0,0) = ([(n : Int)],noB)) (hn20 : n ≤ 20) (hidx : 0 ≤ idx ∧ idx < n) :
  Cl Tryz.prog 27 #[.func (.func 13) #[] #[],.agg #[.int .i64 query,.int .i64 arg,.int .i64 idx],getF b2 b6] w (fun u w' => (∃ pn cn,u = .agg #[.slice pn (comp q.ins.val (query,arg,idx)).1.1.length cn,.string (comp q.ins.val (query,arg,idx)).1.2] ∧ w'.ownsRow w.heap.size 3 1 (.slice pn (comp q.ins.val (query,arg,idx)).1.1.length cn) (comp q.ins.val (query,arg,idx)).1.1.length ((comp q.ins.val (query,arg,idx)).1.1.map (.int .i64))) ∧
   (∃ B,w.heap.size ≤ B ∧ Gc wB w' q b2 b6 p B ver (comp q.ins.val (query,arg,idx)).2) ∧ Kq p w.heap.size w w') := by
 have hx := Ext.refl w
 have hle := hxB.le
 have hfm : fcount q.ins.val = n := by unfold fcount; rw [hn]; simp
 have hfr : fmods q.ins.val = mrow q.ins.val n := by unfold fmods; rw [hfm]; rfl
 obtain ⟨i3,hi3,hz3,hsi3,hby3⟩ := inf3
 refine Cl.enter Tryz.func27 rfl Tryz.ntmps27 rfl rfl ?_
 refine Wp.seq (Wp.region ?_)
 refine Rg.wd trivial (w_boxed rfl rfl) rfl ?_
 rintro _ w1 ⟨b4,rfl,q4,hx1,hv4⟩
 replace hxB := Ext.tr hxB hx1
 have lt4 := hv4.lt
 have hg : Gc wB w1 q b2 b6 p (b4 + 1) ver [] := ⟨hxB,hD,hp,h2.ext hx1,h6.ext hx1,by omega,lt4,⟨_,by rw [if_pos rfl]; exact hr0.ext hx1,own_nil _ _ _ _⟩⟩
 have kq := (Kq.refl p (b4 + 1) w).ext hx1
 have hc4 := hv4.cells
 clear hx hxB h2 h6 hr0
 refine Rg.wd trivial (w_new Tryz.zeroValue66 rfl) rfl ?_
 have kzb6x := kq.1
 rintro _ w2 ⟨b6x,rfl,qb6x,hx2,hv6⟩
 replace hg := hg.ext hx2
 replace kq := kq.ext hx2
 replace hv4 := hv4.ext hx2
 replace hc4 := hc4.ext hx2
 refine Rg.done ?_
 refine Wp.seq (Wp.region ?_)
 refine Rg.tm trivial rfl (t_fieldAddr fa63_0 rfl) rfl ?_
 refine Rg.tm trivial rfl (t_load ty3 rfl (by apply Cells.get (i := 0); (case h => assumption); rfl)) rfl ?_
 refine Rg.tm trivial rfl (t_fieldAddr fa63_1 rfl) rfl ?_
 refine Rg.tm trivial rfl (t_load ty3 rfl (by apply Cells.get (i := 1); (case h => assumption); rfl)) rfl ?_
 refine Rg.tm trivial rfl (t_build (bd27_2_3 _ _) rfl) rfl ?_
 refine Rg.wd trivial (w_new Tryz.zeroValue27 rfl) rfl ?_
 have kzb7 := kq.1
 rintro _ w3 ⟨b7,rfl,qb7,hx3,hv7⟩
 replace hg := hg.ext hx3
 replace kq := kq.ext hx3
 replace hv4 := hv4.ext hx3
 replace hc4 := hc4.ext hx3
 replace hv6 := hv6.ext hx3
 refine Rg.wn trivial (w_put hv7 rfl rfl rfl ty27 rfl rfl) ?_
 rintro _ w4 ⟨hu4,hv7_⟩
 replace hg := hg.upd hv7 hu4 (by omega) (by decide) (by decide) (by decide) (by decide)
 replace kq := kq.updF hu4 (.inr (by omega))
 replace hv4 := hv4.upd hu4 (hv4.ne hv7 (by decide))
 replace hv6 := hv6.upd hu4 (hv6.ne hv7 (by decide))
 clear hv7
 have hv7 := hv7_
 clear hv7_
 try simp only [List.set] at hv7
 refine Rg.done ?_
 refine Wp.seq (Wp.region ?_)
 refine Rg.tm trivial rfl (t_assign rfl) rfl ?_
 refine Rg.done ?_
 refine Wp.seq ?_
 refine Wp.seq (Wp.region ?_)
 have hc4 := hv4.cells
 have hc7 := hv7.cells
 refine Rg.tm trivial rfl (t_fieldAddr fa63_0 rfl) rfl ?_
 refine Rg.tm trivial rfl (t_load ty3 rfl (by apply Cells.get (i := 0); (case h => assumption); rfl)) rfl ?_
 refine Rg.wd trivial (w_call Tryz.call41 rfl (isLocal_ok)) rfl ?_
 rintro _ _ ⟨rfl,rfl⟩
 refine Rg.done ?_
 by_cases hloc : isLoc query
 ·rw [decide_eq_true hloc]
  have hcomp : comp q.ins.val (query,arg,idx) = ((((sketch [(nameM,(q.ins.val (0,2,idx)).2)] query arg nameM).1 :: (sketch [(nameM,(q.ins.val (0,2,idx)).2)] query arg nameM).2.1),(sketch [(nameM,(q.ins.val (0,2,idx)).2)] query arg nameM).2.2),[(0,2,idx)]) := by unfold comp; rw [if_pos hloc]
  rw [hcomp]
  refine Wp.condT rfl ?_
  refine Wp.seq (Wp.region ?_)
  refine Rg.tm trivial rfl (t_move rfl) rfl ?_
  refine Rg.tm trivial rfl (t_fieldAddr fa63_2 rfl) rfl ?_
  refine Rg.tm trivial rfl (t_load ty3 rfl (by apply Cells.get (i := 2); (case h => assumption); rfl)) rfl ?_
  refine Rg.tm trivial rfl (t_build (bd63_1_2 _ _) rfl) rfl ?_
  refine Rg.wd trivial (w_callK (vs := [.agg #[.int .i64 0,.int .i64 2,.int .i64 idx]]) (cap := [.pointer (some ⟨b2,0,none⟩),.pointer (some ⟨b6,0,none⟩)]) rfl Tryz.call124 rfl (getg_ok hg (by simp))) rfl ?_
  obtain ⟨_,hvp22⟩ := hg.rc.var
  rintro _ w5 ⟨⟨p22,c22,rfl,ho22⟩,hg_,kq_⟩
  replace hv4 := kq_.2 _ _ _ (hv4.ne hvp22 (by decide)) (.inr (by omega)) hv4
  replace hv6 := kq_.2 _ _ _ (hv6.ne hvp22 (by decide)) (.inl (by decide)) hv6
  replace hv7 := kq_.2 _ _ _ (hv7.ne hvp22 (by decide)) (.inl (by decide)) hv7
  replace kq := kq.trans kq_
  clear hg kq_ hvp22
  have hg := hg_
  clear hg_
  refine Rg.tm trivial rfl (t_field rfl (fun w => rfl)) rfl ?_
  refine Rg.tm trivial rfl (t_build (bd52_0_1 _ _) rfl) rfl ?_
  refine Rg.wd trivial (w_buildSlice (bs49_1 _ _) rfl) rfl ?_
  rintro _ w6 ⟨b25,rfl,q25,hx6,hv25⟩
  replace hg := hg.ext hx6
  replace kq := kq.ext hx6
  replace hv4 := hv4.ext hx6
  replace hv6 := hv6.ext hx6
  replace hv7 := hv7.ext hx6
  have hs25 : SlC w6 (.slice (some ⟨b25,0,none⟩) 1 1) 2 1 (mc (nameM,(q.ins.val (0,2,idx)).2)) := slc_var hv25 rfl
  refine Rg.tm trivial rfl (t_assign rfl) rfl ?_
  refine Rg.done ?_
  refine Wp.region ?_
  refine Rg.tm trivial rfl (t_fieldAddr fa27_4 rfl) rfl ?_
  refine Rg.wn trivial (w_putF hv7 ty9 rfl rfl rfl rfl rfl) ?_
  have hs25x := hv25
  have hne25 := hv25.ne hv7 (by decide)
  rintro _ w7 ⟨hu7,hv7_⟩
  replace hg := hg.upd hv7 hu7 (by omega) (by decide) (by decide) (by decide) (by decide)
  replace kq := kq.updF hu7 (.inr (by omega))
  replace hv4 := hv4.upd hu7 (hv4.ne hv7 (by decide))
  replace hv6 := hv6.upd hu7 (hv6.ne hv7 (by decide))
  clear hv7
  have hv7 := hv7_
  clear hv7_
  try simp only [List.set] at hv7
  replace hs25x := hs25x.upd hu7 hne25
  replace hs25 : SlC w7 (.slice (some ⟨b25,0,none⟩) 1 1) 2 1 (mc (nameM,(q.ins.val (0,2,idx)).2)) := slc_var hs25x rfl
  refine Rg.done ?_
  refine Wp.seq (Wp.region ?_)
  refine Rg.tm trivial rfl (t_move rfl) rfl ?_
  refine Rg.tm trivial rfl (t_move rfl) rfl ?_
  refine Rg.tm trivial rfl (t_loadA rfl hv7.cells ty27) rfl ?_
  refine Rg.wd trivial (w_callK (vs := [_,.agg #[.int .i64 0,.int .i64 0,.int .i64 query,.int .i64 arg,.string nameM]]) (cap := []) rfl Tryz.call13 rfl (sketch_ok (l := [(nameM,(q.ins.val (0,2,idx)).2)]) (by rw [show encs mc [(nameM,(q.ins.val (0,2,idx)).2)] = _ from encs_single mc _]; exact hs25) (by simp [mrow_len] <;> omega))) rfl ?_
  rintro _ w8 ⟨⟨p39,c39,rfl,ho39⟩,hx8⟩
  replace hg := hg.ext hx8
  replace kq := kq.ext hx8
  replace hv4 := hv4.ext hx8
  replace hv6 := hv6.ext hx8
  replace hv7 := hv7.ext hx8
  refine Rg.wd trivial (w_new Tryz.zeroValue43 rfl) rfl ?_
  have kzb9 := kq.1
  rintro _ w9 ⟨b9,rfl,qb9,hx9,hv9⟩
  replace hg := hg.ext hx9
  replace kq := kq.ext hx9
  replace hv4 := hv4.ext hx9
  replace hv6 := hv6.ext hx9
  replace hv7 := hv7.ext hx9
  replace ho39 := own_ext ho39 hx9
  refine Rg.wn trivial (w_put hv9 rfl rfl rfl ty43 rfl rfl) ?_
  rintro _ w10 ⟨hu10,hv9_⟩
  replace hg := hg.upd hv9 hu10 (by omega) (by decide) (by decide) (by decide) (by decide)
  replace kq := kq.updF hu10 (.inr (by omega))
  replace hv4 := hv4.upd hu10 (hv4.ne hv9 (by decide))
  replace hv6 := hv6.upd hu10 (hv6.ne hv9 (by decide))
  replace ho39 := own_upd ho39 hv9 hu10 (by decide)
  clear hv9
  have hv9 := hv9_
  clear hv9_
  try simp only [List.set] at hv9
  have hc9 := hv9.cells
  obtain ⟨Zb,hZb⟩ : ∃ z,z = w10.heap.size := ⟨_,rfl⟩
  have ltz9 := hv9.lt
  have hlz : (sketch ([(nameM,(q.ins.val (0,2,idx)).2)]) query arg nameM).2.1.length ≤ 42 := by have := sketch_len ([(nameM,(q.ins.val (0,2,idx)).2)]) query arg nameM; simp [mrow_len] at this ⊢; omega
  refine Rg.done ?_
  refine Wp.seq (Wp.drawY [Zb] [0,1,3,4,6,7,2,5,8,9] [0] mixed (by kernel_rfl) (by kernel_rfl) ?_)
  intro w11 hx11 hh11
  replace hg := hg.ext hx11
  replace kq := kq.ext hx11
  replace hv4 := hv4.ext hx11
  replace hv6 := hv6.ext hx11
  replace hv9 := hv9.ext hx11
  replace hc9 := hc9.ext hx11
  replace ho39 := own_ext ho39 hx11
  refine Ry.tm trivial rfl (tz fun wz hkz => by exact t_fieldAddr fa43_2 rfl) rfl ?_
  refine Ry.tm trivial rfl (tz fun wz hkz => by have qc9 := (hv9.kp hkz (by simp; omega)).cells; exact t_load ty40 rfl (by apply Cells.get (i := 2); (case h => assumption); rfl)) rfl ?_
  refine Ry.tm trivial rfl (tz fun wz hkz => by exact t_fieldAddr fa43_4 rfl) rfl ?_
  refine Ry.tm trivial rfl (tz fun wz hkz => by have qc9 := (hv9.kp hkz (by simp; omega)).cells; exact t_load ty41 rfl (by apply Cells.get (i := 4); (case h => assumption); rfl)) rfl ?_
  refine Ry.tm trivial rfl (tz fun wz hkz => by exact t_fieldAddr fa43_5 rfl) rfl ?_
  refine Ry.tm trivial rfl (tz fun wz hkz => by have qc9 := (hv9.kp hkz (by simp; omega)).cells; exact t_load ty9 rfl (by apply Cells.get (i := 5); (case h => assumption); rfl)) rfl ?_
  refine Ry.wd trivial rfl (w_buildSlice (bs41_1 _) rfl) rfl (fun _ => fun _ _ h => by obtain ⟨_,_,_,h,_⟩ := h; exact h.kp _) ?_
  rintro _ w12 ⟨b42,rfl,q42,hx12,hv42⟩
  obtain rfl : b42 = Zb := by rw [q42,hZb,hh11]
  replace hg := hg.ext hx12
  replace kq := kq.ext hx12
  replace hv4 := hv4.ext hx12
  replace hv6 := hv6.ext hx12
  replace hv9 := hv9.ext hx12
  replace hc9 := hc9.ext hx12
  replace ho39 := own_ext ho39 hx12
  have kz42 := kq.1
  have ho42 : w12.ownsRow w.heap.size 3 1 (.slice (some ⟨b42,0,none⟩) 1 1) 1 _ := own_of_varS hv42 (by omega) rfl (by unfold maxLen; omega)
  refine Ry.wd trivial rfl (w_appendC w.heap.size Tryz.underlying41 hi3 hz3 hsi3 hby3 rfl (by decide) rfl rfl ho42 (own_slice ho39) (ints_one _) (by unfold maxLen; omega) (by omega) (by have := kq.1; omega)) rfl (fun _ => fun _ _ h => grown_kp h.2.1) ?_
  rintro v45 w13 ⟨ho2,hgr,p45,l45,c45,rfl⟩
  obtain ⟨_,_,e45⟩ := own_shape ho2
  injection e45 with _ e45 _
  subst e45
  replace hg := hg.grown ho42 hgr (by omega) (by decide) (by decide) (by decide) (by decide)
  replace kq := kq.grownF ho42 hgr (Nat.le_refl _)
  replace hv6 := hv6.grown ho42 hgr (by decide)
  replace hv9 := hv9.grown ho42 hgr (by decide)
  clear hv4 hv7 hc9 ho42 hv42
  have hc9 := hv9.cells
  refine Ry.tm trivial rfl (tz fun wz hkz => by exact t_build (bd66_0_1 _ _ _ _) rfl) rfl ?_
  refine Ry.wnB trivial rfl (w_put hv6 rfl rfl rfl ty66 rfl rfl) (by rfl) ?_
  rintro _ w14 ⟨hu14,hv6_⟩
  replace hg := hg.upd hv6 hu14 (by omega) (by decide) (by decide) (by decide) (by decide)
  replace kq := kq.updF hu14 (.inr (by omega))
  replace ho2 := own_upd ho2 hv6 hu14 (by decide)
  refine Ry.done ?_
  refine Wp.ret ?_
  have ad1 : addD ([] : List Key) (0,2,idx) = [(0,2,idx)] := rfl
  rw [ad1] at hg
  refine ⟨[_],⟨RV.cellA (vs := [_,_]) ty66 rfl hv6_.cells,trivial⟩,⟨p45,c45,?_,?_⟩,⟨_,by omega,hg⟩,kq.mono (by omega)⟩
  ·simp only [List.length_cons,Nat.add_comm,tup]
  ·simp only [List.length_cons,List.map_cons]; rw [Nat.add_comm]; exact ho2
 ·rw [decide_eq_false hloc]
  obtain ⟨ix,rfl⟩ : ∃ i : Nat,idx = i := ⟨idx.toNat,by omega⟩
  have hix : ix < (mrow q.ins.val n).length := by rw [mrow_len]; omega
  have hcomp : comp q.ins.val (query,arg,ix) = ((((sketch (mrow q.ins.val n) query arg (mdAt (mrow q.ins.val n) (ix : Int).toNat).1).1 :: (sketch (mrow q.ins.val n) query arg (mdAt (mrow q.ins.val n) (ix : Int).toNat).1).2.1),(sketch (mrow q.ins.val n) query arg (mdAt (mrow q.ins.val n) (ix : Int).toNat).1).2.2),mdeps n) := by unfold comp; rw [if_neg hloc,hfm,hfr]
  rw [hcomp]
  have hmd : mdAt (mrow q.ins.val n) ix = (mrow q.ins.val n)[ix] := by unfold mdAt; rw [List.getElem?_eq_getElem hix]; rfl
  rw [Int.toNat_natCast]
  refine Wp.condF rfl ?_
  refine Wp.seq (Wp.region ?_)
  refine Rg.tm trivial rfl (t_move rfl) rfl ?_
  refine Rg.wd trivial (w_call Tryz.call42 rfl (modulesOf_ok hg hn hn20)) rfl ?_
  obtain ⟨_,hvp28⟩ := hg.rc.var
  rintro _ w5 ⟨⟨p28,c28,rfl,ho28⟩,hg_,kq_⟩
  replace hv4 := kq_.2 _ _ _ (hv4.ne hvp28 (by decide)) (.inr (by omega)) hv4
  replace hv6 := kq_.2 _ _ _ (hv6.ne hvp28 (by decide)) (.inl (by decide)) hv6
  replace hv7 := kq_.2 _ _ _ (hv7.ne hvp28 (by decide)) (.inl (by decide)) hv7
  replace kq := kq.trans kq_
  clear hg kq_ hvp28
  have hg := hg_
  clear hg_
  replace ho28 := own_mono0 ho28
  have hc4 := hv4.cells
  have hs28 := own_slice ho28
  refine Rg.tm trivial rfl (t_assign rfl) rfl ?_
  refine Rg.done ?_
  refine Wp.region ?_
  refine Rg.tm trivial rfl (t_move rfl) rfl ?_
  refine Rg.tm trivial rfl (t_fieldAddr fa63_2 rfl) rfl ?_
  refine Rg.tm trivial rfl (t_load ty3 rfl (by apply Cells.get (i := 2); (case h => assumption); rfl)) rfl ?_
  refine Rg.ix hs28 trivial rfl rfl Tryz.underlying49 ty52 (by omega) rfl ?_
  intro bt32 ot32 ht32
  rw [Int.toNat_natCast,encs_at mc_len (mrow q.ins.val n) ix hix,← hmd] at ht32
  refine Rg.tm trivial rfl (t_fieldAddr fa52_0 rfl) rfl ?_
  refine Rg.tm trivial rfl (t_load ty9 rfl (Cells.get (i := 0) ht32 rfl)) rfl ?_
  refine Rg.tm trivial rfl (t_fieldAddr fa27_4 rfl) rfl ?_
  refine Rg.wn trivial (w_putF hv7 ty9 rfl rfl rfl rfl rfl) ?_
  rintro _ w6 ⟨hu6,hv7_⟩
  replace hg := hg.upd hv7 hu6 (by omega) (by decide) (by decide) (by decide) (by decide)
  replace kq := kq.updF hu6 (.inr (by omega))
  replace hv4 := hv4.upd hu6 (hv4.ne hv7 (by decide))
  replace hv6 := hv6.upd hu6 (hv6.ne hv7 (by decide))
  replace ho28 := own_upd ho28 hv7 hu6 (by decide)
  clear hv7
  have hv7 := hv7_
  clear hv7_
  try simp only [List.set] at hv7
  clear hs28 ht32
  have hs28 := own_slice ho28
  refine Rg.done ?_
  refine Wp.seq (Wp.region ?_)
  refine Rg.tm trivial rfl (t_move rfl) rfl ?_
  refine Rg.tm trivial rfl (t_move rfl) rfl ?_
  refine Rg.tm trivial rfl (t_loadA rfl hv7.cells ty27) rfl ?_
  refine Rg.wd trivial (w_callK (vs := [_,.agg #[.int .i64 0,.int .i64 0,.int .i64 query,.int .i64 arg,.string (mdAt (mrow q.ins.val n) ix).1]]) (cap := []) rfl Tryz.call13 rfl (sketch_ok (l := mrow q.ins.val n) (by rw [mrow_len]; exact hs28) (by simp [mrow_len] <;> omega))) rfl ?_
  rintro _ w7 ⟨⟨p39,c39,rfl,ho39⟩,hx7⟩
  replace hg := hg.ext hx7
  replace kq := kq.ext hx7
  replace hv4 := hv4.ext hx7
  replace hv6 := hv6.ext hx7
  replace hv7 := hv7.ext hx7
  refine Rg.wd trivial (w_new Tryz.zeroValue43 rfl) rfl ?_
  have kzb9 := kq.1
  rintro _ w8 ⟨b9,rfl,qb9,hx8,hv9⟩
  replace hg := hg.ext hx8
  replace kq := kq.ext hx8
  replace hv4 := hv4.ext hx8
  replace hv6 := hv6.ext hx8
  replace hv7 := hv7.ext hx8
  replace ho39 := own_ext ho39 hx8
  refine Rg.wn trivial (w_put hv9 rfl rfl rfl ty43 rfl rfl) ?_
  rintro _ w9 ⟨hu9,hv9_⟩
  replace hg := hg.upd hv9 hu9 (by omega) (by decide) (by decide) (by decide) (by decide)
  replace kq := kq.updF hu9 (.inr (by omega))
  replace hv4 := hv4.upd hu9 (hv4.ne hv9 (by decide))
  replace hv6 := hv6.upd hu9 (hv6.ne hv9 (by decide))
  replace ho39 := own_upd ho39 hv9 hu9 (by decide)
  clear hv9
  have hv9 := hv9_
  clear hv9_
  try simp only [List.set] at hv9
  have hc9 := hv9.cells
  obtain ⟨Zb,hZb⟩ : ∃ z,z = w9.heap.size := ⟨_,rfl⟩
  have ltz9 := hv9.lt
  have hlz : (sketch (mrow q.ins.val n) query arg (mdAt (mrow q.ins.val n) ix).1).2.1.length ≤ 42 := by have := sketch_len (mrow q.ins.val n) query arg (mdAt (mrow q.ins.val n) ix).1; simp [mrow_len] at this ⊢; omega
  refine Rg.done ?_
  refine Wp.seq (Wp.drawY [Zb] [0,1,3,4,6,7,2,5,8,9] [0] mixed (by kernel_rfl) (by kernel_rfl) ?_)
  intro w10 hx10 hh10
  replace hg := hg.ext hx10
  replace kq := kq.ext hx10
  replace hv4 := hv4.ext hx10
  replace hv6 := hv6.ext hx10
  replace hv9 := hv9.ext hx10
  replace hc9 := hc9.ext hx10
  replace ho39 := own_ext ho39 hx10
  refine Ry.tm trivial rfl (tz fun wz hkz => by exact t_fieldAddr fa43_2 rfl) rfl ?_
  refine Ry.tm trivial rfl (tz fun wz hkz => by have qc9 := (hv9.kp hkz (by simp; omega)).cells; exact t_load ty40 rfl (by apply Cells.get (i := 2); (case h => assumption); rfl)) rfl ?_
  refine Ry.tm trivial rfl (tz fun wz hkz => by exact t_fieldAddr fa43_4 rfl) rfl ?_
  refine Ry.tm trivial rfl (tz fun wz hkz => by have qc9 := (hv9.kp hkz (by simp; omega)).cells; exact t_load ty41 rfl (by apply Cells.get (i := 4); (case h => assumption); rfl)) rfl ?_
  refine Ry.tm trivial rfl (tz fun wz hkz => by exact t_fieldAddr fa43_5 rfl) rfl ?_
  refine Ry.tm trivial rfl (tz fun wz hkz => by have qc9 := (hv9.kp hkz (by simp; omega)).cells; exact t_load ty9 rfl (by apply Cells.get (i := 5); (case h => assumption); rfl)) rfl ?_
  refine Ry.wd trivial rfl (w_buildSlice (bs41_1 _) rfl) rfl (fun _ => fun _ _ h => by obtain ⟨_,_,_,h,_⟩ := h; exact h.kp _) ?_
  rintro _ w11 ⟨b42,rfl,q42,hx11,hv42⟩
  obtain rfl : b42 = Zb := by rw [q42,hZb,hh10]
  replace hg := hg.ext hx11
  replace kq := kq.ext hx11
  replace hv4 := hv4.ext hx11
  replace hv6 := hv6.ext hx11
  replace hv9 := hv9.ext hx11
  replace hc9 := hc9.ext hx11
  replace ho39 := own_ext ho39 hx11
  have kz42 := kq.1
  have ho42 : w11.ownsRow w.heap.size 3 1 (.slice (some ⟨b42,0,none⟩) 1 1) 1 _ := own_of_varS hv42 (by omega) rfl (by unfold maxLen; omega)
  refine Ry.wd trivial rfl (w_appendC w.heap.size Tryz.underlying41 hi3 hz3 hsi3 hby3 rfl (by decide) rfl rfl ho42 (own_slice ho39) (ints_one _) (by unfold maxLen; omega) (by omega) (by have := kq.1; omega)) rfl (fun _ => fun _ _ h => grown_kp h.2.1) ?_
  rintro v45 w12 ⟨ho2,hgr,p45,l45,c45,rfl⟩
  obtain ⟨_,_,e45⟩ := own_shape ho2
  injection e45 with _ e45 _
  subst e45
  replace hg := hg.grown ho42 hgr (by omega) (by decide) (by decide) (by decide) (by decide)
  replace kq := kq.grownF ho42 hgr (Nat.le_refl _)
  replace hv6 := hv6.grown ho42 hgr (by decide)
  replace hv9 := hv9.grown ho42 hgr (by decide)
  clear hv4 hv7 hc9 ho42 hv42
  have hc9 := hv9.cells
  refine Ry.tm trivial rfl (tz fun wz hkz => by exact t_build (bd66_0_1 _ _ _ _) rfl) rfl ?_
  refine Ry.wnB trivial rfl (w_put hv6 rfl rfl rfl ty66 rfl rfl) (by rfl) ?_
  rintro _ w13 ⟨hu13,hv6_⟩
  replace hg := hg.upd hv6 hu13 (by omega) (by decide) (by decide) (by decide) (by decide)
  replace kq := kq.updF hu13 (.inr (by omega))
  replace ho2 := own_upd ho2 hv6 hu13 (by decide)
  refine Ry.done ?_
  refine Wp.ret ?_
  refine ⟨[_],⟨RV.cellA (vs := [_,_]) ty66 rfl hv6_.cells,trivial⟩,⟨p45,c45,?_,?_⟩,⟨_,by omega,hg⟩,kq.mono (by omega)⟩
  ·simp only [List.length_cons,Nat.add_comm,tup]
  ·simp only [List.length_cons,List.map_cons]; rw [Nat.add_comm]; exact ho2
theorem fn_ok {wB w : World} {q : DbQ} {b2 b6 p n : Nat} {ver query arg idx : Int} (hxB : Ext wB w) (hD : DbW wB q) (hp : wB.heap.size ≤ p) (h2 : Var w b2 [.pointer (some ⟨q.bD,0,none⟩)] 60) (h6 : Var w b6 [.pointer (some ⟨p,0,none⟩)] 137)
  (hr0 : Var w p [.slice none 0 0,.string ⟨#[]⟩,.int .i64 ver,.int .i64 ver,.int .i64 2,.slice none 0 0,.int .i64 0] 139) (hn : q.ins.val (0,0,0) = ([(n : Int)],noB)) (hn20 : n ≤ 20) (hidx : 0 ≤ idx ∧ idx < n) :
  Cl Tryz.prog 26 (([.agg #[.int .i64 query,.int .i64 arg,.int .i64 idx],getF b2 b6] : List Value) ++ ([.pointer (some ⟨q.bF,0,none⟩)] : List Value)).toArray w (fun u w' => (∃ pn cn,u = .agg #[.slice pn (comp q.ins.val (query,arg,idx)).1.1.length cn,.string (comp q.ins.val (query,arg,idx)).1.2] ∧ w'.ownsRow w.heap.size 3 1 (.slice pn (comp q.ins.val (query,arg,idx)).1.1.length cn) (comp q.ins.val (query,arg,idx)).1.1.length ((comp q.ins.val (query,arg,idx)).1.1.map (.int .i64))) ∧
   (∃ B,w.heap.size ≤ B ∧ Gc wB w' q b2 b6 p B ver (comp q.ins.val (query,arg,idx)).2) ∧ Kq p w.heap.size w w') := by
 have hx := Ext.refl w
 have hle := hxB.le
 have hfn := (hD.fn.ext hxB)
 have hcf := hfn.cells
 refine Cl.enter Tryz.func26 rfl Tryz.ntmps26 rfl rfl ?_
 refine Wp.seq (Wp.region ?_)
 refine Rg.wd trivial (w_boxed rfl rfl) rfl ?_
 rintro _ w1 ⟨b3,rfl,q3,hx1,hv3⟩
 replace hxB := Ext.tr hxB hx1
 replace hx := hx.ext hx1
 replace h2 := h2.ext hx1
 replace h6 := h6.ext hx1
 replace hr0 := hr0.ext hx1
 replace hfn := hfn.ext hx1
 replace hcf := hcf.ext hx1
 have hc3 := hv3.cells
 refine Rg.wd trivial (w_new Tryz.zeroValue66 rfl) rfl ?_
 have kx5 := hx.le
 rintro _ w2 ⟨b5,rfl,q5,hx2,hv5⟩
 replace hxB := Ext.tr hxB hx2
 replace hx := hx.ext hx2
 replace h2 := h2.ext hx2
 replace h6 := h6.ext hx2
 replace hr0 := hr0.ext hx2
 replace hfn := hfn.ext hx2
 replace hcf := hcf.ext hx2
 replace hv3 := hv3.ext hx2
 replace hc3 := hc3.ext hx2
 have kx6 := hx.le
 have kB6 := hxB.le
 refine Rg.done ?_
 refine Wp.seq (Wp.region ?_)
 refine Rg.tm trivial rfl (t_load ty35 rfl (by first | assumption | (apply Cells.get (i := 0); (case h => assumption); rfl))) rfl ?_
 refine Rg.tm trivial rfl (t_loadA rfl hc3 ty63) rfl ?_
 refine Rg.tm trivial rfl (t_move rfl) rfl ?_
 refine Rg.wd trivial (w_call Tryz.call27 rfl (compute_ok hxB hD hp h2 h6 hr0 hn hn20 hidx)) rfl ?_
 rintro _ w3 ⟨⟨p9,c9,rfl,ho9⟩,⟨B,hBk,hg⟩,kqq⟩
 have kq := ((Kq.refl p w.heap.size w).ext hx).trans (kqq.mono kx6)
 replace hv5 := kqq.2 _ _ _ (hv5.ne hr0 (by decide)) (.inl (by decide)) hv5
 refine Rg.wn trivial (w_put hv5 rfl rfl rfl ty66 rfl rfl) ?_
 rintro _ w4 ⟨hu4,hv5_⟩
 replace hg := hg.upd hv5 hu4 (by omega) (by decide) (by decide) (by decide) (by decide)
 replace kq := kq.updF hu4 (.inr (by omega))
 replace ho9 := own_upd ho9 hv5 hu4 (by decide)
 refine Rg.done ?_
 refine Wp.ret ?_
 exact ⟨[_],⟨RV.cellA (vs := [_,_]) ty66 rfl hv5_.cells,trivial⟩,⟨p9,c9,rfl,own_mono ho9 kx6⟩,⟨B,by omega,hg⟩,kq⟩
end Go.Proofs.YtliofpegbcegiaaGreatDoor
namespace Go.Proofs.YtliofpegbcegiaaGreatDoor
set_option maxRecDepth 20000
open Go.Gx Go.RowKit Go.Lib
theorem t_fnNe {P : Program} {n : Nat} {L : Env} {w : World} {d : Option Tmp} {ty : TypeId} {pos : String} {af : Array Edge} {g : Option (Nat × Bool)} {t t' : TypeId} {x y : Operand} {ps rs : Array TypeId} {vr : Bool} {fn : Fn} {c1 c2 : Array Value} (hu : P.underlying t = some (.func ps rs vr)) (hx : evO L x = some (.func fn c1 c2)) (hy : evO L y = some .nilFunc) : Tm P n ⟨d,.binOp .neq t x y t',ty,pos,af,g⟩ L w (.bool true) := fun a ha w' _ => by
 simp [execOp,ha.eval hx,ha.eval hy,eqGuard,binOp,run_equal_fn1 hu]
theorem look_rptr : ∀ (l : List (K3 × (Nat × Res))) (k : K3),look3 (l.map rptr) k = (look3 l k).map fun x => .pointer (some ⟨x.1,0,none⟩)
 | [],k => rfl
 | a :: l,k => by
  simp only [List.map_cons,look3,rptr]
  by_cases h : a.1 = k
  ·rw [if_pos h,if_pos h]; rfl
  ·rw [if_neg h,if_neg h]; exact look_rptr l k
theorem ups_rptr : ∀ (l : List (K3 × (Nat × Res))) (k : K3) (p : Nat) (r : Res),(ups3 l k (p,r)).map rptr = ups3 (l.map rptr) k (.pointer (some ⟨p,0,none⟩))
 | [],k,p,r => rfl
 | a :: l,k,p,r => by
  simp only [List.map_cons,ups3]
  by_cases h : a.1 = k
  ·rw [if_pos h,if_pos (show (rptr a).1 = k from h)]; rfl
  ·rw [if_neg h,if_neg (show ¬ (rptr a).1 = k from h),List.map_cons,ups_rptr l k p r]
theorem look3_mem {α : Type} : ∀ {l : List (K3 × α)} {k : K3} {v : α},look3 l k = some v → (k,v) ∈ l
 | a :: l,k,v,h => by
  unfold look3 at h
  split at h
  ·rename_i e
   injection h with h
   subst h; subst e
   simp
  ·exact List.mem_cons_of_mem _ (look3_mem h)
theorem look_ups3 {α : Type} : ∀ (l : List (K3 × α)) (k : K3) (v : α),look3 (ups3 l k v) k = some v
 | [],k,v => by simp [ups3,look3]
 | a :: l,k,v => by
  unfold ups3
  split
  ·simp [look3]
  ·rename_i h; simp [look3,h,look_ups3 l k v]
theorem ups3_mem {α : Type} : ∀ {l : List (K3 × α)} {k : K3} {v : α} {x : K3 × α},x ∈ ups3 l k v → x = (k,v) ∨ x ∈ l
 | [],k,v,x,h => by simp [ups3] at h; exact .inl h
 | a :: l,k,v,x,h => by
  unfold ups3 at h
  split at h
  ·rcases List.mem_cons.1 h with h | h
   ·exact .inl h
   ·exact .inr (List.mem_cons_of_mem _ h)
  ·rcases List.mem_cons.1 h with h | h
   ·exact .inr (by rw [h]; simp)
   ·exact (ups3_mem h).imp id (List.mem_cons_of_mem _)
theorem ups3_nodup {p : Nat} {r : Res} : ∀ {l : List (K3 × (Nat × Res))} {k : K3},(l.map (·.2.1)).Nodup → (∀ x ∈ l,x.2.1 ≠ p) → ((ups3 l k (p,r)).map (·.2.1)).Nodup
 | [],k,_,_ => by simp [ups3]
 | a :: l,k,hn,hp => by
  simp only [List.map_cons,List.nodup_cons] at hn
  unfold ups3
  split
  ·simp only [List.map_cons,List.nodup_cons]
   refine ⟨fun hm => ?_,hn.2⟩
   obtain ⟨x,hx,e⟩ := List.mem_map.1 hm
   exact hp x (List.mem_cons_of_mem _ hx) e
  ·simp only [List.map_cons,List.nodup_cons]
   refine ⟨fun hm => ?_,ups3_nodup hn.2 fun x hx => hp x (List.mem_cons_of_mem _ hx)⟩
   obtain ⟨x,hx,e⟩ := List.mem_map.1 hm
   rcases ups3_mem hx with rfl | hx
   ·exact hp a (by simp) e.symm
   ·exact hn.1 (List.mem_map.2 ⟨x,hx,e⟩)
theorem ups3_each {p : Nat} {r r' : Res} : ∀ {l : List (K3 × (Nat × Res))} {k : K3},look3 l k = some (p,r) → (l.map (·.2.1)).Nodup →
  (∀ x ∈ ups3 l k (p,r'),x = (k,(p,r')) ∨ (x ∈ l ∧ x.2.1 ≠ p)) ∧ (ups3 l k (p,r')).map (·.2.1) = l.map (·.2.1) ∧ (ups3 l k (p,r')).map rptr = l.map rptr
 | a :: l,k,hl,hn => by
  simp only [List.map_cons,List.nodup_cons] at hn
  unfold look3 at hl
  unfold ups3
  split at hl
  ·rename_i e
   injection hl with hl
   obtain ⟨a1,a2⟩ := a
   subst hl; subst e
   rw [if_pos rfl]
   refine ⟨fun x hx => ?_,rfl,rfl⟩
   rcases List.mem_cons.1 hx with h | h
   ·exact .inl h
   ·exact .inr ⟨List.mem_cons_of_mem _ h,fun e => hn.1 (List.mem_map.2 ⟨x,h,e⟩)⟩
  ·rename_i e
   obtain ⟨h1,h2,h3⟩ := ups3_each (r' := r') hl hn.2
   rw [if_neg e]
   refine ⟨fun x hx => ?_,by simp only [List.map_cons,h2],by simp only [List.map_cons,h3]⟩
   rcases List.mem_cons.1 hx with h | h
   ·exact .inr ⟨by rw [h]; simp,fun e2 => hn.1 (by rw [h] at e2; rw [e2]; exact List.mem_map.2 ⟨_,look3_mem hl,rfl⟩)⟩
   ·exact (h1 x h).imp id fun h => ⟨List.mem_cons_of_mem _ h.1,h.2⟩
theorem DbW.updP {w w' : World} {q : DbQ} {b : Nat} {cs : List Value} (h : DbW w q) (hv : Var w b cs 139) (k : Upd b w w') (hnew : ∀ x ∈ q.rs,x.2.1 ≠ b) : DbW w' q :=
 ⟨h.var.upd k (h.var.ne hv (by decide)),h.fn.upd k (h.fn.ne hv (by decide)),h.ins.upd hv k (by decide) (by decide),h.res.upd hv k,h.act.upd hv k,fun p hp => (h.each p hp).upd hv k (hnew p hp) (by decide) (by decide),h.nodup,h.neMR,h.neMA,h.neRA⟩
theorem DbW.setRes {w w' : World} {q : DbQ} {key : K3} {p : Nat} {r : Res} (h : DbW w q) (k : Upd q.bR w w') (hm : MapR w' q.bR (ups3 (q.rs.map rptr) key (.pointer (some ⟨p,0,none⟩)))) (hr : ResAt w p r) (hnew : ∀ x ∈ q.rs,x.2.1 ≠ p) : DbW w' { q with rs := ups3 q.rs key (p,r) } :=
 ⟨h.var.mapR h.res k,h.fn.mapR h.res k,h.ins.mapR h.res k (Ne.symm h.neMR),by rw [ups_rptr]; exact hm,h.act.keep (k.block _ (Ne.symm h.neRA)),fun x hx => by
  rcases ups3_mem hx with rfl | hx
  ·exact hr.mapR h.res k
  ·exact (h.each x hx).mapR h.res k,ups3_nodup h.nodup hnew,h.neMR,h.neMA,h.neRA⟩
theorem DbW.mod {w w' : World} {q : DbQ} {key : K3} {p : Nat} {r r' : Res} (h : DbW w q) (hl : look3 q.rs key = some (p,r)) (k : Upd p w w') (hr : ResAt w' p r') : DbW w' { q with rs := ups3 q.rs key (p,r') } := by
 obtain ⟨⟨vn,vd,chg,hv,_,_⟩,_⟩ := h.each _ (look3_mem hl)
 obtain ⟨h1,h2,h3⟩ := ups3_each (r' := r') hl h.nodup
 refine ⟨h.var.upd k (h.var.ne hv (by decide)),h.fn.upd k (h.fn.ne hv (by decide)),h.ins.upd hv k (by decide) (by decide),?_,h.act.upd hv k,fun x hx => ?_,by rw [h2]; exact h.nodup,h.neMR,h.neMA,h.neRA⟩
 ·rw [h3]; exact h.res.upd hv k
 ·rcases h1 x hx with rfl | ⟨hx,hne⟩
  ·exact hr
  ·exact (h.each x hx).upd hv k hne (by decide) (by decide)
theorem comp_small {f : Key → QV} {query arg idx : Int} {n : Nat} (hn : f (0,0,0) = ([(n : Int)],noB)) (hn20 : n ≤ 20) :
  ((comp f (query,arg,idx)).1.1.length ≤ 50 ∧ (comp f (query,arg,idx)).2.length ≤ 50) ∧ (∀ d ∈ (comp f (query,arg,idx)).2,d.1 = 0) ∧ (comp f (query,arg,idx)).1.1 ≠ [] ∧ (comp f (query,arg,idx)).2 ≠ [] := by
 have hfm : fcount f = n := by unfold fcount; rw [hn]; simp
 have hfl : (fmods f).length = n := by unfold fmods; rw [hfm]; simp
 unfold comp
 split
 ·refine ⟨⟨?_,by simp⟩,by simp,by simp,by simp⟩
  have := sketch_len [(nameM,(f (0,2,idx)).2)] query arg nameM
  simp at this ⊢; omega
 ·refine ⟨⟨?_,?_⟩,?_,by simp,by simp [mdeps]⟩
  ·have := sketch_len (fmods f) query arg (mdAt (fmods f) idx.toNat).1
   simp only [List.length_cons]; omega
  ·rw [mdeps_len,hfm]; omega
  ·intro d hd
   simp only [mdeps,List.mem_cons,List.mem_flatMap,List.mem_range] at hd
   rcases hd with rfl | ⟨i,_,hd⟩
   ·rfl
   ·rcases hd with rfl | rfl | hd
    ·rfl
    ·rfl
    ·cases hd
theorem recompute_ok {w : World} {q : DbQ} {sf : FuncId} {cap : List Value} {n : Nat} {query arg idx : Int} (hD : DbW w q) (hq : q.stop = .func (.func sf) #[] cap.toArray) (hcf : ∀ (args : Array Value) (w : World),(callFunc sf args).run Tryz.prog w = .ok (.enter sf args) w)
  (hst : ∀ w',Ext w w' → Cl Tryz.prog sf (([] : List Value) ++ cap).toArray w' (fun u w'' => u = .bool false ∧ Ext w' w'')) (hn : q.ins.val (0,0,0) = ([(n : Int)],noB)) (hn20 : n ≤ 20) (hidx : 0 ≤ idx ∧ idx < n) (hcs : 0 ≤ q.comps ∧ q.comps ≤ 1000000000) :
  Cl Tryz.prog 102 #[.pointer (some ⟨q.bD,0,none⟩),.agg #[.int .i64 query,.int .i64 arg,.int .i64 idx]] w (fun u w' => ∃ p,u = .pointer (some ⟨p,0,none⟩) ∧ w.heap.size ≤ p ∧
   DbW w' { q with rs := ups3 q.rs (query,arg,idx) (p,⟨(comp q.ins.val (query,arg,idx)).1,q.ins.rev,(comp q.ins.val (query,arg,idx)).2,0⟩),comps := q.comps + 1 } ∧ Kp [q.bD,q.bR] w w') := by
 have hx := Ext.refl w
 have hDv := hD.var
 obtain ⟨bD,bI,bM,bR,bA,bF,ins,act,stop,rs,comps,clock⟩ := q
 simp only at hq hn hcs
 subst hq
 have hcD := hD.var.cells
 simp only [DbQ.cells] at hcD
 refine Cl.enter Tryz.func102 rfl Tryz.ntmps102 rfl rfl ?_
 refine Wp.seq (Wp.region ?_)
 refine Rg.wd trivial (w_boxed rfl rfl) rfl ?_
 rintro _ w1 ⟨b2,rfl,qb2,hx1,hv2⟩
 replace hx := hx.ext hx1
 replace hD := hD.ext hx1
 replace hDv := hDv.ext hx1
 replace hcD := hcD.ext hx1
 have hc2 := hv2.cells
 refine Rg.wd trivial (w_boxed rfl rfl) rfl ?_
 rintro _ w2 ⟨b3,rfl,qb3,hx2,hv3⟩
 replace hx := hx.ext hx2
 replace hD := hD.ext hx2
 replace hDv := hDv.ext hx2
 replace hcD := hcD.ext hx2
 replace hv2 := hv2.ext hx2
 replace hc2 := hc2.ext hx2
 have hc3 := hv3.cells
 refine Rg.tm trivial rfl (t_assign rfl) rfl ?_
 refine Rg.done ?_
 refine Wp.seq ?_
 refine Wp.seq (Wp.region ?_)
 refine Rg.tm trivial rfl (t_load ty60 rfl (by first | assumption | (apply Cells.get (i := 0); (case h => assumption); rfl))) rfl ?_
 refine Rg.tm trivial rfl (t_nilCheck rfl) rfl ?_
 refine Rg.tm trivial rfl (t_fieldAddr fa87_4 rfl) rfl ?_
 refine Rg.tm trivial rfl (t_load ty23 rfl (by apply Cells.get (i := 4); (case h => assumption); rfl)) rfl ?_
 refine Rg.tm trivial rfl (t_fnNe Tryz.underlying23 rfl rfl) rfl ?_
 refine Rg.tm trivial rfl (t_move rfl) rfl ?_
 first | refine Rg.tm ⟨_,rfl,rfl⟩ rfl (t_load ty60 rfl (by first | assumption | (apply Cells.get (i := 0); (case h => assumption); rfl))) rfl ?_ | refine Rg.so rfl rfl ?_
 first | refine Rg.tm ⟨_,rfl,rfl⟩ rfl (t_nilCheck rfl) rfl ?_ | refine Rg.so rfl rfl ?_
 first | refine Rg.tm ⟨_,rfl,rfl⟩ rfl (t_fieldAddr fa87_4 rfl) rfl ?_ | refine Rg.so rfl rfl ?_
 first | refine Rg.tm ⟨_,rfl,rfl⟩ rfl (t_load ty23 rfl (by apply Cells.get (i := 4); (case h => assumption); rfl)) rfl ?_ | refine Rg.so rfl rfl ?_
 refine Rg.wd ⟨_,rfl,rfl⟩ (w_callK (vs := []) (cap := cap) rfl hcf rfl (hst _ hx)) rfl ?_
 rintro _ w3 ⟨rfl,hx3⟩
 replace hx := hx.ext hx3
 replace hD := hD.ext hx3
 replace hDv := hDv.ext hx3
 replace hcD := hcD.ext hx3
 replace hv2 := hv2.ext hx3
 replace hc2 := hc2.ext hx3
 replace hv3 := hv3.ext hx3
 replace hc3 := hc3.ext hx3
 first | refine Rg.tm trivial rfl (t_pickT rfl rfl) rfl ?_ | refine Rg.tm trivial rfl (t_pickF rfl rfl) rfl ?_
 refine Rg.done ?_
 refine Wp.condF rfl ?_
 refine Wp.skip ?_
 refine Wp.seq (Wp.region ?_)
 refine Rg.tm trivial rfl (t_load ty60 rfl (by first | assumption | (apply Cells.get (i := 0); (case h => assumption); rfl))) rfl ?_
 refine Rg.tm trivial rfl (t_nilCheck rfl) rfl ?_
 refine Rg.tm trivial rfl (t_fieldAddr fa87_1 rfl) rfl ?_
 refine Rg.tm trivial rfl (t_load ty82 rfl (by apply Cells.get (i := 1); (case h => assumption); rfl)) rfl ?_
 refine Rg.wd trivial (w_call Tryz.call103 rfl (revision_ok hD.ins)) rfl ?_
 rintro _ _ ⟨rfl,rfl⟩
 refine Rg.tm trivial rfl (t_assign rfl) rfl ?_
 refine Rg.done ?_
 refine Wp.seq (Wp.region ?_)
 refine Rg.tm trivial rfl (t_move rfl) rfl ?_
 refine Rg.tm trivial rfl (t_move rfl) rfl ?_
 refine Rg.tm trivial rfl (t_build (bd139_1_2_3 _ _ _) rfl) rfl ?_
 refine Rg.wd trivial (w_boxed rfl rfl) rfl ?_
 have hxB := Ext.refl w3
 have hDB := hD
 have hx0 := hx
 rintro _ w4 ⟨p,rfl,qp,hx4,hvp⟩
 replace hx := hx.ext hx4
 replace hD := hD.ext hx4
 replace hDv := hDv.ext hx4
 replace hcD := hcD.ext hx4
 replace hv2 := hv2.ext hx4
 replace hc2 := hc2.ext hx4
 replace hv3 := hv3.ext hx4
 replace hc3 := hc3.ext hx4
 replace hxB := hxB.ext hx4
 refine Rg.wd trivial (w_new Tryz.zeroValue137 rfl) rfl ?_
 have hlep := hxB.le
 have hltp := hvp.lt
 rintro _ w5 ⟨b6,rfl,qb6,hx5,hv6⟩
 replace hx := hx.ext hx5
 replace hD := hD.ext hx5
 replace hDv := hDv.ext hx5
 replace hcD := hcD.ext hx5
 replace hv2 := hv2.ext hx5
 replace hc2 := hc2.ext hx5
 replace hv3 := hv3.ext hx5
 replace hc3 := hc3.ext hx5
 replace hxB := hxB.ext hx5
 replace hvp := hvp.ext hx5
 refine Rg.wn trivial (w_put hv6 rfl rfl rfl ty137 rfl rfl) ?_
 rintro _ w6 ⟨hu6,hv6_⟩
 replace hxB := hxB.upd hu6 (by omega)
 replace hv2 := hv2.upd hu6 (hv2.ne hv6 (by decide))
 replace hv3 := hv3.upd hu6 (hv3.ne hv6 (by decide))
 replace hvp := hvp.upd hu6 (hvp.ne hv6 (by decide))
 clear hv6 hx hD hDv hcD hc2 hc3
 have hv6 := hv6_
 clear hv6_
 have hDv := hDB.var.ext hxB
 refine Rg.done ?_
 refine Wp.seq (Wp.drawS (fun w' => Var w' b2 [.pointer (some ⟨bD,0,none⟩)] 60 ∧ Var w' b3 [.int .i64 query,.int .i64 arg,.int .i64 idx] 63 ∧ Var w' b6 [.pointer (some ⟨p,0,none⟩)] 137 ∧ Var w' bD [.func (.func 26) #[] #[.pointer (some ⟨bF,0,none⟩)],.pointer (some ⟨bI,0,none⟩),.map (some bR),.map (some bA),.func (.func sf) #[] cap.toArray,.int .i64 comps,.int .i64 clock] 87) [0,1,2,3,4,5,6,7,8,9,10,11] [0] mixed (by kernel_rfl) (by kernel_rfl) (by rfl) ?_)
 intro w7 hx7 hh7
 replace hxB := hxB.ext hx7
 replace hv2 := hv2.ext hx7
 replace hv3 := hv3.ext hx7
 replace hvp := hvp.ext hx7
 replace hv6 := hv6.ext hx7
 replace hDv := hDv.ext hx7
 refine ⟨⟨hv2,hv3,hv6,hDv⟩,?_⟩
 refine Rs.tm trivial rfl (ts fun wz hkz => by obtain ⟨z2,z3,z6,zD⟩ := hkz; have y2 := z2.cells; have y3 := z3.cells; have y6 := z6.cells; have yD := zD.cells; exact t_load ty137 rfl (by first | assumption | (apply Cells.get (i := 0); (case h => assumption); rfl))) rfl ?_
 refine Rs.tm trivial rfl (ts fun wz hkz => by obtain ⟨z2,z3,z6,zD⟩ := hkz; have y2 := z2.cells; have y3 := z3.cells; have y6 := z6.cells; have yD := zD.cells; exact t_load ty60 rfl (by first | assumption | (apply Cells.get (i := 0); (case h => assumption); rfl))) rfl ?_
 refine Rs.tm trivial rfl (ts fun wz hkz => by exact t_nilCheck rfl) rfl ?_
 refine Rs.tm trivial rfl (ts fun wz hkz => by exact t_fieldAddr fa87_0 rfl) rfl ?_
 refine Rs.tm trivial rfl (ts fun wz hkz => by obtain ⟨z2,z3,z6,zD⟩ := hkz; have y2 := z2.cells; have y3 := z3.cells; have y6 := z6.cells; have yD := zD.cells; exact t_load ty68 rfl (by apply Cells.get (i := 0); (case h => assumption); rfl)) rfl ?_
 refine Rs.tm trivial rfl (ts fun wz hkz => by obtain ⟨z2,z3,z6,zD⟩ := hkz; exact t_loadA rfl z3.cells ty63) rfl ?_
 refine Rs.tm trivial rfl (ts fun wz hkz => t_makeFunc (vs := [.pointer (some ⟨b2,0,none⟩),.pointer (some ⟨b6,0,none⟩)]) rfl) rfl ?_
 obtain ⟨hsm1,hsm2,hsm3,hsm4⟩ := comp_small (query := query) (arg := arg) (idx := idx) hn hn20
 refine Rs.wd trivial rfl (w_callK (vs := [.agg #[.int .i64 query,.int .i64 arg,.int .i64 idx],getF b2 b6]) (cap := [.pointer (some ⟨bF,0,none⟩)]) rfl Tryz.call26 rfl (fn_ok (q := ⟨bD,bI,bM,bR,bA,bF,ins,act,.func (.func sf) #[] cap.toArray,rs,comps,clock⟩) hxB hDB (by omega) hv2 hv6 hvp hn hn20 hidx)) rfl (fun _ => fun _ _ h => ⟨h.2.2.2 _ _ _ (hv2.ne hvp (by decide)) (.inr hv2.lt) hv2,h.2.2.2 _ _ _ (hv3.ne hvp (by decide)) (.inr hv3.lt) hv3,h.2.2.2 _ _ _ (hv6.ne hvp (by decide)) (.inr hv6.lt) hv6,h.2.2.2 _ _ _ (hDv.ne hvp (by decide)) (.inr hDv.lt) hDv⟩) ?_
 have hltq2 := hv2.lt
 have hltq3 := hv3.lt
 have hltq6 := hv6.lt
 have hltp2 := hvp.lt
 rintro _ w8 ⟨⟨p38,c38,rfl,ho38⟩,⟨B,hBk,hg⟩,kq⟩
 replace hv2 := kq.2 _ _ _ (hv2.ne hvp (by decide)) (.inr hv2.lt) hv2
 replace hv3 := kq.2 _ _ _ (hv3.ne hvp (by decide)) (.inr hv3.lt) hv3
 replace hv6 := kq.2 _ _ _ (hv6.ne hvp (by decide)) (.inr hv6.lt) hv6
 replace hDv := kq.2 _ _ _ (hDv.ne hvp (by decide)) (.inr hDv.lt) hDv
 clear hvp
 refine Rs.wd trivial rfl (w_call Tryz.call90 rfl (cloneR_ok (own_slice ho38) (by show (comp ins.val (query,arg,idx)).1.1.length ≤ 100; omega))) rfl (fun _ => fun _ _ h => ⟨hv2.ext h.2,hv3.ext h.2,hv6.ext h.2,hDv.ext h.2⟩) ?_
 rintro _ w9 ⟨⟨p39,c39,rfl,ho39⟩,hx9⟩
 replace hv2 := hv2.ext hx9
 replace hv3 := hv3.ext hx9
 replace hv6 := hv6.ext hx9
 replace hDv := hDv.ext hx9
 replace hg := hg.ext hx9
 obtain ⟨vd,hvp,hod⟩ := hg.rc
 rw [if_neg hsm4] at hvp
 refine Rs.tm trivial rfl (ts fun wz hkz => by exact t_nilCheck rfl) rfl ?_
 refine Rs.tm trivial rfl (ts fun wz hkz => by exact t_fieldAddr fa139_0 rfl) rfl ?_
 refine Rs.wnB trivial rfl (w_putAt (o := 0) hvp rfl rfl rfl ty66 (by simp) (by simp [Value.oneCell'])) (by rfl) ?_
 rintro _ w10 ⟨hu10,hvp_⟩
 simp only [List.take_zero,List.nil_append,List.length_cons,List.length_nil,Nat.zero_add,List.drop_succ_cons,List.drop_zero,List.cons_append] at hvp_
 have hxB2 := hg.hxB.upd hu10 hg.hp
 replace hod := own_upd hod hvp hu10 (by decide)
 replace ho39 := own_upd ho39 hvp hu10 (by decide)
 replace hv2 := hv2.upd hu10 (hv2.ne hvp (by decide))
 replace hv3 := hv3.upd hu10 (hv3.ne hvp (by decide))
 replace hv6 := hv6.upd hu10 (hv6.ne hvp (by decide))
 have hpB := hg.hp
 clear hvp hg hDv
 have hD := hDB.ext hxB2
 have hr : ResAt w10 p ⟨(comp ins.val (query,arg,idx)).1,ins.rev,(comp ins.val (query,arg,idx)).2,0⟩ := ⟨⟨_,vd,ins.rev,hvp_,RowI.own ho39,Row.ofOwn hod⟩,hsm1,hsm2,hsm3⟩
 have hnew : ∀ x ∈ rs,x.2.1 ≠ p := fun x hx e => by
  obtain ⟨⟨_,_,_,h,_⟩,_⟩ := hDB.each x hx
  have := h.lt
  omega
 have hx := Ext.tr hx0 hxB2
 clear hvp_ hod ho39
 have hcD := hD.var.cells
 simp only [DbQ.cells] at hcD
 have hc2 := hv2.cells
 have hc3 := hv3.cells
 have hc6 := hv6.cells
 refine Rs.done ?_
 refine Wp.seq ?_
 refine Wp.seq (Wp.draw [0,1,2,3,4,5,6] [] mixed (by kernel_rfl) (by kernel_rfl) ?_)
 intro w11 hx11 _
 replace hx := hx.ext hx11
 replace hv2 := hv2.ext hx11
 replace hv3 := hv3.ext hx11
 replace hv6 := hv6.ext hx11
 replace hD := hD.ext hx11
 replace hr := hr.ext hx11
 replace hcD := hcD.ext hx11
 replace hc2 := hc2.ext hx11
 replace hc3 := hc3.ext hx11
 replace hc6 := hc6.ext hx11
 refine Rg.tm trivial rfl (t_load ty60 rfl (by first | assumption | (apply Cells.get (i := 0); (case h => assumption); rfl))) rfl ?_
 refine Rg.tm trivial rfl (t_nilCheck rfl) rfl ?_
 refine Rg.tm trivial rfl (t_fieldAddr fa87_2 rfl) rfl ?_
 refine Rg.tm trivial rfl (t_load ty84 rfl (by apply Cells.get (i := 2); (case h => assumption); rfl)) rfl ?_
 refine Rg.tm trivial rfl (t_loadA rfl hc3 ty63) rfl ?_
 refine Rg.tm trivial rfl (t_lookup3 (key := (query,arg,idx)) key3 Tryz.underlying84 Tryz.zeroValue137 rfl rfl hD.res) rfl ?_
 rw [look_rptr]
 refine Rg.tm trivial rfl (t_assign rfl) rfl ?_
 refine Rg.done ?_
 cases hlk : look3 rs (query,arg,idx) with
 | none =>
  simp only [Option.map_none,Option.getD_none]
  refine Wp.seq (Wp.draw [0,1,2,3,4,5,6,7,8,9,10,11,12,13,14,15,16,17,18,19,20,21,22,23] [] mixed (by kernel_rfl) (by kernel_rfl) ?_)
  intro w12 hx12 _
  replace hx := hx.ext hx12
  replace hv2 := hv2.ext hx12
  replace hv3 := hv3.ext hx12
  replace hv6 := hv6.ext hx12
  replace hD := hD.ext hx12
  replace hr := hr.ext hx12
  replace hcD := hcD.ext hx12
  replace hc2 := hc2.ext hx12
  replace hc3 := hc3.ext hx12
  replace hc6 := hc6.ext hx12
  refine Rg.tm trivial rfl (t_move rfl) rfl ?_
  first | refine Rg.tm trivial rfl (t_pneT pt137 rfl rfl) rfl ?_ | refine Rg.tm trivial rfl (t_pneF pt137 rfl rfl) rfl ?_
  refine Rg.tm trivial rfl (t_move rfl) rfl ?_
  first | refine Rg.tm ⟨_,rfl,rfl⟩ rfl (t_move rfl) rfl ?_ | refine Rg.so rfl rfl ?_
  first | refine Rg.tm ⟨_,rfl,rfl⟩ rfl (t_nilCheck rfl) rfl ?_ | refine Rg.so rfl rfl ?_
  first | refine Rg.tm ⟨_,rfl,rfl⟩ rfl (t_fieldAddr fa139_3 rfl) rfl ?_ | refine Rg.so rfl rfl ?_
  first | refine Rg.tm ⟨_,rfl,rfl⟩ rfl (t_load ty3 rfl (by apply Cells.get (i := 4); (case h => assumption); rfl)) rfl ?_ | refine Rg.so rfl rfl ?_
  first | refine Rg.tm ⟨_,rfl,rfl⟩ rfl (t_load ty137 rfl (by first | assumption | (apply Cells.get (i := 0); (case h => assumption); rfl))) rfl ?_ | refine Rg.so rfl rfl ?_
  first | refine Rg.tm ⟨_,rfl,rfl⟩ rfl (t_nilCheck rfl) rfl ?_ | refine Rg.so rfl rfl ?_
  first | refine Rg.tm ⟨_,rfl,rfl⟩ rfl (t_fieldAddr fa139_3 rfl) rfl ?_ | refine Rg.so rfl rfl ?_
  first | refine Rg.tm ⟨_,rfl,rfl⟩ rfl (t_load ty3 rfl (by apply Cells.get (i := 4); (case h => assumption); rfl)) rfl ?_ | refine Rg.so rfl rfl ?_
  first | refine Rg.tm ⟨_,rfl,rfl⟩ rfl (t_leqT rfl rfl (by omega)) rfl ?_ | refine Rg.tm ⟨_,rfl,rfl⟩ rfl (t_leqF rfl rfl (by omega)) rfl ?_ | refine Rg.tm ⟨_,rfl,rfl⟩ rfl (t_leq rfl rfl) rfl ?_ | refine Rg.so rfl rfl ?_
  first | refine Rg.tm trivial rfl (t_pickT rfl rfl) rfl ?_ | refine Rg.tm trivial rfl (t_pickF rfl rfl) rfl ?_
  refine Rg.tm trivial rfl (t_move rfl) rfl ?_
  first | refine Rg.tm ⟨_,rfl,rfl⟩ rfl (t_move rfl) rfl ?_ | refine Rg.so rfl rfl ?_
  first | refine Rg.tm ⟨_,rfl,rfl⟩ rfl (t_nilCheck rfl) rfl ?_ | refine Rg.so rfl rfl ?_
  first | refine Rg.tm ⟨_,rfl,rfl⟩ rfl (t_fieldAddr fa139_0 rfl) rfl ?_ | refine Rg.so rfl rfl ?_
  first | refine Rg.tm ⟨_,rfl,rfl⟩ rfl (t_loadA rfl (by assumption) (by exact ty66)) rfl ?_ | refine Rg.so rfl rfl ?_
  first | refine Rg.tm ⟨_,rfl,rfl⟩ rfl (t_load ty137 rfl (by first | assumption | (apply Cells.get (i := 0); (case h => assumption); rfl))) rfl ?_ | refine Rg.so rfl rfl ?_
  first | refine Rg.tm ⟨_,rfl,rfl⟩ rfl (t_nilCheck rfl) rfl ?_ | refine Rg.so rfl rfl ?_
  first | refine Rg.tm ⟨_,rfl,rfl⟩ rfl (t_fieldAddr fa139_0 rfl) rfl ?_ | refine Rg.so rfl rfl ?_
  first | refine Rg.tm ⟨_,rfl,rfl⟩ rfl (t_loadA rfl (by assumption) (by exact ty66)) rfl ?_ | refine Rg.so rfl rfl ?_
  refine Rg.so rfl rfl ?_
  first | refine Rg.tm trivial rfl (t_pickT rfl rfl) rfl ?_ | refine Rg.tm trivial rfl (t_pickF rfl rfl) rfl ?_
  refine Rg.done ?_
  refine Wp.condF rfl ?_
  refine Wp.skip ?_
  refine Wp.seq (Wp.draw [0,1,2,3,4,5,6] [0] mixed (by kernel_rfl) (by kernel_rfl) ?_)
  intro w13 hx13 _
  replace hx := hx.ext hx13
  replace hv2 := hv2.ext hx13
  replace hv3 := hv3.ext hx13
  replace hv6 := hv6.ext hx13
  replace hD := hD.ext hx13
  replace hr := hr.ext hx13
  replace hcD := hcD.ext hx13
  replace hc2 := hc2.ext hx13
  replace hc3 := hc3.ext hx13
  replace hc6 := hc6.ext hx13
  refine Rg.tm trivial rfl (t_load ty60 rfl (by first | assumption | (apply Cells.get (i := 0); (case h => assumption); rfl))) rfl ?_
  refine Rg.tm trivial rfl (t_nilCheck rfl) rfl ?_
  refine Rg.tm trivial rfl (t_fieldAddr fa87_2 rfl) rfl ?_
  refine Rg.tm trivial rfl (t_load ty84 rfl (by apply Cells.get (i := 2); (case h => assumption); rfl)) rfl ?_
  refine Rg.tm trivial rfl (t_loadA rfl hc3 ty63) rfl ?_
  refine Rg.tm trivial rfl (t_load ty137 rfl (by first | assumption | (apply Cells.get (i := 0); (case h => assumption); rfl))) rfl ?_
  refine Rg.wnB trivial rfl (w_mapSet3 (key := (query,arg,idx)) key3 Tryz.underlying84 rfl rfl rfl hD.res) (by rfl) ?_
  rintro _ w14 ⟨hu14,hm14⟩
  have hkp := (hx.kp [bD,bR]).trans (hu14.kp (by simp))
  replace hv2 := hv2.upd hu14 (hD.res.ne hv2)
  replace hv6 := hv6.upd hu14 (hD.res.ne hv6)
  replace hD : DbW w14 ⟨bD,bI,bM,bR,bA,bF,ins,act,.func (.func sf) #[] cap.toArray,ups3 rs (query,arg,idx) (p,⟨(comp ins.val (query,arg,idx)).1,ins.rev,(comp ins.val (query,arg,idx)).2,0⟩),comps,clock⟩ := hD.setRes hu14 hm14 hr hnew
  have hc2 := hv2.cells
  have hc6 := hv6.cells
  have hcD := hD.var.cells
  simp only [DbQ.cells] at hcD
  refine Rg.done ?_
  refine Wp.seq (Wp.region ?_)
  refine Rg.tm trivial rfl (t_load ty60 rfl (by first | assumption | (apply Cells.get (i := 0); (case h => assumption); rfl))) rfl ?_
  refine Rg.tm trivial rfl (t_nilCheck rfl) rfl ?_
  refine Rg.tm trivial rfl (t_fieldAddr fa87_5 rfl) rfl ?_
  refine Rg.tm trivial rfl (t_load ty3 rfl (by apply Cells.get (i := 5); (case h => exact hcD); rfl)) rfl ?_
  first | refine Rg.tm trivial rfl (t_addI rfl rfl (by omega)) rfl ?_ | refine Rg.tm trivial rfl (t_add rfl rfl) rfl ?_
  refine Rg.tm trivial rfl (t_nilCheck rfl) rfl ?_
  refine Rg.tm trivial rfl (t_fieldAddr fa87_5 rfl) rfl ?_
  refine Rg.wn trivial (w_putF hD.var ty3 rfl rfl rfl rfl rfl) ?_
  rintro _ w15 ⟨hu15,hD_⟩
  replace hkp := hkp.trans (hu15.kp (by simp))
  simp only [DbQ.cells,List.set] at hD_
  replace hv6 := hv6.upd hu15 (hv6.ne hD.var (by decide))
  replace hD := hD.own (q' := ⟨bD,bI,bM,bR,bA,bF,ins,act,.func (.func sf) #[] cap.toArray,ups3 rs (query,arg,idx) (p,⟨(comp ins.val (query,arg,idx)).1,ins.rev,(comp ins.val (query,arg,idx)).2,0⟩),comps + 1,clock⟩) hu15 hD_ rfl
  have hc6 := hv6.cells
  refine Rg.done ?_
  refine Wp.seq (Wp.region ?_)
  refine Rg.tm trivial rfl (t_load ty137 rfl (by first | assumption | (apply Cells.get (i := 0); (case h => assumption); rfl))) rfl ?_
  refine Rg.tm trivial rfl (t_assign rfl) rfl ?_
  refine Rg.done ?_
  refine Wp.ret ?_
  exact ⟨[_],⟨rfl,trivial⟩,p,rfl,by have := hx0.le; omega,hD,hkp⟩
 | some pr =>
  obtain ⟨p1,r1⟩ := pr
  simp only [Option.map_some,Option.getD_some]
  obtain ⟨⟨vn1,vd1,chg1,hv1,hvn1,hvd1⟩,hs1,hz1,hne1⟩ := hD.each _ (look3_mem hlk)
  simp only at hv1 hvn1 hvd1 hs1
  have hc1 := hv1.cells
  obtain ⟨⟨vnp,vdp,chgp,hvp,hvnp,hvdp⟩,hsp,hzp,hnep⟩ := id hr
  have hcp := hvp.cells
  simp only at hvp hcp hvnp
  obtain ⟨pn1,cn1,rfl⟩ := hvn1.shape
  obtain ⟨pnp,cnp,rfl⟩ := hvnp.shape
  refine Wp.seq (Wp.draw [0,1,2,3,4,5,6,7,8,9,10,11,12,13,14,15,16,17,18,19,20,21,22,23] [] mixed (by kernel_rfl) (by kernel_rfl) ?_)
  intro w12 hx12 _
  replace hx := hx.ext hx12
  replace hv2 := hv2.ext hx12
  replace hv3 := hv3.ext hx12
  replace hv6 := hv6.ext hx12
  replace hD := hD.ext hx12
  replace hr := hr.ext hx12
  replace hcD := hcD.ext hx12
  replace hc2 := hc2.ext hx12
  replace hc3 := hc3.ext hx12
  replace hc6 := hc6.ext hx12
  replace hv1 := hv1.ext hx12
  replace hvp := hvp.ext hx12
  replace hc1 := hc1.ext hx12
  replace hcp := hcp.ext hx12
  replace hvn1 := hvn1.ext hx12
  replace hvnp := hvnp.ext hx12
  replace hvdp := hvdp.ext hx12
  refine Rg.tm trivial rfl (t_move rfl) rfl ?_
  first | refine Rg.tm trivial rfl (t_pneT pt137 rfl rfl) rfl ?_ | refine Rg.tm trivial rfl (t_pneF pt137 rfl rfl) rfl ?_
  refine Rg.tm trivial rfl (t_move rfl) rfl ?_
  first | refine Rg.tm ⟨_,rfl,rfl⟩ rfl (t_move rfl) rfl ?_ | refine Rg.so rfl rfl ?_
  first | refine Rg.tm ⟨_,rfl,rfl⟩ rfl (t_nilCheck rfl) rfl ?_ | refine Rg.so rfl rfl ?_
  first | refine Rg.tm ⟨_,rfl,rfl⟩ rfl (t_fieldAddr fa139_3 rfl) rfl ?_ | refine Rg.so rfl rfl ?_
  refine Rg.tm ⟨_,rfl,rfl⟩ rfl (t_load ty3 rfl (by apply Cells.get (i := 4); (case h => exact hc1); rfl)) rfl ?_
  first | refine Rg.tm ⟨_,rfl,rfl⟩ rfl (t_load ty137 rfl (by first | assumption | (apply Cells.get (i := 0); (case h => assumption); rfl))) rfl ?_ | refine Rg.so rfl rfl ?_
  first | refine Rg.tm ⟨_,rfl,rfl⟩ rfl (t_nilCheck rfl) rfl ?_ | refine Rg.so rfl rfl ?_
  first | refine Rg.tm ⟨_,rfl,rfl⟩ rfl (t_fieldAddr fa139_3 rfl) rfl ?_ | refine Rg.so rfl rfl ?_
  refine Rg.tm ⟨_,rfl,rfl⟩ rfl (t_load ty3 rfl (by apply Cells.get (i := 4); (case h => exact hcp); rfl)) rfl ?_
  first | refine Rg.tm ⟨_,rfl,rfl⟩ rfl (t_leqT rfl rfl (by omega)) rfl ?_ | refine Rg.tm ⟨_,rfl,rfl⟩ rfl (t_leqF rfl rfl (by omega)) rfl ?_ | refine Rg.tm ⟨_,rfl,rfl⟩ rfl (t_leq rfl rfl) rfl ?_ | refine Rg.so rfl rfl ?_
  first | refine Rg.tm trivial rfl (t_pickT rfl rfl) rfl ?_ | refine Rg.tm trivial rfl (t_pickF rfl rfl) rfl ?_
  refine Rg.tm trivial rfl (t_move rfl) rfl ?_
  first | refine Rg.tm ⟨_,rfl,rfl⟩ rfl (t_move rfl) rfl ?_ | refine Rg.so rfl rfl ?_
  first | refine Rg.tm ⟨_,rfl,rfl⟩ rfl (t_nilCheck rfl) rfl ?_ | refine Rg.so rfl rfl ?_
  first | refine Rg.tm ⟨_,rfl,rfl⟩ rfl (t_fieldAddr fa139_0 rfl) rfl ?_ | refine Rg.so rfl rfl ?_
  refine Rg.tm ⟨_,rfl,rfl⟩ rfl (t_loadA rfl (show Cells _ p1 0 [.slice pn1 _ cn1,.string r1.val.2] from Cells.sub hc1 0 2) ty66) rfl ?_
  first | refine Rg.tm ⟨_,rfl,rfl⟩ rfl (t_load ty137 rfl (by first | assumption | (apply Cells.get (i := 0); (case h => assumption); rfl))) rfl ?_ | refine Rg.so rfl rfl ?_
  first | refine Rg.tm ⟨_,rfl,rfl⟩ rfl (t_nilCheck rfl) rfl ?_ | refine Rg.so rfl rfl ?_
  first | refine Rg.tm ⟨_,rfl,rfl⟩ rfl (t_fieldAddr fa139_0 rfl) rfl ?_ | refine Rg.so rfl rfl ?_
  refine Rg.tm ⟨_,rfl,rfl⟩ rfl (t_loadA rfl (show Cells _ p 0 [.slice pnp _ cnp,.string (comp ins.val (query,arg,idx)).1.2] from Cells.sub hcp 0 2) ty66) rfl ?_
  refine Rg.wdB ⟨_,rfl,rfl⟩ rfl (w_call Tryz.call119 rfl (equalV_ok hvn1.slc (by omega) hvnp.slc)) rfl (fun _ _ h => h.2) ?_
  rintro _ w13 ⟨rfl,hx13⟩
  replace hx := hx.ext hx13
  replace hv2 := hv2.ext hx13
  replace hv3 := hv3.ext hx13
  replace hv6 := hv6.ext hx13
  replace hD := hD.ext hx13
  replace hr := hr.ext hx13
  replace hcD := hcD.ext hx13
  replace hc2 := hc2.ext hx13
  replace hc3 := hc3.ext hx13
  replace hc6 := hc6.ext hx13
  replace hv1 := hv1.ext hx13
  replace hvp := hvp.ext hx13
  replace hc1 := hc1.ext hx13
  replace hcp := hcp.ext hx13
  replace hvn1 := hvn1.ext hx13
  replace hvnp := hvnp.ext hx13
  replace hvdp := hvdp.ext hx13
  first | refine Rg.tm trivial rfl (t_pickT rfl rfl) rfl ?_ | refine Rg.tm trivial rfl (t_pickF rfl rfl) rfl ?_
  refine Rg.done ?_
  cases hbe : decide (((r1.val.1,r1.val.2) : List Int × ByteArray) = ((comp ins.val (query,arg,idx)).1.1,(comp ins.val (query,arg,idx)).1.2)) with
  | true =>
   refine Wp.condT rfl ?_
   refine Wp.draw [0,1,2,3,4,5,6,7] [0] mixed (by kernel_rfl) (by kernel_rfl) ?_
   intro w14 hx14 _
   replace hx := hx.ext hx14
   replace hv2 := hv2.ext hx14
   replace hv3 := hv3.ext hx14
   replace hv6 := hv6.ext hx14
   replace hD := hD.ext hx14
   replace hr := hr.ext hx14
   replace hcD := hcD.ext hx14
   replace hc2 := hc2.ext hx14
   replace hc3 := hc3.ext hx14
   replace hc6 := hc6.ext hx14
   replace hv1 := hv1.ext hx14
   replace hvp := hvp.ext hx14
   replace hc1 := hc1.ext hx14
   replace hcp := hcp.ext hx14
   replace hvn1 := hvn1.ext hx14
   replace hvnp := hvnp.ext hx14
   replace hvdp := hvdp.ext hx14
   have hx0le := hx0.le
   refine Rg.tm trivial rfl (t_load ty137 rfl (by first | assumption | (apply Cells.get (i := 0); (case h => assumption); rfl))) rfl ?_
   refine Rg.tm trivial rfl (t_move rfl) rfl ?_
   refine Rg.tm trivial rfl (t_nilCheck rfl) rfl ?_
   refine Rg.tm trivial rfl (t_fieldAddr fa139_2 rfl) rfl ?_
   refine Rg.tm trivial rfl (t_load ty3 rfl (by apply Cells.get (i := 3); (case h => exact hc1); rfl)) rfl ?_
   refine Rg.tm trivial rfl (t_nilCheck rfl) rfl ?_
   refine Rg.tm trivial rfl (t_fieldAddr fa139_2 rfl) rfl ?_
   refine Rg.wnB trivial rfl (w_putF hvp ty3 rfl rfl rfl rfl rfl) (by rfl) ?_
   rintro _ w15 ⟨hu15,hvp_⟩
   simp only [List.set] at hvp_
   replace hvnp := Row.upd hvnp hvp hu15 (by decide)
   replace hvdp := Row.upd hvdp hvp hu15 (by decide)
   replace hv2 := hv2.upd hu15 (hv2.ne hvp (by decide))
   replace hv3 := hv3.upd hu15 (hv3.ne hvp (by decide))
   replace hv6 := hv6.upd hu15 (hv6.ne hvp (by decide))
   replace hD := hD.updP hvp hu15 hnew
   clear hr hcD hc2 hc3 hc6 hc1 hcp hvp
   have hr : ResAt w15 p ⟨(comp ins.val (query,arg,idx)).1,ins.rev,(comp ins.val (query,arg,idx)).2,0⟩ := ⟨⟨_,vdp,chg1,hvp_,hvnp,hvdp⟩,hsm1,hsm2,hsm3⟩
   replace hx := hx.upd hu15 (by omega)
   have hcD := hD.var.cells
   simp only [DbQ.cells] at hcD
   have hc2 := hv2.cells
   have hc3 := hv3.cells
   have hc6 := hv6.cells
   refine Rg.done ?_
   refine Wp.seq (Wp.draw [0,1,2,3,4,5,6] [0] mixed (by kernel_rfl) (by kernel_rfl) ?_)
   intro w16 hx16 _
   replace hx := hx.ext hx16
   replace hv2 := hv2.ext hx16
   replace hv3 := hv3.ext hx16
   replace hv6 := hv6.ext hx16
   replace hD := hD.ext hx16
   replace hr := hr.ext hx16
   replace hcD := hcD.ext hx16
   replace hc2 := hc2.ext hx16
   replace hc3 := hc3.ext hx16
   replace hc6 := hc6.ext hx16
   refine Rg.tm trivial rfl (t_load ty60 rfl (by first | assumption | (apply Cells.get (i := 0); (case h => assumption); rfl))) rfl ?_
   refine Rg.tm trivial rfl (t_nilCheck rfl) rfl ?_
   refine Rg.tm trivial rfl (t_fieldAddr fa87_2 rfl) rfl ?_
   refine Rg.tm trivial rfl (t_load ty84 rfl (by apply Cells.get (i := 2); (case h => assumption); rfl)) rfl ?_
   refine Rg.tm trivial rfl (t_loadA rfl hc3 ty63) rfl ?_
   refine Rg.tm trivial rfl (t_load ty137 rfl (by first | assumption | (apply Cells.get (i := 0); (case h => assumption); rfl))) rfl ?_
   refine Rg.wnB trivial rfl (w_mapSet3 (key := (query,arg,idx)) key3 Tryz.underlying84 rfl rfl rfl hD.res) (by rfl) ?_
   rintro _ w17 ⟨hu17,hm17⟩
   have hkp := (hx.kp [bD,bR]).trans (hu17.kp (by simp))
   replace hv2 := hv2.upd hu17 (hD.res.ne hv2)
   replace hv6 := hv6.upd hu17 (hD.res.ne hv6)
   replace hD : DbW w17 ⟨bD,bI,bM,bR,bA,bF,ins,act,.func (.func sf) #[] cap.toArray,ups3 rs (query,arg,idx) (p,⟨(comp ins.val (query,arg,idx)).1,ins.rev,(comp ins.val (query,arg,idx)).2,0⟩),comps,clock⟩ := hD.setRes hu17 hm17 hr hnew
   have hc2 := hv2.cells
   have hc6 := hv6.cells
   have hcD := hD.var.cells
   simp only [DbQ.cells] at hcD
   refine Rg.done ?_
   refine Wp.seq (Wp.region ?_)
   refine Rg.tm trivial rfl (t_load ty60 rfl (by first | assumption | (apply Cells.get (i := 0); (case h => assumption); rfl))) rfl ?_
   refine Rg.tm trivial rfl (t_nilCheck rfl) rfl ?_
   refine Rg.tm trivial rfl (t_fieldAddr fa87_5 rfl) rfl ?_
   refine Rg.tm trivial rfl (t_load ty3 rfl (by apply Cells.get (i := 5); (case h => exact hcD); rfl)) rfl ?_
   first | refine Rg.tm trivial rfl (t_addI rfl rfl (by omega)) rfl ?_ | refine Rg.tm trivial rfl (t_add rfl rfl) rfl ?_
   refine Rg.tm trivial rfl (t_nilCheck rfl) rfl ?_
   refine Rg.tm trivial rfl (t_fieldAddr fa87_5 rfl) rfl ?_
   refine Rg.wn trivial (w_putF hD.var ty3 rfl rfl rfl rfl rfl) ?_
   rintro _ w18 ⟨hu18,hD_⟩
   replace hkp := hkp.trans (hu18.kp (by simp))
   simp only [DbQ.cells,List.set] at hD_
   replace hv6 := hv6.upd hu18 (hv6.ne hD.var (by decide))
   replace hD := hD.own (q' := ⟨bD,bI,bM,bR,bA,bF,ins,act,.func (.func sf) #[] cap.toArray,ups3 rs (query,arg,idx) (p,⟨(comp ins.val (query,arg,idx)).1,ins.rev,(comp ins.val (query,arg,idx)).2,0⟩),comps + 1,clock⟩) hu18 hD_ rfl
   have hc6 := hv6.cells
   refine Rg.done ?_
   refine Wp.seq (Wp.region ?_)
   refine Rg.tm trivial rfl (t_load ty137 rfl (by first | assumption | (apply Cells.get (i := 0); (case h => assumption); rfl))) rfl ?_
   refine Rg.tm trivial rfl (t_assign rfl) rfl ?_
   refine Rg.done ?_
   refine Wp.ret ?_
   exact ⟨[_],⟨rfl,trivial⟩,p,rfl,by have := hx0.le; omega,hD,hkp⟩
  | false =>
   refine Wp.condF rfl ?_
   refine Wp.skip ?_
   refine Wp.seq (Wp.draw [0,1,2,3,4,5,6] [0] mixed (by kernel_rfl) (by kernel_rfl) ?_)
   intro w14 hx14 _
   replace hx := hx.ext hx14
   replace hv2 := hv2.ext hx14
   replace hv3 := hv3.ext hx14
   replace hv6 := hv6.ext hx14
   replace hD := hD.ext hx14
   replace hr := hr.ext hx14
   replace hcD := hcD.ext hx14
   replace hc2 := hc2.ext hx14
   replace hc3 := hc3.ext hx14
   replace hc6 := hc6.ext hx14
   replace hv1 := hv1.ext hx14
   replace hvp := hvp.ext hx14
   replace hc1 := hc1.ext hx14
   replace hcp := hcp.ext hx14
   replace hvn1 := hvn1.ext hx14
   replace hvnp := hvnp.ext hx14
   replace hvdp := hvdp.ext hx14
   refine Rg.tm trivial rfl (t_load ty60 rfl (by first | assumption | (apply Cells.get (i := 0); (case h => assumption); rfl))) rfl ?_
   refine Rg.tm trivial rfl (t_nilCheck rfl) rfl ?_
   refine Rg.tm trivial rfl (t_fieldAddr fa87_2 rfl) rfl ?_
   refine Rg.tm trivial rfl (t_load ty84 rfl (by apply Cells.get (i := 2); (case h => assumption); rfl)) rfl ?_
   refine Rg.tm trivial rfl (t_loadA rfl hc3 ty63) rfl ?_
   refine Rg.tm trivial rfl (t_load ty137 rfl (by first | assumption | (apply Cells.get (i := 0); (case h => assumption); rfl))) rfl ?_
   refine Rg.wnB trivial rfl (w_mapSet3 (key := (query,arg,idx)) key3 Tryz.underlying84 rfl rfl rfl hD.res) (by rfl) ?_
   rintro _ w15 ⟨hu15,hm15⟩
   have hkp := (hx.kp [bD,bR]).trans (hu15.kp (by simp))
   replace hv2 := hv2.upd hu15 (hD.res.ne hv2)
   replace hv6 := hv6.upd hu15 (hD.res.ne hv6)
   replace hD : DbW w15 ⟨bD,bI,bM,bR,bA,bF,ins,act,.func (.func sf) #[] cap.toArray,ups3 rs (query,arg,idx) (p,⟨(comp ins.val (query,arg,idx)).1,ins.rev,(comp ins.val (query,arg,idx)).2,0⟩),comps,clock⟩ := hD.setRes hu15 hm15 hr hnew
   have hc2 := hv2.cells
   have hc6 := hv6.cells
   have hcD := hD.var.cells
   simp only [DbQ.cells] at hcD
   refine Rg.done ?_
   refine Wp.seq (Wp.region ?_)
   refine Rg.tm trivial rfl (t_load ty60 rfl (by first | assumption | (apply Cells.get (i := 0); (case h => assumption); rfl))) rfl ?_
   refine Rg.tm trivial rfl (t_nilCheck rfl) rfl ?_
   refine Rg.tm trivial rfl (t_fieldAddr fa87_5 rfl) rfl ?_
   refine Rg.tm trivial rfl (t_load ty3 rfl (by apply Cells.get (i := 5); (case h => exact hcD); rfl)) rfl ?_
   first | refine Rg.tm trivial rfl (t_addI rfl rfl (by omega)) rfl ?_ | refine Rg.tm trivial rfl (t_add rfl rfl) rfl ?_
   refine Rg.tm trivial rfl (t_nilCheck rfl) rfl ?_
   refine Rg.tm trivial rfl (t_fieldAddr fa87_5 rfl) rfl ?_
   refine Rg.wn trivial (w_putF hD.var ty3 rfl rfl rfl rfl rfl) ?_
   rintro _ w16 ⟨hu16,hD_⟩
   replace hkp := hkp.trans (hu16.kp (by simp))
   simp only [DbQ.cells,List.set] at hD_
   replace hv6 := hv6.upd hu16 (hv6.ne hD.var (by decide))
   replace hD := hD.own (q' := ⟨bD,bI,bM,bR,bA,bF,ins,act,.func (.func sf) #[] cap.toArray,ups3 rs (query,arg,idx) (p,⟨(comp ins.val (query,arg,idx)).1,ins.rev,(comp ins.val (query,arg,idx)).2,0⟩),comps + 1,clock⟩) hu16 hD_ rfl
   have hc6 := hv6.cells
   refine Rg.done ?_
   refine Wp.seq (Wp.region ?_)
   refine Rg.tm trivial rfl (t_load ty137 rfl (by first | assumption | (apply Cells.get (i := 0); (case h => assumption); rfl))) rfl ?_
   refine Rg.tm trivial rfl (t_assign rfl) rfl ?_
   refine Rg.done ?_
   refine Wp.ret ?_
   exact ⟨[_],⟨rfl,trivial⟩,p,rfl,by have := hx0.le; omega,hD,hkp⟩
end Go.Proofs.YtliofpegbcegiaaGreatDoor
namespace Go.Proofs.YtliofpegbcegiaaGreatDoor
set_option maxRecDepth 20000
open Go.Gx Go.RowKit Go.Lib
theorem t_makeI {P : Program} {n : Nat} {L : Env} {w : World} {d : Option Tmp} {ty : TypeId} {pos : String} {af : Array Edge} {g : Option (Nat × Bool)} {t : TypeId} {x : Operand} {v u : Value} (hu : ∀ w,(Instr.makeInterface t v).run P w = .ok u w) (hx : evO L x = some v) : Tm P n ⟨d,.makeInterface t x,ty,pos,af,g⟩ L w u := fun a ha w' _ => by
 simp [execOp,ha.eval hx,hu]
theorem mkI (x : Int) (w : World) : (Instr.makeInterface 151 (.agg #[.int .i64 x])).run Tryz.prog w = .ok (.iface 151 (.agg #[.int .i64 x])) w := by kernel_rfl
abbrev Fs := Nat → Prop
def Und (F : Fs) (n : Nat) : Prop := ∀ z,F z → z < n
structure Bw (F : Fs) (w w' : World) : Prop where
 os : w'.os = w.os
 tape : w'.tape = w.tape
 output : w'.output = w.output
 size : w.heap.size ≤ w'.heap.size
 block : ∀ k,F k → w'.heap[k]? = w.heap[k]?
theorem Bw.refl (F : Fs) (w : World) : Bw F w w := ⟨rfl,rfl,rfl,Nat.le_refl _,fun _ _ => rfl⟩
theorem Bw.trans {F : Fs} {a b c : World} (h : Bw F a b) (k : Bw F b c) : Bw F a c := ⟨k.os.trans h.os,k.tape.trans h.tape,k.output.trans h.output,Nat.le_trans h.size k.size,fun i hi => (k.block i hi).trans (h.block i hi)⟩
structure Kd (F : Fs) (w w' : World) : Prop where
 fl : Und F w.heap.size
 base : Bw F w w'
 var : ∀ b cs t,t ≠ 87 → t ≠ 139 → Var w b cs t → Var w' b cs t
theorem Kd.refl {F : Fs} {w : World} (h : Und F w.heap.size) : Kd F w w := ⟨h,Bw.refl _ _,fun _ _ _ _ _ h => h⟩
theorem Kd.trans {F : Fs} {a b c : World} (h : Kd F a b) (k : Kd F b c) : Kd F a c := ⟨h.fl,h.base.trans k.base,fun x cs t h1 h2 h3 => k.var x cs t h1 h2 (h.var x cs t h1 h2 h3)⟩
theorem Kd.le {F : Fs} {w w' : World} (h : Kd F w w') : w.heap.size ≤ w'.heap.size := h.base.size
theorem Kd.le' {F : Fs} {w w' : World} (h : Kd F w w') : Und F w'.heap.size := fun z hz => Nat.lt_of_lt_of_le (h.fl z hz) h.le
theorem Kd.ext {F : Fs} {a b c : World} (h : Kd F a b) (k : Ext b c) : Kd F a c := ⟨h.fl,h.base.trans ⟨k.os,k.tape,k.output,k.size,fun i hi => k.block i (h.le' i hi)⟩,fun x cs t h1 h2 h3 => (h.var x cs t h1 h2 h3).ext k⟩
theorem Kd.upd {F : Fs} {b : Nat} {a w w' : World} (h : Kd F a w) (k : Upd b w w') (hB : ¬ F b) (hne : ∀ x cs t,t ≠ 87 → t ≠ 139 → Var a x cs t → x ≠ b) : Kd F a w' :=
 ⟨h.fl,h.base.trans ⟨k.os,k.tape,k.output,k.size ▸ Nat.le_refl _,fun i hi => k.block i fun e => hB (e ▸ hi)⟩,fun x cs t h1 h2 h3 => (h.var x cs t h1 h2 h3).upd k (hne x cs t h1 h2 h3)⟩
theorem Kd.updV {F : Fs} {b t0 : Nat} {cs0 : List Value} {a w w' : World} (h : Kd F a w) (k : Upd b w w') (hB : ¬ F b) (hv : Var w b cs0 t0) (ht : t0 = 87 ∨ t0 = 139) : Kd F a w' :=
 h.upd k hB fun x cs t h1 h2 h3 => (h.var x cs t h1 h2 h3).ne hv (by rcases ht with rfl | rfl <;> assumption)
theorem Kd.updM {F : Fs} {b : Nat} {l : List (K3 × Value)} {a w w' : World} (h : Kd F a w) (k : Upd b w w') (hB : ¬ F b) (hm : MapR w b l) : Kd F a w' :=
 h.upd k hB fun x cs t h1 h2 h3 => hm.ne (h.var x cs t h1 h2 h3)
theorem Kd.updN {F : Fs} {b : Nat} {a w w' : World} (h : Kd F a w) (k : Upd b w w') (hb : a.heap.size ≤ b) : Kd F a w' :=
 h.upd k (fun hf => by have := h.fl b hf; omega) fun x cs t h1 h2 h3 => by have := h3.lt; omega
theorem Kd.kp {F : Fs} {Z : List Nat} {a w w' : World} (h : Kd F a w) (k : Kp Z w w') (hZ : ∀ z ∈ Z,¬ F z ∧ ∀ x cs t,t ≠ 87 → t ≠ 139 → Var w x cs t → x ≠ z) : Kd F a w' :=
 ⟨h.fl,h.base.trans ⟨k.base.os,k.base.tape,k.base.output,k.base.size,fun i hi => k.block i (h.le' i hi) fun hm => (hZ i hm).1 hi⟩,fun x cs t h1 h2 h3 => by
  have := h.var x cs t h1 h2 h3
  exact this.kp k fun hm => (hZ x hm).2 x cs t h1 h2 this rfl⟩
theorem Ext.kd {F : Fs} {w0 w w' : World} (h : Ext w0 w) (k : Kd F w w') (hF : ∀ z,z < w0.heap.size → F z) : Ext w0 w' := ⟨k.base.os.trans h.os,k.base.tape.trans h.tape,k.base.output.trans h.output,Nat.le_trans h.le k.le,fun i hi => (k.base.block i (hF i hi)).trans (h.block i hi)⟩
def Ka (b : Nat) (w w' : World) : Prop := Kp [b] w w'
theorem Ka.ext {b : Nat} {a w w' : World} (h : Ka b a w) (k : Ext w w') : Ka b a w' := Kp.trans h (k.kp _)
structure Floor (F : Fs) (q : DbQ) : Prop where
 d : ¬ F q.bD
 i : ¬ F q.bI
 m : ¬ F q.bM
 r : ¬ F q.bR
 a : ¬ F q.bA
 e : ∀ x ∈ q.rs,¬ F x.2.1
theorem ups_ups {α : Type} : ∀ (l : List (K3 × α)) (k : K3) (a b : α),ups3 (ups3 l k a) k b = ups3 l k b
 | [],k,a,b => by simp [ups3]
 | x :: l,k,a,b => by
  by_cases h : x.1 = k
  ·rw [show ups3 (x :: l) k a = (k,a) :: l from if_pos h,show ups3 (x :: l) k b = (k,b) :: l from if_pos h]
   exact if_pos rfl
  ·rw [show ups3 (x :: l) k a = x :: ups3 l k a from if_neg h,show ups3 (x :: l) k b = x :: ups3 l k b from if_neg h,show ups3 (x :: ups3 l k a) k b = x :: ups3 (ups3 l k a) k b from if_neg h,ups_ups l k a b]
theorem del_ups_nil {α : Type} (k : K3) (v : α) : del3 (ups3 [] k v) k = [] := by simp [ups3,del3]
theorem recompute_panics {w : World} {q : DbQ} {sf : FuncId} {cap : List Value} {query arg idx : Int} (hD : DbW w q) (hq : q.stop = .func (.func sf) #[] cap.toArray) (hcf : ∀ (args : Array Value) (w : World),(callFunc sf args).run Tryz.prog w = .ok (.enter sf args) w)
  (hst : ∀ w',Ext w w' → Cl Tryz.prog sf (([] : List Value) ++ cap).toArray w' (fun u w'' => u = .bool true ∧ Ext w' w'')) :
  ClP Tryz.prog 102 #[.pointer (some ⟨q.bD,0,none⟩),.agg #[.int .i64 query,.int .i64 arg,.int .i64 idx]] w (fun c w' => c = [{ v := .iface 151 (.agg #[.int .i64 12]),recovered := false }] ∧ Ext w w') := by
 have hx := Ext.refl w
 obtain ⟨bD,bI,bM,bR,bA,bF,ins,act,stop,rs,comps,clock⟩ := q
 simp only at hq
 subst hq
 have hcD := hD.var.cells
 simp only [DbQ.cells] at hcD
 refine ClP.enter Tryz.func102 rfl Tryz.ntmps102 rfl ?_
 refine Wpp.seq (Wp.region ?_)
 refine Rg.wd trivial (w_boxed rfl rfl) rfl ?_
 rintro _ w1 ⟨b2,rfl,qb2,hx1,hv2⟩
 replace hx := hx.ext hx1
 replace hD := hD.ext hx1
 replace hcD := hcD.ext hx1
 have hc2 := hv2.cells
 refine Rg.wd trivial (w_boxed rfl rfl) rfl ?_
 rintro _ w2 ⟨b3,rfl,qb3,hx2,hv3⟩
 replace hx := hx.ext hx2
 replace hD := hD.ext hx2
 replace hcD := hcD.ext hx2
 replace hv2 := hv2.ext hx2
 replace hc2 := hc2.ext hx2
 have hc3 := hv3.cells
 refine Rg.tm trivial rfl (t_assign rfl) rfl ?_
 refine Rg.done ?_
 refine Wpp.seqP ?_
 refine Wpp.seq (Wp.region ?_)
 refine Rg.tm trivial rfl (t_load ty60 rfl (by first | assumption | (apply Cells.get (i := 0); (case h => assumption); rfl))) rfl ?_
 refine Rg.tm trivial rfl (t_nilCheck rfl) rfl ?_
 refine Rg.tm trivial rfl (t_fieldAddr fa87_4 rfl) rfl ?_
 refine Rg.tm trivial rfl (t_load ty23 rfl (by apply Cells.get (i := 4); (case h => assumption); rfl)) rfl ?_
 refine Rg.tm trivial rfl (t_fnNe Tryz.underlying23 rfl rfl) rfl ?_
 refine Rg.tm trivial rfl (t_move rfl) rfl ?_
 first | refine Rg.tm ⟨_,rfl,rfl⟩ rfl (t_load ty60 rfl (by first | assumption | (apply Cells.get (i := 0); (case h => assumption); rfl))) rfl ?_ | refine Rg.so rfl rfl ?_
 first | refine Rg.tm ⟨_,rfl,rfl⟩ rfl (t_nilCheck rfl) rfl ?_ | refine Rg.so rfl rfl ?_
 first | refine Rg.tm ⟨_,rfl,rfl⟩ rfl (t_fieldAddr fa87_4 rfl) rfl ?_ | refine Rg.so rfl rfl ?_
 first | refine Rg.tm ⟨_,rfl,rfl⟩ rfl (t_load ty23 rfl (by apply Cells.get (i := 4); (case h => assumption); rfl)) rfl ?_ | refine Rg.so rfl rfl ?_
 refine Rg.wd ⟨_,rfl,rfl⟩ (w_callK (vs := []) (cap := cap) rfl hcf rfl (hst _ hx)) rfl ?_
 rintro _ w3 ⟨rfl,hx3⟩
 replace hx := hx.ext hx3
 replace hD := hD.ext hx3
 replace hcD := hcD.ext hx3
 replace hv2 := hv2.ext hx3
 replace hc2 := hc2.ext hx3
 replace hv3 := hv3.ext hx3
 replace hc3 := hc3.ext hx3
 first | refine Rg.tm trivial rfl (t_pickT rfl rfl) rfl ?_ | refine Rg.tm trivial rfl (t_pickF rfl rfl) rfl ?_
 refine Rg.done ?_
 refine Wpp.condT rfl ?_
 refine Wpp.region' (pre := [_,_]) (o := _) (post := []) rfl ?_
 refine Rg.tm trivial rfl (t_build (bd151_0 _) rfl) rfl ?_
 refine Rg.tm trivial rfl (t_makeI (mkI _) rfl) rfl ?_
 refine Rg.done ⟨trivial,?_⟩
 intro a ha Q next hn
 exact p_panic rfl (fun _ => rfl) a ha Q next (fun c w' h => hn c w' ⟨h.1,by rw [← h.2]; exact hx⟩)
theorem update_hit {w : World} {q : DbQ} {B : Fs} {p : Nat} {r : Res} {query arg idx : Int} (hD : DbW w q) (hfl : Floor B q) (hB : Und B w.heap.size) (hact : q.act = []) (hl : look3 q.rs (query,arg,idx) = some (p,r)) (hok : okI q.ins r = true) (hcl : 0 ≤ q.clock ∧ q.clock ≤ 1000000000) :
  Cl Tryz.prog 91 #[.pointer (some ⟨q.bD,0,none⟩),.agg #[.int .i64 query,.int .i64 arg,.int .i64 idx]] w (fun u w' => u = .pointer (some ⟨p,0,none⟩) ∧ DbW w' { q with rs := ups3 q.rs (query,arg,idx) (p,⟨r.val,q.ins.rev,r.deps,q.clock + 1⟩),clock := q.clock + 1,act := [] } ∧
   Floor B { q with rs := ups3 q.rs (query,arg,idx) (p,⟨r.val,q.ins.rev,r.deps,q.clock + 1⟩),clock := q.clock + 1,act := [] } ∧ Kd B w w') := by
 have hfp : ¬ B p := hfl.e _ (look3_mem hl)
 have hx := Ext.refl w
 obtain ⟨bD,bI,bM,bR,bA,bF,ins,act,stop,rs,comps,clock⟩ := q
 simp only at hact hl hok hcl
 subst hact
 have hcD := hD.var.cells
 simp only [DbQ.cells] at hcD
 refine Cl.enter Tryz.func91 rfl Tryz.ntmps91 rfl rfl ?_
 refine Wp.seq (Wp.region ?_)
 refine Rg.wd trivial (w_boxed rfl rfl) rfl ?_
 rintro _ w1 ⟨b3,rfl,qb3,hx1,hv3⟩
 replace hx := hx.ext hx1
 replace hD := hD.ext hx1
 replace hcD := hcD.ext hx1
 have hc3 := hv3.cells
 refine Rg.tm trivial rfl (t_assign rfl) rfl ?_
 refine Rg.done ?_
 refine Wp.seq ?_
 refine Wp.seq (Wp.draw [0,1,2,3,4,5,6] [] mixed (by kernel_rfl) (by kernel_rfl) ?_)
 intro w2 hx2 _
 replace hx := hx.ext hx2
 replace hD := hD.ext hx2
 replace hcD := hcD.ext hx2
 replace hv3 := hv3.ext hx2
 replace hc3 := hc3.ext hx2
 refine Rg.tm trivial rfl (t_move rfl) rfl ?_
 refine Rg.tm trivial rfl (t_nilCheck rfl) rfl ?_
 refine Rg.tm trivial rfl (t_fieldAddr fa87_3 rfl) rfl ?_
 refine Rg.tm trivial rfl (t_load ty85 rfl (by apply Cells.get (i := 3); (case h => assumption); rfl)) rfl ?_
 refine Rg.tm trivial rfl (t_loadA rfl hc3 ty63) rfl ?_
 refine Rg.tm trivial rfl (t_lookup3 (key := (query,arg,idx)) key3 Tryz.underlying85 Tryz.zeroValue3 rfl rfl hD.act) rfl ?_
 rw [show (look3 ([] : List (K3 × Value)) (query,arg,idx)).getD (.int .i64 0) = .int .i64 0 from rfl]
 first | refine Rg.tm trivial rfl (t_neqT rfl rfl (by omega)) rfl ?_ | refine Rg.tm trivial rfl (t_neqF rfl rfl (by omega)) rfl ?_ | refine Rg.tm trivial rfl (t_neq rfl rfl) rfl ?_
 refine Rg.done ?_
 refine Wp.condF rfl ?_
 refine Wp.skip ?_
 refine Wp.seq (Wp.draw [0,1,2,3,4,5] [0] mixed (by kernel_rfl) (by kernel_rfl) ?_)
 intro w3 hx3 _
 replace hx := hx.ext hx3
 replace hD := hD.ext hx3
 replace hcD := hcD.ext hx3
 replace hv3 := hv3.ext hx3
 replace hc3 := hc3.ext hx3
 refine Rg.tm trivial rfl (t_move rfl) rfl ?_
 refine Rg.tm trivial rfl (t_nilCheck rfl) rfl ?_
 refine Rg.tm trivial rfl (t_fieldAddr fa87_3 rfl) rfl ?_
 refine Rg.tm trivial rfl (t_load ty85 rfl (by apply Cells.get (i := 3); (case h => assumption); rfl)) rfl ?_
 refine Rg.tm trivial rfl (t_loadA rfl hc3 ty63) rfl ?_
 refine Rg.wnB trivial rfl (w_mapSet3 (key := (query,arg,idx)) key3 Tryz.underlying85 rfl rfl rfl hD.act) (by rfl) ?_
 rintro _ w4 ⟨hu4,hm4⟩
 have ka : Ka bA w w4 := (hx.kp [bA]).trans (hu4.kp (by simp))
 have kd := ((Kd.refl hB).ext hx).updM hu4 hfl.a hD.act
 replace hv3 := hv3.upd hu4 (hD.act.ne hv3)
 replace hD : DbW w4 ⟨bD,bI,bM,bR,bA,bF,ins,ups3 [] (query,arg,idx) (.int .i64 1),stop,rs,comps,clock⟩ := hD.setAct hu4 hm4
 clear hx hc3 hcD
 have hc3 := hv3.cells
 have hcD := hD.var.cells
 simp only [DbQ.cells] at hcD
 refine Rg.done ?_
 refine Wp.seq (Wp.draw [0,1,2,3,4,5,6] [] mixed (by kernel_rfl) (by kernel_rfl) ?_)
 intro w5 hx5 _
 replace ka := ka.ext hx5
 replace kd := kd.ext hx5
 replace hv3 := hv3.ext hx5
 replace hD := hD.ext hx5
 replace hc3 := hc3.ext hx5
 replace hcD := hcD.ext hx5
 refine Rg.tm trivial rfl (t_move rfl) rfl ?_
 refine Rg.tm trivial rfl (t_nilCheck rfl) rfl ?_
 refine Rg.tm trivial rfl (t_fieldAddr fa87_2 rfl) rfl ?_
 refine Rg.tm trivial rfl (t_load ty84 rfl (by apply Cells.get (i := 2); (case h => assumption); rfl)) rfl ?_
 refine Rg.tm trivial rfl (t_loadA rfl hc3 ty63) rfl ?_
 refine Rg.tm trivial rfl (t_lookup3 (key := (query,arg,idx)) key3 Tryz.underlying84 Tryz.zeroValue137 rfl rfl hD.res) rfl ?_
 rw [look_rptr]
 rw [hl]
 simp only [Option.map_some,Option.getD_some]
 refine Rg.tm trivial rfl (t_assign rfl) rfl ?_
 refine Rg.done ?_
 refine Wp.seq ?_
 refine Wp.seq (Wp.region ?_)
 refine Rg.tm trivial rfl (t_move rfl) rfl ?_
 first | refine Rg.tm trivial rfl (t_peqT pt137 rfl rfl) rfl ?_ | refine Rg.tm trivial rfl (t_peqF pt137 rfl rfl) rfl ?_
 refine Rg.tm trivial rfl (t_move rfl) rfl ?_
 first | refine Rg.tm ⟨_,rfl,rfl⟩ rfl (t_move rfl) rfl ?_ | refine Rg.so rfl rfl ?_
 first | refine Rg.tm ⟨_,rfl,rfl⟩ rfl (t_move rfl) rfl ?_ | refine Rg.so rfl rfl ?_
 refine Rg.wd ⟨_,rfl,rfl⟩ (w_call Tryz.call101 rfl (valid_ok hD (hD.each _ (look3_mem hl)))) rfl ?_
 rintro _ w6 ⟨rfl,hx6⟩
 replace ka := ka.ext hx6
 replace kd := kd.ext hx6
 replace hv3 := hv3.ext hx6
 replace hD := hD.ext hx6
 replace hc3 := hc3.ext hx6
 replace hcD := hcD.ext hx6
 rw [hok]
 first | refine Rg.tm ⟨_,rfl,rfl⟩ rfl (t_notB rfl) rfl ?_ | refine Rg.so rfl rfl ?_
 first | refine Rg.tm trivial rfl (t_pickT rfl rfl) rfl ?_ | refine Rg.tm trivial rfl (t_pickF rfl rfl) rfl ?_
 refine Rg.done ?_
 refine Wp.condF rfl ?_
 refine Wp.skip ?_
 refine Wp.seq (Wp.region ?_)
 obtain ⟨⟨vn,vd,chg,hvp,hvn,hvd⟩,hsm,hz,hne⟩ := hD.each _ (look3_mem hl)
 simp only at hvp hvn hvd
 have hcp := hvp.cells
 have hpB : ¬ B p := hfp
 refine Rg.tm trivial rfl (t_move rfl) rfl ?_
 refine Rg.tm trivial rfl (t_move rfl) rfl ?_
 refine Rg.tm trivial rfl (t_nilCheck rfl) rfl ?_
 refine Rg.tm trivial rfl (t_fieldAddr fa87_1 rfl) rfl ?_
 refine Rg.tm trivial rfl (t_load ty82 rfl (by apply Cells.get (i := 1); (case h => assumption); rfl)) rfl ?_
 refine Rg.wd trivial (w_call Tryz.call103 rfl (revision_ok hD.ins)) rfl ?_
 rintro _ _ ⟨rfl,rfl⟩
 refine Rg.tm trivial rfl (t_nilCheck rfl) rfl ?_
 refine Rg.tm trivial rfl (t_fieldAddr fa139_1 rfl) rfl ?_
 refine Rg.wn trivial (w_putF hvp ty3 rfl rfl rfl rfl rfl) ?_
 rintro _ w7 ⟨hu7,hvp_⟩
 simp only [List.set] at hvp_
 replace kd := kd.updV hu7 hpB hvp (.inr rfl)
 replace hv3 := hv3.upd hu7 (hv3.ne hvp (by decide))
 have hr : ResAt w7 p ⟨(r).val,ins.rev,(r).deps,(r).last⟩ := ⟨⟨vn,vd,chg,hvp_,Row.upd hvn hvp hu7 (by decide),Row.upd hvd hvp hu7 (by decide)⟩,hsm,hz,hne⟩
 have hD_ := hD.mod hl hu7 hr
 simp only [ups_ups] at hD_
 clear hD hcD hc3 hcp hvp hvn hvd
 have hD := hD_
 clear hD_ hl
 have hl : look3 (ups3 rs (query,arg,idx) (p,⟨(r).val,ins.rev,(r).deps,(r).last⟩)) (query,arg,idx) = some (p,⟨(r).val,ins.rev,(r).deps,(r).last⟩) := look_ups3 _ _ _
 have hc3 := hv3.cells
 have hcD := hD.var.cells
 simp only [DbQ.cells] at hcD
 refine Rg.done ?_
 refine Wp.seq (Wp.region ?_)
 refine Rg.tm trivial rfl (t_move rfl) rfl ?_
 refine Rg.tm trivial rfl (t_nilCheck rfl) rfl ?_
 refine Rg.tm trivial rfl (t_fieldAddr fa87_6 rfl) rfl ?_
 refine Rg.tm trivial rfl (t_load ty3 rfl (by apply Cells.get (i := 6); (case h => exact hcD); rfl)) rfl ?_
 first | refine Rg.tm trivial rfl (t_addI rfl rfl (by omega)) rfl ?_ | refine Rg.tm trivial rfl (t_add rfl rfl) rfl ?_
 refine Rg.tm trivial rfl (t_nilCheck rfl) rfl ?_
 refine Rg.tm trivial rfl (t_fieldAddr fa87_6 rfl) rfl ?_
 refine Rg.wn trivial (w_putF hD.var ty3 rfl rfl rfl rfl rfl) ?_
 rintro _ w8 ⟨hu8,hDv_⟩
 simp only [DbQ.cells,List.set] at hDv_
 replace kd := kd.updV hu8 hfl.d hD.var (.inl rfl)
 replace hv3 := hv3.upd hu8 (hv3.ne hD.var (by decide))
 replace hD := hD.own (q' := ⟨bD,bI,bM,bR,bA,bF,ins,ups3 [] (query,arg,idx) (.int .i64 1),stop,ups3 rs (query,arg,idx) (p,⟨(r).val,ins.rev,(r).deps,(r).last⟩),comps,clock + 1⟩) hu8 hDv_ rfl
 clear hcD hc3
 have hc3 := hv3.cells
 have hcD := hD.var.cells
 simp only [DbQ.cells] at hcD
 obtain ⟨⟨vn,vd,chg,hvp,hvn,hvd⟩,hsm,hz,hne⟩ := hD.each _ (look3_mem hl)
 simp only at hvp hvn hvd
 have hcp := hvp.cells
 refine Rg.done ?_
 refine Wp.seq (Wp.region ?_)
 refine Rg.tm trivial rfl (t_move rfl) rfl ?_
 refine Rg.tm trivial rfl (t_move rfl) rfl ?_
 refine Rg.tm trivial rfl (t_nilCheck rfl) rfl ?_
 refine Rg.tm trivial rfl (t_fieldAddr fa87_6 rfl) rfl ?_
 refine Rg.tm trivial rfl (t_load ty3 rfl (by apply Cells.get (i := 6); (case h => exact hcD); rfl)) rfl ?_
 refine Rg.tm trivial rfl (t_nilCheck rfl) rfl ?_
 refine Rg.tm trivial rfl (t_fieldAddr fa139_5 rfl) rfl ?_
 refine Rg.wn trivial (w_putF hvp ty3 rfl rfl rfl rfl rfl) ?_
 rintro _ w9 ⟨hu9,hvp_⟩
 simp only [List.set] at hvp_
 replace kd := kd.updV hu9 hpB hvp (.inr rfl)
 replace hv3 := hv3.upd hu9 (hv3.ne hvp (by decide))
 have hr : ResAt w9 p ⟨(r).val,ins.rev,(r).deps,clock + 1⟩ := ⟨⟨vn,vd,chg,hvp_,Row.upd hvn hvp hu9 (by decide),Row.upd hvd hvp hu9 (by decide)⟩,hsm,hz,hne⟩
 have hD_ := hD.mod hl hu9 hr
 simp only [ups_ups] at hD_
 clear hD hcD hc3 hcp hvp hvn hvd
 have hD := hD_
 clear hD_ hl
 have hl : look3 (ups3 rs (query,arg,idx) (p,⟨(r).val,ins.rev,(r).deps,clock + 1⟩)) (query,arg,idx) = some (p,⟨(r).val,ins.rev,(r).deps,clock + 1⟩) := look_ups3 _ _ _
 have hc3 := hv3.cells
 have hcD := hD.var.cells
 simp only [DbQ.cells] at hcD
 refine Rg.done ?_
 refine Wp.seq (Wp.draw [0,1,2,3,4,5] [0] mixed (by kernel_rfl) (by kernel_rfl) ?_)
 intro w10 hx10 _
 replace kd := kd.ext hx10
 replace hv3 := hv3.ext hx10
 replace hD := hD.ext hx10
 replace hc3 := hc3.ext hx10
 replace hcD := hcD.ext hx10
 refine Rg.tm trivial rfl (t_move rfl) rfl ?_
 refine Rg.tm trivial rfl (t_nilCheck rfl) rfl ?_
 refine Rg.tm trivial rfl (t_fieldAddr fa87_3 rfl) rfl ?_
 refine Rg.tm trivial rfl (t_load ty85 rfl (by apply Cells.get (i := 3); (case h => assumption); rfl)) rfl ?_
 refine Rg.tm trivial rfl (t_loadA rfl hc3 ty63) rfl ?_
 refine Rg.wnB trivial rfl (w_mapDel3 (key := (query,arg,idx)) key3 Tryz.underlying85 rfl rfl hD.act) (by rfl) ?_
 rintro _ w11 ⟨hu11,hm11⟩
 rw [del_ups_nil] at hm11
 replace kd := kd.updM hu11 hfl.a hD.act
 replace hD := hD.setAct hu11 hm11
 clear hcD hc3 hv3
 refine Rg.done ?_
 refine Wp.seq (Wp.region ?_)
 refine Rg.tm trivial rfl (t_move rfl) rfl ?_
 refine Rg.tm trivial rfl (t_assign rfl) rfl ?_
 refine Rg.done ?_
 refine Wp.ret ?_
 exact ⟨[_],⟨rfl,trivial⟩,rfl,hD,⟨hfl.d,hfl.i,hfl.m,hfl.r,hfl.a,fun x hx => by
  rcases ups3_mem hx with rfl | hx
  ·exact hfp
  ·exact hfl.e x hx⟩,kd⟩
theorem update_new {w : World} {q : DbQ} {B : Fs} {n : Nat} {sf : FuncId} {cap : List Value} {query arg idx : Int} (hD : DbW w q) (hfl : Floor B q) (hB : Und B w.heap.size) (hact : q.act = []) (hq : q.stop = .func (.func sf) #[] cap.toArray) (hcf : ∀ (args : Array Value) (w : World),(callFunc sf args).run Tryz.prog w = .ok (.enter sf args) w)
  (hst : ∀ w',Ka q.bA w w' → Cl Tryz.prog sf (([] : List Value) ++ cap).toArray w' (fun u w'' => u = .bool false ∧ Ext w' w'')) (hno : ∀ p r,look3 q.rs (query,arg,idx) = some (p,r) → okI q.ins r = false) (hn : q.ins.val (0,0,0) = ([(n : Int)],noB)) (hn20 : n ≤ 20) (hidx : 0 ≤ idx ∧ idx < n) (hcs : 0 ≤ q.comps ∧ q.comps ≤ 1000000000) (hcl : 0 ≤ q.clock ∧ q.clock ≤ 1000000000) :
  Cl Tryz.prog 91 #[.pointer (some ⟨q.bD,0,none⟩),.agg #[.int .i64 query,.int .i64 arg,.int .i64 idx]] w (fun u w' => ∃ p,u = .pointer (some ⟨p,0,none⟩) ∧ DbW w' { q with rs := ups3 q.rs (query,arg,idx) (p,⟨(comp q.ins.val (query,arg,idx)).1,q.ins.rev,(comp q.ins.val (query,arg,idx)).2,q.clock + 1⟩),comps := q.comps + 1,clock := q.clock + 1,act := [] } ∧
   Floor B { q with rs := ups3 q.rs (query,arg,idx) (p,⟨(comp q.ins.val (query,arg,idx)).1,q.ins.rev,(comp q.ins.val (query,arg,idx)).2,q.clock + 1⟩),comps := q.comps + 1,clock := q.clock + 1,act := [] } ∧ Kd B w w') := by
 have hx := Ext.refl w
 obtain ⟨bD,bI,bM,bR,bA,bF,ins,act,stop,rs,comps,clock⟩ := q
 simp only at hact hno hq hn hcs hcl
 subst hact
 have hcD := hD.var.cells
 simp only [DbQ.cells] at hcD
 subst hq
 refine Cl.enter Tryz.func91 rfl Tryz.ntmps91 rfl rfl ?_
 
 refine Wp.seq (Wp.region ?_)
 refine Rg.wd trivial (w_boxed rfl rfl) rfl ?_
 rintro _ w1 ⟨b3,rfl,qb3,hx1,hv3⟩
 replace hx := hx.ext hx1
 replace hD := hD.ext hx1
 replace hcD := hcD.ext hx1
 have hc3 := hv3.cells
 refine Rg.tm trivial rfl (t_assign rfl) rfl ?_
 refine Rg.done ?_
 refine Wp.seq ?_
 refine Wp.seq (Wp.draw [0,1,2,3,4,5,6] [] mixed (by kernel_rfl) (by kernel_rfl) ?_)
 intro w2 hx2 _
 replace hx := hx.ext hx2
 replace hD := hD.ext hx2
 replace hcD := hcD.ext hx2
 replace hv3 := hv3.ext hx2
 replace hc3 := hc3.ext hx2
 refine Rg.tm trivial rfl (t_move rfl) rfl ?_
 refine Rg.tm trivial rfl (t_nilCheck rfl) rfl ?_
 refine Rg.tm trivial rfl (t_fieldAddr fa87_3 rfl) rfl ?_
 refine Rg.tm trivial rfl (t_load ty85 rfl (by apply Cells.get (i := 3); (case h => assumption); rfl)) rfl ?_
 refine Rg.tm trivial rfl (t_loadA rfl hc3 ty63) rfl ?_
 refine Rg.tm trivial rfl (t_lookup3 (key := (query,arg,idx)) key3 Tryz.underlying85 Tryz.zeroValue3 rfl rfl hD.act) rfl ?_
 rw [show (look3 ([] : List (K3 × Value)) (query,arg,idx)).getD (.int .i64 0) = .int .i64 0 from rfl]
 first | refine Rg.tm trivial rfl (t_neqT rfl rfl (by omega)) rfl ?_ | refine Rg.tm trivial rfl (t_neqF rfl rfl (by omega)) rfl ?_ | refine Rg.tm trivial rfl (t_neq rfl rfl) rfl ?_
 refine Rg.done ?_
 refine Wp.condF rfl ?_
 refine Wp.skip ?_
 refine Wp.seq (Wp.draw [0,1,2,3,4,5] [0] mixed (by kernel_rfl) (by kernel_rfl) ?_)
 intro w3 hx3 _
 replace hx := hx.ext hx3
 replace hD := hD.ext hx3
 replace hcD := hcD.ext hx3
 replace hv3 := hv3.ext hx3
 replace hc3 := hc3.ext hx3
 refine Rg.tm trivial rfl (t_move rfl) rfl ?_
 refine Rg.tm trivial rfl (t_nilCheck rfl) rfl ?_
 refine Rg.tm trivial rfl (t_fieldAddr fa87_3 rfl) rfl ?_
 refine Rg.tm trivial rfl (t_load ty85 rfl (by apply Cells.get (i := 3); (case h => assumption); rfl)) rfl ?_
 refine Rg.tm trivial rfl (t_loadA rfl hc3 ty63) rfl ?_
 refine Rg.wnB trivial rfl (w_mapSet3 (key := (query,arg,idx)) key3 Tryz.underlying85 rfl rfl rfl hD.act) (by rfl) ?_
 rintro _ w4 ⟨hu4,hm4⟩
 have ka : Ka bA w w4 := (hx.kp [bA]).trans (hu4.kp (by simp))
 have kd := ((Kd.refl hB).ext hx).updM hu4 hfl.a hD.act
 replace hv3 := hv3.upd hu4 (hD.act.ne hv3)
 replace hD : DbW w4 ⟨bD,bI,bM,bR,bA,bF,ins,ups3 [] (query,arg,idx) (.int .i64 1),.func (.func sf) #[] cap.toArray,rs,comps,clock⟩ := hD.setAct hu4 hm4
 clear hx hc3 hcD
 have hc3 := hv3.cells
 have hcD := hD.var.cells
 simp only [DbQ.cells] at hcD
 refine Rg.done ?_
 refine Wp.seq (Wp.draw [0,1,2,3,4,5,6] [] mixed (by kernel_rfl) (by kernel_rfl) ?_)
 intro w5 hx5 _
 replace ka := ka.ext hx5
 replace kd := kd.ext hx5
 replace hv3 := hv3.ext hx5
 replace hD := hD.ext hx5
 replace hc3 := hc3.ext hx5
 replace hcD := hcD.ext hx5
 refine Rg.tm trivial rfl (t_move rfl) rfl ?_
 refine Rg.tm trivial rfl (t_nilCheck rfl) rfl ?_
 refine Rg.tm trivial rfl (t_fieldAddr fa87_2 rfl) rfl ?_
 refine Rg.tm trivial rfl (t_load ty84 rfl (by apply Cells.get (i := 2); (case h => assumption); rfl)) rfl ?_
 refine Rg.tm trivial rfl (t_loadA rfl hc3 ty63) rfl ?_
 refine Rg.tm trivial rfl (t_lookup3 (key := (query,arg,idx)) key3 Tryz.underlying84 Tryz.zeroValue137 rfl rfl hD.res) rfl ?_
 rw [look_rptr]
 refine Rg.tm trivial rfl (t_assign rfl) rfl ?_
 refine Rg.done ?_
 refine Wp.seq ?_
 cases hlk : look3 rs (query,arg,idx) with
 | none =>
  simp only [Option.map_none,Option.getD_none]
  refine Wp.seq (Wp.region ?_)
  refine Rg.tm trivial rfl (t_move rfl) rfl ?_
  first | refine Rg.tm trivial rfl (t_peqT pt137 rfl rfl) rfl ?_ | refine Rg.tm trivial rfl (t_peqF pt137 rfl rfl) rfl ?_
  refine Rg.tm trivial rfl (t_move rfl) rfl ?_
  first | refine Rg.tm ⟨_,rfl,rfl⟩ rfl (t_move rfl) rfl ?_ | refine Rg.so rfl rfl ?_
  first | refine Rg.tm ⟨_,rfl,rfl⟩ rfl (t_move rfl) rfl ?_ | refine Rg.so rfl rfl ?_
  refine Rg.so rfl rfl ?_
  first | refine Rg.tm ⟨_,rfl,rfl⟩ rfl (t_notB rfl) rfl ?_ | refine Rg.so rfl rfl ?_
  first | refine Rg.tm trivial rfl (t_pickT rfl rfl) rfl ?_ | refine Rg.tm trivial rfl (t_pickF rfl rfl) rfl ?_
  refine Rg.done ?_
  refine Wp.condT rfl ?_
  refine Wp.region ?_
  refine Rg.tm trivial rfl (t_move rfl) rfl ?_
  refine Rg.tm trivial rfl (t_loadA rfl hc3 ty63) rfl ?_
  refine Rg.wd trivial (w_call Tryz.call102 rfl (recompute_ok (q := ⟨bD,bI,bM,bR,bA,bF,ins,ups3 [] (query,arg,idx) (.int .i64 1),.func (.func sf) #[] cap.toArray,rs,comps,clock⟩) hD rfl hcf (fun w5 hx5 => hst w5 (ka.ext hx5)) hn hn20 hidx hcs)) rfl ?_
  rintro _ w6 ⟨p,rfl,hpw,hD_,hkp⟩
  have hfp : ¬ B p := fun hf => by have := kd.le' p hf; omega
  replace kd := kd.kp hkp (fun z hz => by
   rcases List.mem_cons.1 hz with rfl | hz
   ·exact ⟨hfl.d,fun x cs t h1 h2 h3 => h3.ne hD.var h1⟩
   ·obtain rfl := List.mem_singleton.1 hz
    exact ⟨hfl.r,fun x cs t h1 h2 h3 => hD.res.ne h3⟩)
  replace hv3 := hv3.kp hkp (by simp [hv3.ne hD.var (by decide),hD.res.ne hv3])
  clear hD hcD hc3
  have hD := hD_
  clear hD_
  have hc3 := hv3.cells
  have hcD := hD.var.cells
  simp only [DbQ.cells] at hcD
  have hl := look_ups3 rs (query,arg,idx) (p,(⟨(comp ins.val (query,arg,idx)).1,ins.rev,(comp ins.val (query,arg,idx)).2,0⟩ : Res))
  refine Rg.tm trivial rfl (t_assign rfl) rfl ?_
  refine Rg.done ?_
  refine Wp.seq (Wp.region ?_)
  obtain ⟨⟨vn,vd,chg,hvp,hvn,hvd⟩,hsm,hz,hne⟩ := hD.each _ (look3_mem hl)
  simp only at hvp hvn hvd
  have hcp := hvp.cells
  have hpB : ¬ B p := hfp
  refine Rg.tm trivial rfl (t_move rfl) rfl ?_
  refine Rg.tm trivial rfl (t_move rfl) rfl ?_
  refine Rg.tm trivial rfl (t_nilCheck rfl) rfl ?_
  refine Rg.tm trivial rfl (t_fieldAddr fa87_1 rfl) rfl ?_
  refine Rg.tm trivial rfl (t_load ty82 rfl (by apply Cells.get (i := 1); (case h => assumption); rfl)) rfl ?_
  refine Rg.wd trivial (w_call Tryz.call103 rfl (revision_ok hD.ins)) rfl ?_
  rintro _ _ ⟨rfl,rfl⟩
  refine Rg.tm trivial rfl (t_nilCheck rfl) rfl ?_
  refine Rg.tm trivial rfl (t_fieldAddr fa139_1 rfl) rfl ?_
  refine Rg.wn trivial (w_putF hvp ty3 rfl rfl rfl rfl rfl) ?_
  rintro _ w7 ⟨hu7,hvp_⟩
  simp only [List.set] at hvp_
  replace kd := kd.updV hu7 hpB hvp (.inr rfl)
  replace hv3 := hv3.upd hu7 (hv3.ne hvp (by decide))
  have hr : ResAt w7 p ⟨((⟨(comp ins.val (query,arg,idx)).1,ins.rev,(comp ins.val (query,arg,idx)).2,0⟩ : Res)).val,ins.rev,((⟨(comp ins.val (query,arg,idx)).1,ins.rev,(comp ins.val (query,arg,idx)).2,0⟩ : Res)).deps,((⟨(comp ins.val (query,arg,idx)).1,ins.rev,(comp ins.val (query,arg,idx)).2,0⟩ : Res)).last⟩ := ⟨⟨vn,vd,chg,hvp_,Row.upd hvn hvp hu7 (by decide),Row.upd hvd hvp hu7 (by decide)⟩,hsm,hz,hne⟩
  have hD_ := hD.mod hl hu7 hr
  simp only [ups_ups] at hD_
  clear hD hcD hc3 hcp hvp hvn hvd
  have hD := hD_
  clear hD_ hl
  have hl : look3 (ups3 rs (query,arg,idx) (p,⟨((⟨(comp ins.val (query,arg,idx)).1,ins.rev,(comp ins.val (query,arg,idx)).2,0⟩ : Res)).val,ins.rev,((⟨(comp ins.val (query,arg,idx)).1,ins.rev,(comp ins.val (query,arg,idx)).2,0⟩ : Res)).deps,((⟨(comp ins.val (query,arg,idx)).1,ins.rev,(comp ins.val (query,arg,idx)).2,0⟩ : Res)).last⟩)) (query,arg,idx) = some (p,⟨((⟨(comp ins.val (query,arg,idx)).1,ins.rev,(comp ins.val (query,arg,idx)).2,0⟩ : Res)).val,ins.rev,((⟨(comp ins.val (query,arg,idx)).1,ins.rev,(comp ins.val (query,arg,idx)).2,0⟩ : Res)).deps,((⟨(comp ins.val (query,arg,idx)).1,ins.rev,(comp ins.val (query,arg,idx)).2,0⟩ : Res)).last⟩) := look_ups3 _ _ _
  have hc3 := hv3.cells
  have hcD := hD.var.cells
  simp only [DbQ.cells] at hcD
  refine Rg.done ?_
  refine Wp.seq (Wp.region ?_)
  refine Rg.tm trivial rfl (t_move rfl) rfl ?_
  refine Rg.tm trivial rfl (t_nilCheck rfl) rfl ?_
  refine Rg.tm trivial rfl (t_fieldAddr fa87_6 rfl) rfl ?_
  refine Rg.tm trivial rfl (t_load ty3 rfl (by apply Cells.get (i := 6); (case h => exact hcD); rfl)) rfl ?_
  first | refine Rg.tm trivial rfl (t_addI rfl rfl (by omega)) rfl ?_ | refine Rg.tm trivial rfl (t_add rfl rfl) rfl ?_
  refine Rg.tm trivial rfl (t_nilCheck rfl) rfl ?_
  refine Rg.tm trivial rfl (t_fieldAddr fa87_6 rfl) rfl ?_
  refine Rg.wn trivial (w_putF hD.var ty3 rfl rfl rfl rfl rfl) ?_
  rintro _ w8 ⟨hu8,hDv_⟩
  simp only [DbQ.cells,List.set] at hDv_
  replace kd := kd.updV hu8 hfl.d hD.var (.inl rfl)
  replace hv3 := hv3.upd hu8 (hv3.ne hD.var (by decide))
  replace hD := hD.own (q' := ⟨bD,bI,bM,bR,bA,bF,ins,ups3 [] (query,arg,idx) (.int .i64 1),.func (.func sf) #[] cap.toArray,ups3 rs (query,arg,idx) (p,⟨((⟨(comp ins.val (query,arg,idx)).1,ins.rev,(comp ins.val (query,arg,idx)).2,0⟩ : Res)).val,ins.rev,((⟨(comp ins.val (query,arg,idx)).1,ins.rev,(comp ins.val (query,arg,idx)).2,0⟩ : Res)).deps,((⟨(comp ins.val (query,arg,idx)).1,ins.rev,(comp ins.val (query,arg,idx)).2,0⟩ : Res)).last⟩),comps + 1,clock + 1⟩) hu8 hDv_ rfl
  clear hcD hc3
  have hc3 := hv3.cells
  have hcD := hD.var.cells
  simp only [DbQ.cells] at hcD
  obtain ⟨⟨vn,vd,chg,hvp,hvn,hvd⟩,hsm,hz,hne⟩ := hD.each _ (look3_mem hl)
  simp only at hvp hvn hvd
  have hcp := hvp.cells
  refine Rg.done ?_
  refine Wp.seq (Wp.region ?_)
  refine Rg.tm trivial rfl (t_move rfl) rfl ?_
  refine Rg.tm trivial rfl (t_move rfl) rfl ?_
  refine Rg.tm trivial rfl (t_nilCheck rfl) rfl ?_
  refine Rg.tm trivial rfl (t_fieldAddr fa87_6 rfl) rfl ?_
  refine Rg.tm trivial rfl (t_load ty3 rfl (by apply Cells.get (i := 6); (case h => exact hcD); rfl)) rfl ?_
  refine Rg.tm trivial rfl (t_nilCheck rfl) rfl ?_
  refine Rg.tm trivial rfl (t_fieldAddr fa139_5 rfl) rfl ?_
  refine Rg.wn trivial (w_putF hvp ty3 rfl rfl rfl rfl rfl) ?_
  rintro _ w9 ⟨hu9,hvp_⟩
  simp only [List.set] at hvp_
  replace kd := kd.updV hu9 hpB hvp (.inr rfl)
  replace hv3 := hv3.upd hu9 (hv3.ne hvp (by decide))
  have hr : ResAt w9 p ⟨((⟨(comp ins.val (query,arg,idx)).1,ins.rev,(comp ins.val (query,arg,idx)).2,0⟩ : Res)).val,ins.rev,((⟨(comp ins.val (query,arg,idx)).1,ins.rev,(comp ins.val (query,arg,idx)).2,0⟩ : Res)).deps,clock + 1⟩ := ⟨⟨vn,vd,chg,hvp_,Row.upd hvn hvp hu9 (by decide),Row.upd hvd hvp hu9 (by decide)⟩,hsm,hz,hne⟩
  have hD_ := hD.mod hl hu9 hr
  simp only [ups_ups] at hD_
  clear hD hcD hc3 hcp hvp hvn hvd
  have hD := hD_
  clear hD_ hl
  have hl : look3 (ups3 rs (query,arg,idx) (p,⟨((⟨(comp ins.val (query,arg,idx)).1,ins.rev,(comp ins.val (query,arg,idx)).2,0⟩ : Res)).val,ins.rev,((⟨(comp ins.val (query,arg,idx)).1,ins.rev,(comp ins.val (query,arg,idx)).2,0⟩ : Res)).deps,clock + 1⟩)) (query,arg,idx) = some (p,⟨((⟨(comp ins.val (query,arg,idx)).1,ins.rev,(comp ins.val (query,arg,idx)).2,0⟩ : Res)).val,ins.rev,((⟨(comp ins.val (query,arg,idx)).1,ins.rev,(comp ins.val (query,arg,idx)).2,0⟩ : Res)).deps,clock + 1⟩) := look_ups3 _ _ _
  have hc3 := hv3.cells
  have hcD := hD.var.cells
  simp only [DbQ.cells] at hcD
  refine Rg.done ?_
  refine Wp.seq (Wp.draw [0,1,2,3,4,5] [0] mixed (by kernel_rfl) (by kernel_rfl) ?_)
  intro w10 hx10 _
  replace kd := kd.ext hx10
  replace hv3 := hv3.ext hx10
  replace hD := hD.ext hx10
  replace hc3 := hc3.ext hx10
  replace hcD := hcD.ext hx10
  refine Rg.tm trivial rfl (t_move rfl) rfl ?_
  refine Rg.tm trivial rfl (t_nilCheck rfl) rfl ?_
  refine Rg.tm trivial rfl (t_fieldAddr fa87_3 rfl) rfl ?_
  refine Rg.tm trivial rfl (t_load ty85 rfl (by apply Cells.get (i := 3); (case h => assumption); rfl)) rfl ?_
  refine Rg.tm trivial rfl (t_loadA rfl hc3 ty63) rfl ?_
  refine Rg.wnB trivial rfl (w_mapDel3 (key := (query,arg,idx)) key3 Tryz.underlying85 rfl rfl hD.act) (by rfl) ?_
  rintro _ w11 ⟨hu11,hm11⟩
  rw [del_ups_nil] at hm11
  replace kd := kd.updM hu11 hfl.a hD.act
  replace hD := hD.setAct hu11 hm11
  clear hcD hc3 hv3
  refine Rg.done ?_
  refine Wp.seq (Wp.region ?_)
  refine Rg.tm trivial rfl (t_move rfl) rfl ?_
  refine Rg.tm trivial rfl (t_assign rfl) rfl ?_
  refine Rg.done ?_
  refine Wp.ret ?_
  exact ⟨[_],⟨rfl,trivial⟩,p,rfl,hD,⟨hfl.d,hfl.i,hfl.m,hfl.r,hfl.a,fun x hx => by
   rcases ups3_mem hx with rfl | hx
   ·exact hfp
   ·exact hfl.e x hx⟩,kd⟩
 | some pr =>
  obtain ⟨p1,r1⟩ := pr
  have hok : okI ins r1 = false := hno _ _ hlk
  have hl := hlk
  simp only [Option.map_some,Option.getD_some]
  refine Wp.seq (Wp.region ?_)
  refine Rg.tm trivial rfl (t_move rfl) rfl ?_
  first | refine Rg.tm trivial rfl (t_peqT pt137 rfl rfl) rfl ?_ | refine Rg.tm trivial rfl (t_peqF pt137 rfl rfl) rfl ?_
  refine Rg.tm trivial rfl (t_move rfl) rfl ?_
  first | refine Rg.tm ⟨_,rfl,rfl⟩ rfl (t_move rfl) rfl ?_ | refine Rg.so rfl rfl ?_
  first | refine Rg.tm ⟨_,rfl,rfl⟩ rfl (t_move rfl) rfl ?_ | refine Rg.so rfl rfl ?_
  refine Rg.wd ⟨_,rfl,rfl⟩ (w_call Tryz.call101 rfl (valid_ok hD (hD.each _ (look3_mem hl)))) rfl ?_
  rintro _ w6 ⟨rfl,hx6⟩
  replace ka := ka.ext hx6
  replace kd := kd.ext hx6
  replace hv3 := hv3.ext hx6
  replace hD := hD.ext hx6
  replace hc3 := hc3.ext hx6
  replace hcD := hcD.ext hx6
  clear hl
  rw [hok]
  first | refine Rg.tm ⟨_,rfl,rfl⟩ rfl (t_notB rfl) rfl ?_ | refine Rg.so rfl rfl ?_
  first | refine Rg.tm trivial rfl (t_pickT rfl rfl) rfl ?_ | refine Rg.tm trivial rfl (t_pickF rfl rfl) rfl ?_
  refine Rg.done ?_
  refine Wp.condT rfl ?_
  refine Wp.region ?_
  refine Rg.tm trivial rfl (t_move rfl) rfl ?_
  refine Rg.tm trivial rfl (t_loadA rfl hc3 ty63) rfl ?_
  refine Rg.wd trivial (w_call Tryz.call102 rfl (recompute_ok (q := ⟨bD,bI,bM,bR,bA,bF,ins,ups3 [] (query,arg,idx) (.int .i64 1),.func (.func sf) #[] cap.toArray,rs,comps,clock⟩) hD rfl hcf (fun w5 hx5 => hst w5 (ka.ext hx5)) hn hn20 hidx hcs)) rfl ?_
  rintro _ w7 ⟨p,rfl,hpw,hD_,hkp⟩
  have hfp : ¬ B p := fun hf => by have := kd.le' p hf; omega
  replace kd := kd.kp hkp (fun z hz => by
   rcases List.mem_cons.1 hz with rfl | hz
   ·exact ⟨hfl.d,fun x cs t h1 h2 h3 => h3.ne hD.var h1⟩
   ·obtain rfl := List.mem_singleton.1 hz
    exact ⟨hfl.r,fun x cs t h1 h2 h3 => hD.res.ne h3⟩)
  replace hv3 := hv3.kp hkp (by simp [hv3.ne hD.var (by decide),hD.res.ne hv3])
  clear hD hcD hc3
  have hD := hD_
  clear hD_
  have hc3 := hv3.cells
  have hcD := hD.var.cells
  simp only [DbQ.cells] at hcD
  have hl := look_ups3 rs (query,arg,idx) (p,(⟨(comp ins.val (query,arg,idx)).1,ins.rev,(comp ins.val (query,arg,idx)).2,0⟩ : Res))
  refine Rg.tm trivial rfl (t_assign rfl) rfl ?_
  refine Rg.done ?_
  refine Wp.seq (Wp.region ?_)
  obtain ⟨⟨vn,vd,chg,hvp,hvn,hvd⟩,hsm,hz,hne⟩ := hD.each _ (look3_mem hl)
  simp only at hvp hvn hvd
  have hcp := hvp.cells
  have hpB : ¬ B p := hfp
  refine Rg.tm trivial rfl (t_move rfl) rfl ?_
  refine Rg.tm trivial rfl (t_move rfl) rfl ?_
  refine Rg.tm trivial rfl (t_nilCheck rfl) rfl ?_
  refine Rg.tm trivial rfl (t_fieldAddr fa87_1 rfl) rfl ?_
  refine Rg.tm trivial rfl (t_load ty82 rfl (by apply Cells.get (i := 1); (case h => assumption); rfl)) rfl ?_
  refine Rg.wd trivial (w_call Tryz.call103 rfl (revision_ok hD.ins)) rfl ?_
  rintro _ _ ⟨rfl,rfl⟩
  refine Rg.tm trivial rfl (t_nilCheck rfl) rfl ?_
  refine Rg.tm trivial rfl (t_fieldAddr fa139_1 rfl) rfl ?_
  refine Rg.wn trivial (w_putF hvp ty3 rfl rfl rfl rfl rfl) ?_
  rintro _ w8 ⟨hu8,hvp_⟩
  simp only [List.set] at hvp_
  replace kd := kd.updV hu8 hpB hvp (.inr rfl)
  replace hv3 := hv3.upd hu8 (hv3.ne hvp (by decide))
  have hr : ResAt w8 p ⟨((⟨(comp ins.val (query,arg,idx)).1,ins.rev,(comp ins.val (query,arg,idx)).2,0⟩ : Res)).val,ins.rev,((⟨(comp ins.val (query,arg,idx)).1,ins.rev,(comp ins.val (query,arg,idx)).2,0⟩ : Res)).deps,((⟨(comp ins.val (query,arg,idx)).1,ins.rev,(comp ins.val (query,arg,idx)).2,0⟩ : Res)).last⟩ := ⟨⟨vn,vd,chg,hvp_,Row.upd hvn hvp hu8 (by decide),Row.upd hvd hvp hu8 (by decide)⟩,hsm,hz,hne⟩
  have hD_ := hD.mod hl hu8 hr
  simp only [ups_ups] at hD_
  clear hD hcD hc3 hcp hvp hvn hvd
  have hD := hD_
  clear hD_ hl
  have hl : look3 (ups3 rs (query,arg,idx) (p,⟨((⟨(comp ins.val (query,arg,idx)).1,ins.rev,(comp ins.val (query,arg,idx)).2,0⟩ : Res)).val,ins.rev,((⟨(comp ins.val (query,arg,idx)).1,ins.rev,(comp ins.val (query,arg,idx)).2,0⟩ : Res)).deps,((⟨(comp ins.val (query,arg,idx)).1,ins.rev,(comp ins.val (query,arg,idx)).2,0⟩ : Res)).last⟩)) (query,arg,idx) = some (p,⟨((⟨(comp ins.val (query,arg,idx)).1,ins.rev,(comp ins.val (query,arg,idx)).2,0⟩ : Res)).val,ins.rev,((⟨(comp ins.val (query,arg,idx)).1,ins.rev,(comp ins.val (query,arg,idx)).2,0⟩ : Res)).deps,((⟨(comp ins.val (query,arg,idx)).1,ins.rev,(comp ins.val (query,arg,idx)).2,0⟩ : Res)).last⟩) := look_ups3 _ _ _
  have hc3 := hv3.cells
  have hcD := hD.var.cells
  simp only [DbQ.cells] at hcD
  refine Rg.done ?_
  refine Wp.seq (Wp.region ?_)
  refine Rg.tm trivial rfl (t_move rfl) rfl ?_
  refine Rg.tm trivial rfl (t_nilCheck rfl) rfl ?_
  refine Rg.tm trivial rfl (t_fieldAddr fa87_6 rfl) rfl ?_
  refine Rg.tm trivial rfl (t_load ty3 rfl (by apply Cells.get (i := 6); (case h => exact hcD); rfl)) rfl ?_
  first | refine Rg.tm trivial rfl (t_addI rfl rfl (by omega)) rfl ?_ | refine Rg.tm trivial rfl (t_add rfl rfl) rfl ?_
  refine Rg.tm trivial rfl (t_nilCheck rfl) rfl ?_
  refine Rg.tm trivial rfl (t_fieldAddr fa87_6 rfl) rfl ?_
  refine Rg.wn trivial (w_putF hD.var ty3 rfl rfl rfl rfl rfl) ?_
  rintro _ w9 ⟨hu9,hDv_⟩
  simp only [DbQ.cells,List.set] at hDv_
  replace kd := kd.updV hu9 hfl.d hD.var (.inl rfl)
  replace hv3 := hv3.upd hu9 (hv3.ne hD.var (by decide))
  replace hD := hD.own (q' := ⟨bD,bI,bM,bR,bA,bF,ins,ups3 [] (query,arg,idx) (.int .i64 1),.func (.func sf) #[] cap.toArray,ups3 rs (query,arg,idx) (p,⟨((⟨(comp ins.val (query,arg,idx)).1,ins.rev,(comp ins.val (query,arg,idx)).2,0⟩ : Res)).val,ins.rev,((⟨(comp ins.val (query,arg,idx)).1,ins.rev,(comp ins.val (query,arg,idx)).2,0⟩ : Res)).deps,((⟨(comp ins.val (query,arg,idx)).1,ins.rev,(comp ins.val (query,arg,idx)).2,0⟩ : Res)).last⟩),comps + 1,clock + 1⟩) hu9 hDv_ rfl
  clear hcD hc3
  have hc3 := hv3.cells
  have hcD := hD.var.cells
  simp only [DbQ.cells] at hcD
  obtain ⟨⟨vn,vd,chg,hvp,hvn,hvd⟩,hsm,hz,hne⟩ := hD.each _ (look3_mem hl)
  simp only at hvp hvn hvd
  have hcp := hvp.cells
  refine Rg.done ?_
  refine Wp.seq (Wp.region ?_)
  refine Rg.tm trivial rfl (t_move rfl) rfl ?_
  refine Rg.tm trivial rfl (t_move rfl) rfl ?_
  refine Rg.tm trivial rfl (t_nilCheck rfl) rfl ?_
  refine Rg.tm trivial rfl (t_fieldAddr fa87_6 rfl) rfl ?_
  refine Rg.tm trivial rfl (t_load ty3 rfl (by apply Cells.get (i := 6); (case h => exact hcD); rfl)) rfl ?_
  refine Rg.tm trivial rfl (t_nilCheck rfl) rfl ?_
  refine Rg.tm trivial rfl (t_fieldAddr fa139_5 rfl) rfl ?_
  refine Rg.wn trivial (w_putF hvp ty3 rfl rfl rfl rfl rfl) ?_
  rintro _ w10 ⟨hu10,hvp_⟩
  simp only [List.set] at hvp_
  replace kd := kd.updV hu10 hpB hvp (.inr rfl)
  replace hv3 := hv3.upd hu10 (hv3.ne hvp (by decide))
  have hr : ResAt w10 p ⟨((⟨(comp ins.val (query,arg,idx)).1,ins.rev,(comp ins.val (query,arg,idx)).2,0⟩ : Res)).val,ins.rev,((⟨(comp ins.val (query,arg,idx)).1,ins.rev,(comp ins.val (query,arg,idx)).2,0⟩ : Res)).deps,clock + 1⟩ := ⟨⟨vn,vd,chg,hvp_,Row.upd hvn hvp hu10 (by decide),Row.upd hvd hvp hu10 (by decide)⟩,hsm,hz,hne⟩
  have hD_ := hD.mod hl hu10 hr
  simp only [ups_ups] at hD_
  clear hD hcD hc3 hcp hvp hvn hvd
  have hD := hD_
  clear hD_ hl
  have hl : look3 (ups3 rs (query,arg,idx) (p,⟨((⟨(comp ins.val (query,arg,idx)).1,ins.rev,(comp ins.val (query,arg,idx)).2,0⟩ : Res)).val,ins.rev,((⟨(comp ins.val (query,arg,idx)).1,ins.rev,(comp ins.val (query,arg,idx)).2,0⟩ : Res)).deps,clock + 1⟩)) (query,arg,idx) = some (p,⟨((⟨(comp ins.val (query,arg,idx)).1,ins.rev,(comp ins.val (query,arg,idx)).2,0⟩ : Res)).val,ins.rev,((⟨(comp ins.val (query,arg,idx)).1,ins.rev,(comp ins.val (query,arg,idx)).2,0⟩ : Res)).deps,clock + 1⟩) := look_ups3 _ _ _
  have hc3 := hv3.cells
  have hcD := hD.var.cells
  simp only [DbQ.cells] at hcD
  refine Rg.done ?_
  refine Wp.seq (Wp.draw [0,1,2,3,4,5] [0] mixed (by kernel_rfl) (by kernel_rfl) ?_)
  intro w11 hx11 _
  replace kd := kd.ext hx11
  replace hv3 := hv3.ext hx11
  replace hD := hD.ext hx11
  replace hc3 := hc3.ext hx11
  replace hcD := hcD.ext hx11
  refine Rg.tm trivial rfl (t_move rfl) rfl ?_
  refine Rg.tm trivial rfl (t_nilCheck rfl) rfl ?_
  refine Rg.tm trivial rfl (t_fieldAddr fa87_3 rfl) rfl ?_
  refine Rg.tm trivial rfl (t_load ty85 rfl (by apply Cells.get (i := 3); (case h => assumption); rfl)) rfl ?_
  refine Rg.tm trivial rfl (t_loadA rfl hc3 ty63) rfl ?_
  refine Rg.wnB trivial rfl (w_mapDel3 (key := (query,arg,idx)) key3 Tryz.underlying85 rfl rfl hD.act) (by rfl) ?_
  rintro _ w12 ⟨hu12,hm12⟩
  rw [del_ups_nil] at hm12
  replace kd := kd.updM hu12 hfl.a hD.act
  replace hD := hD.setAct hu12 hm12
  clear hcD hc3 hv3
  refine Rg.done ?_
  refine Wp.seq (Wp.region ?_)
  refine Rg.tm trivial rfl (t_move rfl) rfl ?_
  refine Rg.tm trivial rfl (t_assign rfl) rfl ?_
  refine Rg.done ?_
  refine Wp.ret ?_
  exact ⟨[_],⟨rfl,trivial⟩,p,rfl,hD,⟨hfl.d,hfl.i,hfl.m,hfl.r,hfl.a,fun x hx => by
   rcases ups3_mem hx with rfl | hx
   ·exact hfp
   ·exact hfl.e x hx⟩,kd⟩
theorem update_pan {w : World} {q : DbQ} {B : Fs} {sf : FuncId} {cap : List Value} {query arg idx : Int} (hD : DbW w q) (hfl : Floor B q) (hB : Und B w.heap.size) (hact : q.act = []) (hq : q.stop = .func (.func sf) #[] cap.toArray) (hcf : ∀ (args : Array Value) (w : World),(callFunc sf args).run Tryz.prog w = .ok (.enter sf args) w)
  (hst : ∀ w',Ka q.bA w w' → Cl Tryz.prog sf (([] : List Value) ++ cap).toArray w' (fun u w'' => u = .bool true ∧ Ext w' w'')) (hno : ∀ p r,look3 q.rs (query,arg,idx) = some (p,r) → okI q.ins r = false) :
  ClP Tryz.prog 91 #[.pointer (some ⟨q.bD,0,none⟩),.agg #[.int .i64 query,.int .i64 arg,.int .i64 idx]] w (fun c w' => c = [{ v := .iface 151 (.agg #[.int .i64 12]),recovered := false }] ∧ ∃ a,DbW w' { q with act := a } ∧ Kd B w w') := by
 have hx := Ext.refl w
 obtain ⟨bD,bI,bM,bR,bA,bF,ins,act,stop,rs,comps,clock⟩ := q
 simp only at hact hno hq
 subst hact
 have hcD := hD.var.cells
 simp only [DbQ.cells] at hcD
 subst hq
 refine ClP.enter Tryz.func91 rfl Tryz.ntmps91 rfl ?_
 refine Wpp.seq (Wp.region ?_)
 refine Rg.wd trivial (w_boxed rfl rfl) rfl ?_
 rintro _ w1 ⟨b3,rfl,qb3,hx1,hv3⟩
 replace hx := hx.ext hx1
 replace hD := hD.ext hx1
 replace hcD := hcD.ext hx1
 have hc3 := hv3.cells
 refine Rg.tm trivial rfl (t_assign rfl) rfl ?_
 refine Rg.done ?_
 refine Wpp.seqP ?_
 refine Wpp.seq (Wp.draw [0,1,2,3,4,5,6] [] mixed (by kernel_rfl) (by kernel_rfl) ?_)
 intro w2 hx2 _
 replace hx := hx.ext hx2
 replace hD := hD.ext hx2
 replace hcD := hcD.ext hx2
 replace hv3 := hv3.ext hx2
 replace hc3 := hc3.ext hx2
 refine Rg.tm trivial rfl (t_move rfl) rfl ?_
 refine Rg.tm trivial rfl (t_nilCheck rfl) rfl ?_
 refine Rg.tm trivial rfl (t_fieldAddr fa87_3 rfl) rfl ?_
 refine Rg.tm trivial rfl (t_load ty85 rfl (by apply Cells.get (i := 3); (case h => assumption); rfl)) rfl ?_
 refine Rg.tm trivial rfl (t_loadA rfl hc3 ty63) rfl ?_
 refine Rg.tm trivial rfl (t_lookup3 (key := (query,arg,idx)) key3 Tryz.underlying85 Tryz.zeroValue3 rfl rfl hD.act) rfl ?_
 rw [show (look3 ([] : List (K3 × Value)) (query,arg,idx)).getD (.int .i64 0) = .int .i64 0 from rfl]
 first | refine Rg.tm trivial rfl (t_neqT rfl rfl (by omega)) rfl ?_ | refine Rg.tm trivial rfl (t_neqF rfl rfl (by omega)) rfl ?_ | refine Rg.tm trivial rfl (t_neq rfl rfl) rfl ?_
 refine Rg.done ?_
 refine Wpp.condF rfl ?_
 refine Wpp.of (Wp.skip ?_)
 refine Wpp.seq (Wp.draw [0,1,2,3,4,5] [0] mixed (by kernel_rfl) (by kernel_rfl) ?_)
 intro w3 hx3 _
 replace hx := hx.ext hx3
 replace hD := hD.ext hx3
 replace hcD := hcD.ext hx3
 replace hv3 := hv3.ext hx3
 replace hc3 := hc3.ext hx3
 refine Rg.tm trivial rfl (t_move rfl) rfl ?_
 refine Rg.tm trivial rfl (t_nilCheck rfl) rfl ?_
 refine Rg.tm trivial rfl (t_fieldAddr fa87_3 rfl) rfl ?_
 refine Rg.tm trivial rfl (t_load ty85 rfl (by apply Cells.get (i := 3); (case h => assumption); rfl)) rfl ?_
 refine Rg.tm trivial rfl (t_loadA rfl hc3 ty63) rfl ?_
 refine Rg.wnB trivial rfl (w_mapSet3 (key := (query,arg,idx)) key3 Tryz.underlying85 rfl rfl rfl hD.act) (by rfl) ?_
 rintro _ w4 ⟨hu4,hm4⟩
 have ka : Ka bA w w4 := (hx.kp [bA]).trans (hu4.kp (by simp))
 have kd := ((Kd.refl hB).ext hx).updM hu4 hfl.a hD.act
 replace hv3 := hv3.upd hu4 (hD.act.ne hv3)
 replace hD : DbW w4 ⟨bD,bI,bM,bR,bA,bF,ins,ups3 [] (query,arg,idx) (.int .i64 1),.func (.func sf) #[] cap.toArray,rs,comps,clock⟩ := hD.setAct hu4 hm4
 clear hx hc3 hcD
 have hc3 := hv3.cells
 have hcD := hD.var.cells
 simp only [DbQ.cells] at hcD
 refine Rg.done ?_
 refine Wpp.seq (Wp.draw [0,1,2,3,4,5,6] [] mixed (by kernel_rfl) (by kernel_rfl) ?_)
 intro w5 hx5 _
 replace ka := ka.ext hx5
 replace kd := kd.ext hx5
 replace hv3 := hv3.ext hx5
 replace hD := hD.ext hx5
 replace hc3 := hc3.ext hx5
 replace hcD := hcD.ext hx5
 refine Rg.tm trivial rfl (t_move rfl) rfl ?_
 refine Rg.tm trivial rfl (t_nilCheck rfl) rfl ?_
 refine Rg.tm trivial rfl (t_fieldAddr fa87_2 rfl) rfl ?_
 refine Rg.tm trivial rfl (t_load ty84 rfl (by apply Cells.get (i := 2); (case h => assumption); rfl)) rfl ?_
 refine Rg.tm trivial rfl (t_loadA rfl hc3 ty63) rfl ?_
 refine Rg.tm trivial rfl (t_lookup3 (key := (query,arg,idx)) key3 Tryz.underlying84 Tryz.zeroValue137 rfl rfl hD.res) rfl ?_
 rw [look_rptr]
 refine Rg.tm trivial rfl (t_assign rfl) rfl ?_
 refine Rg.done ?_
 refine Wpp.seqP ?_
 cases hlk : look3 rs (query,arg,idx) with
 | none =>
  simp only [Option.map_none,Option.getD_none]
  refine Wpp.seq (Wp.region ?_)
  refine Rg.tm trivial rfl (t_move rfl) rfl ?_
  first | refine Rg.tm trivial rfl (t_peqT pt137 rfl rfl) rfl ?_ | refine Rg.tm trivial rfl (t_peqF pt137 rfl rfl) rfl ?_
  refine Rg.tm trivial rfl (t_move rfl) rfl ?_
  first | refine Rg.tm ⟨_,rfl,rfl⟩ rfl (t_move rfl) rfl ?_ | refine Rg.so rfl rfl ?_
  first | refine Rg.tm ⟨_,rfl,rfl⟩ rfl (t_move rfl) rfl ?_ | refine Rg.so rfl rfl ?_
  refine Rg.so rfl rfl ?_
  first | refine Rg.tm ⟨_,rfl,rfl⟩ rfl (t_notB rfl) rfl ?_ | refine Rg.so rfl rfl ?_
  first | refine Rg.tm trivial rfl (t_pickT rfl rfl) rfl ?_ | refine Rg.tm trivial rfl (t_pickF rfl rfl) rfl ?_
  refine Rg.done ?_
  refine Wpp.condT rfl ?_
  refine Wpp.region' (pre := [_,_]) (o := _) (post := [_]) rfl ?_
  refine Rg.tm trivial rfl (t_move rfl) rfl ?_
  refine Rg.tm trivial rfl (t_loadA rfl hc3 ty63) rfl ?_
  refine Rg.done ⟨trivial,?_⟩
  intro a ha Q next hn
  exact p_call Tryz.call102 rfl (recompute_panics (q := ⟨bD,bI,bM,bR,bA,bF,ins,ups3 [] (query,arg,idx) (.int .i64 1),.func (.func sf) #[] cap.toArray,rs,comps,clock⟩) hD rfl hcf (fun w5 hx5 => hst w5 (ka.ext hx5))) a ha Q next (fun c w' h => hn c w' ⟨h.1,_,hD.ext h.2,kd.ext h.2⟩)
 | some pr =>
  obtain ⟨p1,r1⟩ := pr
  have hok : okI ins r1 = false := hno _ _ hlk
  have hl := hlk
  simp only [Option.map_some,Option.getD_some]
  refine Wpp.seq (Wp.region ?_)
  refine Rg.tm trivial rfl (t_move rfl) rfl ?_
  first | refine Rg.tm trivial rfl (t_peqT pt137 rfl rfl) rfl ?_ | refine Rg.tm trivial rfl (t_peqF pt137 rfl rfl) rfl ?_
  refine Rg.tm trivial rfl (t_move rfl) rfl ?_
  first | refine Rg.tm ⟨_,rfl,rfl⟩ rfl (t_move rfl) rfl ?_ | refine Rg.so rfl rfl ?_
  first | refine Rg.tm ⟨_,rfl,rfl⟩ rfl (t_move rfl) rfl ?_ | refine Rg.so rfl rfl ?_
  refine Rg.wd ⟨_,rfl,rfl⟩ (w_call Tryz.call101 rfl (valid_ok hD (hD.each _ (look3_mem hl)))) rfl ?_
  rintro _ w6 ⟨rfl,hx6⟩
  replace ka := ka.ext hx6
  replace kd := kd.ext hx6
  replace hv3 := hv3.ext hx6
  replace hD := hD.ext hx6
  replace hc3 := hc3.ext hx6
  replace hcD := hcD.ext hx6
  clear hl
  rw [hok]
  first | refine Rg.tm ⟨_,rfl,rfl⟩ rfl (t_notB rfl) rfl ?_ | refine Rg.so rfl rfl ?_
  first | refine Rg.tm trivial rfl (t_pickT rfl rfl) rfl ?_ | refine Rg.tm trivial rfl (t_pickF rfl rfl) rfl ?_
  refine Rg.done ?_
  refine Wpp.condT rfl ?_
  refine Wpp.region' (pre := [_,_]) (o := _) (post := [_]) rfl ?_
  refine Rg.tm trivial rfl (t_move rfl) rfl ?_
  refine Rg.tm trivial rfl (t_loadA rfl hc3 ty63) rfl ?_
  refine Rg.done ⟨trivial,?_⟩
  intro a ha Q next hn
  exact p_call Tryz.call102 rfl (recompute_panics (q := ⟨bD,bI,bM,bR,bA,bF,ins,ups3 [] (query,arg,idx) (.int .i64 1),.func (.func sf) #[] cap.toArray,rs,comps,clock⟩) hD rfl hcf (fun w5 hx5 => hst w5 (ka.ext hx5))) a ha Q next (fun c w' h => hn c w' ⟨h.1,_,hD.ext h.2,kd.ext h.2⟩)
end Go.Proofs.YtliofpegbcegiaaGreatDoor
