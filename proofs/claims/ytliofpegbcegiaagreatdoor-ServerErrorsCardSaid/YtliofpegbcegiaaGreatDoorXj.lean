/- The walks of memo.Computations and of the server's stop closure, respond. Printed by r5/srvs.py. -/
import Derived.Test.YtliofpegbcegiaaGreatDoorXi
set_option linter.unusedVariables false
set_option linter.unusedSimpArgs false
namespace Go.Proofs.YtliofpegbcegiaaGreatDoor
set_option maxRecDepth 20000
open Go.Gx Go.RowKit Go.Lib
theorem comps_ok {w : World} {q : DbQ} (hv : Var w q.bD q.cells 87) : Cl Tryz.prog 55 #[.pointer (some ⟨q.bD,0,none⟩)] w (fun u w' => u = .int .i64 q.comps ∧ Ext w w') := by
 have hx := Ext.refl w
 have hcD := hv.cells
 simp only [DbQ.cells] at hcD
 refine Cl.enter Tryz.func55 rfl Tryz.ntmps55 rfl rfl ?_
 refine Wp.seq (Wp.region ?_)
 refine Rg.tm trivial rfl (t_assign rfl) rfl ?_
 refine Rg.done ?_
 refine Wp.seq (Wp.region ?_)
 refine Rg.tm trivial rfl (t_move rfl) rfl ?_
 refine Rg.tm trivial rfl (t_nilCheck rfl) rfl ?_
 refine Rg.tm trivial rfl (t_fieldAddr fa87_5 rfl) rfl ?_
 refine Rg.tm trivial rfl (t_load ty3 rfl (by apply Cells.get (i := 5); (case h => assumption); rfl)) rfl ?_
 refine Rg.tm trivial rfl (t_assign rfl) rfl ?_
 refine Rg.done ?_
 refine Wp.ret ?_
 exact ⟨[_],⟨rfl,trivial⟩,rfl,hx⟩
theorem stop_ok {w : World} {q : DbQ} {bS b2 b7 b3 : Nat} {a b c e : Value} {start n : Int} (h2 : Var w b2 [.pointer (some ⟨bS,0,none⟩)] 33) (h7 : Var w b7 [.int .i64 start] 3) (h3 : Var w b3 [.int .i64 n] 3) (hS : Var w bS [a,b,c,e,.pointer (some ⟨q.bD,0,none⟩)] 70) (hv : Var w q.bD q.cells 87)
  (hcs : 0 ≤ q.comps ∧ q.comps ≤ 1000000000) (hst : 0 ≤ start ∧ start ≤ 1000000000) :
  Cl Tryz.prog 56 #[.pointer (some ⟨b2,0,none⟩),.pointer (some ⟨b7,0,none⟩),.pointer (some ⟨b3,0,none⟩)] w (fun u w' => u = .bool (decide (n ≤ q.comps - start)) ∧ Ext w w') := by
 have hx := Ext.refl w
 have hc2 := h2.cells
 have hc7 := h7.cells
 have hc3 := h3.cells
 have hcS := hS.cells
 refine Cl.enter Tryz.func56 rfl Tryz.ntmps56 rfl rfl ?_
 refine Wp.seq (Wp.region ?_)
 refine Rg.tm trivial rfl (t_assign rfl) rfl ?_
 refine Rg.done ?_
 refine Wp.seq (Wp.draw [0,1,2,3,5,7,4,6,8,9] [] mixed (by kernel_rfl) (by kernel_rfl) ?_)
 intro w1 hx1 _
 replace hx := hx.ext hx1
 replace hc2 := hc2.ext hx1
 replace hc7 := hc7.ext hx1
 replace hc3 := hc3.ext hx1
 replace hcS := hcS.ext hx1
 refine Rg.tm trivial rfl (t_load ty33 rfl (Cells.get (i := 0) hc2 rfl)) rfl ?_
 refine Rg.tm trivial rfl (t_nilCheck rfl) rfl ?_
 refine Rg.tm trivial rfl (t_fieldAddr fa70_4 rfl) rfl ?_
 refine Rg.tm trivial rfl (t_load ty60 rfl (by apply Cells.get (i := 4); (case h => assumption); rfl)) rfl ?_
 refine Rg.tm trivial rfl (t_load ty3 rfl (Cells.get (i := 0) hc7 rfl)) rfl ?_
 refine Rg.tm trivial rfl (t_load ty3 rfl (Cells.get (i := 0) hc3 rfl)) rfl ?_
 refine Rg.wdB trivial rfl (w_call Tryz.call55 rfl (comps_ok (hv.ext hx))) rfl (fun _ _ h => h.2) ?_
 rintro _ w2 ⟨rfl,hx2⟩
 replace hx := hx.ext hx2
 replace hc2 := hc2.ext hx2
 replace hc7 := hc7.ext hx2
 replace hc3 := hc3.ext hx2
 replace hcS := hcS.ext hx2
 refine Rg.tm trivial rfl (t_subI rfl rfl (by omega)) rfl ?_
 refine Rg.tm trivial rfl (t_geq rfl rfl) rfl ?_
 refine Rg.tm trivial rfl (t_assign rfl) rfl ?_
 refine Rg.done ?_
 refine Wp.ret ?_
 exact ⟨[_],⟨rfl,trivial⟩,rfl,hx⟩
theorem row_tail {w : World} {g c : Nat} {l : List Int} (h : RowI w (.slice (some ⟨g,0,none⟩) l.length c) l) (hl : l ≠ []) : RowI w (.slice (some (if c = (1 : Int).toNat then (⟨g,0,none⟩ : Addr) else ⟨g,0 + (1 : Int).toNat * 1,none⟩)) ((l.length : Int).toNat - (1 : Int).toNat) (c - (1 : Int).toNat)) l.tail := by
 have h1 : 1 ≤ l.length := List.length_pos_iff.2 hl
 have := Row.cut h h1 (Nat.le_refl _)
 unfold RowI
 rw [List.length_tail,Int.toNat_natCast,show (1 : Int).toNat = 1 from rfl]
 have e : ((l.map (Value.int .i64)).drop (1 * 1)).take ((l.length - 1) * 1) = l.tail.map (.int .i64) := by
  rw [List.take_of_length_le (by simp)]
  cases l with
  | nil => rfl
  | cons a l => simp
 rw [e] at this
 by_cases hc : c = 1
 ·rw [if_pos hc] at this ⊢; exact this
 ·rw [if_neg hc] at this ⊢
  rw [show (some (⟨g,0,none⟩ : Addr)).map (·.add (1 * 1)) = some ⟨g,0 + 1 * 1,none⟩ from rfl] at this
  exact this
theorem respond_val {F : Fs} {w : World} {bS : Nat} {q : DbQ} {vm vv vp : Value} {ms : List MD} {rev : Int} {db db' : DB} {r : Rq} {sb : Bool} {rs : Rs} {sf : FuncId} {cap : List Value} (hS : Var w bS [vm,vv,vp,.int .i64 rev,.pointer (some ⟨q.bD,0,none⟩)] 70) (hm : Row w 52 2 vm ms.length (encs mc ms)) (hA : DbA F w q db) (hF : Und F w.heap.size)
  (hcf : ∀ (args : Array Value) (w : World),(callFunc sf args).run Tryz.prog w = .ok (.enter sf args) w)
  (hst : ∀ w1 w',Ext w w1 → Kp [q.bD,q.bA] w1 w' → Var w' q.bD ({ q with stop := .func (.func sf) #[] cap.toArray } : DbQ).cells 87 → Cl Tryz.prog sf (([] : List Value) ++ cap).toArray w' (fun u w'' => u = .bool sb ∧ Ext w' w''))
  (hml : ms.length ≤ 8) (hmt : Match db.ins ms) (hqn : r.query ≠ 0) (hcs : 0 ≤ db.comps ∧ db.comps ≤ 1000000000) (hcl : 0 ≤ db.clock ∧ db.clock ≤ 1000000000) (hr : respond ms rev db r sb = some (rs,db')) :
  Cl Tryz.prog 57 #[.pointer (some ⟨bS,0,none⟩),.agg (rc r).toArray,.func (.func sf) #[] cap.toArray] w (fun u w' => (∃ vn,u = .tuple #[.agg #[.int .i64 rs.client,.int .i64 rs.id,.int .i64 rs.err,.int .i64 rs.rev,vn,.string rs.text],.int .i64 0] ∧ RowI w' vn rs.nums) ∧ (∃ q',DbA F w' q' db' ∧ q'.bD = q.bD) ∧ Kd F w w') := by
 have hx := Ext.refl w
 obtain ⟨rcl,rid,rq,ra,rn⟩ := r
 simp only [rc] at hqn hr ⊢
 obtain ⟨pm,cm,rfl⟩ := hm.shape
 have hcS := hS.cells
 refine Cl.enter Tryz.func57 rfl Tryz.ntmps57 rfl rfl ?_
 refine Wp.seq (Wp.region ?_)
 have kb4 := hx.le
 refine Rg.wd trivial (w_boxed rfl rfl) rfl ?_
 rintro _ w1 ⟨b4,rfl,qb4,hx1,hv4⟩
 replace hx := hx.ext hx1
 replace hcS := hcS.ext hx1
 replace hm := hm.ext hx1
 have hc4 := hv4.cells
 have k4 := hx.le
 refine Rg.wd trivial (w_new Tryz.zeroValue43 rfl) rfl ?_
 have kb6 := hx.le
 rintro _ w2 ⟨b6,rfl,qb6,hx2,hv6⟩
 replace hx := hx.ext hx2
 replace hcS := hcS.ext hx2
 replace hm := hm.ext hx2
 replace hv4 := hv4.ext hx2
 replace hc4 := hc4.ext hx2
 refine Rg.tm trivial rfl (t_assign rfl) rfl ?_
 refine Rg.done ?_
 refine Wp.seq (Wp.draw [0,1,2,3,4,5,6,7,8,9,10] [0] mixed (by kernel_rfl) (by kernel_rfl) ?_)
 intro w3 hx3 _
 replace hx := hx.ext hx3
 replace hcS := hcS.ext hx3
 replace hm := hm.ext hx3
 replace hv4 := hv4.ext hx3
 replace hc4 := hc4.ext hx3
 replace hv6 := hv6.ext hx3
 refine Rg.tm trivial rfl (t_fieldAddr fa27_0 rfl) rfl ?_
 refine Rg.tm trivial rfl (t_load ty3 rfl (Cells.get (i := 0) hc4 rfl)) rfl ?_
 refine Rg.tm trivial rfl (t_fieldAddr fa27_1 rfl) rfl ?_
 refine Rg.tm trivial rfl (t_load ty3 rfl (Cells.get (i := 1) hc4 rfl)) rfl ?_
 refine Rg.tm trivial rfl (t_move rfl) rfl ?_
 refine Rg.tm trivial rfl (t_nilCheck rfl) rfl ?_
 refine Rg.tm trivial rfl (t_fieldAddr fa70_3 rfl) rfl ?_
 refine Rg.tm trivial rfl (t_load ty3 rfl (Cells.get (i := 3) hcS rfl)) rfl ?_
 refine Rg.tm trivial rfl (t_build (bd43_0_1_3 _ _ _) rfl) rfl ?_
 refine Rg.wdB trivial rfl (w_new Tryz.zeroValue43 rfl) rfl (fun _ _ h => by obtain ⟨_,_,_,h,_⟩ := h; exact h) ?_
 have kb8 := hx.le
 rintro _ w4 ⟨b8,rfl,qb8,hx4,hv8⟩
 have h68 : b6 ≠ b8 := fun e => by have := hv6.lt; omega
 replace hx := hx.ext hx4
 replace hcS := hcS.ext hx4
 replace hm := hm.ext hx4
 replace hv4 := hv4.ext hx4
 replace hc4 := hc4.ext hx4
 replace hv6 := hv6.ext hx4
 refine Rg.wnB trivial rfl (w_put hv8 rfl rfl rfl ty43 rfl rfl) (by rfl) ?_
 rintro _ w5 ⟨hu5,hv8'⟩
 replace hv4 := hv4.upd hu5 (hv4.ne hv8 (by decide))
 replace hv6 := hv6.upd hu5 (fun e => by rw [e] at h68; exact h68 rfl)
 replace hm := hm.upd hv8 hu5 (by decide)
 replace hx := hx.upd hu5 (by omega)
 clear hv8 hc4 hcS
 have hv8 := hv8'
 clear hv8'
 have hc4 := hv4.cells
 refine Rg.done ?_
 refine Wp.seq (Wp.region ?_)
 refine Rg.tm trivial rfl (t_move rfl) rfl ?_
 refine Rg.tm trivial rfl (t_fieldAddr fa27_4 rfl) rfl ?_
 refine Rg.tm trivial rfl (t_load ty9 rfl (Cells.get (i := 4) hc4 rfl)) rfl ?_
 refine Rg.wd trivial (w_call Tryz.call38 rfl (index_ok (hS.ext hx) hm (by omega))) rfl ?_
 rintro _ w6 ⟨rfl,hx6⟩
 replace hx := hx.ext hx6
 replace hv4 := hv4.ext hx6
 replace hc4 := hc4.ext hx6
 replace hv6 := hv6.ext hx6
 replace hv8 := hv8.ext hx6
 replace hm := hm.ext hx6
 refine Rg.tm trivial rfl (t_assign rfl) rfl ?_
 refine Rg.done ?_
 refine Wp.seq ?_
 refine Wp.seq (Wp.region ?_)
 refine Rg.tm trivial rfl (t_move rfl) rfl ?_
 refine Rg.tm trivial rfl (t_lss rfl rfl) rfl ?_
 refine Rg.done ?_
 by_cases hi : idxM ms rn < 0
 ·rw [show decide (idxM ms rn < 0) = true from decide_eq_true hi]
  rw [show respond ms rev db ⟨rcl,rid,rq,ra,rn⟩ sb = some (⟨rcl,rid,5,rev,[],noB⟩,db) from if_pos hi] at hr
  simp only [Option.some.injEq,Prod.mk.injEq] at hr
  obtain ⟨rfl,rfl⟩ := hr
  have hc8 := hv8.cells
  refine Wp.condT rfl ?_
  refine Wp.seq (Wp.region ?_)
  refine Rg.tm trivial rfl (t_fieldAddr fa43_2 rfl) rfl ?_
  refine Rg.wn trivial (w_putF hv8 ty40 rfl rfl rfl rfl rfl) ?_
  rintro _ w7 ⟨hu7,hv8'⟩
  simp only [List.set] at hv8'
  replace hv6 := hv6.upd hu7 (fun e => by rw [e] at h68; exact h68 rfl)
  replace hx := hx.upd hu7 (by omega)
  clear hc8 hv8
  have hv8 := hv8'
  clear hv8'
  have hc8 := hv8.cells
  refine Rg.done ?_
  refine Wp.seq (Wp.region ?_)
  refine Rg.tm trivial rfl (t_loadA rfl hc8 ty43) rfl ?_
  refine Rg.wn trivial (w_put hv6 rfl rfl rfl ty43 rfl rfl) ?_
  rintro _ wZ ⟨huZ,hv6'⟩
  replace hx := hx.upd huZ (by omega)
  refine Rg.tm trivial rfl (t_assign rfl) rfl ?_
  refine Rg.done ?_
  refine Wp.ret ?_
  exact ⟨[_,_],⟨RV.cellA (vs := [_,_,_,_,_,_]) ty43 rfl hv6'.cells,rfl,trivial⟩,⟨_,rfl,Row.nil _ _ _⟩,⟨q,hA.ext hx,rfl⟩,(Kd.refl hF).ext hx⟩
 ·rw [show decide (idxM ms rn < 0) = false from decide_eq_false hi]
  obtain ⟨ix,eix,hix⟩ := idxF_lt hi
  rw [Nat.zero_add] at eix
  change idxM ms rn = (ix : Int) at eix
  have hne : ms ≠ [] := fun e => by rw [e] at hix; simp at hix
  have hR : respond ms rev db ⟨rcl,rid,rq,ra,rn⟩ sb = match db.get (rq,ra,idxM ms rn) sb with | none => none | some (v,db') => some (⟨rcl,rid,v.1.headD 0,rev,v.1.tail,v.2⟩,db') := if_neg hi
  rw [hR] at hr
  clear hR
  rw [eix] at hr ⊢
  have hqI : q.ins = db.ins := hA.rel.ins
  have hqc := hA.rel.comps
  have hqk := hA.rel.clock
  have hn : q.ins.val (0,0,0) = ([(ms.length : Int)],noB) := by rw [hqI]; exact hmt.1 hne
  cases hg : db.get (rq,ra,(ix : Int)) sb with
  | none => rw [hg] at hr; cases hr
  | some vd =>
   obtain ⟨v,db2⟩ := vd
   rw [hg] at hr
   simp only [Option.some.injEq,Prod.mk.injEq] at hr
   obtain ⟨rfl,rfl⟩ := hr
   have hSc := hS.ext hx
   refine Wp.condF rfl ?_
   refine Wp.skip ?_
   refine Wp.seq (Wp.cut (fun L w' => ∃ i : Nat × Nat × Nat,Sub ((fun i => [(6,.pointer (some ⟨b6,0,none⟩)),(7,.int .i64 0),(8,.pointer (some ⟨b8,0,none⟩)),(10,.pointer (some ⟨i.1,0,none⟩)),(11,.int .i64 0)]) i) L ∧ (fun i w' => w'.ownsRow w.heap.size 3 1 (.slice (some ⟨i.2.1,0,none⟩) v.1.length i.2.2) v.1.length (v.1.map (.int .i64)) ∧ v.1 ≠ [] ∧ v.1.length ≤ 50 ∧ Var w' i.1 [.slice (some ⟨i.2.1,0,none⟩) v.1.length i.2.2,.string v.2] 66 ∧ i.1 ≠ b6 ∧ i.1 ≠ b8 ∧ w.heap.size ≤ i.1 ∧ Var w' b6 [.int .i64 0,.int .i64 0,.int .i64 0,.int .i64 0,.slice none 0 0,.string ⟨#[]⟩] 43 ∧ Var w' b8 [.int .i64 rcl,.int .i64 rid,.int .i64 0,.int .i64 rev,.slice none 0 0,.string ⟨#[]⟩] 43 ∧ (∃ q',DbA F w' q' db2 ∧ q'.bD = q.bD) ∧ Kd F w w') i w') ?_ ?_)
   ·skip
    refine Wp.drawU (fun w' => Var w' bS [.slice pm ms.length cm,vv,vp,.int .i64 rev,.pointer (some ⟨q.bD,0,none⟩)] 70 ∧ Var w' b4 [.int .i64 rcl,.int .i64 rid,.int .i64 rq,.int .i64 ra,.string rn] 27) mixed ?_
    intro w7 hx7 hh7
    replace hx := hx.ext hx7
    replace hSc := hSc.ext hx7
    replace hv4 := hv4.ext hx7
    replace hv6 := hv6.ext hx7
    replace hv8 := hv8.ext hx7
    refine ⟨⟨hSc,hv4⟩,?_⟩
    have hxs := Ext.refl w7
    refine Qs.tame (by kernel_rfl) 0 rfl (by kernel_rfl) trivial (ts fun wz hkz => by exact t_move rfl) rfl ?_
    refine Qs.tame (by kernel_rfl) 1 rfl (by kernel_rfl) trivial (ts fun wz hkz => by exact t_nilCheck rfl) rfl ?_
    refine Qs.tame (by kernel_rfl) 2 rfl (by kernel_rfl) trivial (ts fun wz hkz => by exact t_fieldAddr fa70_4 rfl) rfl ?_
    refine Qs.tame (by kernel_rfl) 3 rfl (by kernel_rfl) trivial (ts fun wz hkz => by have yS := hkz.1.cells; have y4 := hkz.2.cells; exact t_load ty60 rfl (Cells.get (i := 4) yS rfl)) rfl ?_
    refine Qs.tame (by kernel_rfl) 4 rfl (by kernel_rfl) trivial (ts fun wz hkz => by exact t_fieldAddr fa27_2 rfl) rfl ?_
    refine Qs.tame (by kernel_rfl) 5 rfl (by kernel_rfl) trivial (ts fun wz hkz => by have yS := hkz.1.cells; have y4 := hkz.2.cells; exact t_load ty3 rfl (Cells.get (i := 2) y4 rfl)) rfl ?_
    refine Qs.tame (by kernel_rfl) 6 rfl (by kernel_rfl) trivial (ts fun wz hkz => by exact t_fieldAddr fa27_3 rfl) rfl ?_
    refine Qs.tame (by kernel_rfl) 7 rfl (by kernel_rfl) trivial (ts fun wz hkz => by have yS := hkz.1.cells; have y4 := hkz.2.cells; exact t_load ty3 rfl (Cells.get (i := 3) y4 rfl)) rfl ?_
    refine Qs.tame (by kernel_rfl) 8 rfl (by kernel_rfl) trivial (ts fun wz hkz => by exact t_move rfl) rfl ?_
    refine Qs.tame (by kernel_rfl) 9 rfl (by kernel_rfl) trivial (ts fun wz hkz => by exact t_build (bd63_0_1_2 _ _ _) rfl) rfl ?_
    refine Qs.tame (by kernel_rfl) 10 rfl (by kernel_rfl) trivial (ts fun wz hkz => by exact t_move rfl) rfl ?_
    refine Qs.alt2 (i := 11) (j := 15) (by kernel_rfl) ?_ ?_
    ·skip
     refine ⟨_,_,rfl,trivial,w_call Tryz.call73 rfl (getUntil_val (n := ms.length) (hA.ext hx) (fun z hz => Nat.lt_of_lt_of_le (hF z hz) hx.le) hcf (fun w' hk hv => hst _ w' hx hk hv) hqn hn (by omega) ⟨by omega,by omega⟩ (by omega) (by omega) hg),rfl,fun _ _ h => by obtain ⟨_,_,kd⟩ := h; exact ⟨kd.var _ _ _ (by decide) (by decide) hSc,kd.var _ _ _ (by decide) (by decide) hv4⟩,?_⟩
     rintro _ w8 ⟨⟨pn,cn,rfl,ho,hne1,hl50⟩,⟨q',hA',hbD'⟩,kd⟩
     obtain ⟨g,rfl⟩ : ∃ g,pn = some ⟨g,0,none⟩ := by
      rcases own_wholeG ho with ⟨_,h0⟩ | ⟨g,cap,sp,e,_⟩
      ·exact absurd (List.length_eq_zero_iff.1 h0) hne1
      ·injection e with e _ _; exact ⟨g,e⟩
     replace ho := own_mono ho hx.le
     replace hSc := kd.var _ _ _ (by decide) (by decide) hSc
     replace hv4 := kd.var _ _ _ (by decide) (by decide) hv4
     replace hv6 := kd.var _ _ _ (by decide) (by decide) hv6
     replace hv8 := kd.var _ _ _ (by decide) (by decide) hv8
     replace kd := ((Kd.refl hF).ext hx).trans kd
     have hxe := hx
     clear hx
     have ho_ := ho
     clear ho
     have ho := ho_
     clear ho_
     refine Qs.tame (by kernel_rfl) 12 rfl (by kernel_rfl) trivial (ts fun wz hkz => by exact t_move rfl) rfl ?_
     refine Qs.tame (by kernel_rfl) 13 rfl (by kernel_rfl) trivial (ts fun wz hkz => by exact t_extract rfl rfl) rfl ?_
     refine Qs.tame (by kernel_rfl) 14 rfl (by kernel_rfl) trivial (ts fun wz hkz => by exact t_extract rfl rfl) rfl ?_
     refine Qs.alt1 (i := 15) (by kernel_rfl) ?_
     refine ⟨_,_,rfl,trivial,w_new Tryz.zeroValue66 rfl,rfl,fun _ _ h => by obtain ⟨_,_,_,h,_⟩ := h; exact ⟨hSc.ext h,hv4.ext h⟩,?_⟩
     rintro _ w9 ⟨b10,rfl,qb10,hx9,hv10⟩
     have h108 : b8 ≠ b10 := fun e => by have := hv8.lt; omega
     have h106 : b6 ≠ b10 := fun e => by have := hv6.lt; omega
     have kb10 : w.heap.size ≤ b10 := by have := kd.le; omega
     replace ho := own_ext ho hx9
     replace hSc := hSc.ext hx9
     replace hv4 := hv4.ext hx9
     replace hv6 := hv6.ext hx9
     replace hv8 := hv8.ext hx9
     replace kd := kd.ext hx9
     replace hA' := hA'.ext hx9
     refine Qs.alt1 (i := 16) (by kernel_rfl) ?_
     refine ⟨_,_,rfl,trivial,w_put hv10 rfl rfl rfl ty66 rfl rfl,rfl,fun _ _ h => ⟨hSc.upd h.1 (hSc.ne hv10 (by decide)),hv4.upd h.1 (hv4.ne hv10 (by decide))⟩,?_⟩
     rintro _ w10 ⟨hu10,hv10'⟩
     replace ho := own_upd ho hv10 hu10 (by decide)
     replace hSc := hSc.upd hu10 (hSc.ne hv10 (by decide))
     replace hv4 := hv4.upd hu10 (hv4.ne hv10 (by decide))
     replace hv6 := hv6.upd hu10 h106
     replace hv8 := hv8.upd hu10 h108
     replace kd := kd.updN hu10 kb10
     replace hA' : DbA F _ q' db2 := ⟨hA'.D.upd hv10 hu10 (by decide) (by decide) (by decide) (by decide) (by decide) (by decide),hA'.fl,hA'.rel,hA'.act,hA'.stop⟩
     clear hv10
     have hv10 := hv10'
     clear hv10'
     refine Qs.tame (by kernel_rfl) 17 rfl (by kernel_rfl) trivial (ts fun wz hkz => by exact t_assign rfl) rfl ?_
     refine Qs.done (by kernel_rfl) ?_
     exact ⟨(b10,g,cn),by repeat (first | exact .nil | refine .cons rfl ?_),ho,hne1,hl50,hv10,Ne.symm h106,Ne.symm h108,kb10,hv6,hv8,⟨q',hA',hbD'⟩,kd⟩
    ·skip
     refine ⟨_,_,rfl,trivial,w_new Tryz.zeroValue66 rfl,rfl,fun _ _ h => by obtain ⟨_,_,_,h,_⟩ := h; exact ⟨hSc.ext h,hv4.ext h⟩,?_⟩
     rintro _ w8 ⟨b10,rfl,qb10,hx8,hv10⟩
     have h108 : b8 ≠ b10 := fun e => by have := hv8.lt; omega
     have h106 : b6 ≠ b10 := fun e => by have := hv6.lt; omega
     have kb10 : w.heap.size ≤ b10 := by have := hx.le; omega
     replace hx := hx.ext hx8
     replace hSc := hSc.ext hx8
     replace hv4 := hv4.ext hx8
     replace hv6 := hv6.ext hx8
     replace hv8 := hv8.ext hx8
     replace hxs := hxs.ext hx8
     refine Qs.alt1 (i := 11) (by kernel_rfl) ?_
     refine ⟨_,_,rfl,trivial,w_call Tryz.call73 rfl (getUntil_val (n := ms.length) (hA.ext hx) (fun z hz => Nat.lt_of_lt_of_le (hF z hz) hx.le) hcf (fun w' hk hv => hst _ w' hx hk hv) hqn hn (by omega) ⟨by omega,by omega⟩ (by omega) (by omega) hg),rfl,fun _ _ h => by obtain ⟨_,_,kd⟩ := h; exact ⟨kd.var _ _ _ (by decide) (by decide) hSc,kd.var _ _ _ (by decide) (by decide) hv4⟩,?_⟩
     rintro _ w9 ⟨⟨pn,cn,rfl,ho,hne1,hl50⟩,⟨q',hA',hbD'⟩,kd⟩
     obtain ⟨g,rfl⟩ : ∃ g,pn = some ⟨g,0,none⟩ := by
      rcases own_wholeG ho with ⟨_,h0⟩ | ⟨g,cap,sp,e,_⟩
      ·exact absurd (List.length_eq_zero_iff.1 h0) hne1
      ·injection e with e _ _; exact ⟨g,e⟩
     replace ho := own_mono ho hx.le
     replace hSc := kd.var _ _ _ (by decide) (by decide) hSc
     replace hv4 := kd.var _ _ _ (by decide) (by decide) hv4
     replace hv6 := kd.var _ _ _ (by decide) (by decide) hv6
     replace hv8 := kd.var _ _ _ (by decide) (by decide) hv8
     replace hv10 := kd.var _ _ _ (by decide) (by decide) hv10
     replace kd := ((Kd.refl hF).ext hx).trans kd
     have hxe := hx
     clear hx
     have ho_ := ho
     clear ho
     have ho := ho_
     clear ho_
     refine Qs.tame (by kernel_rfl) 12 rfl (by kernel_rfl) trivial (ts fun wz hkz => by exact t_move rfl) rfl ?_
     refine Qs.tame (by kernel_rfl) 13 rfl (by kernel_rfl) trivial (ts fun wz hkz => by exact t_extract rfl rfl) rfl ?_
     refine Qs.tame (by kernel_rfl) 14 rfl (by kernel_rfl) trivial (ts fun wz hkz => by exact t_extract rfl rfl) rfl ?_
     refine Qs.alt1 (i := 16) (by kernel_rfl) ?_
     refine ⟨_,_,rfl,trivial,w_put hv10 rfl rfl rfl ty66 rfl rfl,rfl,fun _ _ h => ⟨hSc.upd h.1 (hSc.ne hv10 (by decide)),hv4.upd h.1 (hv4.ne hv10 (by decide))⟩,?_⟩
     rintro _ w10 ⟨hu10,hv10'⟩
     replace ho := own_upd ho hv10 hu10 (by decide)
     replace hSc := hSc.upd hu10 (hSc.ne hv10 (by decide))
     replace hv4 := hv4.upd hu10 (hv4.ne hv10 (by decide))
     replace hv6 := hv6.upd hu10 h106
     replace hv8 := hv8.upd hu10 h108
     replace kd := kd.updN hu10 kb10
     replace hA' : DbA F _ q' db2 := ⟨hA'.D.upd hv10 hu10 (by decide) (by decide) (by decide) (by decide) (by decide) (by decide),hA'.fl,hA'.rel,hA'.act,hA'.stop⟩
     clear hv10
     have hv10 := hv10'
     clear hv10'
     refine Qs.tame (by kernel_rfl) 17 rfl (by kernel_rfl) trivial (ts fun wz hkz => by exact t_assign rfl) rfl ?_
     refine Qs.done (by kernel_rfl) ?_
     exact ⟨(b10,g,cn),by repeat (first | exact .nil | refine .cons rfl ?_),ho,hne1,hl50,hv10,Ne.symm h106,Ne.symm h108,kb10,hv6,hv8,⟨q',hA',hbD'⟩,kd⟩
   ·clear hx hSc hv4 hv6 hv8 hm
    rintro L' w5 ⟨⟨b10,g,cn⟩,hs,ho,hne1,hl50,hv10,h106,h108,kb10,hv6,hv8,hAq,kd⟩
    refine Wp.sub hs ?_
    simp only at ho hv10 h106 h108 kb10 ⊢
    refine Wp.seq ?_
    refine Wp.seq (Wp.region ?_)
    refine Rg.tm trivial rfl (t_move rfl) rfl ?_
    first | refine Rg.tm trivial rfl (t_neqT rfl rfl (by omega)) rfl ?_ | refine Rg.tm trivial rfl (t_neqF rfl rfl (by omega)) rfl ?_ | refine Rg.tm trivial rfl (t_neq rfl rfl) rfl ?_
    refine Rg.done ?_
    obtain ⟨q',hA',hbD'⟩ := hAq
    have hlen1 : 1 ≤ v.1.length := List.length_pos_iff.2 hne1
    have hcn : v.1.length ≤ cn := by
     rcases own_wholeG ho with ⟨h,_⟩ | ⟨g2,cap,sp,e,_,h,_⟩
     ·cases h
     ·injection e with _ _ e3; omega
    have hrow : RowI _ _ v.1 := RowI.own ho
    have htail := row_tail hrow hne1
    have hhd : ∀ w' : World,w'.ownsRow w.heap.size 3 1 (.slice (some ⟨g,0,none⟩) v.1.length cn) v.1.length (v.1.map (.int .i64)) → w'.cell? ⟨g,0 + (0 : Int).toNat * 1,none⟩ = some (.int .i64 (v.1.headD 0)) := fun w' ho => by
     have h := ho.cellAt 0 (by omega)
     rw [show 0 + (0 : Int).toNat * 1 = 0 from rfl,h]
     cases hv1 : v.1 with
     | nil => exact absurd hv1 hne1
     | cons a l => rfl
    clear hrow
    refine Wp.condF rfl ?_
    refine Wp.skip ?_
    refine Wp.seq (Wp.drawS (fun w' => Var w' b10 [.slice (some ⟨g,0,none⟩) v.1.length cn,.string v.2] 66 ∧ w'.ownsRow w.heap.size 3 1 (.slice (some ⟨g,0,none⟩) v.1.length cn) v.1.length (v.1.map (.int .i64))) [0,1,2,3,4,5,6,7,8,9,10,11,12,13,14] [] mixed (by kernel_rfl) (by kernel_rfl) (by rfl) ?_)
    intro w7 hx7 hh7
    replace kd := kd.ext hx7
    replace hv10 := hv10.ext hx7
    replace hv6 := hv6.ext hx7
    replace hv8 := hv8.ext hx7
    replace hA' := hA'.ext hx7
    replace htail := htail.ext hx7
    replace ho := own_ext ho hx7
    refine ⟨⟨hv10,ho⟩,?_⟩
    refine Rs.tm trivial rfl (ts fun wz hkz => by exact t_fieldAddr fa66_0 rfl) rfl ?_
    refine Rs.tm trivial rfl (ts fun wz hkz => t_load ty41 rfl (Cells.get (i := 0) hkz.1.cells rfl)) rfl ?_
    refine Rs.tm trivial rfl (ts fun wz hkz => by have y10 := hkz.1.cells; exact t_indexAddrL Tryz.underlying41 ty3 rfl rfl (by omega)) rfl ?_
    refine Rs.tm trivial rfl (ts fun wz hkz => t_load ty3 rfl (hhd wz hkz.2)) rfl ?_
    refine Rs.tm trivial rfl (ts fun wz hkz => by exact t_fieldAddr fa66_0 rfl) rfl ?_
    refine Rs.tm trivial rfl (ts fun wz hkz => t_load ty41 rfl (Cells.get (i := 0) hkz.1.cells rfl)) rfl ?_
    first | refine Rs.tm trivial rfl (ts fun wz hkz => by exact t_sliceL Tryz.underlying41 ty3 rfl rfl rfl (by omega)) rfl ?_ | refine Rs.tm trivial rfl (ts fun wz hkz => by exact t_sliceN Tryz.underlying41 ty3 rfl rfl rfl) rfl ?_
    refine Rs.tm trivial rfl (ts fun wz hkz => by exact t_fieldAddr fa66_1 rfl) rfl ?_
    refine Rs.tm trivial rfl (ts fun wz hkz => t_load ty9 rfl (Cells.get (i := 1) hkz.1.cells rfl)) rfl ?_
    refine Rs.tm trivial rfl (ts fun wz hkz => by exact t_fieldAddr fa43_2 rfl) rfl ?_
    refine Rs.wn trivial rfl (by first | exact w_putF hv8 ty40 rfl rfl rfl rfl rfl | exact w_putF hv8 ty41 rfl rfl rfl rfl rfl | exact w_putF hv8 ty9 rfl rfl rfl rfl rfl) (fun _ => by exact fun _ _ h => ⟨hv10.upd h.1 h108,own_upd ho hv8 h.1 (by decide)⟩) ?_
    rintro _ w8 ⟨hu8,hv8'⟩
    simp only [List.set] at hv8'
    replace hv6 := hv6.upd hu8 (fun e => by rw [e] at h68; exact h68 rfl)
    replace kd := kd.updN hu8 (by omega)
    replace hA' : DbA F _ q' db2 := ⟨hA'.D.upd hv8 hu8 (by decide) (by decide) (by decide) (by decide) (by decide) (by decide),hA'.fl,hA'.rel,hA'.act,hA'.stop⟩
    replace htail := htail.upd hv8 hu8 (by decide)
    replace hv10 := hv10.upd hu8 h108
    replace ho := own_upd ho hv8 hu8 (by decide)
    clear hv8
    have hv8 := hv8'
    clear hv8'
    refine Rs.tm trivial rfl (ts fun wz hkz => by exact t_fieldAddr fa43_4 rfl) rfl ?_
    refine Rs.wn trivial rfl (by first | exact w_putF hv8 ty40 rfl rfl rfl rfl rfl | exact w_putF hv8 ty41 rfl rfl rfl rfl rfl | exact w_putF hv8 ty9 rfl rfl rfl rfl rfl) (fun _ => by exact fun _ _ h => ⟨hv10.upd h.1 h108,own_upd ho hv8 h.1 (by decide)⟩) ?_
    rintro _ w9 ⟨hu9,hv8'⟩
    simp only [List.set] at hv8'
    replace hv6 := hv6.upd hu9 (fun e => by rw [e] at h68; exact h68 rfl)
    replace kd := kd.updN hu9 (by omega)
    replace hA' : DbA F _ q' db2 := ⟨hA'.D.upd hv8 hu9 (by decide) (by decide) (by decide) (by decide) (by decide) (by decide),hA'.fl,hA'.rel,hA'.act,hA'.stop⟩
    replace htail := htail.upd hv8 hu9 (by decide)
    replace hv10 := hv10.upd hu9 h108
    replace ho := own_upd ho hv8 hu9 (by decide)
    clear hv8
    have hv8 := hv8'
    clear hv8'
    refine Rs.tm trivial rfl (ts fun wz hkz => by exact t_fieldAddr fa43_5 rfl) rfl ?_
    refine Rs.wn trivial rfl (by first | exact w_putF hv8 ty40 rfl rfl rfl rfl rfl | exact w_putF hv8 ty41 rfl rfl rfl rfl rfl | exact w_putF hv8 ty9 rfl rfl rfl rfl rfl) (fun _ => by exact fun _ _ h => ⟨hv10.upd h.1 h108,own_upd ho hv8 h.1 (by decide)⟩) ?_
    rintro _ w10 ⟨hu10,hv8'⟩
    simp only [List.set] at hv8'
    replace hv6 := hv6.upd hu10 (fun e => by rw [e] at h68; exact h68 rfl)
    replace kd := kd.updN hu10 (by omega)
    replace hA' : DbA F _ q' db2 := ⟨hA'.D.upd hv8 hu10 (by decide) (by decide) (by decide) (by decide) (by decide) (by decide),hA'.fl,hA'.rel,hA'.act,hA'.stop⟩
    replace htail := htail.upd hv8 hu10 (by decide)
    replace hv10 := hv10.upd hu10 h108
    replace ho := own_upd ho hv8 hu10 (by decide)
    clear hv8
    have hv8 := hv8'
    clear hv8'
    refine Rs.done ?_
    refine Wp.seq (Wp.region ?_)
    have hc8 := hv8.cells
    refine Rg.tm trivial rfl (t_loadA rfl hc8 ty43) rfl ?_
    refine Rg.wn trivial (w_put hv6 rfl rfl rfl ty43 rfl rfl) ?_
    rintro _ wZ ⟨huZ,hv6'⟩
    replace kd := kd.updN huZ (by omega)
    replace htail := htail.upd hv6 huZ (by decide)
    replace hA' : DbA F _ q' db2 := ⟨hA'.D.upd hv6 huZ (by decide) (by decide) (by decide) (by decide) (by decide) (by decide),hA'.fl,hA'.rel,hA'.act,hA'.stop⟩
    refine Rg.tm trivial rfl (t_assign rfl) rfl ?_
    refine Rg.done ?_
    refine Wp.ret ?_
    exact ⟨[_,_],⟨RV.cellA (vs := [_,_,_,_,_,_]) ty43 rfl hv6'.cells,rfl,trivial⟩,⟨_,rfl,htail⟩,⟨q',hA',hbD'⟩,kd⟩
theorem respond_none {F : Fs} {w : World} {bS : Nat} {q : DbQ} {vm vv vp : Value} {ms : List MD} {rev : Int} {db : DB} {r : Rq} {sb : Bool} {sf : FuncId} {cap : List Value} (hS : Var w bS [vm,vv,vp,.int .i64 rev,.pointer (some ⟨q.bD,0,none⟩)] 70) (hm : Row w 52 2 vm ms.length (encs mc ms)) (hA : DbA F w q db) (hF : Und F w.heap.size)
  (hcf : ∀ (args : Array Value) (w : World),(callFunc sf args).run Tryz.prog w = .ok (.enter sf args) w)
  (hst : ∀ w1 w',Ext w w1 → Kp [q.bD,q.bA] w1 w' → Var w' q.bD ({ q with stop := .func (.func sf) #[] cap.toArray } : DbQ).cells 87 → Cl Tryz.prog sf (([] : List Value) ++ cap).toArray w' (fun u w'' => u = .bool sb ∧ Ext w' w''))
  (hml : ms.length ≤ 8) (hmt : Match db.ins ms) (hqn : r.query ≠ 0) (hcs : 0 ≤ db.comps ∧ db.comps ≤ 1000000000) (hcl : 0 ≤ db.clock ∧ db.clock ≤ 1000000000) (hr : respond ms rev db r sb = none) :
  Cl Tryz.prog 57 #[.pointer (some ⟨bS,0,none⟩),.agg (rc r).toArray,.func (.func sf) #[] cap.toArray] w (fun u w' => u = .tuple #[.agg #[.int .i64 0,.int .i64 0,.int .i64 0,.int .i64 0,.slice none 0 0,.string ⟨#[]⟩],.int .i64 12] ∧ (∃ q',DbA F w' q' db ∧ q'.bD = q.bD) ∧ Kd F w w') := by
 have hx := Ext.refl w
 obtain ⟨rcl,rid,rq,ra,rn⟩ := r
 simp only [rc] at hqn hr ⊢
 obtain ⟨pm,cm,rfl⟩ := hm.shape
 have hcS := hS.cells
 refine Cl.enter Tryz.func57 rfl Tryz.ntmps57 rfl rfl ?_
 refine Wp.seq (Wp.region ?_)
 have kb4 := hx.le
 refine Rg.wd trivial (w_boxed rfl rfl) rfl ?_
 rintro _ w1 ⟨b4,rfl,qb4,hx1,hv4⟩
 replace hx := hx.ext hx1
 replace hcS := hcS.ext hx1
 replace hm := hm.ext hx1
 have hc4 := hv4.cells
 have k4 := hx.le
 refine Rg.wd trivial (w_new Tryz.zeroValue43 rfl) rfl ?_
 have kb6 := hx.le
 rintro _ w2 ⟨b6,rfl,qb6,hx2,hv6⟩
 replace hx := hx.ext hx2
 replace hcS := hcS.ext hx2
 replace hm := hm.ext hx2
 replace hv4 := hv4.ext hx2
 replace hc4 := hc4.ext hx2
 refine Rg.tm trivial rfl (t_assign rfl) rfl ?_
 refine Rg.done ?_
 refine Wp.seq (Wp.draw [0,1,2,3,4,5,6,7,8,9,10] [0] mixed (by kernel_rfl) (by kernel_rfl) ?_)
 intro w3 hx3 _
 replace hx := hx.ext hx3
 replace hcS := hcS.ext hx3
 replace hm := hm.ext hx3
 replace hv4 := hv4.ext hx3
 replace hc4 := hc4.ext hx3
 replace hv6 := hv6.ext hx3
 refine Rg.tm trivial rfl (t_fieldAddr fa27_0 rfl) rfl ?_
 refine Rg.tm trivial rfl (t_load ty3 rfl (Cells.get (i := 0) hc4 rfl)) rfl ?_
 refine Rg.tm trivial rfl (t_fieldAddr fa27_1 rfl) rfl ?_
 refine Rg.tm trivial rfl (t_load ty3 rfl (Cells.get (i := 1) hc4 rfl)) rfl ?_
 refine Rg.tm trivial rfl (t_move rfl) rfl ?_
 refine Rg.tm trivial rfl (t_nilCheck rfl) rfl ?_
 refine Rg.tm trivial rfl (t_fieldAddr fa70_3 rfl) rfl ?_
 refine Rg.tm trivial rfl (t_load ty3 rfl (Cells.get (i := 3) hcS rfl)) rfl ?_
 refine Rg.tm trivial rfl (t_build (bd43_0_1_3 _ _ _) rfl) rfl ?_
 refine Rg.wdB trivial rfl (w_new Tryz.zeroValue43 rfl) rfl (fun _ _ h => by obtain ⟨_,_,_,h,_⟩ := h; exact h) ?_
 have kb8 := hx.le
 rintro _ w4 ⟨b8,rfl,qb8,hx4,hv8⟩
 have h68 : b6 ≠ b8 := fun e => by have := hv6.lt; omega
 replace hx := hx.ext hx4
 replace hcS := hcS.ext hx4
 replace hm := hm.ext hx4
 replace hv4 := hv4.ext hx4
 replace hc4 := hc4.ext hx4
 replace hv6 := hv6.ext hx4
 refine Rg.wnB trivial rfl (w_put hv8 rfl rfl rfl ty43 rfl rfl) (by rfl) ?_
 rintro _ w5 ⟨hu5,hv8'⟩
 replace hv4 := hv4.upd hu5 (hv4.ne hv8 (by decide))
 replace hv6 := hv6.upd hu5 (fun e => by rw [e] at h68; exact h68 rfl)
 replace hm := hm.upd hv8 hu5 (by decide)
 replace hx := hx.upd hu5 (by omega)
 clear hv8 hc4 hcS
 have hv8 := hv8'
 clear hv8'
 have hc4 := hv4.cells
 refine Rg.done ?_
 refine Wp.seq (Wp.region ?_)
 refine Rg.tm trivial rfl (t_move rfl) rfl ?_
 refine Rg.tm trivial rfl (t_fieldAddr fa27_4 rfl) rfl ?_
 refine Rg.tm trivial rfl (t_load ty9 rfl (Cells.get (i := 4) hc4 rfl)) rfl ?_
 refine Rg.wd trivial (w_call Tryz.call38 rfl (index_ok (hS.ext hx) hm (by omega))) rfl ?_
 rintro _ w6 ⟨rfl,hx6⟩
 replace hx := hx.ext hx6
 replace hv4 := hv4.ext hx6
 replace hc4 := hc4.ext hx6
 replace hv6 := hv6.ext hx6
 replace hv8 := hv8.ext hx6
 replace hm := hm.ext hx6
 refine Rg.tm trivial rfl (t_assign rfl) rfl ?_
 refine Rg.done ?_
 refine Wp.seq ?_
 refine Wp.seq (Wp.region ?_)
 refine Rg.tm trivial rfl (t_move rfl) rfl ?_
 refine Rg.tm trivial rfl (t_lss rfl rfl) rfl ?_
 refine Rg.done ?_
 by_cases hi : idxM ms rn < 0
 ·rw [show decide (idxM ms rn < 0) = true from decide_eq_true hi]
  rw [show respond ms rev db ⟨rcl,rid,rq,ra,rn⟩ sb = some (⟨rcl,rid,5,rev,[],noB⟩,db) from if_pos hi] at hr
  cases hr
 ·rw [show decide (idxM ms rn < 0) = false from decide_eq_false hi]
  obtain ⟨ix,eix,hix⟩ := idxF_lt hi
  rw [Nat.zero_add] at eix
  change idxM ms rn = (ix : Int) at eix
  have hne : ms ≠ [] := fun e => by rw [e] at hix; simp at hix
  have hR : respond ms rev db ⟨rcl,rid,rq,ra,rn⟩ sb = match db.get (rq,ra,idxM ms rn) sb with | none => none | some (v,db') => some (⟨rcl,rid,v.1.headD 0,rev,v.1.tail,v.2⟩,db') := if_neg hi
  rw [hR] at hr
  clear hR
  rw [eix] at hr ⊢
  have hqI : q.ins = db.ins := hA.rel.ins
  have hqc := hA.rel.comps
  have hqk := hA.rel.clock
  have hn : q.ins.val (0,0,0) = ([(ms.length : Int)],noB) := by rw [hqI]; exact hmt.1 hne
  cases hg : db.get (rq,ra,(ix : Int)) sb with
  | some vd => rw [hg] at hr; cases hr
  | none =>
   have hSc := hS.ext hx
   refine Wp.condF rfl ?_
   refine Wp.skip ?_
   refine Wp.seq (Wp.cut (fun L w' => ∃ i : Nat × Nat × Nat,Sub ((fun i => [(6,.pointer (some ⟨b6,0,none⟩)),(7,.int .i64 0),(8,.pointer (some ⟨b8,0,none⟩)),(10,.pointer (some ⟨i.1,0,none⟩)),(11,.int .i64 12)]) i) L ∧ (fun i w' => Var w' i.1 [.slice none 0 0,.string ⟨#[]⟩] 66 ∧ i.1 ≠ b6 ∧ i.1 ≠ b8 ∧ w.heap.size ≤ i.1 ∧ Var w' b6 [.int .i64 0,.int .i64 0,.int .i64 0,.int .i64 0,.slice none 0 0,.string ⟨#[]⟩] 43 ∧ Var w' b8 [.int .i64 rcl,.int .i64 rid,.int .i64 0,.int .i64 rev,.slice none 0 0,.string ⟨#[]⟩] 43 ∧ (∃ q',DbA F w' q' db ∧ q'.bD = q.bD) ∧ Kd F w w') i w') ?_ ?_)
   ·skip
    refine Wp.drawU (fun w' => Var w' bS [.slice pm ms.length cm,vv,vp,.int .i64 rev,.pointer (some ⟨q.bD,0,none⟩)] 70 ∧ Var w' b4 [.int .i64 rcl,.int .i64 rid,.int .i64 rq,.int .i64 ra,.string rn] 27) mixed ?_
    intro w7 hx7 hh7
    replace hx := hx.ext hx7
    replace hSc := hSc.ext hx7
    replace hv4 := hv4.ext hx7
    replace hv6 := hv6.ext hx7
    replace hv8 := hv8.ext hx7
    refine ⟨⟨hSc,hv4⟩,?_⟩
    have hxs := Ext.refl w7
    refine Qs.tame (by kernel_rfl) 0 rfl (by kernel_rfl) trivial (ts fun wz hkz => by exact t_move rfl) rfl ?_
    refine Qs.tame (by kernel_rfl) 1 rfl (by kernel_rfl) trivial (ts fun wz hkz => by exact t_nilCheck rfl) rfl ?_
    refine Qs.tame (by kernel_rfl) 2 rfl (by kernel_rfl) trivial (ts fun wz hkz => by exact t_fieldAddr fa70_4 rfl) rfl ?_
    refine Qs.tame (by kernel_rfl) 3 rfl (by kernel_rfl) trivial (ts fun wz hkz => by have yS := hkz.1.cells; have y4 := hkz.2.cells; exact t_load ty60 rfl (Cells.get (i := 4) yS rfl)) rfl ?_
    refine Qs.tame (by kernel_rfl) 4 rfl (by kernel_rfl) trivial (ts fun wz hkz => by exact t_fieldAddr fa27_2 rfl) rfl ?_
    refine Qs.tame (by kernel_rfl) 5 rfl (by kernel_rfl) trivial (ts fun wz hkz => by have yS := hkz.1.cells; have y4 := hkz.2.cells; exact t_load ty3 rfl (Cells.get (i := 2) y4 rfl)) rfl ?_
    refine Qs.tame (by kernel_rfl) 6 rfl (by kernel_rfl) trivial (ts fun wz hkz => by exact t_fieldAddr fa27_3 rfl) rfl ?_
    refine Qs.tame (by kernel_rfl) 7 rfl (by kernel_rfl) trivial (ts fun wz hkz => by have yS := hkz.1.cells; have y4 := hkz.2.cells; exact t_load ty3 rfl (Cells.get (i := 3) y4 rfl)) rfl ?_
    refine Qs.tame (by kernel_rfl) 8 rfl (by kernel_rfl) trivial (ts fun wz hkz => by exact t_move rfl) rfl ?_
    refine Qs.tame (by kernel_rfl) 9 rfl (by kernel_rfl) trivial (ts fun wz hkz => by exact t_build (bd63_0_1_2 _ _ _) rfl) rfl ?_
    refine Qs.tame (by kernel_rfl) 10 rfl (by kernel_rfl) trivial (ts fun wz hkz => by exact t_move rfl) rfl ?_
    refine Qs.alt2 (i := 11) (j := 15) (by kernel_rfl) ?_ ?_
    ·skip
     refine ⟨_,_,rfl,trivial,w_call Tryz.call73 rfl (getUntil_none (n := ms.length) (hA.ext hx) (fun z hz => Nat.lt_of_lt_of_le (hF z hz) hx.le) hcf (fun w' hk hv => hst _ w' hx hk hv) hqn hg),rfl,fun _ _ h => by obtain ⟨_,_,kd⟩ := h; exact ⟨kd.var _ _ _ (by decide) (by decide) hSc,kd.var _ _ _ (by decide) (by decide) hv4⟩,?_⟩
     rintro _ w8 ⟨rfl,⟨q',hA',hbD'⟩,kd⟩
     replace hSc := kd.var _ _ _ (by decide) (by decide) hSc
     replace hv4 := kd.var _ _ _ (by decide) (by decide) hv4
     replace hv6 := kd.var _ _ _ (by decide) (by decide) hv6
     replace hv8 := kd.var _ _ _ (by decide) (by decide) hv8
     replace kd := ((Kd.refl hF).ext hx).trans kd
     have hxe := hx
     clear hx
     refine Qs.tame (by kernel_rfl) 12 rfl (by kernel_rfl) trivial (ts fun wz hkz => by exact t_move rfl) rfl ?_
     refine Qs.tame (by kernel_rfl) 13 rfl (by kernel_rfl) trivial (ts fun wz hkz => by exact t_extract rfl rfl) rfl ?_
     refine Qs.tame (by kernel_rfl) 14 rfl (by kernel_rfl) trivial (ts fun wz hkz => by exact t_extract rfl rfl) rfl ?_
     refine Qs.alt1 (i := 15) (by kernel_rfl) ?_
     refine ⟨_,_,rfl,trivial,w_new Tryz.zeroValue66 rfl,rfl,fun _ _ h => by obtain ⟨_,_,_,h,_⟩ := h; exact ⟨hSc.ext h,hv4.ext h⟩,?_⟩
     rintro _ w9 ⟨b10,rfl,qb10,hx9,hv10⟩
     have h108 : b8 ≠ b10 := fun e => by have := hv8.lt; omega
     have h106 : b6 ≠ b10 := fun e => by have := hv6.lt; omega
     have kb10 : w.heap.size ≤ b10 := by have := kd.le; omega
     replace hSc := hSc.ext hx9
     replace hv4 := hv4.ext hx9
     replace hv6 := hv6.ext hx9
     replace hv8 := hv8.ext hx9
     replace kd := kd.ext hx9
     replace hA' := hA'.ext hx9
     refine Qs.alt1 (i := 16) (by kernel_rfl) ?_
     refine ⟨_,_,rfl,trivial,w_put hv10 rfl rfl rfl ty66 rfl rfl,rfl,fun _ _ h => ⟨hSc.upd h.1 (hSc.ne hv10 (by decide)),hv4.upd h.1 (hv4.ne hv10 (by decide))⟩,?_⟩
     rintro _ w10 ⟨hu10,hv10'⟩
     replace hSc := hSc.upd hu10 (hSc.ne hv10 (by decide))
     replace hv4 := hv4.upd hu10 (hv4.ne hv10 (by decide))
     replace hv6 := hv6.upd hu10 h106
     replace hv8 := hv8.upd hu10 h108
     replace kd := kd.updN hu10 kb10
     replace hA' : DbA F _ q' db := ⟨hA'.D.upd hv10 hu10 (by decide) (by decide) (by decide) (by decide) (by decide) (by decide),hA'.fl,hA'.rel,hA'.act,hA'.stop⟩
     clear hv10
     have hv10 := hv10'
     clear hv10'
     refine Qs.tame (by kernel_rfl) 17 rfl (by kernel_rfl) trivial (ts fun wz hkz => by exact t_assign rfl) rfl ?_
     refine Qs.done (by kernel_rfl) ?_
     exact ⟨(b10,0,0),by repeat (first | exact .nil | refine .cons rfl ?_),hv10,Ne.symm h106,Ne.symm h108,kb10,hv6,hv8,⟨q',hA',hbD'⟩,kd⟩
    ·skip
     refine ⟨_,_,rfl,trivial,w_new Tryz.zeroValue66 rfl,rfl,fun _ _ h => by obtain ⟨_,_,_,h,_⟩ := h; exact ⟨hSc.ext h,hv4.ext h⟩,?_⟩
     rintro _ w8 ⟨b10,rfl,qb10,hx8,hv10⟩
     have h108 : b8 ≠ b10 := fun e => by have := hv8.lt; omega
     have h106 : b6 ≠ b10 := fun e => by have := hv6.lt; omega
     have kb10 : w.heap.size ≤ b10 := by have := hx.le; omega
     replace hx := hx.ext hx8
     replace hSc := hSc.ext hx8
     replace hv4 := hv4.ext hx8
     replace hv6 := hv6.ext hx8
     replace hv8 := hv8.ext hx8
     replace hxs := hxs.ext hx8
     refine Qs.alt1 (i := 11) (by kernel_rfl) ?_
     refine ⟨_,_,rfl,trivial,w_call Tryz.call73 rfl (getUntil_none (n := ms.length) (hA.ext hx) (fun z hz => Nat.lt_of_lt_of_le (hF z hz) hx.le) hcf (fun w' hk hv => hst _ w' hx hk hv) hqn hg),rfl,fun _ _ h => by obtain ⟨_,_,kd⟩ := h; exact ⟨kd.var _ _ _ (by decide) (by decide) hSc,kd.var _ _ _ (by decide) (by decide) hv4⟩,?_⟩
     rintro _ w9 ⟨rfl,⟨q',hA',hbD'⟩,kd⟩
     replace hSc := kd.var _ _ _ (by decide) (by decide) hSc
     replace hv4 := kd.var _ _ _ (by decide) (by decide) hv4
     replace hv6 := kd.var _ _ _ (by decide) (by decide) hv6
     replace hv8 := kd.var _ _ _ (by decide) (by decide) hv8
     replace hv10 := kd.var _ _ _ (by decide) (by decide) hv10
     replace kd := ((Kd.refl hF).ext hx).trans kd
     have hxe := hx
     clear hx
     refine Qs.tame (by kernel_rfl) 12 rfl (by kernel_rfl) trivial (ts fun wz hkz => by exact t_move rfl) rfl ?_
     refine Qs.tame (by kernel_rfl) 13 rfl (by kernel_rfl) trivial (ts fun wz hkz => by exact t_extract rfl rfl) rfl ?_
     refine Qs.tame (by kernel_rfl) 14 rfl (by kernel_rfl) trivial (ts fun wz hkz => by exact t_extract rfl rfl) rfl ?_
     refine Qs.alt1 (i := 16) (by kernel_rfl) ?_
     refine ⟨_,_,rfl,trivial,w_put hv10 rfl rfl rfl ty66 rfl rfl,rfl,fun _ _ h => ⟨hSc.upd h.1 (hSc.ne hv10 (by decide)),hv4.upd h.1 (hv4.ne hv10 (by decide))⟩,?_⟩
     rintro _ w10 ⟨hu10,hv10'⟩
     replace hSc := hSc.upd hu10 (hSc.ne hv10 (by decide))
     replace hv4 := hv4.upd hu10 (hv4.ne hv10 (by decide))
     replace hv6 := hv6.upd hu10 h106
     replace hv8 := hv8.upd hu10 h108
     replace kd := kd.updN hu10 kb10
     replace hA' : DbA F _ q' db := ⟨hA'.D.upd hv10 hu10 (by decide) (by decide) (by decide) (by decide) (by decide) (by decide),hA'.fl,hA'.rel,hA'.act,hA'.stop⟩
     clear hv10
     have hv10 := hv10'
     clear hv10'
     refine Qs.tame (by kernel_rfl) 17 rfl (by kernel_rfl) trivial (ts fun wz hkz => by exact t_assign rfl) rfl ?_
     refine Qs.done (by kernel_rfl) ?_
     exact ⟨(b10,0,0),by repeat (first | exact .nil | refine .cons rfl ?_),hv10,Ne.symm h106,Ne.symm h108,kb10,hv6,hv8,⟨q',hA',hbD'⟩,kd⟩
   ·clear hx hSc hv4 hv6 hv8 hm
    rintro L' w5 ⟨⟨b10,g,cn⟩,hs,hv10,h106,h108,kb10,hv6,hv8,hAq,kd⟩
    refine Wp.sub hs ?_
    simp only at hv10 h106 h108 kb10 ⊢
    refine Wp.seq ?_
    refine Wp.seq (Wp.region ?_)
    refine Rg.tm trivial rfl (t_move rfl) rfl ?_
    first | refine Rg.tm trivial rfl (t_neqT rfl rfl (by omega)) rfl ?_ | refine Rg.tm trivial rfl (t_neqF rfl rfl (by omega)) rfl ?_ | refine Rg.tm trivial rfl (t_neq rfl rfl) rfl ?_
    refine Rg.done ?_
    refine Wp.condT rfl ?_
    refine Wp.seq (Wp.region ?_)
    refine Rg.tm trivial rfl (t_build (bd43) rfl) rfl ?_
    refine Rg.tm trivial rfl (t_move rfl) rfl ?_
    refine Rg.wn trivial (w_put hv6 rfl rfl rfl ty43 rfl rfl) ?_
    rintro _ wZ ⟨huZ,hv6'⟩
    obtain ⟨q',hA',hbD'⟩ := hAq
    replace kd := kd.updN huZ (by omega)
    replace hA' : DbA F _ q' db := ⟨hA'.D.upd hv6 huZ (by decide) (by decide) (by decide) (by decide) (by decide) (by decide),hA'.fl,hA'.rel,hA'.act,hA'.stop⟩
    refine Rg.tm trivial rfl (t_assign rfl) rfl ?_
    refine Rg.done ?_
    refine Wp.ret ?_
    exact ⟨[_,_],⟨RV.cellA (vs := [_,_,_,_,_,_]) ty43 rfl hv6'.cells,rfl,trivial⟩,rfl,⟨q',hA',hbD'⟩,kd⟩
end Go.Proofs.YtliofpegbcegiaaGreatDoor
namespace Go.Proofs.YtliofpegbcegiaaGreatDoor
set_option maxRecDepth 20000
open Go.Gx Go.RowKit Go.Lib
theorem get_num {db db' : DB} {k : Key} {sb : Bool} {v : QV} (h : db.get k sb = some (v,db')) : db'.ins = db.ins ∧ db.comps ≤ db'.comps ∧ db'.comps ≤ db.comps + 1 ∧ db'.clock = db.clock + 1 := by
 unfold DB.get at h
 cases hh : db.hit k with
 | some r =>
  rw [hh] at h
  simp only [Option.some.injEq,Prod.mk.injEq] at h
  obtain ⟨_,rfl⟩ := h
  refine ⟨rfl,?_,?_,rfl⟩ <;> (simp only [DB.old]; omega)
 | none =>
  rw [hh] at h
  simp only at h
  split at h
  ·cases h
  ·simp only [Option.some.injEq,Prod.mk.injEq] at h
   obtain ⟨_,rfl⟩ := h
   refine ⟨rfl,?_,?_,rfl⟩ <;> (simp only [DB.new]; omega)
theorem respond_num {ms : List MD} {rev : Int} {db db' : DB} {r : Rq} {sb : Bool} {rs : Rs} (h : respond ms rev db r sb = some (rs,db')) : db'.ins = db.ins ∧ db.comps ≤ db'.comps ∧ db'.comps ≤ db.comps + 1 ∧ db.clock ≤ db'.clock ∧ db'.clock ≤ db.clock + 1 := by
 unfold respond at h
 split at h
 ·simp only [Option.some.injEq,Prod.mk.injEq] at h
  obtain ⟨_,rfl⟩ := h
  exact ⟨rfl,by omega,by omega,by omega,by omega⟩
 ·cases hg : db.get (r.query,r.arg,idxM ms r.name) sb with
  | none => rw [hg] at h; cases h
  | some q =>
   obtain ⟨v,db2⟩ := q
   rw [hg] at h
   simp only [Option.some.injEq,Prod.mk.injEq] at h
   obtain ⟨_,rfl⟩ := h
   obtain ⟨h1,h2,h3,h4⟩ := get_num hg
   exact ⟨h1,h2,h3,by omega,by omega⟩
theorem Kd.vk {F : Fs} {w w' : World} (h : Kd F w w') : VK [87,139] w w' := fun b cs t ht hv => h.var b cs t (fun e => ht (by rw [e]; decide)) (fun e => ht (by rw [e]; decide)) hv
theorem Ks.ko {F : Fs} {e : TypeId} {a w w' : World} (h : Ks F a w) (k : Ko e a.heap.size w w') : Ks F a w' :=
 ⟨h.fl,h.base.trans ⟨k.base.os,k.base.tape,k.base.output,k.base.size,fun i hi => k.base.block i (h.fl i hi)⟩,fun b cs t ht hv => k.var b cs t (.inr hv.lt) (h.var b cs t ht hv)⟩
theorem grown_vk {w w' : World} {B e size n : Nat} {v : Value} {xs : List Value} (ho : w.ownsRow B e size v n xs) (hg : w.grownBy w' v.ownBlock) : VK [e] w w' := fun b cs t ht hv => hv.grown ho hg (fun h => ht (by rw [h]; simp))
theorem DbA.grown {F : Fs} {w w' : World} {q : DbQ} {db : DB} {B e size n : Nat} {v : Value} {xs : List Value} (h : DbA F w q db) (ho : w.ownsRow B e size v n xs) (hg : w.grownBy w' v.ownBlock) (he : 3 ∉ [e] ∧ 63 ∉ [e] ∧ 35 ∉ [e] ∧ e ≠ 87 ∧ e ≠ 112 ∧ e ≠ 139) : DbA F w' q db := by
 refine ⟨h.D.vk (grown_vk ho hg) he.1 he.2.1 he.2.2.1 fun z hz => ?_,h.fl,h.rel,h.act,h.stop⟩
 refine hg.block z ?_ fun e1 => ?_
 ·have hv := h.D.var
  exact (h.D.foot_ne (t := 35) h.D.fn (by decide) (by decide) (by decide) z hz).2
 ·obtain ⟨cs,hc⟩ := own_block ho e1
  have : Var w z cs.toList e := hc
  exact (h.D.foot_ne this he.2.2.2.1 he.2.2.2.2.1 he.2.2.2.2.2 z hz).1 rfl
theorem kp_vk87 {w w' : World} {q : DbQ} (h : DbW w q) (k : Kp [q.bD,q.bA] w w') : VK [87] w w' := fun b cs t ht hv => hv.kp k fun hm => by
 simp only [List.mem_cons,List.not_mem_nil,or_false] at hm ht
 rcases hm with e | e
 ·exact hv.ne h.var ht e
 ·exact h.act.ne hv e
theorem pend_tail {w : World} {b o c : Nat} {r : Rq} {l : List Rq} (h : Row w 27 5 (.slice (some ⟨b,o,none⟩) (l.length + 1) c) (l.length + 1) (encs rc (r :: l))) : Row w 27 5 (.slice (some (if c = (1 : Int).toNat then (⟨b,o,none⟩ : Addr) else ⟨b,o + (1 : Int).toNat * 5,none⟩)) ((((l.length + 1 : Nat) : Int)).toNat - (1 : Int).toNat) (c - (1 : Int).toNat)) l.length (encs rc l) := by
 have := Row.cut h (l := 1) (r := l.length + 1) (by omega) (Nat.le_refl _)
 have e : ((encs rc (r :: l)).drop (1 * 5)).take ((l.length + 1 - 1) * 5) = encs rc l := by
  rw [encs_drop rc_len,List.drop_succ_cons,List.drop_zero,List.take_of_length_le (by rw [encs_len rc_len]; simp)]
 rw [e] at this
 rw [Int.toNat_natCast,show (1 : Int).toNat = 1 from rfl]
 rw [Nat.add_sub_cancel] at this ⊢
 by_cases hc : c = 1
 ·rw [if_pos hc] at this ⊢; exact this
 ·rw [if_neg hc] at this ⊢
  rw [show (some (⟨b,o,none⟩ : Addr)).map (·.add (1 * 5)) = some ⟨b,o + 1 * 5,none⟩ from rfl] at this
  exact this
theorem run_ok {F : Fs} {w : World} {s : SvQ} {st : St} {n : Int} (h : SvW F w s st) (hF : Und F w.heap.size) (hf : Fine st) :
  Cl Tryz.prog 35 #[.pointer (some ⟨s.bS,0,none⟩),.int .i64 n] w (fun u w' => (∃ v,u = .tuple #[v,.int .i64 (runS st n).2.2] ∧ RsW w.heap.size w' v (runS st n).2.1) ∧ (∃ s',SvW F w' s' (runS st n).1 ∧ s'.bS = s.bS) ∧ Ks F w w') := by
 have hx := Ext.refl w
 obtain ⟨bS,q,vm,vv,vp⟩ := s
 have h0 := h
 simp only at ⊢
 have hcS := h.var.cells
 simp only [SvQ.cells] at hcS
 obtain ⟨i43,hi43,hz43,hsi43,hby43⟩ := inf43
 by_cases hn : n < 0
 ·rw [show runS st n = (st,[],1) from if_pos hn]
  refine Cl.enter Tryz.func35 rfl Tryz.ntmps35 rfl rfl ?_
  refine Wp.seq (Wp.region ?_)
  refine Rg.wd trivial (w_boxed rfl rfl) rfl ?_
  rintro _ w1 ⟨b2,rfl,qb2,hx1,hv2⟩
  replace hx := hx.ext hx1
  replace hcS := hcS.ext hx1
  have hc2 := hv2.cells
  refine Rg.wd trivial (w_boxed rfl rfl) rfl ?_
  rintro _ w2 ⟨b3,rfl,qb3,hx2,hv3⟩
  replace hx := hx.ext hx2
  replace hcS := hcS.ext hx2
  replace hv2 := hv2.ext hx2
  replace hc2 := hc2.ext hx2
  have hc3 := hv3.cells
  refine Rg.tm trivial rfl (t_assign rfl) rfl ?_
  refine Rg.tm trivial rfl (t_assign rfl) rfl ?_
  refine Rg.done ?_
  refine Wp.seq ?_
  refine Wp.seq (Wp.region ?_)
  refine Rg.tm trivial rfl (t_load ty3 rfl (Cells.get (i := 0) hc3 rfl)) rfl ?_
  first | refine Rg.tm trivial rfl (t_lssT rfl rfl (by omega)) rfl ?_ | refine Rg.tm trivial rfl (t_lssF rfl rfl (by omega)) rfl ?_ | refine Rg.tm trivial rfl (t_lss rfl rfl) rfl ?_
  refine Rg.done ?_
  refine Wp.condT rfl ?_
  refine Wp.seq (Wp.region ?_)
  refine Rg.tm trivial rfl (t_assign rfl) rfl ?_
  refine Rg.tm trivial rfl (t_assign rfl) rfl ?_
  refine Rg.done ?_
  refine Wp.ret ?_
  exact ⟨[_,_],⟨rfl,rfl,trivial⟩,⟨_,rfl,RsW.nil _ _⟩,⟨_,h0.ext hx,rfl⟩,hx.ks hF⟩
 ·rw [show runS st n = ({ st with pend := (runP st.mods st.rev n st.db.comps st.pend st.db).2.1,db := (runP st.mods st.rev n st.db.comps st.pend st.db).2.2 },(runP st.mods st.rev n st.db.comps st.pend st.db).1,0) from if_neg hn]
  refine Cl.enter Tryz.func35 rfl Tryz.ntmps35 rfl rfl ?_
  refine Wp.seq (Wp.region ?_)
  refine Rg.wd trivial (w_boxed rfl rfl) rfl ?_
  rintro _ w1 ⟨b2,rfl,qb2,hx1,hv2⟩
  replace hx := hx.ext hx1
  replace hcS := hcS.ext hx1
  have hc2 := hv2.cells
  have kb2 : w.heap.size ≤ b2 := by omega
  have kb3 := hx.le
  refine Rg.wd trivial (w_boxed rfl rfl) rfl ?_
  rintro _ w2 ⟨b3,rfl,qb3,hx2,hv3⟩
  replace hx := hx.ext hx2
  replace hcS := hcS.ext hx2
  replace hv2 := hv2.ext hx2
  replace hc2 := hc2.ext hx2
  have hc3 := hv3.cells
  replace kb3 : w.heap.size ≤ b3 := by omega
  have h23 : b2 ≠ b3 := fun e => by have := hv2.ne hv3 (by decide); exact this e
  refine Rg.tm trivial rfl (t_assign rfl) rfl ?_
  refine Rg.tm trivial rfl (t_assign rfl) rfl ?_
  refine Rg.done ?_
  refine Wp.seq ?_
  refine Wp.seq (Wp.region ?_)
  refine Rg.tm trivial rfl (t_load ty3 rfl (Cells.get (i := 0) hc3 rfl)) rfl ?_
  first | refine Rg.tm trivial rfl (t_lssT rfl rfl (by omega)) rfl ?_ | refine Rg.tm trivial rfl (t_lssF rfl rfl (by omega)) rfl ?_ | refine Rg.tm trivial rfl (t_lss rfl rfl) rfl ?_
  refine Rg.done ?_
  refine Wp.condF rfl ?_
  refine Wp.skip ?_
  refine Wp.seq (Wp.region ?_)
  refine Rg.tm trivial rfl (t_assign rfl) rfl ?_
  refine Rg.done ?_
  refine Wp.seq (Wp.region ?_)
  refine Rg.tm trivial rfl (t_load ty33 rfl (Cells.get (i := 0) hc2 rfl)) rfl ?_
  refine Rg.tm trivial rfl (t_nilCheck rfl) rfl ?_
  refine Rg.tm trivial rfl (t_fieldAddr fa70_4 rfl) rfl ?_
  refine Rg.tm trivial rfl (t_load ty60 rfl (by apply Cells.get (i := 4); (case h => assumption); rfl)) rfl ?_
  refine Rg.wd trivial (w_call Tryz.call55 rfl (comps_ok (h0.db.D.var.ext hx))) rfl ?_
  rintro _ w3 ⟨rfl,hx3⟩
  replace hx := hx.ext hx3
  replace hcS := hcS.ext hx3
  replace hv2 := hv2.ext hx3
  replace hc2 := hc2.ext hx3
  replace hv3 := hv3.ext hx3
  replace hc3 := hc3.ext hx3
  have kb7 := hx.le
  refine Rg.wd trivial (w_new Tryz.zeroValue3 rfl) rfl ?_
  rintro _ wa ⟨b7,rfl,qb7,hxa,hva⟩
  have h37 : b3 ≠ b7 := fun e => by have := hv3.lt; omega
  refine Rg.wn trivial (w_put hva rfl rfl rfl ty3 rfl rfl) ?_
  rintro _ w4 ⟨hu,hv7⟩
  have hx4 := hxa.upd hu (Nat.le_of_eq qb7.symm)
  replace hx := hx.ext hx4
  replace hcS := hcS.ext hx4
  replace hv2 := hv2.ext hx4
  replace hc2 := hc2.ext hx4
  replace hv3 := hv3.ext hx4
  replace hc3 := hc3.ext hx4
  clear hva hu
  refine Rg.done ?_
  refine Wp.seq (Wp.region ?_)
  refine Rg.tm trivial rfl (t_makeFunc (vs := [_,_,_]) rfl) rfl ?_
  refine Rg.tm trivial rfl (t_assign rfl) rfl ?_
  refine Rg.done ?_
  refine Wp.seq ?_
  refine Wp.block ?_
  have hcomps : q.comps = st.db.comps := h0.db.rel.comps
  rw [hcomps] at hv7
  obtain ⟨start,hstart⟩ : ∃ x,st.db.comps = x := ⟨_,rfl⟩
  rw [hstart] at hv7 ⊢
  refine Wp.loop (ι := Value × List Rq × DB × List Rs) (fun i => [(2,.pointer (some ⟨b2,0,none⟩)),(3,.pointer (some ⟨b3,0,none⟩)),(5,.int .i64 0),(6,i.1),(7,.pointer (some ⟨b7,0,none⟩)),(8,.func (.func 56) #[] #[.pointer (some ⟨b2,0,none⟩),.pointer (some ⟨b7,0,none⟩),.pointer (some ⟨b3,0,none⟩)])])
   (fun i w' => runP st.mods st.rev n start st.pend st.db = (i.2.2.2 ++ (runP st.mods st.rev n start i.2.1 i.2.2.1).1,(runP st.mods st.rev n start i.2.1 i.2.2.1).2) ∧ (∃ s',SvW F w' s' { st with pend := i.2.1,db := i.2.2.1 } ∧ s'.bS = bS) ∧ RsW w.heap.size w' i.1 i.2.2.2 ∧
    Var w' b2 [.pointer (some ⟨bS,0,none⟩)] 33 ∧ Var w' b3 [.int .i64 n] 3 ∧ Var w' b7 [.int .i64 start] 3 ∧ Ks F w w' ∧ i.2.2.1.ins = st.db.ins ∧ start ≤ i.2.2.1.comps ∧ i.2.2.1.comps ≤ start + i.2.2.2.length ∧ st.db.clock ≤ i.2.2.1.clock ∧ i.2.2.1.clock ≤ st.db.clock + i.2.2.2.length ∧ i.2.2.2.length + i.2.1.length ≤ 20 ∧ (∀ r ∈ i.2.1,1 ≤ r.query ∧ r.query ≤ 8))
   (fun i => i.2.1.length) (.slice none 0 0,st.pend,st.db,[]) (by repeat (first | exact .nil | refine .cons rfl ?_)) ⟨by simp,⟨_,h0.ext hx,rfl⟩,RsW.nil _ _,hv2.ext (Ext.refl _),hv3.ext (Ext.refl _),hv7,hx.ks hF,rfl,by simp only; omega,by simp; omega,Int.le_refl _,by simp,by have := hf.plen; simpa using this,hf.qok⟩ ?_
  clear hx hcS hv2 hv3 hv7 hc2 hc3
  rintro ⟨v6,l,db,acc⟩ w3 ⟨hE,⟨s',hsv,hbs⟩,hrs,hv2,hv3,hv7,ks,hins,hcl1,hcl2,hck1,hck2,hlen,hqok⟩
  obtain ⟨bS',q3,vm3,vv3,vp3⟩ := s'
  simp only at hbs
  subst hbs
  simp only at hE hsv hrs hins hcl1 hcl2 hck1 hck2 hlen hqok ⊢
  have hfc := hf.comps
  have hfk := hf.clock
  rw [hstart] at hfc
  have hc2 := hv2.cells
  have hS := hsv.var
  simp only [SvQ.cells] at hS
  have hcS := hS.cells
  have hps := hsv.pend.slc
  try simp only at hps
  have hx := Ext.refl w3
  cases l with
  | nil =>
   refine Wp.seq ?_
   refine Wp.seq (Wp.region ?_)
   refine Rg.tm trivial rfl (t_load ty33 rfl (Cells.get (i := 0) hc2 rfl)) rfl ?_
   refine Rg.tm trivial rfl (t_nilCheck rfl) rfl ?_
   refine Rg.tm trivial rfl (t_fieldAddr fa70_2 rfl) rfl ?_
   refine Rg.tm trivial rfl (t_load ty38 rfl (Cells.get (i := 2) hcS rfl)) rfl ?_
   refine Rg.tm trivial rfl (t_lenC hps Tryz.underlying38 rfl) rfl ?_
   refine Rg.tm trivial rfl (t_gtrF rfl rfl (by simp)) rfl ?_
   refine Rg.done ?_
   refine Wp.condF rfl ?_
   refine Wp.exit ?_
   refine Wp.seq (Wp.region ?_)
   refine Rg.tm trivial rfl (t_move rfl) rfl ?_
   refine Rg.tm trivial rfl (t_assign rfl) rfl ?_
   refine Rg.tm trivial rfl (t_assign rfl) rfl ?_
   refine Rg.done ?_
   refine Wp.ret ?_
   rw [hE]
   simp only [runP,List.append_nil]
   exact ⟨[_,_],⟨rfl,rfl,trivial⟩,⟨_,rfl,hrs⟩,⟨_,hsv,rfl⟩,ks⟩
  | cons r l =>
   simp only [List.length_cons] at hlen hps ⊢
   obtain ⟨hlp,hcase⟩ := hsv.pend
   obtain ⟨bp,o,cp,cur,hvp,hncp,hmx,hvb,hfit,hseg⟩ : ∃ b o cp cur,vp3 = .slice (some ⟨b,o,none⟩) (l.length + 1) cp ∧ l.length + 1 ≤ cp ∧ cp ≤ maxLen ∧ Var w3 b cur 27 ∧ o + cp * 5 ≤ cur.length ∧ (cur.drop o).take ((l.length + 1) * 5) = encs rc (r :: l) := by
    rcases hcase with ⟨_,e⟩ | h
    ·simp at e
    ·exact h
   clear hcase
   subst hvp
   have hcut : ∀ w' : World,Var w' bp cur 27 → Cells w' bp (o + (0 : Int).toNat * 5) [.int .i64 r.client,.int .i64 r.id,.int .i64 r.query,.int .i64 r.arg,.string r.name] := fun w' hv => by
    have h1 := hv.cells.sub o 5
    rw [Nat.zero_add] at h1
    have h2 : (cur.drop o).take 5 = rc r := by
     have := congrArg (List.take 5) hseg
     rw [List.take_take,Nat.min_eq_left (by omega)] at this
     rw [this]
     rfl
    rw [h2] at h1
    exact h1
   have hsb := hqok r (by simp)
   have hmt : Match db.ins st.mods := by rw [hins]; exact hf.mt
   have hst : ∀ w1 w',Ext w3 w1 → Kp [q3.bD,q3.bA] w1 w' → Var w' q3.bD ({ q3 with stop := .func (.func 56) #[] ([.pointer (some ⟨b2,0,none⟩),.pointer (some ⟨b7,0,none⟩),.pointer (some ⟨b3,0,none⟩)] : List Value).toArray } : DbQ).cells 87 → Cl Tryz.prog 56 (([] : List Value) ++ ([.pointer (some ⟨b2,0,none⟩),.pointer (some ⟨b7,0,none⟩),.pointer (some ⟨b3,0,none⟩)] : List Value)).toArray w' (fun u w'' => u = .bool (decide (n ≤ db.comps - start)) ∧ Ext w' w'') := fun w1 w' hx1 hk hv => by
    have vk := kp_vk87 (hsv.db.D.ext hx1) hk
    have hqc : q3.comps = db.comps := hsv.db.rel.comps
    rw [← hqc]
    exact stop_ok (q := { q3 with stop := .func (.func 56) #[] ([.pointer (some ⟨b2,0,none⟩),.pointer (some ⟨b7,0,none⟩),.pointer (some ⟨b3,0,none⟩)] : List Value).toArray }) (vk _ _ _ (by decide) (hv2.ext hx1)) (vk _ _ _ (by decide) (hv7.ext hx1)) (vk _ _ _ (by decide) (hv3.ext hx1)) (vk _ _ _ (by decide) (hS.ext hx1)) hv (by show 0 ≤ q3.comps ∧ q3.comps ≤ 1000000000; omega) (by omega)
   have hSc := hS
   have hdc : 0 ≤ db.comps ∧ db.comps ≤ 1000000000 := by omega
   have hdk : 0 ≤ db.clock ∧ db.clock ≤ 1000000000 := by omega
   cases hr : respond st.mods st.rev db r (decide (n ≤ db.comps - start)) with
   | some rd =>
    obtain ⟨rs,db2⟩ := rd
    refine Wp.seq ?_
    refine Wp.seq (Wp.region ?_)
    refine Rg.tm trivial rfl (t_load ty33 rfl (Cells.get (i := 0) hc2 rfl)) rfl ?_
    refine Rg.tm trivial rfl (t_nilCheck rfl) rfl ?_
    refine Rg.tm trivial rfl (t_fieldAddr fa70_2 rfl) rfl ?_
    refine Rg.tm trivial rfl (t_load ty38 rfl (Cells.get (i := 2) hcS rfl)) rfl ?_
    refine Rg.tm trivial rfl (t_lenC hps Tryz.underlying38 rfl) rfl ?_
    refine Rg.tm trivial rfl (t_gtrT rfl rfl (by first | omega | (simp only [List.length_cons]; omega))) rfl ?_
    refine Rg.done ?_
    refine Wp.condT rfl ?_
    refine Wp.skip ?_
    refine Wp.block ?_
    refine Wp.seq (Wp.cut (fun L w' => ∃ i : Nat × Option Addr × Nat × Nat,Sub ((fun i => [(2,.pointer (some ⟨b2,0,none⟩)),(3,.pointer (some ⟨b3,0,none⟩)),(5,.int .i64 0),(6,v6),(7,.pointer (some ⟨b7,0,none⟩)),(8,.func (.func 56) #[] #[.pointer (some ⟨b2,0,none⟩),.pointer (some ⟨b7,0,none⟩),.pointer (some ⟨b3,0,none⟩)]),(9,.pointer (some ⟨i.1,0,none⟩)),(10,.int .i64 0)]) i) L ∧ (fun i w' => Var w' i.1 [.int .i64 rs.client,.int .i64 rs.id,.int .i64 rs.err,.int .i64 rs.rev,.slice i.2.1 i.2.2.1 i.2.2.2,.string rs.text] 43 ∧ i.2.2.1 = rs.nums.length ∧ RowI w' (.slice i.2.1 i.2.2.1 i.2.2.2) rs.nums ∧ w3.heap.size ≤ i.1 ∧ (∃ q',DbA F w' q' db2 ∧ q'.bD = q3.bD) ∧ Kd F w3 w') i w') ?_ ?_)
    ·skip
     refine Wp.drawU (fun w' => Var w' b2 [.pointer (some ⟨bS',0,none⟩)] 33 ∧ Var w' bS' [vm3,vv3,.slice (some ⟨bp,o,none⟩) (l.length + 1) cp,.int .i64 st.rev,.pointer (some ⟨q3.bD,0,none⟩)] 70 ∧ Var w' bp cur 27) mixed ?_
     intro w5 hx5 hh5
     replace hx := hx.ext hx5
     replace hv2 := hv2.ext hx5
     replace hSc := hSc.ext hx5
     replace hvb := hvb.ext hx5
     refine ⟨⟨hv2,hSc,hvb⟩,?_⟩
     have hxs := Ext.refl w5
     skip
     refine Qs.tame (by kernel_rfl) 0 rfl (by kernel_rfl) trivial (ts fun wz hkz => by skip; exact t_load ty33 rfl (Cells.get (i := 0) hkz.1.cells rfl)) rfl ?_
     refine Qs.tame (by kernel_rfl) 1 rfl (by kernel_rfl) trivial (ts fun wz hkz => by skip; exact t_load ty33 rfl (Cells.get (i := 0) hkz.1.cells rfl)) rfl ?_
     refine Qs.tame (by kernel_rfl) 2 rfl (by kernel_rfl) trivial (ts fun wz hkz => by exact t_nilCheck rfl) rfl ?_
     refine Qs.tame (by kernel_rfl) 3 rfl (by kernel_rfl) trivial (ts fun wz hkz => by exact t_fieldAddr fa70_2 rfl) rfl ?_
     refine Qs.tame (by kernel_rfl) 4 rfl (by kernel_rfl) trivial (ts fun wz hkz => by skip; exact t_load ty38 rfl (Cells.get (i := 2) hkz.2.1.cells rfl)) rfl ?_
     refine Qs.tame (by kernel_rfl) 5 rfl (by kernel_rfl) trivial (ts fun wz hkz => by skip; exact t_indexAddrL Tryz.underlying38 ty27 rfl rfl (by omega)) rfl ?_
     refine Qs.tame (by kernel_rfl) 6 rfl (by kernel_rfl) trivial (ts fun wz hkz => by skip; exact t_loadA rfl (hcut wz hkz.2.2) ty27) rfl ?_
     refine Qs.tame (by kernel_rfl) 7 rfl (by kernel_rfl) trivial (ts fun wz hkz => by exact t_move rfl) rfl ?_
     refine Qs.alt2 (i := 8) (j := 12) (by kernel_rfl) ?_ ?_
     ·skip
      refine ⟨_,_,rfl,trivial,w_call Tryz.call57 rfl (respond_val (q := q3) (cap := [.pointer (some ⟨b2,0,none⟩),.pointer (some ⟨b7,0,none⟩),.pointer (some ⟨b3,0,none⟩)]) (r := r) hSc (hsv.mods.ext hx) (hsv.db.ext hx) (fun z hz => Nat.lt_of_lt_of_le (ks.le' z hz) hx.le) Tryz.call56 (fun w1 w' hx1 hk hv => hst w1 w' (hx.ext hx1) hk hv) hf.mlen hmt (by omega) hdc hdk hr),rfl,fun _ _ h => by obtain ⟨_,_,kd⟩ := h; exact ⟨kd.var _ _ _ (by decide) (by decide) hv2,kd.var _ _ _ (by decide) (by decide) hSc,kd.var _ _ _ (by decide) (by decide) hvb⟩,?_⟩
      rintro _ w6 ⟨⟨vn,rfl,hnums⟩,⟨q',hA',hbD'⟩,kd⟩
      obtain ⟨pn,cn,rfl⟩ := Row.shape hnums
      replace hv2 := kd.var _ _ _ (by decide) (by decide) hv2
      replace hSc := kd.var _ _ _ (by decide) (by decide) hSc
      replace hvb := kd.var _ _ _ (by decide) (by decide) hvb
      replace kd := ((Kd.refl (ks.le')).ext hx).trans kd
      have hxe := hx
      clear hx
      refine Qs.tame (by kernel_rfl) 9 rfl (by kernel_rfl) trivial (ts fun wz hkz => by exact t_move rfl) rfl ?_
      refine Qs.tame (by kernel_rfl) 10 rfl (by kernel_rfl) trivial (ts fun wz hkz => by exact t_extract rfl rfl) rfl ?_
      refine Qs.tame (by kernel_rfl) 11 rfl (by kernel_rfl) trivial (ts fun wz hkz => by exact t_extract rfl rfl) rfl ?_
      refine Qs.alt1 (i := 12) (by kernel_rfl) ?_
      refine ⟨_,_,rfl,trivial,w_new Tryz.zeroValue43 rfl,rfl,fun _ _ h => by obtain ⟨_,_,_,h,_⟩ := h; exact ⟨hv2.ext h,hSc.ext h,hvb.ext h⟩,?_⟩
      rintro _ w7 ⟨b9,rfl,qb9,hx7,hv9⟩
      have kb9 : w3.heap.size ≤ b9 := by have := kd.le; omega
      replace hv2 := hv2.ext hx7
      replace hSc := hSc.ext hx7
      replace hvb := hvb.ext hx7
      replace kd := kd.ext hx7
      replace hA' := hA'.ext hx7
      replace hnums := hnums.ext hx7
      refine Qs.alt1 (i := 13) (by kernel_rfl) ?_
      refine ⟨_,_,rfl,trivial,w_put hv9 rfl rfl rfl ty43 rfl rfl,rfl,fun _ _ h => ⟨hv2.upd h.1 (hv2.ne hv9 (by decide)),hSc.upd h.1 (hSc.ne hv9 (by decide)),hvb.upd h.1 (hvb.ne hv9 (by decide))⟩,?_⟩
      rintro _ w8 ⟨hu8,hv9'⟩
      replace hv2 := hv2.upd hu8 (hv2.ne hv9 (by decide))
      replace hSc := hSc.upd hu8 (hSc.ne hv9 (by decide))
      replace hvb := hvb.upd hu8 (hvb.ne hv9 (by decide))
      replace hnums := Row.upd hnums hv9 hu8 (by decide)
      replace kd := kd.updN hu8 kb9
      replace hA' : DbA F _ q' db2 := ⟨hA'.D.upd hv9 hu8 (by decide) (by decide) (by decide) (by decide) (by decide) (by decide),hA'.fl,hA'.rel,hA'.act,hA'.stop⟩
      clear hv9
      have hv9 := hv9'
      clear hv9'
      refine Qs.tame (by kernel_rfl) 14 rfl (by kernel_rfl) trivial (ts fun wz hkz => by exact t_assign rfl) rfl ?_
      refine Qs.done (by kernel_rfl) ?_
      exact ⟨(b9,pn,rs.nums.length,cn),by repeat (first | exact .nil | refine .cons rfl ?_),hv9,rfl,hnums,kb9,⟨q',hA',hbD'⟩,kd⟩
     ·skip
      refine ⟨_,_,rfl,trivial,w_new Tryz.zeroValue43 rfl,rfl,fun _ _ h => by obtain ⟨_,_,_,h,_⟩ := h; exact ⟨hv2.ext h,hSc.ext h,hvb.ext h⟩,?_⟩
      rintro _ w6 ⟨b9,rfl,qb9,hx6,hv9⟩
      have kb9 : w3.heap.size ≤ b9 := by have := hx.le; omega
      replace hx := hx.ext hx6
      replace hv2 := hv2.ext hx6
      replace hSc := hSc.ext hx6
      replace hvb := hvb.ext hx6
      replace hxs := hxs.ext hx6
      refine Qs.alt1 (i := 8) (by kernel_rfl) ?_
      refine ⟨_,_,rfl,trivial,w_call Tryz.call57 rfl (respond_val (q := q3) (cap := [.pointer (some ⟨b2,0,none⟩),.pointer (some ⟨b7,0,none⟩),.pointer (some ⟨b3,0,none⟩)]) (r := r) hSc (hsv.mods.ext hx) (hsv.db.ext hx) (fun z hz => Nat.lt_of_lt_of_le (ks.le' z hz) hx.le) Tryz.call56 (fun w1 w' hx1 hk hv => hst w1 w' (hx.ext hx1) hk hv) hf.mlen hmt (by omega) hdc hdk hr),rfl,fun _ _ h => by obtain ⟨_,_,kd⟩ := h; exact ⟨kd.var _ _ _ (by decide) (by decide) hv2,kd.var _ _ _ (by decide) (by decide) hSc,kd.var _ _ _ (by decide) (by decide) hvb⟩,?_⟩
      rintro _ w7 ⟨⟨vn,rfl,hnums⟩,⟨q',hA',hbD'⟩,kd⟩
      obtain ⟨pn,cn,rfl⟩ := Row.shape hnums
      replace hv2 := kd.var _ _ _ (by decide) (by decide) hv2
      replace hSc := kd.var _ _ _ (by decide) (by decide) hSc
      replace hvb := kd.var _ _ _ (by decide) (by decide) hvb
      replace hv9 := kd.var _ _ _ (by decide) (by decide) hv9
      replace kd := ((Kd.refl (ks.le')).ext hx).trans kd
      have hxe := hx
      clear hx
      refine Qs.tame (by kernel_rfl) 9 rfl (by kernel_rfl) trivial (ts fun wz hkz => by exact t_move rfl) rfl ?_
      refine Qs.tame (by kernel_rfl) 10 rfl (by kernel_rfl) trivial (ts fun wz hkz => by exact t_extract rfl rfl) rfl ?_
      refine Qs.tame (by kernel_rfl) 11 rfl (by kernel_rfl) trivial (ts fun wz hkz => by exact t_extract rfl rfl) rfl ?_
      refine Qs.alt1 (i := 13) (by kernel_rfl) ?_
      refine ⟨_,_,rfl,trivial,w_put hv9 rfl rfl rfl ty43 rfl rfl,rfl,fun _ _ h => ⟨hv2.upd h.1 (hv2.ne hv9 (by decide)),hSc.upd h.1 (hSc.ne hv9 (by decide)),hvb.upd h.1 (hvb.ne hv9 (by decide))⟩,?_⟩
      rintro _ w8 ⟨hu8,hv9'⟩
      replace hv2 := hv2.upd hu8 (hv2.ne hv9 (by decide))
      replace hSc := hSc.upd hu8 (hSc.ne hv9 (by decide))
      replace hvb := hvb.upd hu8 (hvb.ne hv9 (by decide))
      replace hnums := Row.upd hnums hv9 hu8 (by decide)
      replace kd := kd.updN hu8 kb9
      replace hA' : DbA F _ q' db2 := ⟨hA'.D.upd hv9 hu8 (by decide) (by decide) (by decide) (by decide) (by decide) (by decide),hA'.fl,hA'.rel,hA'.act,hA'.stop⟩
      clear hv9
      have hv9 := hv9'
      clear hv9'
      refine Qs.tame (by kernel_rfl) 14 rfl (by kernel_rfl) trivial (ts fun wz hkz => by exact t_assign rfl) rfl ?_
      refine Qs.done (by kernel_rfl) ?_
      exact ⟨(b9,pn,rs.nums.length,cn),by repeat (first | exact .nil | refine .cons rfl ?_),hv9,rfl,hnums,kb9,⟨q',hA',hbD'⟩,kd⟩
    ·clear hx hSc hc2 hcS hps
     rintro L' w5 ⟨⟨b9,pn,ln,cn⟩,hs,hv9,eln,hnums,kb9,⟨q',hA',hbD'⟩,kd⟩
     refine Wp.sub hs ?_
     simp only at hv9 eln hnums kb9 ⊢
     refine Wp.seq ?_
     refine Wp.seq (Wp.region ?_)
     refine Rg.tm trivial rfl (t_move rfl) rfl ?_
     first | refine Rg.tm trivial rfl (t_neqT rfl rfl (by omega)) rfl ?_ | refine Rg.tm trivial rfl (t_neqF rfl rfl (by omega)) rfl ?_ | refine Rg.tm trivial rfl (t_neq rfl rfl) rfl ?_
     refine Rg.done ?_
     have vk := kd.vk
     have hS5 := vk _ _ _ (by decide) hS
     have hm5 := hsv.mods.vk vk (by decide)
     have hv5 := hsv.vers.vk vk (by decide)
     have hp5 := hsv.pend.vk vk (by decide)
     have hr5 := hrs.vk vk (by decide) (by decide)
     have h25 := vk _ _ _ (by decide) hv2
     have h35 := vk _ _ _ (by decide) hv3
     have h75 := vk _ _ _ (by decide) hv7
     have ks5 := ks.trans kd.ks
     simp only at hm5 hv5 hp5
     have hc9 := hv9.cells
     have hx := Ext.refl w5
     refine Wp.condF rfl ?_
     refine Wp.skip ?_
     refine Wp.seq (Wp.region ?_)
     refine Rg.tm trivial rfl (t_move rfl) rfl ?_
     refine Rg.tm trivial rfl (t_loadA rfl hc9 ty43) rfl ?_
     refine Rg.wd trivial (w_buildSlice (bs31_1 _ _ _ _ _ _ _ _) rfl) rfl ?_
     rintro _ w5 ⟨bb,rfl,qb,hx5,hvbb⟩
     have hsn : SlC _ (.slice (some ⟨bb,0,none⟩) 1 1) 6 1 (rsc (rs,.slice pn ln cn)) := slc_var hvbb rfl
     replace hx := hx.ext hx5
     replace hS5 := hS5.ext hx5
     replace hm5 := hm5.ext hx5
     replace hv5 := hv5.ext hx5
     replace hp5 := hp5.ext hx5
     replace hr5 := hr5.ext hx5
     replace h25 := h25.ext hx5
     replace h35 := h35.ext hx5
     replace h75 := h75.ext hx5
     replace ks5 := ks5.ext hx5
     replace hc9 := hc9.ext hx5
     replace hnums := hnums.ext hx5
     replace hA' := hA'.ext hx5
     obtain ⟨ps,eps,ho,hnw⟩ := hr5
     have hpl : ps.length ≤ 20 := by have := congrArg List.length eps; rw [List.length_map] at this; omega
     clear hvbb
     refine Rg.wd trivial (w_appendC w.heap.size Tryz.underlying31 hi43 hz43 hsi43 hby43 rfl (by decide) rfl rfl ho hsn (by intro u hu; simp only [rsc,List.mem_cons,List.not_mem_nil,or_false] at hu; rcases hu with rfl | rfl | rfl | rfl | rfl | rfl <;> rfl) (by unfold maxLen; omega) (by omega) ks5.le) rfl ?_
     rintro v42 wG ⟨ho2,hgr,_⟩
     have vkg := grown_vk ho hgr
     have hko := grown_ko ho hgr ks5.le
     have ks6 := ks5.ko hko
     have hA6 := hA'.grown ho hgr (by decide)
     have hS6 := vkg _ _ _ (by decide) hS5
     have hm6 := hm5.vk vkg (by decide)
     have hv6 := hv5.vk vkg (by decide)
     have hp6 := hp5.vk vkg (by decide)
     have h26 := vkg _ _ _ (by decide) h25
     have h36 := vkg _ _ _ (by decide) h35
     have h76 := vkg _ _ _ (by decide) h75
     have hr6 : RsW w.heap.size wG v42 (acc ++ [rs]) := ⟨ps ++ [(rs,.slice pn ln cn)],by rw [List.map_append,eps]; rfl,by rw [List.length_append,encs_append,encs_single]; exact ho2,fun p hp => by
      rcases List.mem_append.1 hp with hp | hp
      ·exact Row.vk (hnw p hp) vkg (by decide)
      ·obtain rfl := List.mem_singleton.1 hp
       exact Row.vk hnums vkg (by decide)⟩
     have hcS6 := hS6.cells
     have hc26 := h26.cells
     clear hx hS5 hm5 hv5 hp5 h25 h35 h75 ks5 hc9 hnums hA' ho ho2 hgr hsn
     have hA' := hA6
     clear hA6
     refine Rg.tm trivial rfl (t_assign rfl) rfl ?_
     refine Rg.done ?_
     refine Wp.draw [0,1,2,3,4,5,6,7,8] [0] mixed (by kernel_rfl) (by kernel_rfl) ?_
     intro w6 hx6 _
     replace hS6 := hS6.ext hx6
     replace hm6 := hm6.ext hx6
     replace hv6 := hv6.ext hx6
     replace hp6 := hp6.ext hx6
     replace h26 := h26.ext hx6
     replace h36 := h36.ext hx6
     replace h76 := h76.ext hx6
     replace hr6 := hr6.ext hx6
     replace hcS6 := hcS6.ext hx6
     replace hc26 := hc26.ext hx6
     replace hA' := hA'.ext hx6
     replace ks6 := ks6.ext hx6
     refine Rg.tm trivial rfl (t_load ty33 rfl (Cells.get (i := 0) hc26 rfl)) rfl ?_
     refine Rg.tm trivial rfl (t_load ty33 rfl (Cells.get (i := 0) hc26 rfl)) rfl ?_
     refine Rg.tm trivial rfl (t_nilCheck rfl) rfl ?_
     refine Rg.tm trivial rfl (t_fieldAddr fa70_2 rfl) rfl ?_
     refine Rg.tm trivial rfl (t_load ty38 rfl (Cells.get (i := 2) hcS6 rfl)) rfl ?_
     refine Rg.tm trivial rfl (t_sliceL Tryz.underlying38 ty27 rfl rfl rfl (by omega)) rfl ?_
     refine Rg.tm trivial rfl (t_nilCheck rfl) rfl ?_
     refine Rg.tm trivial rfl (t_fieldAddr fa70_2 rfl) rfl ?_
     refine Rg.wnB trivial rfl (w_putF hS6 ty38 rfl rfl rfl rfl rfl) (by rfl) ?_
     rintro _ wB ⟨huB,hS7⟩
     simp only [List.set] at hS7
     have hp7 := (pend_tail hp6).upd hS6 huB (by decide)
     have hm7 := hm6.upd hS6 huB (by decide)
     have hv7' := hv6.upd hS6 huB (by decide)
     have hA7 : DbA F _ q' db2 := ⟨hA'.D.upd hS6 huB (by decide) (by decide) (by decide) (by decide) (by decide) (by decide),hA'.fl,hA'.rel,hA'.act,hA'.stop⟩
     have ks7 := ks6.updV huB hsv.fS hS6 (by decide)
     have h27 := h26.upd huB (h26.ne hS6 (by decide))
     have h37 := h36.upd huB (h36.ne hS6 (by decide))
     have h77 := h76.upd huB (h76.ne hS6 (by decide))
     have hr7 := hr6.vk (T := [70]) (fun b cs t ht hv => hv.upd huB (hv.ne hS6 (fun e => ht (by rw [e]; simp)))) (by decide) (by decide)
     refine Rg.done ?_
     obtain ⟨n1,n2,n3,n4,n5⟩ := respond_num hr
     have hR : runP st.mods st.rev n start (r :: l) db = (rs :: (runP st.mods st.rev n start l db2).1,(runP st.mods st.rev n start l db2).2) := by
      rw [show runP st.mods st.rev n start (r :: l) db = match respond st.mods st.rev db r (decide (n ≤ db.comps - start)) with | none => ([],r :: l,db) | some (rs,db') => (rs :: (runP st.mods st.rev n start l db').1,(runP st.mods st.rev n start l db').2) from rfl,hr]
     refine ⟨(v42,l,db2,acc ++ [rs]),by repeat (first | exact .nil | refine .cons rfl ?_),⟨?_,⟨⟨bS',q',vm3,vv3,_⟩,⟨by rw [SvQ.cells,hbD']; exact hS7,hm7,hv7',?_,hA7,hsv.fS,fun z hz => hsv.fp z ?_⟩,rfl⟩,hr7,h27,h37,h77,ks7,by rw [n1,hins],by simp only; omega,?_,by simp only; omega,?_,?_,fun r' hr' => hqok r' (List.mem_cons_of_mem _ hr')⟩,by simp only [List.length_cons]; omega⟩
     ·simp only; rw [hE,hR]; simp
     ·exact hp7
     ·simp only at hz ⊢
      rw [← hz]
      by_cases hc1 : cp = (1 : Int).toNat
      ·rw [if_pos hc1]; rfl
      ·rw [if_neg hc1]; rfl
     ·simp only [List.length_append,List.length_cons,List.length_nil]; omega
     ·simp only [List.length_append,List.length_cons,List.length_nil]; omega
     ·simp only [List.length_append,List.length_cons,List.length_nil]; omega
   | none =>
    refine Wp.seq ?_
    refine Wp.seq (Wp.region ?_)
    refine Rg.tm trivial rfl (t_load ty33 rfl (Cells.get (i := 0) hc2 rfl)) rfl ?_
    refine Rg.tm trivial rfl (t_nilCheck rfl) rfl ?_
    refine Rg.tm trivial rfl (t_fieldAddr fa70_2 rfl) rfl ?_
    refine Rg.tm trivial rfl (t_load ty38 rfl (Cells.get (i := 2) hcS rfl)) rfl ?_
    refine Rg.tm trivial rfl (t_lenC hps Tryz.underlying38 rfl) rfl ?_
    refine Rg.tm trivial rfl (t_gtrT rfl rfl (by first | omega | (simp only [List.length_cons]; omega))) rfl ?_
    refine Rg.done ?_
    refine Wp.condT rfl ?_
    refine Wp.skip ?_
    refine Wp.block ?_
    refine Wp.seq (Wp.cut (fun L w' => ∃ i : Nat × Option Addr × Nat × Nat,Sub ((fun i => [(2,.pointer (some ⟨b2,0,none⟩)),(3,.pointer (some ⟨b3,0,none⟩)),(5,.int .i64 0),(6,v6),(7,.pointer (some ⟨b7,0,none⟩)),(8,.func (.func 56) #[] #[.pointer (some ⟨b2,0,none⟩),.pointer (some ⟨b7,0,none⟩),.pointer (some ⟨b3,0,none⟩)]),(9,.pointer (some ⟨i.1,0,none⟩)),(10,.int .i64 12)]) i) L ∧ (fun i w' => (∃ q',DbA F w' q' db ∧ q'.bD = q3.bD) ∧ Kd F w3 w') i w') ?_ ?_)
    ·skip
     refine Wp.drawU (fun w' => Var w' b2 [.pointer (some ⟨bS',0,none⟩)] 33 ∧ Var w' bS' [vm3,vv3,.slice (some ⟨bp,o,none⟩) (l.length + 1) cp,.int .i64 st.rev,.pointer (some ⟨q3.bD,0,none⟩)] 70 ∧ Var w' bp cur 27) mixed ?_
     intro w5 hx5 hh5
     replace hx := hx.ext hx5
     replace hv2 := hv2.ext hx5
     replace hSc := hSc.ext hx5
     replace hvb := hvb.ext hx5
     refine ⟨⟨hv2,hSc,hvb⟩,?_⟩
     have hxs := Ext.refl w5
     skip
     refine Qs.tame (by kernel_rfl) 0 rfl (by kernel_rfl) trivial (ts fun wz hkz => by skip; exact t_load ty33 rfl (Cells.get (i := 0) hkz.1.cells rfl)) rfl ?_
     refine Qs.tame (by kernel_rfl) 1 rfl (by kernel_rfl) trivial (ts fun wz hkz => by skip; exact t_load ty33 rfl (Cells.get (i := 0) hkz.1.cells rfl)) rfl ?_
     refine Qs.tame (by kernel_rfl) 2 rfl (by kernel_rfl) trivial (ts fun wz hkz => by exact t_nilCheck rfl) rfl ?_
     refine Qs.tame (by kernel_rfl) 3 rfl (by kernel_rfl) trivial (ts fun wz hkz => by exact t_fieldAddr fa70_2 rfl) rfl ?_
     refine Qs.tame (by kernel_rfl) 4 rfl (by kernel_rfl) trivial (ts fun wz hkz => by skip; exact t_load ty38 rfl (Cells.get (i := 2) hkz.2.1.cells rfl)) rfl ?_
     refine Qs.tame (by kernel_rfl) 5 rfl (by kernel_rfl) trivial (ts fun wz hkz => by skip; exact t_indexAddrL Tryz.underlying38 ty27 rfl rfl (by omega)) rfl ?_
     refine Qs.tame (by kernel_rfl) 6 rfl (by kernel_rfl) trivial (ts fun wz hkz => by skip; exact t_loadA rfl (hcut wz hkz.2.2) ty27) rfl ?_
     refine Qs.tame (by kernel_rfl) 7 rfl (by kernel_rfl) trivial (ts fun wz hkz => by exact t_move rfl) rfl ?_
     refine Qs.alt2 (i := 8) (j := 12) (by kernel_rfl) ?_ ?_
     ·skip
      refine ⟨_,_,rfl,trivial,w_call Tryz.call57 rfl (respond_none (q := q3) (cap := [.pointer (some ⟨b2,0,none⟩),.pointer (some ⟨b7,0,none⟩),.pointer (some ⟨b3,0,none⟩)]) (r := r) hSc (hsv.mods.ext hx) (hsv.db.ext hx) (fun z hz => Nat.lt_of_lt_of_le (ks.le' z hz) hx.le) Tryz.call56 (fun w1 w' hx1 hk hv => hst w1 w' (hx.ext hx1) hk hv) hf.mlen hmt (by omega) hdc hdk hr),rfl,fun _ _ h => by obtain ⟨_,_,kd⟩ := h; exact ⟨kd.var _ _ _ (by decide) (by decide) hv2,kd.var _ _ _ (by decide) (by decide) hSc,kd.var _ _ _ (by decide) (by decide) hvb⟩,?_⟩
      rintro _ w6 ⟨rfl,⟨q',hA',hbD'⟩,kd⟩
      replace hv2 := kd.var _ _ _ (by decide) (by decide) hv2
      replace hSc := kd.var _ _ _ (by decide) (by decide) hSc
      replace hvb := kd.var _ _ _ (by decide) (by decide) hvb
      replace kd := ((Kd.refl (ks.le')).ext hx).trans kd
      have hxe := hx
      clear hx
      refine Qs.tame (by kernel_rfl) 9 rfl (by kernel_rfl) trivial (ts fun wz hkz => by exact t_move rfl) rfl ?_
      refine Qs.tame (by kernel_rfl) 10 rfl (by kernel_rfl) trivial (ts fun wz hkz => by exact t_extract rfl rfl) rfl ?_
      refine Qs.tame (by kernel_rfl) 11 rfl (by kernel_rfl) trivial (ts fun wz hkz => by exact t_extract rfl rfl) rfl ?_
      refine Qs.alt1 (i := 12) (by kernel_rfl) ?_
      refine ⟨_,_,rfl,trivial,w_new Tryz.zeroValue43 rfl,rfl,fun _ _ h => by obtain ⟨_,_,_,h,_⟩ := h; exact ⟨hv2.ext h,hSc.ext h,hvb.ext h⟩,?_⟩
      rintro _ w7 ⟨b9,rfl,qb9,hx7,hv9⟩
      have kb9 : w3.heap.size ≤ b9 := by have := kd.le; omega
      replace hv2 := hv2.ext hx7
      replace hSc := hSc.ext hx7
      replace hvb := hvb.ext hx7
      replace kd := kd.ext hx7
      replace hA' := hA'.ext hx7
      refine Qs.alt1 (i := 13) (by kernel_rfl) ?_
      refine ⟨_,_,rfl,trivial,w_put hv9 rfl rfl rfl ty43 rfl rfl,rfl,fun _ _ h => ⟨hv2.upd h.1 (hv2.ne hv9 (by decide)),hSc.upd h.1 (hSc.ne hv9 (by decide)),hvb.upd h.1 (hvb.ne hv9 (by decide))⟩,?_⟩
      rintro _ w8 ⟨hu8,hv9'⟩
      replace hv2 := hv2.upd hu8 (hv2.ne hv9 (by decide))
      replace hSc := hSc.upd hu8 (hSc.ne hv9 (by decide))
      replace hvb := hvb.upd hu8 (hvb.ne hv9 (by decide))
      replace kd := kd.updN hu8 kb9
      replace hA' : DbA F _ q' db := ⟨hA'.D.upd hv9 hu8 (by decide) (by decide) (by decide) (by decide) (by decide) (by decide),hA'.fl,hA'.rel,hA'.act,hA'.stop⟩
      clear hv9
      have hv9 := hv9'
      clear hv9'
      refine Qs.tame (by kernel_rfl) 14 rfl (by kernel_rfl) trivial (ts fun wz hkz => by exact t_assign rfl) rfl ?_
      refine Qs.done (by kernel_rfl) ?_
      exact ⟨(b9,none,0,0),by repeat (first | exact .nil | refine .cons rfl ?_),⟨q',hA',hbD'⟩,kd⟩
     ·skip
      refine ⟨_,_,rfl,trivial,w_new Tryz.zeroValue43 rfl,rfl,fun _ _ h => by obtain ⟨_,_,_,h,_⟩ := h; exact ⟨hv2.ext h,hSc.ext h,hvb.ext h⟩,?_⟩
      rintro _ w6 ⟨b9,rfl,qb9,hx6,hv9⟩
      have kb9 : w3.heap.size ≤ b9 := by have := hx.le; omega
      replace hx := hx.ext hx6
      replace hv2 := hv2.ext hx6
      replace hSc := hSc.ext hx6
      replace hvb := hvb.ext hx6
      replace hxs := hxs.ext hx6
      refine Qs.alt1 (i := 8) (by kernel_rfl) ?_
      refine ⟨_,_,rfl,trivial,w_call Tryz.call57 rfl (respond_none (q := q3) (cap := [.pointer (some ⟨b2,0,none⟩),.pointer (some ⟨b7,0,none⟩),.pointer (some ⟨b3,0,none⟩)]) (r := r) hSc (hsv.mods.ext hx) (hsv.db.ext hx) (fun z hz => Nat.lt_of_lt_of_le (ks.le' z hz) hx.le) Tryz.call56 (fun w1 w' hx1 hk hv => hst w1 w' (hx.ext hx1) hk hv) hf.mlen hmt (by omega) hdc hdk hr),rfl,fun _ _ h => by obtain ⟨_,_,kd⟩ := h; exact ⟨kd.var _ _ _ (by decide) (by decide) hv2,kd.var _ _ _ (by decide) (by decide) hSc,kd.var _ _ _ (by decide) (by decide) hvb⟩,?_⟩
      rintro _ w7 ⟨rfl,⟨q',hA',hbD'⟩,kd⟩
      replace hv2 := kd.var _ _ _ (by decide) (by decide) hv2
      replace hSc := kd.var _ _ _ (by decide) (by decide) hSc
      replace hvb := kd.var _ _ _ (by decide) (by decide) hvb
      replace hv9 := kd.var _ _ _ (by decide) (by decide) hv9
      replace kd := ((Kd.refl (ks.le')).ext hx).trans kd
      have hxe := hx
      clear hx
      refine Qs.tame (by kernel_rfl) 9 rfl (by kernel_rfl) trivial (ts fun wz hkz => by exact t_move rfl) rfl ?_
      refine Qs.tame (by kernel_rfl) 10 rfl (by kernel_rfl) trivial (ts fun wz hkz => by exact t_extract rfl rfl) rfl ?_
      refine Qs.tame (by kernel_rfl) 11 rfl (by kernel_rfl) trivial (ts fun wz hkz => by exact t_extract rfl rfl) rfl ?_
      refine Qs.alt1 (i := 13) (by kernel_rfl) ?_
      refine ⟨_,_,rfl,trivial,w_put hv9 rfl rfl rfl ty43 rfl rfl,rfl,fun _ _ h => ⟨hv2.upd h.1 (hv2.ne hv9 (by decide)),hSc.upd h.1 (hSc.ne hv9 (by decide)),hvb.upd h.1 (hvb.ne hv9 (by decide))⟩,?_⟩
      rintro _ w8 ⟨hu8,hv9'⟩
      replace hv2 := hv2.upd hu8 (hv2.ne hv9 (by decide))
      replace hSc := hSc.upd hu8 (hSc.ne hv9 (by decide))
      replace hvb := hvb.upd hu8 (hvb.ne hv9 (by decide))
      replace kd := kd.updN hu8 kb9
      replace hA' : DbA F _ q' db := ⟨hA'.D.upd hv9 hu8 (by decide) (by decide) (by decide) (by decide) (by decide) (by decide),hA'.fl,hA'.rel,hA'.act,hA'.stop⟩
      clear hv9
      have hv9 := hv9'
      clear hv9'
      refine Qs.tame (by kernel_rfl) 14 rfl (by kernel_rfl) trivial (ts fun wz hkz => by exact t_assign rfl) rfl ?_
      refine Qs.done (by kernel_rfl) ?_
      exact ⟨(b9,none,0,0),by repeat (first | exact .nil | refine .cons rfl ?_),⟨q',hA',hbD'⟩,kd⟩
    ·clear hx hSc hc2 hcS hps
     rintro L' w5 ⟨⟨b9,pn,ln,cn⟩,hs,⟨q',hA',hbD'⟩,kd⟩
     refine Wp.sub hs ?_
     simp only
     refine Wp.seq ?_
     refine Wp.seq (Wp.region ?_)
     refine Rg.tm trivial rfl (t_move rfl) rfl ?_
     first | refine Rg.tm trivial rfl (t_neqT rfl rfl (by omega)) rfl ?_ | refine Rg.tm trivial rfl (t_neqF rfl rfl (by omega)) rfl ?_ | refine Rg.tm trivial rfl (t_neq rfl rfl) rfl ?_
     refine Rg.done ?_
     refine Wp.condT rfl ?_
     refine Wp.exit ?_
     refine Wp.seq (Wp.region ?_)
     refine Rg.tm trivial rfl (t_move rfl) rfl ?_
     refine Rg.tm trivial rfl (t_assign rfl) rfl ?_
     refine Rg.tm trivial rfl (t_assign rfl) rfl ?_
     refine Rg.done ?_
     refine Wp.ret ?_
     have vk := kd.vk
     have hR : runP st.mods st.rev n start (r :: l) db = ([],r :: l,db) := by unfold runP; rw [hr]
     rw [hE,hR]
     simp only [List.append_nil]
     exact ⟨[_,_],⟨rfl,rfl,trivial⟩,⟨_,rfl,hrs.vk vk (by decide) (by decide)⟩,⟨⟨bS',q',vm3,vv3,_⟩,⟨by rw [SvQ.cells,hbD']; exact vk _ _ _ (by decide) hS,hsv.mods.vk vk (by decide),hsv.vers.vk vk (by decide),hsv.pend.vk vk (by decide),hA',hsv.fS,hsv.fp⟩,rfl⟩,ks.trans kd.ks⟩
end Go.Proofs.YtliofpegbcegiaaGreatDoor
namespace Go.Proofs.YtliofpegbcegiaaGreatDoor
open Go.Gx Go.RowKit Go.Lib
section
variable {α : Type}
theorem look3_of_mem : ∀ {l : List (K3 × α)} {p : K3 × α},(l.map (·.1)).Nodup → p ∈ l → look3 l p.1 = some p.2
 | a :: l,p,hn,hp => by
  simp only [List.map_cons,List.nodup_cons] at hn
  unfold look3
  rcases List.mem_cons.1 hp with rfl | hp
  ·rw [if_pos rfl]
  ·rw [if_neg (fun e => hn.1 (by rw [e]; exact List.mem_map_of_mem hp)),look3_of_mem hn.2 hp]
theorem del3_filter : ∀ (l : List (K3 × α)) (k : K3),(l.map (·.1)).Nodup → del3 l k = l.filter (fun p => decide (p.1 ≠ k))
 | [],k,_ => rfl
 | a :: l,k,hn => by
  simp only [List.map_cons,List.nodup_cons] at hn
  by_cases h : a.1 = k
  ·rw [show del3 (a :: l) k = l from if_pos h,List.filter_cons_of_neg (by simp [h]),List.filter_eq_self.2]
   intro x hx
   simp only [ne_eq,decide_eq_true_eq]
   exact fun e => hn.1 (by rw [h,← e]; exact List.mem_map_of_mem hx)
  ·rw [show del3 (a :: l) k = a :: del3 l k from if_neg h,List.filter_cons_of_pos (by simp [h]),del3_filter l k hn.2]
theorem foldl_del3 : ∀ (ds : List K3) (l : List (K3 × α)),(l.map (·.1)).Nodup → ds.foldl del3 l = l.filter (fun p => decide (p.1 ∉ ds))
 | [],l,_ => by simp; exact (List.filter_eq_self.2 (by simp)).symm
 | d :: ds,l,hn => by
  rw [List.foldl_cons,del3_filter l d hn,foldl_del3 ds _ ((List.filter_sublist.map _).nodup hn),List.filter_filter]
  refine List.filter_congr fun x hx => ?_
  simp only [List.mem_cons,not_or,Bool.decide_and,ne_eq,Bool.and_comm]
theorem countP_at {f : α → Int} {l : List α} {i : Nat} (hi : i < l.length) (hs : ∀ a b (ha : a < l.length) (hb : b < l.length),a < b → f l[a] < f l[b]) : l.countP (fun x => decide (f x < f l[i])) = i := by
 have e : l.countP (fun x => decide (f x < f l[i])) = (l.take i).countP (fun x => decide (f x < f l[i])) + (l.drop i).countP (fun x => decide (f x < f l[i])) := by rw [← List.countP_append,List.take_append_drop]
 have e1 : (l.take i).countP (fun x => decide (f x < f l[i])) = (l.take i).length := by
  rw [List.countP_eq_length]
  intro a ha
  obtain ⟨j,hj,rfl⟩ := List.getElem_of_mem ha
  rw [List.length_take] at hj
  rw [List.getElem_take]
  exact decide_eq_true (hs j i (by omega) hi (by omega))
 have e2 : (l.drop i).countP (fun x => decide (f x < f l[i])) = 0 := by
  rw [List.countP_eq_zero]
  intro a ha
  obtain ⟨j,hj,rfl⟩ := List.getElem_of_mem ha
  rw [List.length_drop] at hj
  rw [List.getElem_drop]
  simp only [decide_eq_true_eq]
  by_cases hj0 : j = 0
  ·subst hj0; simp
  ·have := hs i (i + j) hi (by omega) (by omega)
   omega
 rw [e,e1,e2,List.length_take]
 omega
end
theorem trim_plain {q : DbQ} {ks : List K3} {n : Int} (hn : 0 ≤ n) (hk : (q.rs.map (·.1)).Nodup) (hl : (q.rs.map (·.2.2.last)).Nodup) (hp : ks.Perm (q.rs.map (·.1))) (hs : Srt (lastOf q) ks ks.length) :
  ((ks.take (ks.length - n.toNat)).foldl del3 q.rs).map (fun p => (p.1,p.2.2)) = trim (q.rs.map (fun p => (p.1,p.2.2))) n := by
 have hf : ∀ p ∈ q.rs,lastOf q p.1 = p.2.2.last := fun p hpm => by
  unfold lastOf
  rw [look3_of_mem hk hpm]
 have hlen : ks.length = q.rs.length := by rw [hp.length_eq,List.length_map]
 have hkn : ks.Nodup := hp.nodup_iff.2 hk
 have hfn : (ks.map (lastOf q)).Nodup := by
  rw [(hp.map (lastOf q)).nodup_iff,List.map_map]
  rw [show q.rs.map (lastOf q ∘ (·.1)) = q.rs.map (·.2.2.last) from List.map_congr_left fun p hpm => hf p hpm]
  exact hl
 have hst : ∀ a b (ha : a < ks.length) (hb : b < ks.length),a < b → lastOf q ks[a] < lastOf q ks[b] := fun a b ha hb hab => by
  have h1 := hs a b hab hb
  rw [List.getD_eq_getElem?_getD,List.getD_eq_getElem?_getD,List.getElem?_eq_getElem ha,List.getElem?_eq_getElem hb] at h1
  simp only [Option.getD_some] at h1
  have h2 := List.pairwise_iff_getElem.1 hfn a b (by simpa using ha) (by simpa using hb) hab
  simp only [List.getElem_map] at h2
  omega
 rw [foldl_del3 _ _ hk]
 unfold trim
 rw [List.filter_map]
 congr 1
 refine List.filter_congr fun p hpm => ?_
 have hmem : p.1 ∈ ks := hp.mem_iff.2 (List.mem_map_of_mem hpm)
 obtain ⟨i,hi,ei⟩ := List.getElem_of_mem hmem
 have hrank : rank (q.rs.map (fun p => (p.1,p.2.2))) (p.1,p.2.2) = i := by
  unfold rank
  rw [List.countP_map]
  have e1 : q.rs.countP ((fun r : Key × Res => decide (r.2.last < p.2.2.last)) ∘ fun p => (p.1,p.2.2)) = (q.rs.map (·.1)).countP (fun k => decide (lastOf q k < lastOf q ks[i])) := by
   rw [List.countP_map,ei,hf p hpm]
   refine List.countP_congr fun x hx => ?_
   simp only [Function.comp,decide_eq_true_eq]
   rw [hf x hx]
  rw [e1,← hp.countP_eq,countP_at hi hst]
 simp only [Function.comp]
 rw [hrank,List.length_map,show (max n 0).toNat = n.toNat from by omega,← hlen]
 rw [decide_eq_decide]
 rw [← ei]
 constructor
 ·intro h
  by_cases hle : ks.length - n.toNat ≤ i
  ·exact hle
  ·exact absurd (by rw [List.mem_take_iff_getElem]; exact ⟨i,by omega,rfl⟩) h
 ·intro h hm
  obtain ⟨j,hj,e⟩ := List.mem_take_iff_getElem.1 hm
  rcases Nat.lt_or_gt_of_ne (show j ≠ i by omega) with h1 | h1
  ·exact List.pairwise_iff_getElem.1 hkn j i (by omega) hi h1 e
  ·exact List.pairwise_iff_getElem.1 hkn i j hi (by omega) h1 e.symm
structure DbInv (db : DB) : Prop where
 keys : (db.res.map (·.1)).Nodup
 lasts : (db.res.map (·.2.last)).Nodup
 rng : ∀ p ∈ db.res,0 ≤ p.2.last ∧ p.2.last ≤ db.clock
theorem ups_keys {α : Type} : ∀ (l : List (Key × α)) (k : Key) (v : α),(ups l k v).map (·.1) = if k ∈ l.map (·.1) then l.map (·.1) else l.map (·.1) ++ [k]
 | [],k,v => by simp [ups]
 | a :: l,k,v => by
  by_cases h : a.1 = k
  ·rw [show ups (a :: l) k v = (k,v) :: l from if_pos h,if_pos (by simp [h])]
   simp [h]
  ·rw [show ups (a :: l) k v = a :: ups l k v from if_neg h,List.map_cons,ups_keys l k v]
   by_cases hm : k ∈ l.map (·.1)
   ·rw [if_pos hm,if_pos (by rw [List.map_cons]; exact List.mem_cons_of_mem _ hm)]; rfl
   ·rw [if_neg hm,if_neg (by rw [List.map_cons,List.mem_cons]; rintro (e | e); exact h e.symm; exact hm e)]; rfl
theorem ups_lasts : ∀ (l : List (Key × Res)) (k : Key) (r : Res) (c : Int),(l.map (·.2.last)).Nodup → (∀ p ∈ l,p.2.last ≤ c) → r.last = c + 1 → ((ups l k r).map (·.2.last)).Nodup
 | [],k,r,c,_,_,_ => by simp [ups]
 | a :: l,k,r,c,hn,hc,hr => by
  simp only [List.map_cons,List.nodup_cons] at hn
  by_cases h : a.1 = k
  ·rw [show ups (a :: l) k r = (k,r) :: l from if_pos h]
   simp only [List.map_cons,List.nodup_cons]
   refine ⟨fun hm => ?_,hn.2⟩
   obtain ⟨p,hp,e⟩ := List.mem_map.1 hm
   have := hc p (List.mem_cons_of_mem _ hp)
   omega
  ·rw [show ups (a :: l) k r = a :: ups l k r from if_neg h]
   simp only [List.map_cons,List.nodup_cons]
   refine ⟨fun hm => ?_,ups_lasts l k r c hn.2 (fun p hp => hc p (List.mem_cons_of_mem _ hp)) hr⟩
   obtain ⟨p,hp,e⟩ := List.mem_map.1 hm
   rcases ups_mem hp with rfl | hp
   ·have := hc a (by simp)
    simp only at e
    omega
   ·exact hn.1 (by rw [← e]; exact List.mem_map_of_mem hp)
theorem DbInv.ups {db : DB} (h : DbInv db) (k : Key) (r : Res) (hr : r.last = db.clock + 1) (h0 : 0 ≤ db.clock) {c : Int} {s : Ins} : DbInv ⟨s,ups db.res k r,c,db.clock + 1⟩ := by
 refine ⟨?_,ups_lasts _ _ _ _ h.lasts (fun p hp => (h.rng p hp).2) hr,fun p hp => ?_⟩
 ·rw [show (DB.mk s (Go.Proofs.YtliofpegbcegiaaGreatDoor.ups db.res k r) c (db.clock + 1)).res = Go.Proofs.YtliofpegbcegiaaGreatDoor.ups db.res k r from rfl,ups_keys]
  by_cases hm : k ∈ db.res.map (·.1)
  ·rw [if_pos hm]; exact h.keys
  ·rw [if_neg hm,List.nodup_append]
   exact ⟨h.keys,by simp,fun a ha b hb e => hm (by simp at hb; rw [← hb,← e]; exact ha)⟩
 ·simp only at hp ⊢
  rcases ups_mem hp with rfl | hp
  ·simp only; omega
  ·have := h.rng p hp; omega
theorem get_inv {db db' : DB} {k : Key} {sb : Bool} {v : QV} (hi : DbInv db) (h0 : 0 ≤ db.clock) (h : db.get k sb = some (v,db')) : DbInv db' ∧ db'.res.length ≤ db.res.length + 1 := by
 unfold DB.get at h
 cases hh : db.hit k with
 | some r =>
  rw [hh] at h
  simp only [Option.some.injEq,Prod.mk.injEq] at h
  obtain ⟨_,rfl⟩ := h
  exact ⟨hi.ups k _ rfl h0,ups_len _ _ _⟩
 | none =>
  rw [hh] at h
  simp only at h
  split at h
  ·cases h
  ·simp only [Option.some.injEq,Prod.mk.injEq] at h
   obtain ⟨_,rfl⟩ := h
   exact ⟨hi.ups k _ rfl h0,ups_len _ _ _⟩
theorem respond_inv {ms : List MD} {rev : Int} {db db' : DB} {r : Rq} {sb : Bool} {rs : Rs} (hi : DbInv db) (h0 : 0 ≤ db.clock) (h : respond ms rev db r sb = some (rs,db')) : DbInv db' ∧ db'.res.length ≤ db.res.length + 1 ∧ (ms = [] → db' = db) := by
 unfold respond at h
 split at h
 ·simp only [Option.some.injEq,Prod.mk.injEq] at h
  obtain ⟨_,rfl⟩ := h
  exact ⟨hi,by omega,fun _ => rfl⟩
 ·rename_i hx
  cases hg : db.get (r.query,r.arg,idxM ms r.name) sb with
  | none => rw [hg] at h; cases h
  | some q =>
   obtain ⟨v,db2⟩ := q
   rw [hg] at h
   simp only [Option.some.injEq,Prod.mk.injEq] at h
   obtain ⟨_,rfl⟩ := h
   obtain ⟨h1,h2⟩ := get_inv hi h0 hg
   refine ⟨h1,h2,fun e => absurd ?_ hx⟩
   subst e
   simp [idxM,idxF]
theorem runP_inv {ms : List MD} {rev n start : Int} : ∀ (l : List Rq) {db : DB},DbInv db → 0 ≤ db.clock → 0 ≤ db.comps →
  DbInv (runP ms rev n start l db).2.2 ∧ (runP ms rev n start l db).2.2.res.length + (runP ms rev n start l db).2.1.length ≤ db.res.length + l.length ∧ (ms = [] → (runP ms rev n start l db).2.2 = db) ∧
  db.comps ≤ (runP ms rev n start l db).2.2.comps ∧ (runP ms rev n start l db).2.2.comps ≤ db.comps + l.length ∧ db.clock ≤ (runP ms rev n start l db).2.2.clock ∧ (runP ms rev n start l db).2.2.clock ≤ db.clock + l.length
 | [],db,hi,h0,h1 => ⟨hi,by simp [runP],fun _ => rfl,by simp [runP],by simp [runP],by simp [runP],by simp [runP]⟩
 | r :: l,db,hi,h0,h1 => by
  cases hr : respond ms rev db r (decide (n ≤ db.comps - start)) with
  | none =>
   have hR : runP ms rev n start (r :: l) db = ([],r :: l,db) := by unfold runP; rw [hr]
   rw [hR]
   refine ⟨hi,by simp,fun _ => rfl,Int.le_refl _,?_,Int.le_refl _,?_⟩ <;> (simp only [List.length_cons]; omega)
  | some q =>
   obtain ⟨rs,db2⟩ := q
   have hR : runP ms rev n start (r :: l) db = (rs :: (runP ms rev n start l db2).1,(runP ms rev n start l db2).2) := by
    rw [show runP ms rev n start (r :: l) db = match respond ms rev db r (decide (n ≤ db.comps - start)) with | none => ([],r :: l,db) | some (rs,db') => (rs :: (runP ms rev n start l db').1,(runP ms rev n start l db').2) from rfl,hr]
   obtain ⟨a1,a2,a3⟩ := respond_inv hi h0 hr
   obtain ⟨n1,n2,n3,n4,n5⟩ := respond_num hr
   obtain ⟨b1,b2,b3,b4,b5,b6,b7⟩ := runP_inv l a1 (by omega) (by omega) (ms := ms) (rev := rev) (n := n) (start := start)
   rw [hR]
   refine ⟨b1,?_,fun e => by simp only; rw [b3 e,a3 e],?_,?_,?_,?_⟩ <;> (simp only [List.length_cons]; omega)
structure Good (k : Nat) (st : St) : Prop where
 inv : Inv Cx st
 dbi : DbInv st.db
 rev : 0 ≤ st.rev ∧ st.rev ≤ k
 irev : 0 ≤ st.db.ins.rev ∧ st.db.ins.rev ≤ 17 * k
 vb : ∀ v ∈ st.vers,0 ≤ v ∧ v ≤ k
 comps : 0 ≤ st.db.comps ∧ st.db.comps ≤ 20 * k
 clock : 0 ≤ st.db.clock ∧ st.db.clock ≤ 20 * k
 qok : ∀ r ∈ st.pend,1 ≤ r.query ∧ r.query ≤ 8
 p1 : st.pend.length ≤ k
 p2 : st.mods ≠ [] → st.pend.length + 1 ≤ k
 p3 : st.db.res = [] ∨ st.db.res.length + st.pend.length + 2 ≤ k
theorem valC_zero {l : List MD} (h : valC l = 0) : l.length ≤ 8 ∧ (∀ m ∈ l,m.2.size ≤ 2000) ∧ l.any (fun m => !ident m.1) = false ∧ dups l = false := by
 unfold valC at h
 split at h
 ·cases h
 ·rename_i h1
  split at h
  ·cases h
  ·rename_i h2
   split at h
   ·cases h
   ·rename_i h3
    simp only [not_or,Nat.not_lt,Bool.not_eq_true] at h1 h2 h3
    refine ⟨h1.1,fun m hm => ?_,h2,h3⟩
    have := List.any_eq_false.1 h1.2 m hm
    simpa using this
theorem Good.fine {k : Nat} {st : St} (h : Good k st) (hk : k ≤ 1000) : Fine st := by
 have hi := h.inv
 have hok : st.mods.length ≤ 8 ∧ ∀ m ∈ st.mods,m.2.size ≤ 2000 := by
  rcases hi.ok with e | e
  ·rw [e]; exact ⟨by simp,fun m hm => by cases hm⟩
  ·obtain ⟨a,b,_⟩ := valC_zero e
   exact ⟨a,b⟩
 have h1 := h.rev
 have h2 := h.irev
 have h3 := h.comps
 have h4 := h.clock
 exact ⟨hok.1,hok.2,hi.vers,hi.sorted,by omega,by omega,fun v hv => by have := h.vb v hv; omega,hi.pend,by omega,by omega,hi.mtch,h.qok⟩
theorem Good.mono {k k' : Nat} {st : St} (h : Good k st) (hk : k ≤ k') : Good k' st := by
 have h1 := h.rev
 have h2 := h.irev
 have h3 := h.comps
 have h4 := h.clock
 have h5 := h.p1
 exact ⟨h.inv,h.dbi,by omega,by omega,fun v hv => by have := h.vb v hv; omega,by omega,by omega,h.qok,by omega,fun e => by have := h.p2 e; omega,h.p3.imp id fun e => by omega⟩
theorem good_new : Good 0 new0 := ⟨inv_new Cx,⟨by simp [new0],by simp [new0],fun p hp => by simp [new0] at hp⟩,by simp [new0],by simp [new0],fun v hv => by simp [new0] at hv,by simp [new0],by simp [new0],fun r hr => by simp [new0] at hr,by simp [new0],fun e => absurd rfl e,.inl rfl⟩
theorem all_rev (s : Ins) (ms : List MD) : s.rev ≤ (s.all ms).rev ∧ (s.all ms).rev ≤ s.rev + 1 + 2 * ms.length := by
 have h1 := s.rev_set (0,0,0) ([(ms.length : Int)],noB)
 have h2 := mods_rev ms (s.set (0,0,0) ([(ms.length : Int)],noB)) 0
 unfold Ins.all
 omega
theorem Good.replace {k : Nat} {st : St} {ms : List MD} {vs : List Int} (h : Good k st) (hi : Inv Cx (replaceS Cx st ms vs).1) (hv : ∀ v ∈ vs,0 ≤ v ∧ v ≤ (k + 1 : Nat)) : Good (k + 1) (replaceS Cx st ms vs).1 := by
 by_cases hval : valC ms = 0
 ·have hR : replaceS Cx st ms vs = ({ st with mods := ms,vers := vs,rev := st.rev + 1,db := { st.db with ins := st.db.ins.all ms } },0) := if_neg (by show ¬ valC ms ≠ 0; simp [hval])
  rw [hR] at hi ⊢
  have hl := (valC_zero hval).1
  have h1 := h.rev
  have h2 := h.irev
  have h3 := h.comps
  have h4 := h.clock
  have h5 := h.p1
  have ha := all_rev st.db.ins ms
  exact ⟨hi,⟨h.dbi.keys,h.dbi.lasts,h.dbi.rng⟩,by simp only; omega,by simp only; omega,hv,by simp only; omega,by simp only; omega,h.qok,by simp only; omega,fun _ => by simp only; omega,h.p3.imp id fun e => by simp only; omega⟩
 ·rw [show replaceS Cx st ms vs = (st,valC ms) from if_pos hval]
  exact h.mono (by omega)
theorem getD_le {l : List Int} {i : Nat} {k : Int} (hk : 0 ≤ k) (h : ∀ v ∈ l,0 ≤ v ∧ v ≤ k) : 0 ≤ l.getD i 0 ∧ l.getD i 0 ≤ k := by
 rw [List.getD_eq_getElem?_getD]
 cases hi : l[i]? with
 | none => simp [hk]
 | some v => exact h v (List.mem_of_getElem? hi)
theorem cxOk : CtxOk Cx where
 irr := ltB_irr
 trans := ltB_trans
 tri := ltB_tri
 take := fun ms k h => by
  have h' : valC ms = 0 := h
  show valC (ms.take k) = 0
  obtain ⟨h1,h2,h3,h4⟩ := valC_zero h'
  have hl : (ms.take k).length ≤ ms.length := by rw [List.length_take]; omega
  have n2 : ¬ (8 < (ms.take k).length ∨ (ms.take k).any (fun m => decide (2000 < m.2.size)) = true) := by
   rintro (e | e)
   ·omega
   ·obtain ⟨m,hm,hs⟩ := List.any_eq_true.1 e
    have := h2 m (List.mem_of_mem_take hm)
    have := of_decide_eq_true hs
    omega
  have n3 : ¬ (ms.take k).any (fun m => !ident m.1) = true := fun e => by
   obtain ⟨m,hm,hs⟩ := List.any_eq_true.1 e
   have := List.any_eq_false.1 h3 m (List.mem_of_mem_take hm)
   exact this hs
  have n4 : ¬ dups (ms.take k) = true := fun e => by
   obtain ⟨i,hi,hs⟩ := List.any_eq_true.1 e
   have hil := List.mem_range.1 hi
   have hik : i < k := by rw [List.length_take] at hil; omega
   have := List.any_eq_false.1 h4 i (List.mem_range.2 (by omega))
   apply this
   rw [List.take_take,Nat.min_eq_left (by omega)] at hs
   rw [show mdAt (ms.take k) i = mdAt ms i from by unfold mdAt; rw [List.getElem?_take,if_pos hik]] at hs
   exact hs
  unfold valC
  rw [if_neg n2,if_neg n3,if_neg n4]
theorem Good.write {k : Nat} {st : St} (h : Good k st) (name text : BA) : Good (k + 1) (writeS Cx st name text).1 := by
 have hi := h.inv.write cxOk name text
 unfold writeS at hi ⊢
 split at hi
 ·rename_i hx
  rw [if_pos hx]
  refine h.replace hi fun v hv => ?_
  have hg := getD_le (i := (idxM st.mods name).toNat) (by omega) h.vb
  rcases List.mem_or_eq_of_mem_set hv with hv | rfl
  ·have := h.vb v hv; omega
  ·omega
 ·rename_i hx
  rw [if_neg hx]
  refine h.replace hi fun v hv => ?_
  unfold insert1 at hv
  rcases List.mem_append.1 hv with hv | hv
  ·have := h.vb v (List.mem_of_mem_take hv); omega
  ·rcases List.mem_cons.1 hv with rfl | hv
   ·omega
   ·have := h.vb v (List.mem_of_mem_drop hv); omega
theorem Good.remove {k : Nat} {st : St} (h : Good k st) (name : BA) : Good (k + 1) (removeS Cx st name).1 := by
 have hi := h.inv.remove name
 unfold removeS at hi ⊢
 split at hi
 ·rename_i hx
  rw [if_pos hx]
  exact h.mono (by omega)
 ·rename_i hx
  rw [if_neg hx]
  exact h.replace hi fun v hv => by have := h.vb v (List.mem_of_mem_eraseIdx hv); omega
theorem Good.edit {k : Nat} {st : St} (h : Good k st) (name : BA) (v : Int) (es : List TE) : Good (k + 1) (editS Cx st name v es).1 := by
 unfold editS
 split
 ·exact h.mono (by omega)
 ·split
  ·exact h.mono (by omega)
  ·split
   ·exact h.mono (by omega)
   ·exact h.write _ _
theorem Good.request {k : Nat} {st : St} (h : Good k st) (r : Rq) : Good (k + 1) (requestS st r).1 := by
 have hi := h.inv.request r
 unfold requestS at hi ⊢
 split at hi
 ·rename_i hx
  rw [if_pos hx]
  exact h.mono (by omega)
 ·rename_i hx
  rw [if_neg hx]
  split at hi
  ·rename_i hy
   rw [if_pos hy]
   exact h.mono (by omega)
  ·rename_i hy
   rw [if_neg hy]
   split at hi
   ·rename_i hz
    rw [if_pos hz]
    exact h.mono (by omega)
   ·rename_i hz
    rw [if_neg hz]
    have h' := h.mono (k' := k + 1) (by omega)
    have h5 := h.p1
    refine ⟨hi,h'.dbi,h'.rev,h'.irev,h'.vb,h'.comps,h'.clock,fun r' hr => ?_,by simp only [List.length_append,List.length_cons,List.length_nil]; omega,fun e => by have := h.p2 e; simp only [List.length_append,List.length_cons,List.length_nil]; omega,h.p3.imp id fun e => by simp only [List.length_append,List.length_cons,List.length_nil]; omega⟩
    simp only at hr
    rcases List.mem_append.1 hr with hr | hr
    ·exact h.qok r' hr
    ·obtain rfl := List.mem_singleton.1 hr
     omega
theorem Good.cancel {k : Nat} {st : St} (h : Good k st) (c i : Int) : Good (k + 1) (cancelS st c i).1 := by
 have hi := h.inv.cancel c i
 unfold cancelS at hi ⊢
 cases hf : findR st.pend c i with
 | none => exact h.mono (by omega)
 | some j =>
  rw [hf] at hi
  have h' := h.mono (k' := k + 1) (by omega)
  have h5 := h.p1
  have hle : (st.pend.eraseIdx j).length ≤ st.pend.length := List.length_eraseIdx_le _ _
  exact ⟨hi,h'.dbi,h'.rev,h'.irev,h'.vb,h'.comps,h'.clock,fun r' hr => h.qok r' (List.mem_of_mem_eraseIdx hr),by simp only; omega,fun e => by have := h.p2 e; simp only; omega,h.p3.imp id fun e => by simp only; omega⟩
theorem Good.run {k : Nat} {st : St} (h : Good k st) (n : Int) : Good (k + 1) (runS st n).1 := by
 have hi := h.inv.run n
 unfold runS at hi ⊢
 split at hi
 ·rename_i hx
  rw [if_pos hx]
  exact h.mono (by omega)
 ·rename_i hx
  rw [if_neg hx]
  have h' := h.mono (k' := k + 1) (by omega)
  have h3 := h.comps
  have h4 := h.clock
  have h5 := h.p1
  have hp := h.inv.pend
  obtain ⟨b1,b2,b3,b4,b5,b6,b7⟩ := runP_inv st.pend (ms := st.mods) (rev := st.rev) (n := n) (start := st.db.comps) h.dbi h4.1 h3.1
  have hsub : ∀ (l : List Rq) (db : DB),∃ j,(runP st.mods st.rev n st.db.comps l db).2.1 = l.drop j := fun l => by
   induction l with
   | nil => intro db; exact ⟨0,rfl⟩
   | cons r l ih =>
    intro db
    cases hr : respond st.mods st.rev db r (decide (n ≤ db.comps - st.db.comps)) with
    | none => exact ⟨0,by unfold runP; rw [hr]; rfl⟩
    | some q =>
     obtain ⟨rs,db2⟩ := q
     obtain ⟨j,hj⟩ := ih db2
     exact ⟨j + 1,by
      rw [show runP st.mods st.rev n st.db.comps (r :: l) db = match respond st.mods st.rev db r (decide (n ≤ db.comps - st.db.comps)) with | none => ([],r :: l,db) | some (rs,db') => (rs :: (runP st.mods st.rev n st.db.comps l db').1,(runP st.mods st.rev n st.db.comps l db').2) from rfl,hr]
      exact hj⟩
  obtain ⟨j,hj⟩ := hsub st.pend st.db
  have hle : (runP st.mods st.rev n st.db.comps st.pend st.db).2.1.length ≤ st.pend.length := by rw [hj,List.length_drop]; omega
  have hins : (runP st.mods st.rev n st.db.comps st.pend st.db).2.2.ins = st.db.ins := by
   obtain ⟨_,_,_,_,h,_⟩ := runP_ok (ms := st.mods) (rev := st.rev) (n := n) (start := st.db.comps) st.pend h.inv.fine h.inv.sound h.inv.mtch
   exact h
  refine ⟨hi,b1,h'.rev,by simp only; rw [hins]; exact h'.irev,h'.vb,by simp only; omega,by simp only; omega,fun r hr => h.qok r ?_,by simp only; omega,fun e => by have := h.p2 e; simp only at this ⊢; omega,?_⟩
  ·simp only at hr
   rw [hj] at hr
   exact List.mem_of_mem_drop hr
  ·simp only
   rcases h.p3 with e | e
   ·by_cases hm : st.mods = []
    ·left; rw [b3 hm]; exact e
    ·right
     have := h.p2 hm
     rw [e,List.length_nil] at b2
     omega
   ·right; omega
theorem Good.evict {k : Nat} {st : St} (h : Good k st) (n : Int) : Good (k + 1) (evictS st n).1 := by
 have hi := h.inv.evict n
 unfold evictS at hi ⊢
 split at hi
 ·rename_i hx
  rw [if_pos hx]
  exact h.mono (by omega)
 ·rename_i hx
  rw [if_neg hx]
  have h' := h.mono (k' := k + 1) (by omega)
  have hle : (trim st.db.res n).length ≤ st.db.res.length := List.length_filter_le _ _
  have hsub : (trim st.db.res n).Sublist st.db.res := List.filter_sublist
  exact ⟨hi,⟨(hsub.map _).nodup h.dbi.keys,(hsub.map _).nodup h.dbi.lasts,fun p hp => h.dbi.rng p (hsub.subset hp)⟩,h'.rev,h'.irev,h'.vb,h'.comps,h'.clock,h.qok,h'.p1,h'.p2,by
   rcases h.p3 with e | e
   ·have h0 : st.db.res.length = 0 := by rw [e]; rfl
    left; simp only; exact List.eq_nil_of_length_eq_zero (by omega)
   ·right; simp only; omega⟩
theorem Good.handle {k : Nat} {st : St} (h : Good k st) (e : Ev TE) : Good (k + 1) (handleS Cx st e).1 := by
 unfold handleS
 repeat' split
 ·exact h.write _ _
 ·exact h.remove _
 ·exact h.edit _ _ _
 ·exact h.request _
 ·exact h.cancel _ _
 ·exact h.run _
 ·exact h.evict _
 ·exact h.mono (by omega)
theorem Good.play : ∀ {l : List (Ev TE)} {k : Nat} {st : St},Good k st → Good (k + l.length) (playS Cx st l).1
 | [],k,st,h => h
 | e :: l,k,st,h => by
  have := Good.play (l := l) (h.handle e)
  rw [List.length_cons,show k + (l.length + 1) = k + 1 + l.length from by omega]
  exact this
end Go.Proofs.YtliofpegbcegiaaGreatDoor
