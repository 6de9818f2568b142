/- The walks of memo.GetUntil and of the closure that it defers. Printed by r5/srvi.py. -/
import Derived.Test.YtliofpegbcegiaaGreatDoorXf
import Derived.Test.YtliofpegbcegiaaGreatDoorXb
import Derived.Test.YtliofpegbcegiaaGreatDoorXa
set_option linter.unusedVariables false
set_option linter.unusedSimpArgs false
namespace Go.Proofs.YtliofpegbcegiaaGreatDoor
set_option maxRecDepth 20000
open Go.Gx Go.RowKit Go.Lib
section
variable {P : Program} {n : Nat} {L : Env} {w : World} {d : Option Tmp} {ty : TypeId} {pos : String} {af : Array Edge} {g : Option (Nat × Bool)}
theorem t_ifNeT {t t' u : TypeId} {x : Operand} {v : Value} (he : ∀ w,(Op.equal t (.iface u v) .nilIface).run P w = .ok false w) (hx : evO L x = some (.iface u v)) : Tm P n ⟨d,.binOp .neq t x (.const .nilIface) t',ty,pos,af,g⟩ L w (.bool true) := fun a ha w' _ => by
 have hy : a.eval (.const .nilIface) = .nilIface := rfl
 simp [execOp,ha.eval hx,hy,eqGuard,binOp,he]
theorem t_ifNeF {t t' : TypeId} {x : Operand} (he : ∀ w,(Op.equal t .nilIface .nilIface).run P w = .ok true w) (hx : evO L x = some .nilIface) : Tm P n ⟨d,.binOp .neq t x (.const .nilIface) t',ty,pos,af,g⟩ L w (.bool false) := fun a ha w' _ => by
 have hy : a.eval (.const .nilIface) = .nilIface := rfl
 simp [execOp,ha.eval hx,hy,eqGuard,binOp,he]
theorem t_assertT {xt a : TypeId} {x : Operand} {v u : Value} {ok : Bool} (hi : ∀ w,(Instr.typeAssert v xt a ok).run P w = .ok u w) (hx : evO L x = some v) : Tm P n ⟨d,.typeAssert x xt a ok,ty,pos,af,g⟩ L w u := fun b hb w' _ => by
 simp [execOp,hb.eval hx,hi]
end
theorem ifE1 (w : World) : (Op.equal 20 (.iface 151 (.agg #[.int .i64 12])) .nilIface).run Tryz.prog w = .ok false w := by kernel_rfl
theorem ifE0 (w : World) : (Op.equal 20 .nilIface .nilIface).run Tryz.prog w = .ok true w := by kernel_rfl
theorem asrt (w : World) : (Instr.typeAssert (.iface 151 (.agg #[.int .i64 12])) 20 151 true).run Tryz.prog w = .ok (.tuple #[.agg #[.int .i64 12],.bool true]) w := by kernel_rfl
theorem rec_idle {w : World} {q : DbQ} {B : Fs} {b3 b6 b7 : Nat} (hD : DbW w q) (hfl : Floor B q) (hB : Und B w.heap.size) (h3 : Var w b3 [.pointer (some ⟨q.bD,0,none⟩)] 60) :
  CallsD Tryz.prog 89 #[.pointer (some ⟨b3,0,none⟩),.pointer (some ⟨b6,0,none⟩),.pointer (some ⟨b7,0,none⟩)] .returning w (fun e u' w' => (∃ v,e = .returned v) ∧ settle u' = .returning ∧ DbW w' { q with stop := .nilFunc,act := [] } ∧ Kd B w w') := by
 have kd := Kd.refl hB
 obtain ⟨bD,bI,bM,bR,bA,bF,ins,act,stop,rs,comps,clock⟩ := q
 have hcD := hD.var.cells
 simp only [DbQ.cells] at hcD
 have hc3 := h3.cells
 refine callsD_of_wpS Tryz.func89 rfl fun c₀ cs hu => ?_
 rw [Tryz.ntmps89]
 refine (?_ : Ws Tryz.prog 27 _ _ (c₀ :: cs) (argsEnv 0 [.pointer (some ⟨b3,0,none⟩),.pointer (some ⟨b6,0,none⟩),.pointer (some ⟨b7,0,none⟩)]) w) _ (Fr.enter [.pointer (some ⟨b3,0,none⟩),.pointer (some ⟨b6,0,none⟩),.pointer (some ⟨b7,0,none⟩)] (by simp))
 refine Ws.seq (Wp.region ?_)
 refine Rg.tm trivial rfl (t_load ty60 rfl (by first | assumption | (apply Cells.get (i := 0); (case h => assumption); rfl))) rfl ?_
 refine Rg.tm trivial rfl (t_nilCheck rfl) rfl ?_
 refine Rg.tm trivial rfl (t_fieldAddr fa87_4 rfl) rfl ?_
 refine Rg.wn trivial (w_putF hD.var ty23 rfl rfl rfl rfl rfl) ?_
 rintro _ w1 ⟨hu1,hDv_⟩
 simp only [DbQ.cells,List.set] at hDv_
 replace kd := kd.updV hu1 hfl.d hD.var (.inl rfl)
 replace h3 := h3.upd hu1 (h3.ne hD.var (by decide))
 replace hD := hD.own (q' := ⟨bD,bI,bM,bR,bA,bF,ins,act,.nilFunc,rs,comps,clock⟩) hu1 hDv_ rfl
 clear hcD hc3
 have hc3 := h3.cells
 have hcD := hD.var.cells
 simp only [DbQ.cells] at hcD
 refine Rg.done ?_
 refine Ws.seq (Wp.region ?_)
 refine Rg.tm trivial rfl (t_load ty60 rfl (by first | assumption | (apply Cells.get (i := 0); (case h => assumption); rfl))) rfl ?_
 refine Rg.tm trivial rfl (t_nilCheck rfl) rfl ?_
 refine Rg.tm trivial rfl (t_fieldAddr fa87_3 rfl) rfl ?_
 refine Rg.tm trivial rfl (t_load ty85 rfl (by apply Cells.get (i := 3); (case h => assumption); rfl)) rfl ?_
 refine Rg.wn trivial (w_mapClear3 Tryz.underlying85 rfl hD.act) ?_
 rintro _ w2 ⟨hu2,hm2⟩
 replace kd := kd.updM hu2 hfl.a hD.act
 replace h3 := h3.upd hu2 (hD.act.ne h3)
 replace hD : DbW w2 ⟨bD,bI,bM,bR,bA,bF,ins,[],.nilFunc,rs,comps,clock⟩ := hD.setAct hu2 hm2
 clear hcD hc3
 refine Rg.done ?_
 refine Ws.recover rfl rfl ?_
 have hr0 : recoverD (c₀ :: cs) = none := by unfold recoverD; simp [hu]
 have hrv : recV (c₀ :: cs) = .nilIface := by unfold recV; rw [hr0]
 have hrc : recC (c₀ :: cs) = c₀ :: cs := by unfold recC; rw [hr0]
 rw [hrv,hrc]
 refine Ws.seq (Wp.region ?_)
 refine Rg.tm trivial rfl (t_move rfl) rfl ?_
 refine Rg.tm trivial rfl (t_ifNeF ifE0 rfl) rfl ?_
 refine Rg.done ?_
 refine Ws.of (Wp.condF rfl (Wp.skip fun a ha => ?_))
 exact ⟨ha.defers,.returning,by rw [← hu],_,results_run (rs := []) (vs := []) rfl ha trivial,⟨_,rfl⟩,rfl,hD,kd⟩
theorem rec_pan {w0 w : World} {q : DbQ} {B : Fs} {b3 b6 b7 : Nat} {c6 c7 : List Value} (hD : DbW w q) (hfl : Floor B q) (kd : Kd B w0 w) (h3 : Var w b3 [.pointer (some ⟨q.bD,0,none⟩)] 60) (h6 : Var w b6 c6 66) (h7 : Var w b7 c7 40) (hc6 : c6.length = 2) (hc7 : c7.length = 1) (hb6 : w0.heap.size ≤ b6) (hb7 : w0.heap.size ≤ b7) :
  CallsD Tryz.prog 89 #[.pointer (some ⟨b3,0,none⟩),.pointer (some ⟨b6,0,none⟩),.pointer (some ⟨b7,0,none⟩)] (.panicking [{ v := .iface 151 (.agg #[.int .i64 12]),recovered := false }]) w (fun e u' w' => (∃ v,e = .returned v) ∧ settle u' = .returning ∧ DbW w' { q with stop := .nilFunc,act := [] } ∧ Kd B w0 w' ∧ Var w' b6 [.slice none 0 0,.string ⟨#[]⟩] 66 ∧ Var w' b7 [.int .i64 12] 40) := by
 obtain ⟨bD,bI,bM,bR,bA,bF,ins,act,stop,rs,comps,clock⟩ := q
 have hcD := hD.var.cells
 simp only [DbQ.cells] at hcD
 have hc3 := h3.cells
 refine callsD_of_wpS Tryz.func89 rfl fun c₀ cs hu => ?_
 rw [Tryz.ntmps89]
 refine (?_ : Ws Tryz.prog 27 _ _ (c₀ :: cs) (argsEnv 0 [.pointer (some ⟨b3,0,none⟩),.pointer (some ⟨b6,0,none⟩),.pointer (some ⟨b7,0,none⟩)]) w) _ (Fr.enter [.pointer (some ⟨b3,0,none⟩),.pointer (some ⟨b6,0,none⟩),.pointer (some ⟨b7,0,none⟩)] (by simp))
 refine Ws.seq (Wp.region ?_)
 refine Rg.tm trivial rfl (t_load ty60 rfl (by first | assumption | (apply Cells.get (i := 0); (case h => assumption); rfl))) rfl ?_
 refine Rg.tm trivial rfl (t_nilCheck rfl) rfl ?_
 refine Rg.tm trivial rfl (t_fieldAddr fa87_4 rfl) rfl ?_
 refine Rg.wn trivial (w_putF hD.var ty23 rfl rfl rfl rfl rfl) ?_
 rintro _ w1 ⟨hu1,hDv_⟩
 simp only [DbQ.cells,List.set] at hDv_
 replace kd := kd.updV hu1 hfl.d hD.var (.inl rfl)
 replace h3 := h3.upd hu1 (h3.ne hD.var (by decide))
 replace h6 := h6.upd hu1 (h6.ne hD.var (by decide))
 replace h7 := h7.upd hu1 (h7.ne hD.var (by decide))
 replace hD := hD.own (q' := ⟨bD,bI,bM,bR,bA,bF,ins,act,.nilFunc,rs,comps,clock⟩) hu1 hDv_ rfl
 clear hcD hc3
 have hc3 := h3.cells
 have hcD := hD.var.cells
 simp only [DbQ.cells] at hcD
 refine Rg.done ?_
 refine Ws.seq (Wp.region ?_)
 refine Rg.tm trivial rfl (t_load ty60 rfl (by first | assumption | (apply Cells.get (i := 0); (case h => assumption); rfl))) rfl ?_
 refine Rg.tm trivial rfl (t_nilCheck rfl) rfl ?_
 refine Rg.tm trivial rfl (t_fieldAddr fa87_3 rfl) rfl ?_
 refine Rg.tm trivial rfl (t_load ty85 rfl (by apply Cells.get (i := 3); (case h => assumption); rfl)) rfl ?_
 refine Rg.wn trivial (w_mapClear3 Tryz.underlying85 rfl hD.act) ?_
 rintro _ w2 ⟨hu2,hm2⟩
 replace kd := kd.updM hu2 hfl.a hD.act
 replace h3 := h3.upd hu2 (hD.act.ne h3)
 replace h6 := h6.upd hu2 (hD.act.ne h6)
 replace h7 := h7.upd hu2 (hD.act.ne h7)
 replace hD : DbW w2 ⟨bD,bI,bM,bR,bA,bF,ins,[],.nilFunc,rs,comps,clock⟩ := hD.setAct hu2 hm2
 clear hcD hc3
 refine Rg.done ?_
 refine Ws.recover rfl rfl ?_
 have hr0 : recoverD (c₀ :: cs) = some (.iface 151 (.agg #[.int .i64 12]),{ c₀ with mode := .panicking [{ v := .iface 151 (.agg #[.int .i64 12]),recovered := true }] } :: cs) := by unfold recoverD; simp [hu]
 have hrv : recV (c₀ :: cs) = .iface 151 (.agg #[.int .i64 12]) := by unfold recV; rw [hr0]
 have hrc : recC (c₀ :: cs) = { c₀ with mode := .panicking [{ v := .iface 151 (.agg #[.int .i64 12]),recovered := true }] } :: cs := by unfold recC; rw [hr0]
 rw [hrv,hrc]
 refine Ws.seq (Wp.region ?_)
 refine Rg.tm trivial rfl (t_move rfl) rfl ?_
 refine Rg.tm trivial rfl (t_ifNeT ifE1 rfl) rfl ?_
 refine Rg.done ?_
 refine Ws.of ?_
 refine Wp.condT rfl ?_
 refine Wp.seq (Wp.region ?_)
 refine Rg.tm trivial rfl (t_move rfl) rfl ?_
 refine Rg.tm trivial rfl (t_assertT asrt rfl) rfl ?_
 refine Rg.tm trivial rfl (t_move rfl) rfl ?_
 refine Rg.tm trivial rfl (t_extract rfl rfl) rfl ?_
 refine Rg.tm trivial rfl (t_extract rfl rfl) rfl ?_
 have kz := kd.le
 refine Rg.wd trivial (w_new Tryz.zeroValue151 rfl) rfl ?_
 rintro _ w3 ⟨b4,rfl,qb4,hx3,hv4⟩
 replace hD := hD.ext hx3
 replace kd := kd.ext hx3
 replace h3 := h3.ext hx3
 replace h6 := h6.ext hx3
 replace h7 := h7.ext hx3
 refine Rg.wn trivial (w_put hv4 rfl rfl rfl ty151 rfl rfl) ?_
 rintro _ w4 ⟨hu4,hv4_⟩
 replace kd := kd.updN hu4 (by omega)
 replace h6 := h6.upd hu4 (h6.ne hv4 (by decide))
 replace h7 := h7.upd hu4 (h7.ne hv4 (by decide))
 replace hD := hD.upd hv4 hu4 (by decide) (by decide) (by decide) (by decide) (by decide) (by decide)
 clear h3 hv4
 have hv4 := hv4_
 clear hv4_
 have hc4 := hv4.cells
 refine Rg.tm trivial rfl (t_assign rfl) rfl ?_
 refine Rg.done ?_
 refine Wp.seq ?_
 refine Wp.seq (Wp.region ?_)
 refine Rg.tm trivial rfl (t_move rfl) rfl ?_
 refine Rg.tm trivial rfl (t_notB rfl) rfl ?_
 refine Rg.done ?_
 refine Wp.condF rfl ?_
 refine Wp.skip ?_
 refine Wp.drawS (fun w' => Var w' b4 [.int .i64 12] 151) [0,1,2,3,4] [] mixed (by kernel_rfl) (by kernel_rfl) (by rfl) ?_
 intro w5 hx5 hh5
 replace hD := hD.ext hx5
 replace kd := kd.ext hx5
 replace h6 := h6.ext hx5
 replace h7 := h7.ext hx5
 replace hv4 := hv4.ext hx5
 replace hc4 := hc4.ext hx5
 refine ⟨hv4,?_⟩
 refine Rs.tm trivial rfl (ts fun wz hkz => by exact t_build (bd66) rfl) rfl ?_
 refine Rs.tm trivial rfl (ts fun wz hkz => by exact t_fieldAddr fa151_0 rfl) rfl ?_
 refine Rs.tm trivial rfl (ts fun wz hkz => by have y4 := hkz.cells; exact t_load ty40 rfl (by apply Cells.get (i := 0); (case h => assumption); rfl)) rfl ?_
 refine Rs.wn trivial rfl (w_put h6 rfl rfl rfl ty66 (by simpa using hc6) rfl) (fun _ => fun _ _ h => hv4.upd h.1 (hv4.ne h6 (by decide))) ?_
 rintro _ w6 ⟨hu6,h6_⟩
 replace kd := kd.updN hu6 hb6
 replace h7 := h7.upd hu6 (h7.ne h6 (by decide))
 replace hD := hD.upd h6 hu6 (by decide) (by decide) (by decide) (by decide) (by decide) (by decide)
 replace hv4 := hv4.upd hu6 (hv4.ne h6 (by decide))
 clear h6 hc4
 have h6 := h6_
 clear h6_
 refine Rs.wn trivial rfl (w_put h7 rfl rfl rfl ty40 (by simpa using hc7) rfl) (fun _ => fun _ _ h => hv4.upd h.1 (hv4.ne h7 (by decide))) ?_
 rintro _ w7 ⟨hu7,h7_⟩
 replace kd := kd.updN hu7 hb7
 replace h6 := h6.upd hu7 (h6.ne h7 (by decide))
 replace hD := hD.upd h7 hu7 (by decide) (by decide) (by decide) (by decide) (by decide) (by decide)
 refine Rs.done ?_
 intro a ha
 exact ⟨ha.defers,_,rfl,_,results_run (rs := []) (vs := []) rfl ha trivial,⟨_,rfl⟩,rfl,hD,kd,h6,h7_⟩
structure Rel (q : DbQ) (db : DB) : Prop where
 ins : q.ins = db.ins
 res : q.rs.map (fun p => (p.1,p.2.2)) = db.res
 comps : q.comps = db.comps
 clock : q.clock = db.clock
theorem lkp_look : ∀ (l : List (K3 × (Nat × Res))) (k : K3),lkp (l.map fun p => (p.1,p.2.2)) k = (look3 l k).map (·.2)
 | [],k => rfl
 | a :: l,k => by
  simp only [List.map_cons,lkp,look3]
  by_cases h : a.1 = k
  ·rw [if_pos h,if_pos h]; rfl
  ·rw [if_neg h,if_neg h]; exact lkp_look l k
theorem ups_look : ∀ (l : List (K3 × (Nat × Res))) (k : K3) (p : Nat) (r : Res),(ups3 l k (p,r)).map (fun p => (p.1,p.2.2)) = ups (l.map fun p => (p.1,p.2.2)) k r
 | [],k,p,r => rfl
 | a :: l,k,p,r => by
  by_cases h : a.1 = k
  ·rw [show ups3 (a :: l) k (p,r) = (k,(p,r)) :: l from if_pos h,List.map_cons,List.map_cons]
   exact (if_pos h).symm
  ·rw [show ups3 (a :: l) k (p,r) = a :: ups3 l k (p,r) from if_neg h,List.map_cons,List.map_cons,ups_look l k p r]
   exact (if_neg h).symm
theorem own_kd {B0 : Fs} {B e size n : Nat} {w w' : World} {v : Value} {xs : List Value} (h : w.ownsRow B e size v n xs) (k : Kd B0 w w') (h1 : e ≠ 87) (h2 : e ≠ 139) : w'.ownsRow B e size v n xs := by
 refine ⟨h.1,h.2.imp id ?_⟩
 rintro ⟨g,cap,cur,rfl,a1,a2,a3⟩
 have hv : Var w g cur.toList e := by unfold Var; simpa using a2
 have := k.var g _ e h1 h2 hv
 exact ⟨g,cap,cur,rfl,a1,by unfold Var at this; simpa using this,a3⟩
theorem update_ok {w : World} {q : DbQ} {db db' : DB} {B : Fs} {n : Nat} {sf : FuncId} {cap : List Value} {query arg idx : Int} {sb : Bool} {v : QV} (hD : DbW w q) (hfl : Floor B q) (hB : Und B w.heap.size) (hact : q.act = []) (hr : Rel q db) (hq : q.stop = .func (.func sf) #[] cap.toArray) (hcf : ∀ (args : Array Value) (w : World),(callFunc sf args).run Tryz.prog w = .ok (.enter sf args) w)
  (hst : ∀ w',Ka q.bA w w' → Cl Tryz.prog sf (([] : List Value) ++ cap).toArray w' (fun u w'' => u = .bool sb ∧ Ext w' w''))
  (hn : q.ins.val (0,0,0) = ([(n : Int)],noB)) (hn20 : n ≤ 20) (hidx : 0 ≤ idx ∧ idx < n) (hcs : 0 ≤ q.comps ∧ q.comps ≤ 1000000000) (hcl : 0 ≤ q.clock ∧ q.clock ≤ 1000000000) (hg : db.get (query,arg,idx) sb = some (v,db')) :
  Cl Tryz.prog 91 #[.pointer (some ⟨q.bD,0,none⟩),.agg #[.int .i64 query,.int .i64 arg,.int .i64 idx]] w (fun u w' => ∃ p r q1,u = .pointer (some ⟨p,0,none⟩) ∧ DbW w' q1 ∧ Floor B q1 ∧ look3 q1.rs (query,arg,idx) = some (p,r) ∧ r.val = v ∧ Rel q1 db' ∧ q1.act = [] ∧ q1.bD = q.bD ∧ Kd B w w') := by
 unfold DB.get at hg
 cases hh : db.hit (query,arg,idx) with
 | some r =>
  rw [hh] at hg
  simp only [Option.some.injEq,Prod.mk.injEq] at hg
  obtain ⟨rfl,rfl⟩ := hg
  unfold DB.hit at hh
  rw [← hr.res,lkp_look] at hh
  cases hl : look3 q.rs (query,arg,idx) with
  | none => rw [hl] at hh; cases hh
  | some pr =>
   obtain ⟨p,r1⟩ := pr
   rw [hl] at hh
   simp only [Option.map_some] at hh
   split at hh
   ·rename_i hok
    injection hh with hh
    subst hh
    unfold DB.ok at hok
    rw [← hr.ins] at hok
    refine (update_hit hD hfl hB hact hl hok hcl).mono ?_
    rintro u w' ⟨h1,h2,h3,h4⟩
    refine ⟨p,_,_,h1,h2,h3,look_ups3 _ _ _,rfl,⟨hr.ins,?_,hr.comps,?_⟩,rfl,rfl,h4⟩
    ·simp only [ups_look,hr.res,DB.old,hr.ins,hr.clock]
    ·simp only [DB.old,hr.clock]
   ·cases hh
 | none =>
  rw [hh] at hg
  cases sb with
  | true => simp at hg
  | false =>
   simp only [Bool.false_eq_true,if_false,Option.some.injEq,Prod.mk.injEq] at hg
   obtain ⟨rfl,rfl⟩ := hg
   have hno : ∀ p r,look3 q.rs (query,arg,idx) = some (p,r) → okI q.ins r = false := fun p r hl => by
    unfold DB.hit at hh
    rw [← hr.res,lkp_look,hl] at hh
    simp only [Option.map_some] at hh
    split at hh
    ·cases hh
    ·rename_i hok
     unfold DB.ok at hok
     rw [← hr.ins] at hok
     simpa using hok
   refine (update_new hD hfl hB hact hq hcf hst hno hn hn20 hidx hcs hcl).mono ?_
   rintro u w' ⟨p,h1,h2,h3,h4⟩
   refine ⟨p,_,_,h1,h2,h3,look_ups3 _ _ _,by rw [hr.ins],⟨hr.ins,?_,?_,?_⟩,rfl,rfl,h4⟩
   ·simp only [ups_look,hr.res,DB.new,hr.ins,hr.clock]
   ·simp only [DB.new,hr.comps]
   ·simp only [DB.new,hr.clock]
theorem get_none {q : DbQ} {db : DB} {k : K3} {sb : Bool} (hr : Rel q db) (hg : db.get k sb = none) : sb = true ∧ ∀ p r,look3 q.rs k = some (p,r) → okI q.ins r = false := by
 unfold DB.get at hg
 cases hh : db.hit k with
 | some r => rw [hh] at hg; cases hg
 | none =>
  rw [hh] at hg
  refine ⟨by cases sb <;> simp at hg ⊢,fun p r hl => ?_⟩
  unfold DB.hit at hh
  rw [← hr.res,lkp_look,hl] at hh
  simp only [Option.map_some] at hh
  split at hh
  ·cases hh
  ·rename_i hok
   unfold DB.ok at hok
   rw [← hr.ins] at hok
   simpa using hok
theorem RV.cellN {P : Program} {L : Env} {w : World} {a t b o : Nat} {v : Value} (ht : Ty P t 1 false) (hl : Go.Gx.look L a = some (.pointer (some ⟨b,o,none⟩))) (hc : w.cell? ⟨b,o,none⟩ = some v) : RV P L w (.cell a t) v :=
 ⟨_,hl,by simp [loadVar,ht.ag,hc]⟩
structure DbA (B : Fs) (w : World) (q : DbQ) (db : DB) : Prop where
 D : DbW w q
 fl : Floor B q
 rel : Rel q db
 act : q.act = []
 stop : q.stop = .nilFunc
theorem getUntil_val {w : World} {q : DbQ} {db db' : DB} {B : Fs} {n : Nat} {sf : FuncId} {cap : List Value} {query arg idx : Int} {sb : Bool} {v : QV} (hA : DbA B w q db) (hB : Und B w.heap.size) (hcf : ∀ (args : Array Value) (w : World),(callFunc sf args).run Tryz.prog w = .ok (.enter sf args) w)
  (hst : ∀ w',Kp [q.bD,q.bA] w w' → Var w' q.bD ({ q with stop := .func (.func sf) #[] cap.toArray } : DbQ).cells 87 → Cl Tryz.prog sf (([] : List Value) ++ cap).toArray w' (fun u w'' => u = .bool sb ∧ Ext w' w''))
  (hqn : query ≠ 0) (hn : q.ins.val (0,0,0) = ([(n : Int)],noB)) (hn20 : n ≤ 20) (hidx : 0 ≤ idx ∧ idx < n) (hcs : 0 ≤ q.comps ∧ q.comps ≤ 1000000000) (hcl : 0 ≤ q.clock ∧ q.clock ≤ 1000000000) (hg : db.get (query,arg,idx) sb = some (v,db')) :
  Cl Tryz.prog 73 #[.pointer (some ⟨q.bD,0,none⟩),.agg #[.int .i64 query,.int .i64 arg,.int .i64 idx],.func (.func sf) #[] cap.toArray] w (fun u w' => (∃ pn cn,u = .tuple #[.agg #[.slice pn v.1.length cn,.string v.2],.int .i64 0] ∧ w'.ownsRow w.heap.size 3 1 (.slice pn v.1.length cn) v.1.length (v.1.map (.int .i64)) ∧ v.1 ≠ [] ∧ v.1.length ≤ 50) ∧ (∃ q',DbA B w' q' db' ∧ q'.bD = q.bD) ∧ Kd B w w') := by
 obtain ⟨hD,hfl,hrel,hact,hstp⟩ := hA
 obtain ⟨bD,bI,bM,bR,bA,bF,ins,act,stop,rs,comps,clock⟩ := q
 simp only at hact hstp hn hcs hcl
 subst hact
 subst hstp
 have hx := Ext.refl w
 have hcD := hD.var.cells
 simp only [DbQ.cells] at hcD
 unfold Cl
 refine calls_of_wp_defers Tryz.func73 rfl ?_
 rw [Tryz.ntmps73]
 refine (?_ : Wq Tryz.prog 34 _ _ (argsEnv 0 [.pointer (some ⟨bD,0,none⟩),.agg #[.int .i64 query,.int .i64 arg,.int .i64 idx],.func (.func sf) #[] cap.toArray]) w) _ (Fr.enter [.pointer (some ⟨bD,0,none⟩),.agg #[.int .i64 query,.int .i64 arg,.int .i64 idx],.func (.func sf) #[] cap.toArray] (by simp))
 refine Wq.seq (Wp.region ?_)
 refine Rg.wd trivial (w_boxed rfl rfl) rfl ?_
 rintro _ w1 ⟨b3,rfl,qb3,hx1,hv3⟩
 replace hx := hx.ext hx1
 replace hD := hD.ext hx1
 replace hcD := hcD.ext hx1
 have hc3 := hv3.cells
 refine Rg.wd trivial (w_boxed rfl rfl) rfl ?_
 rintro _ w2 ⟨b4,rfl,qb4,hx2,hv4⟩
 replace hx := hx.ext hx2
 replace hD := hD.ext hx2
 replace hcD := hcD.ext hx2
 replace hv3 := hv3.ext hx2
 replace hc3 := hc3.ext hx2
 have hc4 := hv4.cells
 have le5 := hx.le
 refine Rg.wd trivial (w_new Tryz.zeroValue66 rfl) rfl ?_
 rintro _ w3 ⟨b6,rfl,qb6,hx3,hv6⟩
 replace hx := hx.ext hx3
 replace hD := hD.ext hx3
 replace hcD := hcD.ext hx3
 replace hv3 := hv3.ext hx3
 replace hc3 := hc3.ext hx3
 replace hv4 := hv4.ext hx3
 replace hc4 := hc4.ext hx3
 have hc6 := hv6.cells
 have le6 := hx.le
 refine Rg.wd trivial (w_new Tryz.zeroValue40 rfl) rfl ?_
 rintro _ w4 ⟨b7,rfl,qb7,hx4,hv7⟩
 replace hx := hx.ext hx4
 replace hD := hD.ext hx4
 replace hcD := hcD.ext hx4
 replace hv3 := hv3.ext hx4
 replace hc3 := hc3.ext hx4
 replace hv4 := hv4.ext hx4
 replace hc4 := hc4.ext hx4
 replace hv6 := hv6.ext hx4
 replace hc6 := hc6.ext hx4
 have hc7 := hv7.cells
 refine Rg.done ?_
 refine Wq.seq ?_
 refine Wp.seq (Wp.region ?_)
 refine Rg.tm trivial rfl (t_fieldAddr fa63_0 rfl) rfl ?_
 refine Rg.tm trivial rfl (t_load ty3 rfl (by apply Cells.get (i := 0); (case h => assumption); rfl)) rfl ?_
 first | refine Rg.tm trivial rfl (t_eqlT rfl rfl (by omega)) rfl ?_ | refine Rg.tm trivial rfl (t_eqlF rfl rfl (by omega)) rfl ?_ | refine Rg.tm trivial rfl (t_eql rfl rfl) rfl ?_
 refine Rg.done ?_
 refine Wp.condF rfl ?_
 refine Wp.skip ?_
 refine Wq.seq (Wp.region ?_)
 refine Rg.tm trivial rfl (t_load ty60 rfl (by first | assumption | (apply Cells.get (i := 0); (case h => assumption); rfl))) rfl ?_
 refine Rg.tm trivial rfl (t_move rfl) rfl ?_
 refine Rg.tm trivial rfl (t_nilCheck rfl) rfl ?_
 refine Rg.tm trivial rfl (t_fieldAddr fa87_4 rfl) rfl ?_
 refine Rg.wn trivial (w_putF hD.var ty23 rfl rfl rfl rfl rfl) ?_
 rintro _ w5 ⟨hu5,hDv_⟩
 simp only [DbQ.cells,List.set] at hDv_
 have kd := ((Kd.refl hB).ext hx).updV hu5 hfl.d hD.var (.inl rfl)
 have kp := (hx.kp [bD,bA]).trans (hu5.kp (by simp))
 replace hv3 := hv3.upd hu5 (hv3.ne hD.var (by decide))
 replace hv4 := hv4.upd hu5 (hv4.ne hD.var (by decide))
 replace hv6 := hv6.upd hu5 (hv6.ne hD.var (by decide))
 replace hv7 := hv7.upd hu5 (hv7.ne hD.var (by decide))
 have hD_ := hD.own (q' := ⟨bD,bI,bM,bR,bA,bF,ins,[],.func (.func sf) #[] cap.toArray,rs,comps,clock⟩) hu5 hDv_ rfl
 clear hcD hc3 hc4 hc6 hc7 hD hx
 have hD := hD_
 clear hD_
 have hc3 := hv3.cells
 have hc4 := hv4.cells
 have hcD := hD.var.cells
 simp only [DbQ.cells] at hcD
 replace hfl : Floor B ⟨bD,bI,bM,bR,bA,bF,ins,[],.func (.func sf) #[] cap.toArray,rs,comps,clock⟩ := ⟨hfl.d,hfl.i,hfl.m,hfl.r,hfl.a,hfl.e⟩
 replace hrel : Rel ⟨bD,bI,bM,bR,bA,bF,ins,[],.func (.func sf) #[] cap.toArray,rs,comps,clock⟩ _ := ⟨hrel.ins,hrel.res,hrel.comps,hrel.clock⟩
 have hst' : ∀ w',Ka bA w5 w' → Cl Tryz.prog sf (([] : List Value) ++ cap).toArray w' (fun u w'' => u = .bool sb ∧ Ext w' w'') := fun w' ka => hst w' (kp.trans ⟨ka.base,fun k hk hz => ka.block k hk (by simp at hz ⊢; exact hz.2)⟩) (hD.var.kp ka (by simp; exact fun e => by have := hD.act.ne hD.var; exact this e))
 refine Rg.done ?_
 refine Wq.dfr (vs := [.pointer (some ⟨b3,0,none⟩),.pointer (some ⟨b6,0,none⟩),.pointer (some ⟨b7,0,none⟩)]) rfl rfl fun a ha => ?_
 refine wp_seq ?_
 refine wp_region_lit (l := [_,_,_,_,_,_,_,_,_]) (rg_under (dr := none) (K := fun L w' => Sub ([(6,.pointer (some ⟨b6,0,none⟩)),(7,.pointer (some ⟨b7,0,none⟩))]) L ∧ (∃ q1 pn cn,DbW w' q1 ∧ Floor B q1 ∧ Rel q1 db' ∧ q1.bD = bD ∧ Var w' b3 [.pointer (some ⟨bD,0,none⟩)] 60 ∧ Var w' b6 [.slice pn v.1.length cn,.string v.2] 66 ∧ Var w' b7 [.int .i64 0] 40 ∧
  w'.ownsRow w.heap.size 3 1 (.slice pn v.1.length cn) v.1.length (v.1.map (.int .i64))) ∧ v.1 ≠ [] ∧ v.1.length ≤ 50 ∧ Kd B w w') ?_ a ha ?_)
 ·skip
  refine Rg.tm trivial rfl (t_load ty60 rfl (by first | assumption | (apply Cells.get (i := 0); (case h => assumption); rfl))) rfl ?_
  refine Rg.tm trivial rfl (t_loadA rfl hc4 ty63) rfl ?_
  refine Rg.wd trivial (w_call Tryz.call91 rfl (update_ok (q := ⟨bD,bI,bM,bR,bA,bF,ins,[],.func (.func sf) #[] cap.toArray,rs,comps,clock⟩) hD hfl kd.le' rfl hrel rfl hcf hst' hn hn20 hidx hcs hcl hg)) rfl ?_
  rintro _ w6 ⟨p,r,q1,rfl,hD1,hfl1,hl1,rfl,hrel1,hact1,hbD1,kd1⟩
  replace kd := kd.trans kd1
  replace hv3 := kd1.var _ _ _ (by decide) (by decide) hv3
  replace hv6 := kd1.var _ _ _ (by decide) (by decide) hv6
  replace hv7 := kd1.var _ _ _ (by decide) (by decide) hv7
  clear hD hcD hc3 hc4 hv4 hst' kp
  have hD := hD1
  clear hD1
  obtain ⟨⟨vn,vd,chg,hvp,hvn,hvd⟩,hsm,hz,hne⟩ := hD.each _ (look3_mem hl1)
  simp only at hvp hvn hsm hne
  have hcp := hvp.cells
  obtain ⟨pn1,cn1,rfl⟩ := hvn.shape
  have hlew := kd.le
  refine Rg.tm trivial rfl (t_nilCheck rfl) rfl ?_
  refine Rg.tm trivial rfl (t_fieldAddr fa139_0 rfl) rfl ?_
  refine Rg.tm trivial rfl (t_loadA rfl (show Cells _ p 0 [.slice pn1 _ cn1,.string r.val.2] from Cells.sub hcp 0 2) ty66) rfl ?_
  refine Rg.wd trivial (w_call Tryz.call90 rfl (cloneR_ok hvn.slc (by omega))) rfl ?_
  rintro _ w7 ⟨⟨p33,c33,rfl,ho33⟩,hx7⟩
  replace kd := kd.ext hx7
  replace hv3 := hv3.ext hx7
  replace hv6 := hv6.ext hx7
  replace hv7 := hv7.ext hx7
  replace hD := hD.ext hx7
  replace hcp := hcp.ext hx7
  replace ho33 := own_mono ho33 hlew
  refine Rg.wn trivial (w_put hv6 rfl rfl rfl ty66 rfl rfl) ?_
  rintro _ w8 ⟨hu8,h6_⟩
  replace kd := kd.updN hu8 (by omega)
  replace hv3 := hv3.upd hu8 (hv3.ne hv6 (by decide))
  replace hv7 := hv7.upd hu8 (hv7.ne hv6 (by decide))
  replace hD := hD.upd hv6 hu8 (by decide) (by decide) (by decide) (by decide) (by decide) (by decide)
  replace ho33 := own_upd ho33 hv6 hu8 (by decide)
  clear hv6 hcp
  refine Rg.wn trivial (w_put hv7 rfl rfl rfl ty40 rfl rfl) ?_
  rintro _ w9 ⟨hu9,h7_⟩
  replace kd := kd.updN hu9 (by omega)
  replace hv3 := hv3.upd hu9 (hv3.ne hv7 (by decide))
  replace h6_ := h6_.upd hu9 (h6_.ne hv7 (by decide))
  replace hD := hD.upd hv7 hu9 (by decide) (by decide) (by decide) (by decide) (by decide) (by decide)
  replace ho33 := own_upd ho33 hv7 hu9 (by decide)
  refine Rg.done ⟨by repeat (first | exact .nil | refine .cons rfl ?_),⟨q1,p33,c33,hD,hfl1,hrel1,hbD1,hv3,h6_,h7_,ho33⟩,hne,by omega,kd⟩
 ·skip
  intro a' L' w' ha' hK
  obtain ⟨hsub,⟨q1,pn,cn,hD1,hfl1,hrel1,hbD1,g3,g6,g7,go⟩,hne,hl50,kd1⟩ := hK
  refine wp_ret ?_
  refine Leaves.one (rs := [.cell 6 66,.cell 7 40]) rfl (ha'.sub hsub) (by simp) Tryz.call89 ?_
  rw [← hbD1] at g3
  refine (rec_idle (b6 := b6) (b7 := b7) hD1 hfl1 kd1.le' g3).mono ?_
  rintro e u' w'' ⟨he,hs,hD2,kd2⟩
  replace g6 := kd2.var _ _ _ (by decide) (by decide) g6
  replace g7 := kd2.var _ _ _ (by decide) (by decide) g7
  refine ⟨he,hs,[_,_],⟨RV.cellA (vs := [_,_]) ty66 rfl g6.cells,RV.cellN ty40 rfl (g7.cells 0 _ rfl),trivial⟩,⟨pn,cn,rfl,own_kd go kd2 (by decide) (by decide),hne,hl50⟩,⟨_,⟨hD2,⟨hfl1.d,hfl1.i,hfl1.m,hfl1.r,hfl1.a,hfl1.e⟩,⟨hrel1.ins,hrel1.res,hrel1.comps,hrel1.clock⟩,rfl,rfl⟩,hbD1⟩,kd1.trans kd2⟩
theorem getUntil_none {w : World} {q : DbQ} {db : DB} {B : Fs} {n : Nat} {sf : FuncId} {cap : List Value} {query arg idx : Int} {sb : Bool} (hA : DbA B w q db) (hB : Und B w.heap.size) (hcf : ∀ (args : Array Value) (w : World),(callFunc sf args).run Tryz.prog w = .ok (.enter sf args) w)
  (hst : ∀ w',Kp [q.bD,q.bA] w w' → Var w' q.bD ({ q with stop := .func (.func sf) #[] cap.toArray } : DbQ).cells 87 → Cl Tryz.prog sf (([] : List Value) ++ cap).toArray w' (fun u w'' => u = .bool sb ∧ Ext w' w''))
  (hqn : query ≠ 0) (hg : db.get (query,arg,idx) sb = none) :
  Cl Tryz.prog 73 #[.pointer (some ⟨q.bD,0,none⟩),.agg #[.int .i64 query,.int .i64 arg,.int .i64 idx],.func (.func sf) #[] cap.toArray] w (fun u w' => u = .tuple #[.agg #[.slice none 0 0,.string ⟨#[]⟩],.int .i64 12] ∧ (∃ q',DbA B w' q' db ∧ q'.bD = q.bD) ∧ Kd B w w') := by
 obtain ⟨hD,hfl,hrel,hact,hstp⟩ := hA
 obtain ⟨bD,bI,bM,bR,bA,bF,ins,act,stop,rs,comps,clock⟩ := q
 simp only at hact hstp
 subst hact
 subst hstp
 have hx := Ext.refl w
 have hcD := hD.var.cells
 simp only [DbQ.cells] at hcD
 unfold Cl
 refine calls_of_wp_defers Tryz.func73 rfl ?_
 rw [Tryz.ntmps73]
 refine (?_ : Wq Tryz.prog 34 _ _ (argsEnv 0 [.pointer (some ⟨bD,0,none⟩),.agg #[.int .i64 query,.int .i64 arg,.int .i64 idx],.func (.func sf) #[] cap.toArray]) w) _ (Fr.enter [.pointer (some ⟨bD,0,none⟩),.agg #[.int .i64 query,.int .i64 arg,.int .i64 idx],.func (.func sf) #[] cap.toArray] (by simp))
 refine Wq.seq (Wp.region ?_)
 refine Rg.wd trivial (w_boxed rfl rfl) rfl ?_
 rintro _ w1 ⟨b3,rfl,qb3,hx1,hv3⟩
 replace hx := hx.ext hx1
 replace hD := hD.ext hx1
 replace hcD := hcD.ext hx1
 have hc3 := hv3.cells
 refine Rg.wd trivial (w_boxed rfl rfl) rfl ?_
 rintro _ w2 ⟨b4,rfl,qb4,hx2,hv4⟩
 replace hx := hx.ext hx2
 replace hD := hD.ext hx2
 replace hcD := hcD.ext hx2
 replace hv3 := hv3.ext hx2
 replace hc3 := hc3.ext hx2
 have hc4 := hv4.cells
 have le5 := hx.le
 refine Rg.wd trivial (w_new Tryz.zeroValue66 rfl) rfl ?_
 rintro _ w3 ⟨b6,rfl,qb6,hx3,hv6⟩
 replace hx := hx.ext hx3
 replace hD := hD.ext hx3
 replace hcD := hcD.ext hx3
 replace hv3 := hv3.ext hx3
 replace hc3 := hc3.ext hx3
 replace hv4 := hv4.ext hx3
 replace hc4 := hc4.ext hx3
 have hc6 := hv6.cells
 have le6 := hx.le
 refine Rg.wd trivial (w_new Tryz.zeroValue40 rfl) rfl ?_
 rintro _ w4 ⟨b7,rfl,qb7,hx4,hv7⟩
 replace hx := hx.ext hx4
 replace hD := hD.ext hx4
 replace hcD := hcD.ext hx4
 replace hv3 := hv3.ext hx4
 replace hc3 := hc3.ext hx4
 replace hv4 := hv4.ext hx4
 replace hc4 := hc4.ext hx4
 replace hv6 := hv6.ext hx4
 replace hc6 := hc6.ext hx4
 have hc7 := hv7.cells
 refine Rg.done ?_
 refine Wq.seq ?_
 refine Wp.seq (Wp.region ?_)
 refine Rg.tm trivial rfl (t_fieldAddr fa63_0 rfl) rfl ?_
 refine Rg.tm trivial rfl (t_load ty3 rfl (by apply Cells.get (i := 0); (case h => assumption); rfl)) rfl ?_
 first | refine Rg.tm trivial rfl (t_eqlT rfl rfl (by omega)) rfl ?_ | refine Rg.tm trivial rfl (t_eqlF rfl rfl (by omega)) rfl ?_ | refine Rg.tm trivial rfl (t_eql rfl rfl) rfl ?_
 refine Rg.done ?_
 refine Wp.condF rfl ?_
 refine Wp.skip ?_
 refine Wq.seq (Wp.region ?_)
 refine Rg.tm trivial rfl (t_load ty60 rfl (by first | assumption | (apply Cells.get (i := 0); (case h => assumption); rfl))) rfl ?_
 refine Rg.tm trivial rfl (t_move rfl) rfl ?_
 refine Rg.tm trivial rfl (t_nilCheck rfl) rfl ?_
 refine Rg.tm trivial rfl (t_fieldAddr fa87_4 rfl) rfl ?_
 refine Rg.wn trivial (w_putF hD.var ty23 rfl rfl rfl rfl rfl) ?_
 rintro _ w5 ⟨hu5,hDv_⟩
 simp only [DbQ.cells,List.set] at hDv_
 have kd := ((Kd.refl hB).ext hx).updV hu5 hfl.d hD.var (.inl rfl)
 have kp := (hx.kp [bD,bA]).trans (hu5.kp (by simp))
 replace hv3 := hv3.upd hu5 (hv3.ne hD.var (by decide))
 replace hv4 := hv4.upd hu5 (hv4.ne hD.var (by decide))
 replace hv6 := hv6.upd hu5 (hv6.ne hD.var (by decide))
 replace hv7 := hv7.upd hu5 (hv7.ne hD.var (by decide))
 have hD_ := hD.own (q' := ⟨bD,bI,bM,bR,bA,bF,ins,[],.func (.func sf) #[] cap.toArray,rs,comps,clock⟩) hu5 hDv_ rfl
 clear hcD hc3 hc4 hc6 hc7 hD hx
 have hD := hD_
 clear hD_
 have hc3 := hv3.cells
 have hc4 := hv4.cells
 have hcD := hD.var.cells
 simp only [DbQ.cells] at hcD
 replace hfl : Floor B ⟨bD,bI,bM,bR,bA,bF,ins,[],.func (.func sf) #[] cap.toArray,rs,comps,clock⟩ := ⟨hfl.d,hfl.i,hfl.m,hfl.r,hfl.a,hfl.e⟩
 replace hrel : Rel ⟨bD,bI,bM,bR,bA,bF,ins,[],.func (.func sf) #[] cap.toArray,rs,comps,clock⟩ _ := ⟨hrel.ins,hrel.res,hrel.comps,hrel.clock⟩
 have hst' : ∀ w',Ka bA w5 w' → Cl Tryz.prog sf (([] : List Value) ++ cap).toArray w' (fun u w'' => u = .bool sb ∧ Ext w' w'') := fun w' ka => hst w' (kp.trans ⟨ka.base,fun k hk hz => ka.block k hk (by simp at hz ⊢; exact hz.2)⟩) (hD.var.kp ka (by simp; exact fun e => by have := hD.act.ne hD.var; exact this e))
 refine Rg.done ?_
 refine Wq.dfr (vs := [.pointer (some ⟨b3,0,none⟩),.pointer (some ⟨b6,0,none⟩),.pointer (some ⟨b7,0,none⟩)]) rfl rfl fun a ha => ?_
 refine wp_seq ?_
 obtain ⟨rfl,hno⟩ := get_none hrel hg
 refine wp_region_lit (l := [_,_,_,_,_,_,_,_,_]) (rgp_under' (pre := [_,_]) (o := _) (post := [_,_,_,_,_,_]) (E := [(6,.pointer (some ⟨b6,0,none⟩)),(7,.pointer (some ⟨b7,0,none⟩))]) (R := fun c w' => c = [{ v := .iface 151 (.agg #[.int .i64 12]),recovered := false }] ∧ ∃ a,DbW w' ⟨bD,bI,bM,bR,bA,bF,ins,a,.func (.func sf) #[] cap.toArray,rs,comps,clock⟩ ∧ Var w' b3 [.pointer (some ⟨bD,0,none⟩)] 60 ∧ Var w' b6 [.slice none 0 0,.string ⟨#[]⟩] 66 ∧ Var w' b7 [.int .i64 0] 40 ∧ Kd B w w') rfl ?_ ha ?_)
 ·skip
  refine Rg.tm trivial rfl (t_load ty60 rfl (by first | assumption | (apply Cells.get (i := 0); (case h => assumption); rfl))) rfl ?_
  refine Rg.tm trivial rfl (t_loadA rfl hc4 ty63) rfl ?_
  refine Rg.done ⟨trivial,?_,by repeat (first | exact .nil | refine .cons rfl ?_)⟩
  intro a ha Q next hnx
  exact p_call Tryz.call91 rfl (update_pan (q := ⟨bD,bI,bM,bR,bA,bF,ins,[],.func (.func sf) #[] cap.toArray,rs,comps,clock⟩) hD hfl kd.le' rfl rfl hcf hst' hno) a ha Q next (fun c w' h => hnx c w' (by
   obtain ⟨h1,a1,h2,h3⟩ := h
   exact ⟨h1,a1,h2,h3.var _ _ _ (by decide) (by decide) hv3,h3.var _ _ _ (by decide) (by decide) hv6,h3.var _ _ _ (by decide) (by decide) hv7,kd.trans h3⟩))
 ·skip
  rintro a' c w' ha' ⟨rfl,a1,hD1,g3,g6,g7,kd1⟩
  refine Leaves.one (rs := [.cell 6 66,.cell 7 40]) rfl ha' (by simp) Tryz.call89 ?_
  refine (rec_pan (q := ⟨bD,bI,bM,bR,bA,bF,ins,a1,.func (.func sf) #[] cap.toArray,rs,comps,clock⟩) hD1 ⟨hfl.d,hfl.i,hfl.m,hfl.r,hfl.a,hfl.e⟩ kd1 g3 g6 g7 rfl rfl (by omega) (by omega)).mono ?_
  rintro e u' w'' ⟨he,hs,hD2,kd2,g6,g7⟩
  exact ⟨he,hs,[_,_],⟨RV.cellA (vs := [_,_]) ty66 rfl g6.cells,RV.cellN ty40 rfl (g7.cells 0 _ rfl),trivial⟩,rfl,⟨_,⟨hD2,⟨hfl.d,hfl.i,hfl.m,hfl.r,hfl.a,hfl.e⟩,⟨hrel.ins,hrel.res,hrel.comps,hrel.clock⟩,rfl,rfl⟩,rfl⟩,kd2⟩
end Go.Proofs.YtliofpegbcegiaaGreatDoor
namespace Go.Proofs.YtliofpegbcegiaaGreatDoor
set_option maxRecDepth 20000
open Go.Gx Go.RowKit Go.Lib
def KW (a c : World) : Prop := a.heap.size ≤ c.heap.size ∧ ∀ (i : Nat) (o : Obj),a.heap[i]? = some o → isWk o = true → c.heap[i]? = some o
theorem KW.refl (a : World) : KW a a := ⟨Nat.le_refl _,fun _ _ h _ => h⟩
theorem KW.trans {a b c : World} (h : KW a b) (k : KW b c) : KW a c := ⟨Nat.le_trans h.1 k.1,fun i o h1 h2 => k.2 i o (h.2 i o h1 h2) h2⟩
theorem KW.ext {a b c : World} (h : KW a b) (k : Ext b c) : KW a c := h.trans ⟨k.le,fun i o h1 _ => by rw [Below.block k i (Array.getElem?_eq_some_iff.1 h1).1]; exact h1⟩
theorem KW.upd {a b c : World} {i : Nat} (h : KW a b) (k : Upd i b c) (hi : ∀ o,b.heap[i]? = some o → isWk o = false) : KW a c := h.trans ⟨k.size ▸ Nat.le_refl _,fun j o h1 h2 => by
 rw [k.block j fun e => by subst e; rw [hi o h1] at h2; cases h2]; exact h1⟩
theorem KW.grown {a b c : World} {B e size n : Nat} {v : Value} {xs : List Value} (h : KW a b) (hown : b.ownsRow B e size v n xs) (hg : b.grownBy c v.ownBlock) : KW a c := h.trans ⟨hg.size,fun j o h1 h2 => by
 rw [hg.block j (Array.getElem?_eq_some_iff.1 h1).1 fun e => by
  obtain ⟨cs,hc⟩ := own_block hown e
  rw [hc] at h1; cases h1; cases h2]; exact h1⟩
theorem keysIter_ok {w : World} {Bm b lp : Nat} {l : List (K3 × Value)} {J : List K3 → World → Prop} (hv : Var w Bm [.map (some b)] 84) (hm : MapR w b l)
  (hJx : ∀ ks a c,J ks a → Ext a c → J ks c) (hJu : ∀ ks a c r,J ks a → Upd r a c → (∃ o,a.heap[r]? = some o ∧ isWk o = true) → w.heap.size ≤ r → J ks c)
  (hY : ∀ pre x a,J pre a → pre.length < l.length → YieldAt Fence.wide (1 - 1) Tryz.prog lp #[encK x] a (fun e c => e = .returned (.bool true) ∧ J (pre ++ [x]) c ∧ KW a c)) (h0 : J [] w) :
  Cl Tryz.prog 94 (([.func (.yield lp) #[] #[]] : List Value) ++ ([.pointer (some ⟨Bm,0,none⟩)] : List Value)).toArray w (fun u c => ∃ ks,ks.Perm (l.map (·.1)) ∧ J ks c) := by
 have hc := hv.cells
 have hJ := h0
 refine Cl.enter Tryz.func94 rfl Tryz.ntmps94 rfl rfl ?_
 refine Wp.seq (Wp.region ?_)
 refine Rg.tm trivial rfl (t_load ty84 rfl (by first | assumption | (apply Cells.get (i := 0); (case h => assumption); rfl))) rfl ?_
 refine Rg.wd trivial (w_range3 Tryz.underlying84 rfl hm) rfl ?_
 rintro _ w1 ⟨rfl,hx1,hit⟩
 replace hJ := hJx _ _ _ hJ hx1
 have hle := hx1.le
 obtain ⟨r,hr⟩ : ∃ r,r = w.heap.size := ⟨_,rfl⟩
 rw [← hr] at hit ⊢
 clear hc
 refine Rg.done ?_
 refine Wp.block ?_
 refine Wp.loop (ι := List K3 × List (K3 × Value)) (fun _ => [(0,.func (.yield lp) #[] #[]),(5,.pointer (some ⟨r,0,none⟩))])
  (fun k w' => J k.1 w' ∧ IterR w' r b l k.2 ∧ (k.1 ++ k.2.map (·.1)).Perm (l.map (·.1)) ∧ w.heap.size ≤ w'.heap.size) (fun k => k.2.length) ([],l) (by repeat (first | exact .nil | refine .cons rfl ?_)) ⟨hJ,hit,by simp,hle⟩ ?_
 clear hJ hit hle
 rintro ⟨ks,left⟩ w2 ⟨hJ,hit,hpm,hle⟩
 simp only at hJ hit hpm ⊢
 refine Wp.seq (Wp.region ?_)
 refine Rg.wd trivial (w_next3 rfl hit) rfl ?_
 rintro _ w3 (⟨rfl,rfl,rfl⟩ | ⟨l1,x,l2,rfl,rfl,hit',hu,hen⟩)
 ·skip
  refine Rg.tm trivial rfl (t_extract rfl rfl) rfl ?_
  refine Rg.done ?_
  refine Wp.seq ?_
  refine Wp.condF rfl ?_
  refine Wp.exit ?_
  exact ⟨[],trivial,ks,by simpa using hpm,hJ⟩
 ·skip
  refine Rg.tm trivial rfl (t_extract rfl rfl) rfl ?_
  refine Rg.done ?_
  have hwk : ∃ o,w2.heap[r]? = some o ∧ isWk o = true := by
   obtain ⟨es,clk,seen,_,h2,_⟩ := hit
   exact ⟨_,h2,rfl⟩
  replace hJ := hJu _ _ _ r hJ hu hwk (by omega)
  clear hit
  have hit := hit'
  clear hit'
  have hlen : ks.length < l.length := by
   have := hpm.length_eq
   simp at this
   omega
  replace hle : w.heap.size ≤ w3.heap.size := by rw [hu.size]; exact hle
  refine Wp.seq ?_
  refine Wp.condT rfl ?_
  refine Wp.skip ?_
  refine Wp.block ?_
  refine Wp.seq (Wp.region ?_)
  refine Rg.wd trivial (w_entry3 rfl hen) rfl ?_
  rintro _ _ ⟨rfl,rfl⟩
  refine Rg.tm trivial rfl (t_extract rfl rfl) rfl ?_
  refine Rg.wd trivial (w_new Tryz.zeroValue63 rfl) rfl ?_
  rintro _ w4 ⟨b3,rfl,q3,hx4,hv3⟩
  refine Rg.wn trivial (w_put hv3 rfl rfl rfl ty63 rfl rfl) ?_
  rintro _ w5 ⟨hu5,hv3_⟩
  have hx5 := hx4.upd hu5 (Nat.le_of_eq q3.symm)
  replace hJ := hJx _ _ _ hJ hx5
  replace hit := hit.ext hx5
  replace hle := Nat.le_trans hle hx5.le
  have hc3 := hv3_.cells
  refine Rg.done ?_
  refine Wp.seq (Wp.regionY (pre := [_,_]) (o := _) (post := [_]) (R := fun v c => v = .bool true ∧ J (ks ++ [x.1]) c ∧ KW w5 c) rfl rfl rfl rfl rfl ?_)
  refine Rg.tm trivial rfl (t_move rfl) rfl ?_
  refine Rg.tm trivial rfl (t_loadA rfl hc3 ty63) rfl ?_
  refine Rg.done ⟨trivial,?_,?_⟩
  ·intro a ha
   obtain ⟨fn,tm,as_,bo,hy,hR⟩ := hY ks x.1 _ hJ hlen
   refine ⟨lp,fn,tm,as_,bo,yield_run (vs := [encK x.1]) ha rfl rfl hy,hR.mono ?_⟩
   rintro e c ⟨rfl,h1,h2⟩
   exact ⟨_,rfl,rfl,h1,h2⟩
  rintro _ w6 ⟨rfl,hJ6,hk6⟩
  refine Rg.tm trivial rfl (t_notB rfl) rfl ?_
  refine Rg.done ?_
  refine Wp.condF rfl ?_
  refine Wp.skip ?_
  refine ⟨(ks ++ [x.1],l1 ++ l2),by repeat (first | exact .nil | refine .cons rfl ?_),⟨hJ6,hit.keep hk6.2,?_,Nat.le_trans hle hk6.1⟩,by simp⟩
  refine List.Perm.trans ?_ hpm
  simp only [List.map_append,List.map_cons,List.append_assoc,List.singleton_append]
  exact List.Perm.append_left _ List.perm_middle.symm
theorem own_other {w w' : World} {b B e size n : Nat} {xs : List Value} {v : Value} (h : w.ownsRow B e size v n xs) (hb : ∀ o,w.heap[b]? = some o → (∀ cs t fr,o ≠ .cells cs t fr)) (hu : Upd b w w') : w'.ownsRow B e size v n xs := by
 refine ⟨h.1,h.2.imp id fun ⟨g,cap,cur,h1,h2,h3,h4⟩ => ⟨g,cap,cur,h1,h2,?_,h4⟩⟩
 rw [hu.block g fun hk => by subst hk; exact hb _ h3 _ _ _ rfl]
 exact h3
theorem var_other {w w' : World} {b c t : Nat} {cs : List Value} (h : Var w c cs t) (hb : ∀ o,w.heap[b]? = some o → (∀ cs t fr,o ≠ .cells cs t fr)) (hu : Upd b w w') : Var w' c cs t := h.upd hu fun e => by
 subst e
 exact hb _ h _ _ _ rfl
theorem upd_putObj {w : World} {r : Nat} {o : Obj} : Upd r w (w.putObj r o) := ⟨rfl,rfl,rfl,World.putObj_size,fun k hk => World.putObj_heap_other hk⟩
structure ApJ (w0 : World) (Bs lp D : Nat) (rec : Loop) (ks : List K3) (a : World) : Prop where
 row : ∃ vs,Var a Bs [vs] 106 ∧ a.ownsRow w0.heap.size 63 3 vs ks.length (encs kc ks)
 loop : a.heap[lp]? = some (.loop rec)
 dfr : a.heap[D]? = some (.deferred (some []))
 ext : Ext w0 a
theorem ApJ.mv {w0 a c : World} {Bs lp D : Nat} {rec : Loop} {ks : List K3} (h : ApJ w0 Bs lp D rec ks a) (k : Ext a c) : ApJ w0 Bs lp D rec ks c := by
 obtain ⟨⟨vs,h1,h2⟩,h3,h4,h5⟩ := h
 exact ⟨⟨vs,h1.ext k,own_ext h2 k⟩,by rw [Below.block k lp (Array.getElem?_eq_some_iff.1 h3).1]; exact h3,by rw [Below.block k D (Array.getElem?_eq_some_iff.1 h4).1]; exact h4,Ext.tr h5 k⟩
theorem wk_cells {o : Obj} (h : isWk o = true) : ∀ cs t fr,o ≠ .cells cs t fr := fun cs t fr e => by subst e; cases h
theorem ApJ.it {w0 a c : World} {Bs lp D r : Nat} {rec : Loop} {ks : List K3} (h : ApJ w0 Bs lp D rec ks a) (k : Upd r a c) (hr : ∃ o,a.heap[r]? = some o ∧ isWk o = true) (hle : w0.heap.size ≤ r) : ApJ w0 Bs lp D rec ks c := by
 obtain ⟨⟨vs,h1,h2⟩,h3,h4,h5⟩ := h
 obtain ⟨o,ho,hwk⟩ := hr
 have hb : ∀ o',a.heap[r]? = some o' → ∀ cs t fr,o' ≠ .cells cs t fr := fun o' h => by rw [ho] at h; cases h; exact wk_cells hwk
 exact ⟨⟨vs,var_other h1 hb k,own_other h2 hb k⟩,by rw [k.block lp fun e => by subst e; rw [ho] at h3; cases h3; cases hwk]; exact h3,by rw [k.block D fun e => by subst e; rw [ho] at h4; cases h4; cases hwk]; exact h4,h5.upd k hle⟩
def seqA : Code → Code | .seq a _ => a | c => c
def seqB : Code → Code | .seq _ b => b | c => c
def blkC : Code → Code | .block _ b => b | c => c
def rfA : Code → Code | .rangeFunc _ _ a _ => a | c => c
def rfB : Code → Code | .rangeFunc _ _ _ b => b | c => c
def apRec (as_ bo : Code) (fn : FuncId) (tm : Array Value) (D : Nat) : Loop := { state := .ready,pending := none,fn := fn,tmps := tm,params := #[7],assign := as_,body := bo,defers := D }
theorem apYield {as_ bo : Code} {w0 a : World} {Bs lp D fn n : Nat} {tm : Array Value} {L0 : Env} {ks : List K3} {x : K3} (h : ApJ w0 Bs lp D (apRec as_ bo fn tm D) ks a) (has : ∀ {F : Fence} {n : Nat} {Q : Exit → Act → World → Prop} {a : Act} {w : World},(rfA (blkC (seqB (seqA (seqB (Tryz.f104.body.getD .skip)))))).wpIn F n Tryz.prog Q a w → as_.wpIn F n Tryz.prog Q a w) (hbo : ∀ {F : Fence} {n : Nat} {Q : Exit → Act → World → Prop} {a : Act} {w : World},(rfB (blkC (seqB (seqA (seqB (Tryz.f104.body.getD .skip)))))).wpIn F n Tryz.prog Q a w → bo.wpIn F n Tryz.prog Q a w) (hF : Fr 13 { tmps := tm,defers := [] } L0) (h2 : Go.Gx.look L0 2 = some (.pointer (some ⟨Bs,0,none⟩))) (hlen : ks.length < n) (hn : n ≤ 1000)
  (hBs : w0.heap.size ≤ Bs) (hlp : w0.heap.size ≤ lp) :
  YieldAt Fence.wide 0 Tryz.prog lp #[encK x] a (fun e c => e = .returned (.bool true) ∧ ApJ w0 Bs lp D (apRec as_ bo fn tm D) (ks ++ [x]) c ∧ KW a c) := by
 obtain ⟨⟨vs,hvs,hrow⟩,hlo,hdf,hx⟩ := h
 obtain ⟨i63,hi63,hz63,hsi63,hby63⟩ := inf63
 have hk := KW.refl a
 have hlo' := hlo
 refine ⟨fn,tm.setIfInBounds 7 (encK x),as_,bo,by have := run_yield (P := Tryz.prog) (args := #[encK x]) hlo rfl; simpa [apRec] using this,roundIn_of_wpIn trivial ?_⟩
 have hF7 := hF.put (d := some 7) (by decide) (encK x)
 have ha0 := hx.le
 refine has (wpIn_region_lit (l := [_,_]) (rg_in (m := 0) (loose_round Tryz.prog lp) (K := fun L' w' => Sub [(2,.pointer (some ⟨Bs,0,none⟩)),(5,.pointer (some ⟨a.heap.size,0,none⟩))] L' ∧ Var w' a.heap.size (kc x) 63 ∧ Ext a w') ?_ (by rfl) _ hF7 ?_))
 ·skip
  refine Rg.wd trivial (w_new Tryz.zeroValue63 rfl) rfl ?_
  rintro _ w1 ⟨b5,rfl,q5,hx1,hv5⟩
  subst q5
  refine Rg.wn trivial (w_put hv5 rfl rfl rfl ty63 rfl rfl) ?_
  rintro _ w2 ⟨hu2,hv5_⟩
  have hx2 := hx1.upd hu2 (Nat.le_refl _)
  refine Rg.done ⟨.cons (by have := hF7.vals; exact Eq.trans (by rfl) h2) (.cons rfl .nil),hv5_,hx2⟩
 rintro a1 L1 w2 hF1 ⟨hs1,hv5,hx2⟩
 replace hvs := hvs.ext hx2
 replace hrow := own_ext hrow hx2
 replace hlo : w2.heap[lp]? = some (.loop (apRec as_ bo fn tm D)) := by rw [Below.block hx2 lp (Array.getElem?_eq_some_iff.1 hlo).1]; exact hlo
 replace hdf : w2.heap[D]? = some (.deferred (some [])) := by rw [Below.block hx2 D (Array.getElem?_eq_some_iff.1 hdf).1]; exact hdf
 replace hx := Ext.tr hx hx2
 replace hk := hk.ext hx2
 have hll : lp < w2.heap.size := (Array.getElem?_eq_some_iff.1 hlo).1
 refine ⟨_,run_beginRound hlo rfl,?_⟩
 have hu3 : Upd lp w2 (w2.putObj lp (.loop { apRec as_ bo fn tm D with state := .busy })) := upd_putObj
 have hlo3 : (w2.putObj lp (.loop { apRec as_ bo fn tm D with state := .busy })).heap[lp]? = some (.loop { apRec as_ bo fn tm D with state := .busy }) := World.putObj_heap_same hll
 generalize (w2.putObj lp (.loop { apRec as_ bo fn tm D with state := .busy })) = w3 at hu3 hlo3 ⊢
 have hnc : ∀ o,w2.heap[lp]? = some o → ∀ cs t fr,o ≠ .cells cs t fr := fun o h => by rw [hlo] at h; cases h; intro cs t fr e; cases e
 have hnw : ∀ o,w2.heap[lp]? = some o → isWk o = false := fun o h => by rw [hlo] at h; cases h; rfl
 have hDl : D ≠ lp := fun e => by subst e; rw [hlo] at hdf; cases hdf
 replace hvs := var_other hvs hnc hu3
 replace hv5 := var_other hv5 hnc hu3
 replace hrow := own_other hrow hnc hu3
 replace hdf : w3.heap[D]? = some (.deferred (some [])) := by rw [hu3.block D hDl]; exact hdf
 replace hx := hx.upd hu3 hlp
 replace hk := hk.upd hu3 hnw
 have hcs := hvs.cells
 have hc5 := hv5.cells
 obtain ⟨ps,cs_,rfl⟩ := own_shape hrow
 have hne5 : Bs ≠ a.heap.size := hvs.ne hv5 (by decide)
 refine hbo (wpIn_block (wpIn_region_lit (l := [_,_,_,_,_]) (rg_in (m := 0) (loose_round Tryz.prog lp) (K := fun L' w' => ∃ vs',Var w' Bs [vs'] 106 ∧ w'.ownsRow w0.heap.size 63 3 vs' (ks.length + 1) (encs kc (ks ++ [x])) ∧ w'.heap[lp]? = some (.loop { apRec as_ bo fn tm D with state := .busy }) ∧ w'.heap[D]? = some (.deferred (some [])) ∧ Ext w0 w' ∧ KW a w') ?_ (by rfl) _ (hF1.sub hs1) ?_)))
 ·skip
  refine Rg.tm trivial rfl (t_load ty106 rfl (by first | assumption | (apply Cells.get (i := 0); (case h => assumption); rfl))) rfl ?_
  refine Rg.tm trivial rfl (t_loadA rfl hc5 ty63) rfl ?_
  refine Rg.wd trivial (w_buildSlice (bs106_1 _ _ _) rfl) rfl ?_
  rintro _ w4 ⟨b10,rfl,q10,hx10,hv10⟩
  replace hvs := hvs.ext hx10
  replace hx := Ext.tr hx hx10
  replace hk := hk.ext hx10
  replace hrow := own_ext hrow hx10
  have hlo4 : w4.heap[lp]? = some (.loop { apRec as_ bo fn tm D with state := .busy }) := by rw [Below.block hx10 lp (Array.getElem?_eq_some_iff.1 hlo3).1]; exact hlo3
  replace hdf : w4.heap[D]? = some (.deferred (some [])) := by rw [Below.block hx10 D (Array.getElem?_eq_some_iff.1 hdf).1]; exact hdf
  have hs10 : SlC w4 (.slice (some ⟨b10,0,none⟩) 1 1) 3 1 (kc x) := slc_var hv10 rfl
  refine Rg.wd trivial (w_appendC w0.heap.size Tryz.underlying106 hi63 hz63 hsi63 hby63 rfl (by decide) rfl rfl hrow hs10 (kc_one _) (by unfold maxLen; omega) (by omega) hx.le) rfl ?_
  rintro v11 w5 ⟨ho2,hgr,p11,l11,c11,rfl⟩
  obtain ⟨_,_,e11⟩ := own_shape ho2
  injection e11 with _ e11 _
  subst e11
  replace hvs := hvs.grown hrow hgr (by decide)
  replace hk := hk.grown hrow hgr
  have hx5 := own_ext3 hx hrow hgr
  have hlo5 : w5.heap[lp]? = some (.loop { apRec as_ bo fn tm D with state := .busy }) := by
   rw [hgr.block lp (Array.getElem?_eq_some_iff.1 hlo4).1 fun e => by obtain ⟨cs,hc⟩ := own_block hrow e; rw [hc] at hlo4; cases hlo4]; exact hlo4
  have hdf5 : w5.heap[D]? = some (.deferred (some [])) := by
   rw [hgr.block D (Array.getElem?_eq_some_iff.1 hdf).1 fun e => by obtain ⟨cs,hc⟩ := own_block hrow e; rw [hc] at hdf; cases hdf]; exact hdf
  refine Rg.wn trivial (w_put hvs rfl rfl rfl ty106 rfl rfl) ?_
  rintro _ w6 ⟨hu6,hvs'⟩
  replace ho2 := own_upd ho2 hvs hu6 (by decide)
  have hlo6 : w6.heap[lp]? = some (.loop { apRec as_ bo fn tm D with state := .busy }) := by rw [hu6.block lp fun e => by subst e; unfold Var at hvs; rw [hlo5] at hvs; cases hvs]; exact hlo5
  have hdf6 : w6.heap[D]? = some (.deferred (some [])) := by rw [hu6.block D fun e => by subst e; unfold Var at hvs; rw [hdf5] at hvs; cases hvs]; exact hdf5
  have hx6 := hx5.upd hu6 hBs
  replace hk := hk.upd hu6 fun o h => by unfold Var at hvs; rw [hvs] at h; cases h; rfl
  refine Rg.done ⟨_,hvs',?_,hlo6,hdf6,hx6,hk⟩
  rw [encs_append,encs_single]
  exact ho2
 rintro a2 L2 w6 hF2 ⟨vs',hvs',ho2,hlo6,hdf6,hx6,hk6⟩
 have hu7 : Upd lp w6 (w6.putObj lp (.loop (apRec as_ bo fn tm D))) := upd_putObj
 have hlo7 : (w6.putObj lp (.loop (apRec as_ bo fn tm D))).heap[lp]? = some (.loop (apRec as_ bo fn tm D)) := World.putObj_heap_same (Array.getElem?_eq_some_iff.1 hlo6).1
 have hnc : ∀ o,w6.heap[lp]? = some o → ∀ cs t fr,o ≠ .cells cs t fr := fun o h => by rw [hlo6] at h; cases h; intro cs t fr e; cases e
 refine ⟨_,_,run_endRound none hlo6,rfl,?_,?_⟩
 ·exact ⟨⟨vs',var_other hvs' hnc hu7,by rw [List.length_append]; exact own_other ho2 hnc hu7⟩,hlo7,(hu7.block D hDl).trans hdf6,hx6.upd hu7 hlp⟩
 ·exact hk6.upd hu7 fun o h => by rw [hlo6] at h; cases h; rfl
theorem Fr.nod {n : Nat} {a : Act} {L : Env} (h : Fr n a L) : Fr n { tmps := a.tmps,defers := [] } L := ⟨rfl,h.size,h.vals⟩
theorem appendSeq_ok {w : World} {Bm b : Nat} {l : List (K3 × Value)} (hv : Var w Bm [.map (some b)] 84) (hm : MapR w b l) (hl : l.length ≤ 1000) :
  Cl Tryz.prog 104 #[.slice none 0 0,.func (.func 94) #[] #[.pointer (some ⟨Bm,0,none⟩)]] w (fun u c => ∃ ks,ks.Perm (l.map (·.1)) ∧ c.ownsRow w.heap.size 63 3 u ks.length (encs kc ks) ∧ Ext w c) := by
 have hx := Ext.refl w
 unfold Cl
 refine (callsIn_wide (n := 1)).1 (callsIn_of_wp_marks Tryz.func104 rfl trivial (wpIn_wide.2 ?_))
 rw [Tryz.ntmps104]
 refine (?_ : Wq Tryz.prog 13 _ _ (argsEnv 0 [.slice none 0 0,.func (.func 94) #[] #[.pointer (some ⟨Bm,0,none⟩)]]) w) _ (Fr.enter [.slice none 0 0,.func (.func 94) #[] #[.pointer (some ⟨Bm,0,none⟩)]] (by simp))
 refine Wq.seq (Wp.region ?_)
 refine Rg.wd trivial (w_boxed rfl rfl) rfl ?_
 rintro _ w1 ⟨Bs,rfl,qBs,hx1,hvs⟩
 replace hx := hx.ext hx1
 replace hv := hv.ext hx1
 replace hm := hm.ext hx1
 refine Rg.tm trivial rfl (t_assign rfl) rfl ?_
 refine Rg.done ?_
 intro a0 ha0
 refine wp_seq ?_
 refine (?_ : Wq Tryz.prog 13 _ _ _ w1) a0 ha0
 refine Wq.seq (Wp.region ?_)
 refine Rg.tm trivial rfl (t_move rfl) rfl ?_
 refine Rg.done ?_
 intro a1 ha1
 refine wp_block ((wpIn_wide (n := 1)).1 (wpIn_rangeFunc fun fn hfn => ?_))
 have hF0 := Fr.nod ha1
 have hen := run_enterLoop_outer (P := Tryz.prog) (w := w1) fn a1.tmps #[7] (rfA (blkC (seqB (seqA (seqB (Tryz.f104.body.getD .skip)))))) (rfB (blkC (seqB (seqA (seqB (Tryz.f104.body.getD .skip))))))
 obtain ⟨W1,hW1⟩ : ∃ W1,(w1.alloc (.deferred (some []))).alloc (.loop (apRec (rfA (blkC (seqB (seqA (seqB (Tryz.f104.body.getD .skip)))))) (rfB (blkC (seqB (seqA (seqB (Tryz.f104.body.getD .skip)))))) fn a1.tmps w1.heap.size)) = W1 := ⟨_,rfl⟩
 have hx01 : Ext w1 W1 := by
  rw [← hW1]
  exact ⟨rfl,rfl,rfl,by simp; omega,fun k hk => (Below.heap_alloc _ _ k (by simp; omega)).trans (Below.heap_alloc _ _ k hk)⟩
 have hlo : W1.heap[w1.heap.size + 1]? = some (.loop (apRec (rfA (blkC (seqB (seqA (seqB (Tryz.f104.body.getD .skip)))))) (rfB (blkC (seqB (seqA (seqB (Tryz.f104.body.getD .skip)))))) fn a1.tmps w1.heap.size)) := by
  rw [← hW1]
  have := World.alloc_heap_new (w1.alloc (.deferred (some []))) (.loop (apRec (rfA (blkC (seqB (seqA (seqB (Tryz.f104.body.getD .skip)))))) (rfB (blkC (seqB (seqA (seqB (Tryz.f104.body.getD .skip)))))) fn a1.tmps w1.heap.size))
  rwa [World.size_alloc] at this
 have hdf : W1.heap[w1.heap.size]? = some (.deferred (some [])) := by
  rw [← hW1]
  exact (Below.heap_alloc _ _ _ (by simp)).trans (World.alloc_heap_new w1 _)
 have hsz : w.heap.size ≤ w1.heap.size := hx.le
 have e6 : a1.eval (.tmp 6) = .func (.func 94) #[] #[.pointer (some ⟨Bm,0,none⟩)] := ha1.eval rfl
 have hB1 : Bs < w1.heap.size := hvs.lt
 refine ⟨w1.heap.size + 1,[{ target := .collected w1.heap.size,args := #[] }],W1,{ target := .fn (.func 94) #[.pointer (some ⟨Bm,0,none⟩)],args := #[.func (.yield (w1.heap.size + 1)) #[] #[]] },W1,94,#[.func (.yield (w1.heap.size + 1)) #[] #[]] ++ #[.pointer (some ⟨Bm,0,none⟩)],W1,by rw [← hW1]; exact hen,?_,fun _ _ => trivial,?_,fun h => (by cases h),?_⟩
 ·simp only [resolve,rangeCall,e6,Deferred.ofValue,Sem.run_bind,Sem.run_pure,Result.andThen_ok]
  rw [show (#[] ++ Array.map a1.eval #[Operand.const (Value.func (Fn.yield (w1.heap.size + 1)) #[] #[])] : Array Value) = #[Value.func (Fn.yield (w1.heap.size + 1)) #[] #[]] from by simp [show a1.eval (.const (Value.func (Fn.yield (w1.heap.size + 1)) #[] #[])) = Value.func (Fn.yield (w1.heap.size + 1)) #[] #[] from rfl]]
 ·simp [invoke,Tryz.call94]
 refine callsIn_wide.2 (Calls.mono (keysIter_ok (J := ApJ w Bs (w1.heap.size + 1) w1.heap.size _) (hv.ext hx01) (hm.ext hx01) (fun _ _ _ h k => h.mv k) (fun _ _ _ r h k hr hle => h.it k hr (by have := hx01.le; omega))
  (fun pre x a h hlen => apYield (n := 1000) h (fun h => h) (fun h => h) hF0 rfl (by omega) (Nat.le_refl _) (by omega) (by omega)) ⟨⟨_,hvs.ext hx01,own_nil _ _ _ _⟩,hlo,hdf,Ext.tr hx hx01⟩) ?_)
 rintro e c ⟨v,rfl,ks,hp,⟨vs,hvs',ho⟩,hlo',hdf',hx'⟩
 have hend := run_endLoop (P := Tryz.prog) hlo' (by simp [apRec])
 refine ⟨none,_,hend,?_⟩
 have hu : Upd (w1.heap.size + 1) c _ := upd_putObj (o := .loop { apRec (rfA (blkC (seqB (seqA (seqB (Tryz.f104.body.getD .skip)))))) (rfB (blkC (seqB (seqA (seqB (Tryz.f104.body.getD .skip)))))) fn a1.tmps w1.heap.size with state := .exhausted })
 have hnc : ∀ o,c.heap[w1.heap.size + 1]? = some o → ∀ cs t fr,o ≠ .cells cs t fr := fun o h => by rw [hlo'] at h; cases h; intro cs t fr e; cases e
 generalize (c.putObj (w1.heap.size + 1) (.loop { apRec (rfA (blkC (seqB (seqA (seqB (Tryz.f104.body.getD .skip)))))) (rfB (blkC (seqB (seqA (seqB (Tryz.f104.body.getD .skip)))))) fn a1.tmps w1.heap.size with state := .exhausted })) = w4 at hu ⊢
 replace hvs := var_other hvs' hnc hu
 replace ho := own_other ho hnc hu
 replace hdf : w4.heap[w1.heap.size]? = some (.deferred (some [])) := by rw [hu.block _ (by omega)]; exact hdf'
 replace hx := hx'.upd hu (by omega)
 have hcs := hvs.cells
 clear hvs' hdf' hx' hx1 hx01 hW1 hen
 rw [ha1.defers]
 refine wp_seq (wp_region_lit (l := [_,_]) (rg_under (dr := none) (K := fun L' w' => w' = w4 ∧ Sub [(4,vs)] L') ?_ a1 ha1 ?_))
 ·refine Rg.tm trivial rfl (t_load ty106 rfl (by apply Cells.get (i := 0); (case h => assumption); rfl)) rfl ?_
  refine Rg.tm trivial rfl (t_assign rfl) rfl ?_
  exact Rg.done ⟨rfl,.cons rfl .nil⟩
 rintro a' L' w' ha' ⟨rfl,hs⟩
 refine wp_ret ?_
 refine ⟨by simp,.inl ⟨_,_,rfl,run_takeDeferred hdf,⟨_,results_run (rs := [.tmp 4]) (vs := [vs]) rfl (ha'.sub hs) ⟨rfl,trivial⟩,⟨_,rfl,ks,hp,?_,hx.upd upd_putObj (by omega)⟩⟩⟩⟩
 exact own_other ho (fun o h => by rw [hdf] at h; cases h; intro cs t fr e; cases e) upd_putObj
end Go.Proofs.YtliofpegbcegiaaGreatDoor
namespace Go.Proofs.YtliofpegbcegiaaGreatDoor
set_option maxRecDepth 20000
open Go.Gx Go.RowKit Go.Lib
def d0 : K3 := (0,0,0)
def swp (ks : List K3) (j : Nat) : List K3 := (ks.set j (ks.getD (j - 1) d0)).set (j - 1) (ks.getD j d0)
theorem swp_perm : ∀ (ks : List K3) (i : Nat),i + 1 < ks.length → (swp ks (i + 1)).Perm ks
 | [],i,h => by simp at h
 | [a],i,h => by simp at h
 | a :: b :: l,0,_ => by
  rw [show swp (a :: b :: l) (0 + 1) = b :: a :: l from rfl]
  exact List.Perm.swap a b l
 | a :: b :: l,i + 1,h => by
  have : swp (a :: b :: l) (i + 1 + 1) = a :: swp (b :: l) (i + 1) := by simp [swp]
  rw [this]
  exact (swp_perm (b :: l) i (by simp at h ⊢; omega)).cons a
theorem swp_get {ks : List K3} {j : Nat} (h1 : 1 ≤ j) (hj : j < ks.length) (p : Nat) : (swp ks j).getD p d0 = if p = j - 1 then ks.getD j d0 else if p = j then ks.getD (j - 1) d0 else ks.getD p d0 := by
 unfold swp
 rw [List.getD_eq_getElem?_getD,List.getElem?_set,List.getElem?_set]
 by_cases hp : p = j - 1
 ·rw [if_pos hp,if_pos hp.symm,if_pos (by simp; omega)]; rfl
 ·rw [if_neg hp,if_neg (Ne.symm hp)]
  by_cases hp2 : p = j
  ·rw [if_pos hp2,if_pos hp2.symm,if_pos (by omega)]; rfl
  ·rw [if_neg hp2,if_neg (Ne.symm hp2)]; rfl
def Srt (f : K3 → Int) (ks : List K3) (m : Nat) : Prop := ∀ p q,p < q → q < m → f (ks.getD p d0) ≤ f (ks.getD q d0)
def Ins' (f : K3 → Int) (ks : List K3) (i j : Nat) : Prop := (∀ p q,p < q → q ≤ i → p ≠ j → q ≠ j → f (ks.getD p d0) ≤ f (ks.getD q d0)) ∧ ∀ q,j < q → q ≤ i → f (ks.getD j d0) ≤ f (ks.getD q d0)
theorem Ins'.start {f : K3 → Int} {ks : List K3} {i : Nat} (h : Srt f ks i) : Ins' f ks i i := ⟨fun p q h1 h2 h3 h4 => h p q h1 (by omega),fun q h1 h2 => by omega⟩
theorem Ins'.swap {f : K3 → Int} {ks : List K3} {i j : Nat} (h : Ins' f ks i j) (h1 : 1 ≤ j) (hji : j ≤ i) (hi : i < ks.length) (hlt : f (ks.getD j d0) < f (ks.getD (j - 1) d0)) : Ins' f (swp ks j) i (j - 1) := by
 have hj : j < ks.length := by omega
 refine ⟨fun p q hpq hq hp hqj => ?_,fun q hq hqi => ?_⟩
 ·rw [swp_get h1 hj,swp_get h1 hj,if_neg hp,if_neg hqj]
  by_cases e1 : p = j
  ·subst e1
   rw [if_pos rfl,if_neg (by omega)]
   exact h.1 _ _ (by omega) hq (by omega) (by omega)
  ·rw [if_neg e1]
   by_cases e2 : q = j
   ·subst e2
    rw [if_pos rfl]
    exact h.1 _ _ (by omega) (by omega) (by omega) (by omega)
   ·rw [if_neg e2]
    exact h.1 _ _ hpq hq e1 e2
 ·rw [swp_get h1 hj,swp_get h1 hj,if_pos rfl,if_neg (by omega)]
  by_cases e2 : q = j
  ·subst e2; rw [if_pos rfl]; omega
  ·rw [if_neg e2]
   exact h.2 _ (by omega) hqi
theorem Ins'.done {f : K3 → Int} {ks : List K3} {i j : Nat} (h : Ins' f ks i j) (hji : j ≤ i) (hd : j = 0 ∨ f (ks.getD (j - 1) d0) ≤ f (ks.getD j d0)) : Srt f ks (i + 1) := fun p q hpq hq => by
 by_cases e1 : p = j
 ·subst e1; exact h.2 _ hpq (by omega)
 ·by_cases e2 : q = j
  ·subst e2
   rcases hd with hd | hd
   ·omega
   ·by_cases e3 : p = q - 1
    ·subst e3; exact hd
    ·have := h.1 p (q - 1) (by omega) (by omega) (by omega) (by omega)
     omega
  ·exact h.1 p q hpq (by omega) e1 e2
theorem encs_set {ks : List K3} {sp : List Value} {j : Nat} {x : K3} (hj : j < ks.length) : (encs kc ks ++ sp).take (j * 3) ++ kc x ++ (encs kc ks ++ sp).drop (j * 3 + (kc x).length) = encs kc (ks.set j x) ++ sp := by
 have hl := encs_len kc_len ks
 rw [kc_len x,List.take_append_of_le_length (by rw [hl]; omega),encs_take kc_len,List.drop_append_of_le_length (by rw [hl]; omega),show j * 3 + 3 = (j + 1) * 3 from by omega,encs_drop kc_len,List.set_eq_take_append_cons_drop,if_pos hj,encs_append]
 simp [encs]
theorem encs_getD {ks : List K3} {sp : List Value} {j : Nat} (hj : j < ks.length) : ((encs kc ks ++ sp).drop (j * 3)).take 3 = kc (ks.getD j d0) := by
 have hl := encs_len kc_len ks
 rw [List.drop_append_of_le_length (by rw [hl]; omega),List.take_append_of_le_length (by rw [List.length_drop,hl]; omega),encs_at kc_len ks j hj,List.getD_eq_getElem?_getD,List.getElem?_eq_getElem hj]
 rfl
theorem tw_of {P : Program} {n : Nat} {L : Env} {o : Oper} {v : Value} (h : ∀ w,Tm P n o L w v) : TmW P n o L v := fun a ha w' => h w' a ha w' (Below.refl _ _)
def lastOf (q : DbQ) (k : K3) : Int := match look3 q.rs k with | some x => x.2.last | none => 0
theorem cmp_ok {w : World} {q : DbQ} {b1 pa pb : Nat} {ra rb : Res} {a1 a2 a3 c1 c2 c3 : Int} (hD : DbW w q) (h1 : Var w b1 [.pointer (some ⟨q.bD,0,none⟩)] 60) (ha : look3 q.rs (a1,a2,a3) = some (pa,ra)) (hb : look3 q.rs (c1,c2,c3) = some (pb,rb))
  (hla : 0 ≤ ra.last ∧ ra.last ≤ 1000000001) (hlb : 0 ≤ rb.last ∧ rb.last ≤ 1000000001) :
  Cl Tryz.prog 76 (([.agg #[.int .i64 a1,.int .i64 a2,.int .i64 a3],.agg #[.int .i64 c1,.int .i64 c2,.int .i64 c3]] : List Value) ++ ([.pointer (some ⟨b1,0,none⟩)] : List Value)).toArray w (fun u w' => u = .int .i64 (ra.last - rb.last) ∧ Ext w w') := by
 have hx := Ext.refl w
 have hc1 := h1.cells
 have hcD := hD.var.cells
 unfold DbQ.cells at hcD
 obtain ⟨⟨vna,vda,cha,hpa,_,_⟩,_⟩ := hD.each _ (look3_mem ha)
 obtain ⟨⟨vnb,vdb,chb,hpb,_,_⟩,_⟩ := hD.each _ (look3_mem hb)
 have hca := hpa.cells
 have hcb := hpb.cells
 refine Cl.enter Tryz.func76 rfl Tryz.ntmps76 rfl rfl ?_
 refine Wp.seq (Wp.region ?_)
 refine Rg.wd trivial (w_boxed rfl rfl) rfl ?_
 rintro _ w1 ⟨b3,rfl,qb3,hx1,hv3⟩
 replace hx := hx.ext hx1
 replace hc1 := hc1.ext hx1
 replace hcD := hcD.ext hx1
 replace hca := hca.ext hx1
 replace hcb := hcb.ext hx1
 replace hD := hD.ext hx1
 have hc3 := hv3.cells
 refine Rg.wd trivial (w_boxed rfl rfl) rfl ?_
 rintro _ w2 ⟨b4,rfl,qb4,hx2,hv4⟩
 replace hx := hx.ext hx2
 replace hc1 := hc1.ext hx2
 replace hcD := hcD.ext hx2
 replace hca := hca.ext hx2
 replace hcb := hcb.ext hx2
 replace hD := hD.ext hx2
 replace hv3 := hv3.ext hx2
 replace hc3 := hc3.ext hx2
 have hc4 := hv4.cells
 refine Rg.tm trivial rfl (t_assign rfl) rfl ?_
 refine Rg.done ?_
 refine Wp.seq (Wp.draw [0,1,2,3,4,5,6,7,8,9,10,11,12,13,14,15,16,17,18,19] [] mixed (by kernel_rfl) (by kernel_rfl) ?_)
 intro w3 hx3 _
 replace hx := hx.ext hx3
 replace hc1 := hc1.ext hx3
 replace hcD := hcD.ext hx3
 replace hca := hca.ext hx3
 replace hcb := hcb.ext hx3
 replace hD := hD.ext hx3
 replace hv3 := hv3.ext hx3
 replace hc3 := hc3.ext hx3
 replace hv4 := hv4.ext hx3
 replace hc4 := hc4.ext hx3
 refine Rg.tm trivial rfl (t_load ty60 rfl (by first | assumption | (apply Cells.get (i := 0); (case h => assumption); rfl))) rfl ?_
 refine Rg.tm trivial rfl (t_nilCheck rfl) rfl ?_
 refine Rg.tm trivial rfl (t_fieldAddr fa87_2 rfl) rfl ?_
 refine Rg.tm trivial rfl (t_load ty84 rfl (by apply Cells.get (i := 2); (case h => assumption); rfl)) rfl ?_
 refine Rg.tm trivial rfl (t_loadA rfl hc3 ty63) rfl ?_
 refine Rg.tm trivial rfl (t_lookup3 (key := (a1,a2,a3)) key3 Tryz.underlying84 Tryz.zeroValue137 rfl rfl hD.res) rfl ?_
 rw [look_rptr,ha]
 simp only [Option.map_some,Option.getD_some]
 refine Rg.tm trivial rfl (t_nilCheck rfl) rfl ?_
 refine Rg.tm trivial rfl (t_fieldAddr fa139_5 rfl) rfl ?_
 refine Rg.tm trivial rfl (t_load ty3 rfl (by apply Cells.get (i := 6); (case h => exact hca); rfl)) rfl ?_
 refine Rg.tm trivial rfl (t_load ty60 rfl (by first | assumption | (apply Cells.get (i := 0); (case h => assumption); rfl))) rfl ?_
 refine Rg.tm trivial rfl (t_nilCheck rfl) rfl ?_
 refine Rg.tm trivial rfl (t_fieldAddr fa87_2 rfl) rfl ?_
 refine Rg.tm trivial rfl (t_load ty84 rfl (by apply Cells.get (i := 2); (case h => assumption); rfl)) rfl ?_
 refine Rg.tm trivial rfl (t_loadA rfl hc4 ty63) rfl ?_
 refine Rg.tm trivial rfl (t_lookup3 (key := (c1,c2,c3)) key3 Tryz.underlying84 Tryz.zeroValue137 rfl rfl hD.res) rfl ?_
 rw [look_rptr,hb]
 simp only [Option.map_some,Option.getD_some]
 refine Rg.tm trivial rfl (t_nilCheck rfl) rfl ?_
 refine Rg.tm trivial rfl (t_fieldAddr fa139_5 rfl) rfl ?_
 refine Rg.tm trivial rfl (t_load ty3 rfl (by apply Cells.get (i := 6); (case h => exact hcb); rfl)) rfl ?_
 refine Rg.tm trivial rfl (t_subI rfl rfl (by simp only; omega)) rfl ?_
 refine Rg.tm trivial rfl (t_assign rfl) rfl ?_
 refine Rg.done ?_
 refine Wp.ret ?_
 exact ⟨[_],⟨rfl,trivial⟩,rfl,hx⟩
theorem insertionSort_ok {wB w : World} {q : DbQ} {b1 g n cap : Nat} {ks0 : List K3} {sp : List Value} (hxB : Ext wB w) (hDB : DbW wB q) (h1B : Var wB b1 [.pointer (some ⟨q.bD,0,none⟩)] 60) (hg : wB.heap.size ≤ g) (hv : Var w g (encs kc ks0 ++ sp) 63) (hn : ks0.length = n) (hcap : n ≤ cap) (hn12 : n ≤ 1000)
  (hmem : ∀ k ∈ ks0,∃ x,look3 q.rs k = some x) (hlast : ∀ x ∈ q.rs,0 ≤ x.2.2.last ∧ x.2.2.last ≤ 1000000001) :
  Cl Tryz.prog 126 #[.slice (some ⟨g,0,none⟩) n cap,.int .i64 0,.int .i64 n,.func (.func 76) #[] #[.pointer (some ⟨b1,0,none⟩)]] w (fun u w' => ∃ ks,ks.Perm ks0 ∧ Srt (lastOf q) ks n ∧ Var w' g (encs kc ks ++ sp) 63 ∧ Ext wB w') := by
 refine Cl.enter Tryz.func126 rfl Tryz.ntmps126 rfl rfl ?_
 refine Wp.seq (Wp.region ?_)
 refine Rg.tm trivial rfl (t_move rfl) rfl ?_
 first | refine Rg.tm trivial rfl (t_addI rfl rfl (by omega)) rfl ?_ | refine Rg.tm trivial rfl (t_add rfl rfl) rfl ?_
 refine Rg.tm trivial rfl (t_assign rfl) rfl ?_
 refine Rg.done ?_
 refine Wp.block ?_
 refine Wp.loop (ι := Nat × List K3) (fun k => [(0,.slice (some ⟨g,0,none⟩) n cap),(1,.int .i64 0),(2,.int .i64 n),(3,.func (.func 76) #[] #[.pointer (some ⟨b1,0,none⟩)]),(8,.int .i64 k.1)])
  (fun k w' => 1 ≤ k.1 ∧ k.2.Perm ks0 ∧ Srt (lastOf q) k.2 k.1 ∧ Var w' g (encs kc k.2 ++ sp) 63 ∧ Ext wB w') (fun k => n + 1 - k.1) (1,ks0) (by repeat (first | exact .nil | refine .cons rfl ?_)) ⟨Nat.le_refl _,List.Perm.refl _,fun p q h1 h2 => by omega,hv,hxB⟩ ?_
 clear hv hxB
 rintro ⟨i,ks⟩ w2 ⟨hi,hp,hs,hv,hxB⟩
 simp only at hi hp hs hv ⊢
 have hlen : ks.length = n := hp.length_eq.trans hn
 by_cases hlt : i < n
 ·skip
  refine Wp.seq ?_
  refine Wp.seq (Wp.region ?_)
  refine Rg.tm trivial rfl (t_move rfl) rfl ?_
  refine Rg.tm trivial rfl (t_move rfl) rfl ?_
  first | refine Rg.tm trivial rfl (t_lssT rfl rfl (by omega)) rfl ?_ | refine Rg.tm trivial rfl (t_lssF rfl rfl (by omega)) rfl ?_ | refine Rg.tm trivial rfl (t_lss rfl rfl) rfl ?_
  refine Rg.done ?_
  refine Wp.condT rfl ?_
  refine Wp.skip ?_
  refine Wp.seq ?_
  refine Wp.block ?_
  refine Wp.seq (Wp.region ?_)
  refine Rg.tm trivial rfl (t_move rfl) rfl ?_
  refine Rg.tm trivial rfl (t_assign rfl) rfl ?_
  refine Rg.done ?_
  refine Wp.block ?_
  refine Wp.loop (ι := Nat × List K3) (fun k => [(0,.slice (some ⟨g,0,none⟩) n cap),(1,.int .i64 0),(2,.int .i64 n),(3,.func (.func 76) #[] #[.pointer (some ⟨b1,0,none⟩)]),(8,.int .i64 i),(9,.int .i64 k.1)])
   (fun k w' => k.1 ≤ i ∧ k.2.Perm ks0 ∧ Ins' (lastOf q) k.2 i k.1 ∧ Var w' g (encs kc k.2 ++ sp) 63 ∧ Ext wB w') (fun k => k.1) (i,ks) (by repeat (first | exact .nil | refine .cons rfl ?_)) ⟨Nat.le_refl _,hp,Ins'.start hs,hv,hxB⟩ ?_
  clear hv hxB hp hs hlen
  rintro ⟨j,ks⟩ w3 ⟨hji,hp,hs,hv,hxB⟩
  simp only at hji hp hs hv ⊢
  have hlen : ks.length = n := hp.length_eq.trans hn
  have hcv := hv.cells
  by_cases hj0 : 0 < j
  ·skip
   have hjl : j < ks.length := by omega
   have hjl1 : j - 1 < ks.length := by omega
   have hgm : ∀ (m : Nat),m < ks.length → ∃ x,look3 q.rs (ks.getD m d0) = some x := fun m hm => by
    rw [List.getD_eq_getElem?_getD,List.getElem?_eq_getElem hm]
    exact hmem _ (hp.mem_iff.1 (List.getElem_mem hm))
   obtain ⟨⟨pa,ra⟩,hka⟩ := hgm j hjl
   obtain ⟨⟨pb,rb⟩,hkb⟩ := hgm (j - 1) hjl1
   have hla := hlast _ (look3_mem hka)
   have hlb := hlast _ (look3_mem hkb)
   have hfa : lastOf q (ks.getD j d0) = ra.last := by unfold lastOf; rw [hka]
   have hfb : lastOf q (ks.getD (j - 1) d0) = rb.last := by unfold lastOf; rw [hkb]
   have hca : Cells w3 g (0 + j * 3) (kc (ks.getD j d0)) := by rw [← encs_getD (sp := sp) hjl]; exact hcv.sub _ _
   have hcb : Cells w3 g (0 + (j - 1) * 3) (kc (ks.getD (j - 1) d0)) := by rw [← encs_getD (sp := sp) hjl1]; exact hcv.sub _ _
   refine Wp.seq ?_
   refine Wp.seq (Wp.draw [0,1,2,3,4,5,6,7,8,9,10,11,12,13,14,15,16] [] mixed (by kernel_rfl) (by kernel_rfl) ?_)
   intro w1 hx1 _
   replace hcv := hcv.ext hx1
   replace hv := hv.ext hx1
   replace hca := hca.ext hx1
   replace hcb := hcb.ext hx1
   replace hxB := Ext.tr hxB hx1
   refine Rg.tm trivial rfl (t_move rfl) rfl ?_
   refine Rg.tm trivial rfl (t_move rfl) rfl ?_
   first | refine Rg.tm trivial rfl (t_gtrT rfl rfl (by omega)) rfl ?_ | refine Rg.tm trivial rfl (t_gtrF rfl rfl (by omega)) rfl ?_ | refine Rg.tm trivial rfl (t_gtr rfl rfl) rfl ?_
   refine Rg.tm trivial rfl (t_move rfl) rfl ?_
   first | refine Rg.tm ⟨_,rfl,rfl⟩ rfl (t_move rfl) rfl ?_ | refine Rg.so rfl rfl ?_
   first | refine Rg.tm ⟨_,rfl,rfl⟩ rfl (t_move rfl) rfl ?_ | refine Rg.so rfl rfl ?_
   first | refine Rg.tm ⟨_,rfl,rfl⟩ rfl (t_move rfl) rfl ?_ | refine Rg.so rfl rfl ?_
   refine Rg.tm ⟨_,rfl,rfl⟩ rfl (t_indexAddrL Tryz.underlying106 ty63 rfl rfl (by omega)) rfl ?_
   rw [Int.toNat_natCast]
   refine Rg.tm ⟨_,rfl,rfl⟩ rfl (t_loadA rfl hca ty63) rfl ?_
   first | refine Rg.tm ⟨_,rfl,rfl⟩ rfl (t_move rfl) rfl ?_ | refine Rg.so rfl rfl ?_
   first | refine Rg.tm ⟨_,rfl,rfl⟩ rfl (t_move rfl) rfl ?_ | refine Rg.so rfl rfl ?_
   refine Rg.tm ⟨_,rfl,rfl⟩ rfl (t_subI rfl rfl (by omega)) rfl ?_
   refine Rg.tm ⟨_,rfl,rfl⟩ rfl (t_indexAddrL Tryz.underlying106 ty63 rfl rfl (by omega)) rfl ?_
   rw [show ((j : Int) - 1).toNat = j - 1 from by omega]
   refine Rg.tm ⟨_,rfl,rfl⟩ rfl (t_loadA rfl hcb ty63) rfl ?_
   refine Rg.wdB ⟨_,rfl,rfl⟩ rfl (w_callK (vs := [.agg (kc (ks.getD j d0)).toArray,.agg (kc (ks.getD (j - 1) d0)).toArray]) (cap := [.pointer (some ⟨b1,0,none⟩)]) rfl Tryz.call76 rfl (cmp_ok (hDB.ext hxB) (h1B.ext hxB) hka hkb hla hlb)) rfl (fun _ _ h => h.2) ?_
   rintro _ w2 ⟨rfl,hx2⟩
   replace hcv := hcv.ext hx2
   replace hv := hv.ext hx2
   replace hca := hca.ext hx2
   replace hcb := hcb.ext hx2
   replace hxB := Ext.tr hxB hx2
   refine Rg.tm ⟨_,rfl,rfl⟩ rfl (t_lss rfl rfl) rfl ?_
   first | refine Rg.tm trivial rfl (t_pickT rfl rfl) rfl ?_ | refine Rg.tm trivial rfl (t_pickF rfl rfl) rfl ?_
   refine Rg.done ?_
   cases hq : decide (ra.last - rb.last < 0) with
   | true =>
    have hlt2 : ra.last < rb.last := by have := of_decide_eq_true hq; omega
    refine Wp.condT rfl ?_
    refine Wp.skip ?_
    refine Wp.seq ?_
    refine Wp.block ?_
    refine Wp.drawA 15 mixed ?_
    intro w3 hx3 _
    replace hcv := hcv.ext hx3
    replace hv := hv.ext hx3
    replace hca := hca.ext hx3
    replace hcb := hcb.ext hx3
    replace hxB := Ext.tr hxB hx3
    refine Ra.tame (by kernel_rfl) 0 rfl (by kernel_rfl) trivial (t_move rfl) rfl ?_
    refine Ra.tame (by kernel_rfl) 1 rfl (by kernel_rfl) trivial (t_move rfl) rfl ?_
    refine Ra.tameW (by kernel_rfl) 2 rfl (by kernel_rfl) trivial (tw_move rfl) rfl ?_
    refine Ra.tameW (by kernel_rfl) 3 rfl (by kernel_rfl) trivial (tw_move rfl) rfl ?_
    refine Ra.tameW (by kernel_rfl) 4 rfl (by kernel_rfl) trivial (tw_of fun w => t_subI rfl rfl (by omega)) rfl ?_
    refine Ra.tame (by kernel_rfl) 5 rfl (by kernel_rfl) trivial (t_move rfl) rfl ?_
    refine Ra.tame (by kernel_rfl) 6 rfl (by kernel_rfl) trivial (t_move rfl) rfl ?_
    refine Ra.tame (by kernel_rfl) 7 rfl (by kernel_rfl) trivial (t_subI rfl rfl (by omega)) rfl ?_
    refine Ra.tame (by kernel_rfl) 8 rfl (by kernel_rfl) trivial (t_indexAddrL Tryz.underlying106 ty63 rfl rfl (by omega)) rfl ?_
    rw [show ((j : Int) - 1).toNat = j - 1 from by omega]
    refine Ra.tame (by kernel_rfl) 9 rfl (by kernel_rfl) trivial (t_loadA rfl hcb ty63) rfl ?_
    refine Ra.tame (by kernel_rfl) 10 rfl (by kernel_rfl) trivial (t_move rfl) rfl ?_
    refine Ra.tame (by kernel_rfl) 11 rfl (by kernel_rfl) trivial (t_move rfl) rfl ?_
    refine Ra.tame (by kernel_rfl) 12 rfl (by kernel_rfl) trivial (t_indexAddrL Tryz.underlying106 ty63 rfl rfl (by omega)) rfl ?_
    rw [Int.toNat_natCast]
    refine Ra.tame (by kernel_rfl) 13 rfl (by kernel_rfl) trivial (t_loadA rfl hca ty63) rfl ?_
    refine Ra.tame (by kernel_rfl) 14 rfl (by kernel_rfl) trivial (t_indexAddrL Tryz.underlying106 ty63 rfl rfl (by omega)) rfl ?_
    rw [Int.toNat_natCast]
    refine Ra.bar 15 17 rfl (by kernel_rfl) rfl trivial (w_putAt (o := 0 + j * 3) (cs := kc (ks.getD (j - 1) d0)) hv rfl rfl rfl ty63 (by rw [List.length_append,encs_len kc_len,kc_len]; omega) (kc_one _)) rfl ?_
    rintro _ w10 ⟨hu10,hv_⟩
    replace hxB := hxB.upd hu10 hg
    rw [Nat.zero_add,encs_set hjl] at hv_
    clear hv hcv hca hcb
    refine Ra.tame (by kernel_rfl) 16 rfl (by kernel_rfl) trivial (t_indexAddrL Tryz.underlying106 ty63 rfl rfl (by omega)) rfl ?_
    rw [show ((j : Int) - 1).toNat = j - 1 from by omega]
    refine Ra.bar 17 18 rfl (by kernel_rfl) rfl trivial (w_putAt (o := 0 + (j - 1) * 3) (cs := kc (ks.getD j d0)) hv_ rfl rfl rfl ty63 (by rw [List.length_append,encs_len kc_len,kc_len,List.length_set]; omega) (kc_one _)) rfl ?_
    rintro _ w11 ⟨hu11,hv⟩
    replace hxB := hxB.upd hu11 hg
    rw [Nat.zero_add,encs_set (by rw [List.length_set]; omega)] at hv
    refine Ra.done (by kernel_rfl) ?_
    refine Wp.region ?_
    refine Rg.tm trivial rfl (t_move rfl) rfl ?_
    first | refine Rg.tm trivial rfl (t_subI rfl rfl (by omega)) rfl ?_ | refine Rg.tm trivial rfl (t_sub rfl rfl) rfl ?_
    refine Rg.tm trivial rfl (t_assign rfl) rfl ?_
    refine Rg.done ?_
    rw [show ((j : Int) - 1) = ((j - 1 : Nat) : Int) from by omega]
    refine ⟨(j - 1,swp ks j),by repeat (first | exact .nil | refine .cons rfl ?_),⟨by omega,?_,Ins'.swap hs hj0 hji (by omega) (by rw [hfa,hfb]; exact hlt2),hv,hxB⟩,by simp only; omega⟩
    obtain ⟨m,rfl⟩ : ∃ m,j = m + 1 := ⟨j - 1,by omega⟩
    exact (swp_perm ks m hjl).trans hp
   | false =>
    have hge : rb.last ≤ ra.last := by have := of_decide_eq_false hq; omega
    have hsd := Ins'.done hs hji (.inr (by rw [hfa,hfb]; exact hge))
    refine Wp.condF rfl ?_
    refine Wp.exit ?_
    refine Wp.region ?_
    refine Rg.tm trivial rfl (t_move rfl) rfl ?_
    first | refine Rg.tm trivial rfl (t_addI rfl rfl (by omega)) rfl ?_ | refine Rg.tm trivial rfl (t_add rfl rfl) rfl ?_
    refine Rg.tm trivial rfl (t_assign rfl) rfl ?_
    refine Rg.done ?_
    refine ⟨(i + 1,ks),by repeat (first | exact .nil | refine .cons rfl ?_),⟨by omega,hp,hsd,hv,hxB⟩,by simp only; omega⟩
  ·obtain rfl : j = 0 := by omega
   have hsd := Ins'.done hs hji (.inl rfl)
   refine Wp.seq ?_
   refine Wp.seq (Wp.draw [0,1,2,3,4,5,6,7,8,9,10,11,12,13,14,15,16] [] mixed (by kernel_rfl) (by kernel_rfl) ?_)
   intro w1 hx1 _
   replace hv := hv.ext hx1
   replace hxB := Ext.tr hxB hx1
   refine Rg.tm trivial rfl (t_move rfl) rfl ?_
   refine Rg.tm trivial rfl (t_move rfl) rfl ?_
   first | refine Rg.tm trivial rfl (t_gtrT rfl rfl (by omega)) rfl ?_ | refine Rg.tm trivial rfl (t_gtrF rfl rfl (by omega)) rfl ?_ | refine Rg.tm trivial rfl (t_gtr rfl rfl) rfl ?_
   refine Rg.tm trivial rfl (t_move rfl) rfl ?_
   first | refine Rg.tm ⟨_,rfl,rfl⟩ rfl (t_move rfl) rfl ?_ | refine Rg.so rfl rfl ?_
   first | refine Rg.tm ⟨_,rfl,rfl⟩ rfl (t_move rfl) rfl ?_ | refine Rg.so rfl rfl ?_
   first | refine Rg.tm ⟨_,rfl,rfl⟩ rfl (t_move rfl) rfl ?_ | refine Rg.so rfl rfl ?_
   first | refine Rg.tm ⟨_,rfl,rfl⟩ rfl (t_indexAddrL Tryz.underlying106 ty63 rfl rfl (by omega)) rfl ?_ | refine Rg.so rfl rfl ?_
   first | refine Rg.tm ⟨_,rfl,rfl⟩ rfl (t_loadA rfl (by assumption) (by exact ty63)) rfl ?_ | refine Rg.so rfl rfl ?_
   first | refine Rg.tm ⟨_,rfl,rfl⟩ rfl (t_move rfl) rfl ?_ | refine Rg.so rfl rfl ?_
   first | refine Rg.tm ⟨_,rfl,rfl⟩ rfl (t_move rfl) rfl ?_ | refine Rg.so rfl rfl ?_
   first | refine Rg.tm ⟨_,rfl,rfl⟩ rfl (t_subI rfl rfl (by omega)) rfl ?_ | refine Rg.tm ⟨_,rfl,rfl⟩ rfl (t_sub rfl rfl) rfl ?_ | refine Rg.so rfl rfl ?_
   first | refine Rg.tm ⟨_,rfl,rfl⟩ rfl (t_indexAddrL Tryz.underlying106 ty63 rfl rfl (by omega)) rfl ?_ | refine Rg.so rfl rfl ?_
   first | refine Rg.tm ⟨_,rfl,rfl⟩ rfl (t_loadA rfl (by assumption) (by exact ty63)) rfl ?_ | refine Rg.so rfl rfl ?_
   refine Rg.so rfl rfl ?_
   first | refine Rg.tm ⟨_,rfl,rfl⟩ rfl (t_lssT rfl rfl (by omega)) rfl ?_ | refine Rg.tm ⟨_,rfl,rfl⟩ rfl (t_lssF rfl rfl (by omega)) rfl ?_ | refine Rg.tm ⟨_,rfl,rfl⟩ rfl (t_lss rfl rfl) rfl ?_ | refine Rg.so rfl rfl ?_
   first | refine Rg.tm trivial rfl (t_pickT rfl rfl) rfl ?_ | refine Rg.tm trivial rfl (t_pickF rfl rfl) rfl ?_
   refine Rg.done ?_
   refine Wp.condF rfl ?_
   refine Wp.exit ?_
   refine Wp.region ?_
   refine Rg.tm trivial rfl (t_move rfl) rfl ?_
   first | refine Rg.tm trivial rfl (t_addI rfl rfl (by omega)) rfl ?_ | refine Rg.tm trivial rfl (t_add rfl rfl) rfl ?_
   refine Rg.tm trivial rfl (t_assign rfl) rfl ?_
   refine Rg.done ?_
   refine ⟨(i + 1,ks),by repeat (first | exact .nil | refine .cons rfl ?_),⟨by omega,hp,hsd,hv,hxB⟩,by simp only; omega⟩
 ·skip
  refine Wp.seq ?_
  refine Wp.seq (Wp.region ?_)
  refine Rg.tm trivial rfl (t_move rfl) rfl ?_
  refine Rg.tm trivial rfl (t_move rfl) rfl ?_
  first | refine Rg.tm trivial rfl (t_lssT rfl rfl (by omega)) rfl ?_ | refine Rg.tm trivial rfl (t_lssF rfl rfl (by omega)) rfl ?_ | refine Rg.tm trivial rfl (t_lss rfl rfl) rfl ?_
  refine Rg.done ?_
  refine Wp.condF rfl ?_
  refine Wp.exit ?_
  exact ⟨[],trivial,ks,hp,fun p q h1 h2 => hs p q h1 (by omega),hv,hxB⟩
end Go.Proofs.YtliofpegbcegiaaGreatDoor
namespace Go.Proofs.YtliofpegbcegiaaGreatDoor
set_option maxRecDepth 20000
open Go.Gx Go.RowKit Go.Lib
theorem t_conv {P : Program} {n : Nat} {L : Env} {w : World} {d : Option Tmp} {ty : TypeId} {pos : String} {af : Array Edge} {g : Option (Nat × Bool)} {src dst : TypeId} {x : Operand} {v u : Value} (h : ∀ w,(convert src dst v).run P w = .ok u w) (hx : evO L x = some v) : Tm P n ⟨d,.convert src dst x,ty,pos,af,g⟩ L w u := fun a ha w' _ => by
 simp [execOp,ha.eval hx,h]
theorem conv12 : ∀ (n : Nat) (h : n ≤ 12) (w : World),(convert 3 114 (.int .i64 n)).run Tryz.prog w = .ok (.int .u64 n) w := by
 intro n h
 have : n = 0 ∨ n = 1 ∨ n = 2 ∨ n = 3 ∨ n = 4 ∨ n = 5 ∨ n = 6 ∨ n = 7 ∨ n = 8 ∨ n = 9 ∨ n = 10 ∨ n = 11 ∨ n = 12 := by omega
 rcases this with rfl | rfl | rfl | rfl | rfl | rfl | rfl | rfl | rfl | rfl | rfl | rfl | rfl <;> (intro w; kernel_rfl)
theorem conv8 : ∀ (n : Nat) (h : n ≤ 12) (w : World),(convert 193 5 (.int .u64 n)).run Tryz.prog w = .ok (.int .u8 n) w := by
 intro n h
 have : n = 0 ∨ n = 1 ∨ n = 2 ∨ n = 3 ∨ n = 4 ∨ n = 5 ∨ n = 6 ∨ n = 7 ∨ n = 8 ∨ n = 9 ∨ n = 10 ∨ n = 11 ∨ n = 12 := by omega
 rcases this with rfl | rfl | rfl | rfl | rfl | rfl | rfl | rfl | rfl | rfl | rfl | rfl | rfl <;> (intro w; kernel_rfl)
theorem conv64 (x : Nat) (w : World) : (convert 5 3 (.int .u8 x)).run Tryz.prog w = .ok (.int .i64 (IntKind.wrap .i64 x)) w := by kernel_rfl
theorem len64_ok {w : World} {n : Nat} (h : n ≤ 12) : Cl Tryz.prog 135 #[.int .u64 n] w (fun u w' => (∃ l : Int,u = .int .i64 l) ∧ w = w') := by
 refine Cl.enter Tryz.func135 rfl Tryz.ntmps135 rfl rfl ?_
 refine Wp.seq (Wp.region ?_)
 refine Rg.tm trivial rfl (t_assign rfl) rfl ?_
 refine Rg.done ?_
 refine Wp.seq ?_
 refine Wp.seq (Wp.region ?_)
 refine Rg.tm trivial rfl (t_move rfl) rfl ?_
 first | refine Rg.tm trivial rfl (t_geqT rfl rfl (by omega)) rfl ?_ | refine Rg.tm trivial rfl (t_geqF rfl rfl (by omega)) rfl ?_ | refine Rg.tm trivial rfl (t_geq rfl rfl) rfl ?_
 refine Rg.done ?_
 refine Wp.condF rfl ?_
 refine Wp.skip ?_
 refine Wp.seq ?_
 refine Wp.seq (Wp.region ?_)
 refine Rg.tm trivial rfl (t_move rfl) rfl ?_
 first | refine Rg.tm trivial rfl (t_geqT rfl rfl (by omega)) rfl ?_ | refine Rg.tm trivial rfl (t_geqF rfl rfl (by omega)) rfl ?_ | refine Rg.tm trivial rfl (t_geq rfl rfl) rfl ?_
 refine Rg.done ?_
 refine Wp.condF rfl ?_
 refine Wp.skip ?_
 refine Wp.seq ?_
 refine Wp.seq (Wp.region ?_)
 refine Rg.tm trivial rfl (t_move rfl) rfl ?_
 first | refine Rg.tm trivial rfl (t_geqT rfl rfl (by omega)) rfl ?_ | refine Rg.tm trivial rfl (t_geqF rfl rfl (by omega)) rfl ?_ | refine Rg.tm trivial rfl (t_geq rfl rfl) rfl ?_
 refine Rg.done ?_
 refine Wp.condF rfl ?_
 refine Wp.skip ?_
 refine Wp.seq (Wp.region ?_)
 refine Rg.tm trivial rfl (t_move rfl) rfl ?_
 refine Rg.tm trivial rfl (t_move rfl) rfl ?_
 refine Rg.tm trivial rfl (t_conv (conv8 n h) rfl) rfl ?_
 refine Rg.tm trivial rfl (t_index Tryz.underlying9 rfl rfl ⟨by omega,Int.lt_of_le_of_lt (Int.ofNat_le.2 h) (by decide)⟩) rfl ?_
 refine Rg.tm trivial rfl (t_conv (conv64 _) rfl) rfl ?_
 refine Rg.tm trivial rfl (t_add rfl rfl) rfl ?_
 refine Rg.tm trivial rfl (t_assign rfl) rfl ?_
 refine Rg.done ?_
 refine Wp.ret ?_
 exact ⟨[_],⟨rfl,trivial⟩,⟨_,rfl⟩,rfl⟩
theorem len_ok {w : World} {n : Nat} (h : n ≤ 12) : Cl Tryz.prog 106 #[.int .u64 n] w (fun u w' => (∃ l : Int,u = .int .i64 l) ∧ w = w') := by
 refine Cl.enter Tryz.func106 rfl Tryz.ntmps106 rfl rfl ?_
 refine Wp.seq (Wp.region ?_)
 refine Rg.tm trivial rfl (t_assign rfl) rfl ?_
 refine Rg.done ?_
 refine Wp.seq ?_
 refine Wp.condF rfl ?_
 refine Wp.skip ?_
 refine Wp.seq (Wp.region ?_)
 refine Rg.tm trivial rfl (t_move rfl) rfl ?_
 refine Rg.wd trivial (w_call Tryz.call135 rfl (len64_ok h)) rfl ?_
 rintro _ _ ⟨⟨l,rfl⟩,rfl⟩
 refine Rg.tm trivial rfl (t_assign rfl) rfl ?_
 refine Rg.done ?_
 refine Wp.ret ?_
 exact ⟨[_],⟨rfl,trivial⟩,⟨l,rfl⟩,rfl⟩
theorem pdq_ok {wB w : World} {q : DbQ} {b1 g n cap : Nat} {ks0 : List K3} {sp : List Value} {l : Int} (hxB : Ext wB w) (hDB : DbW wB q) (h1B : Var wB b1 [.pointer (some ⟨q.bD,0,none⟩)] 60) (hg : wB.heap.size ≤ g) (hv : Var w g (encs kc ks0 ++ sp) 63) (hn : ks0.length = n) (hcap : n ≤ cap) (hn12 : n ≤ 12)
  (hmem : ∀ k ∈ ks0,∃ x,look3 q.rs k = some x) (hlast : ∀ x ∈ q.rs,0 ≤ x.2.2.last ∧ x.2.2.last ≤ 1000000001) :
  Cl Tryz.prog 105 #[.slice (some ⟨g,0,none⟩) n cap,.int .i64 0,.int .i64 n,.int .i64 l,.func (.func 76) #[] #[.pointer (some ⟨b1,0,none⟩)]] w (fun u w' => ∃ ks,ks.Perm ks0 ∧ Srt (lastOf q) ks n ∧ Var w' g (encs kc ks ++ sp) 63 ∧ Ext wB w') := by
 refine Cl.enter Tryz.func105 rfl Tryz.ntmps105 rfl rfl ?_
 refine Wp.seq (Wp.region ?_)
 refine Rg.tm trivial rfl (t_assign rfl) rfl ?_
 refine Rg.done ?_
 refine Wp.seq (Wp.region ?_)
 refine Rg.tm trivial rfl (t_assign rfl) rfl ?_
 refine Rg.done ?_
 refine Wp.block ?_
 refine Wp.loop (ι := Unit) (fun _ => [(0,.slice (some ⟨g,0,none⟩) n cap),(1,.int .i64 0),(2,.int .i64 n),(4,.func (.func 76) #[] #[.pointer (some ⟨b1,0,none⟩)])]) (fun _ w' => Ext wB w' ∧ Var w' g (encs kc ks0 ++ sp) 63) (fun _ => 0) () (by repeat (first | exact .nil | refine .cons rfl ?_)) ⟨hxB,hv⟩ ?_
 clear hxB hv
 rintro _ w2 ⟨hxB,hv⟩
 refine Wp.block ?_
 refine Wp.seq (Wp.region ?_)
 refine Rg.tm trivial rfl (t_move rfl) rfl ?_
 refine Rg.tm trivial rfl (t_move rfl) rfl ?_
 refine Rg.tm trivial rfl (t_subI rfl rfl (by omega)) rfl ?_
 refine Rg.tm trivial rfl (t_assign rfl) rfl ?_
 refine Rg.done ?_
 refine Wp.seq ?_
 refine Wp.seq (Wp.region ?_)
 refine Rg.tm trivial rfl (t_move rfl) rfl ?_
 first | refine Rg.tm trivial rfl (t_leqT rfl rfl (by omega)) rfl ?_ | refine Rg.tm trivial rfl (t_leqF rfl rfl (by omega)) rfl ?_ | refine Rg.tm trivial rfl (t_leq rfl rfl) rfl ?_
 refine Rg.done ?_
 refine Wp.condT rfl ?_
 refine Wp.seq (Wp.region ?_)
 refine Rg.tm trivial rfl (t_move rfl) rfl ?_
 refine Rg.tm trivial rfl (t_move rfl) rfl ?_
 refine Rg.tm trivial rfl (t_move rfl) rfl ?_
 refine Rg.tm trivial rfl (t_move rfl) rfl ?_
 refine Rg.wd trivial (w_call Tryz.call126 rfl (insertionSort_ok hxB hDB h1B hg hv hn hcap (by omega) hmem hlast)) rfl ?_
 rintro _ w3 hR
 refine Rg.done ?_
 refine Wp.ret ?_
 exact ⟨[],trivial,hR⟩
theorem sortFunc_ok {wB w : World} {q : DbQ} {b1 g n cap : Nat} {ks0 : List K3} {sp : List Value} (hxB : Ext wB w) (hDB : DbW wB q) (h1B : Var wB b1 [.pointer (some ⟨q.bD,0,none⟩)] 60) (hg : wB.heap.size ≤ g) (hv : Var w g (encs kc ks0 ++ sp) 63) (hn : ks0.length = n) (hcap : n ≤ cap) (hn12 : n ≤ 12)
  (hmem : ∀ k ∈ ks0,∃ x,look3 q.rs k = some x) (hlast : ∀ x ∈ q.rs,0 ≤ x.2.2.last ∧ x.2.2.last ≤ 1000000001) :
  Cl Tryz.prog 93 #[.slice (some ⟨g,0,none⟩) n cap,.func (.func 76) #[] #[.pointer (some ⟨b1,0,none⟩)]] w (fun u w' => ∃ ks,ks.Perm ks0 ∧ Srt (lastOf q) ks n ∧ Var w' g (encs kc ks ++ sp) 63 ∧ Ext wB w') := by
 refine Cl.enter Tryz.func93 rfl Tryz.ntmps93 rfl rfl ?_
 refine Wp.seq (Wp.region ?_)
 refine Rg.tm trivial rfl (t_move rfl) rfl ?_
 refine Rg.tm trivial rfl (t_lenS Tryz.underlying106 rfl) rfl ?_
 refine Rg.tm trivial rfl (t_assign rfl) rfl ?_
 refine Rg.done ?_
 refine Wp.region ?_
 refine Rg.tm trivial rfl (t_move rfl) rfl ?_
 refine Rg.tm trivial rfl (t_move rfl) rfl ?_
 refine Rg.tm trivial rfl (t_move rfl) rfl ?_
 refine Rg.tm trivial rfl (t_conv (conv12 n (by omega)) rfl) rfl ?_
 refine Rg.wd trivial (w_call Tryz.call106 rfl (len_ok (n := n) (by omega))) rfl ?_
 rintro _ _ ⟨⟨l,rfl⟩,rfl⟩
 refine Rg.tm trivial rfl (t_move rfl) rfl ?_
 refine Rg.wd trivial (w_call Tryz.call105 rfl (pdq_ok hxB hDB h1B hg hv hn hcap hn12 hmem hlast)) rfl ?_
 rintro _ w3 hR
 refine Rg.done ?_
 exact ⟨[],trivial,hR⟩
theorem insertion0_ok {w : World} {f : Value} : Cl Tryz.prog 126 #[.slice none 0 0,.int .i64 0,.int .i64 0,f] w (fun u w' => Ext w w') := by
 have hx := Ext.refl w
 refine Cl.enter Tryz.func126 rfl Tryz.ntmps126 rfl rfl ?_
 refine Wp.seq (Wp.region ?_)
 refine Rg.tm trivial rfl (t_move rfl) rfl ?_
 first | refine Rg.tm trivial rfl (t_addI rfl rfl (by omega)) rfl ?_ | refine Rg.tm trivial rfl (t_add rfl rfl) rfl ?_
 refine Rg.tm trivial rfl (t_assign rfl) rfl ?_
 refine Rg.done ?_
 refine Wp.block ?_
 refine Wp.loop (ι := Unit) (fun _ => [(2,.int .i64 0),(8,.int .i64 1)]) (fun _ w' => Ext w w') (fun _ => 0) () (by repeat (first | exact .nil | refine .cons rfl ?_)) hx ?_
 clear hx
 rintro _ w2 hx
 refine Wp.seq ?_
 refine Wp.seq (Wp.region ?_)
 refine Rg.tm trivial rfl (t_move rfl) rfl ?_
 refine Rg.tm trivial rfl (t_move rfl) rfl ?_
 first | refine Rg.tm trivial rfl (t_lssT rfl rfl (by omega)) rfl ?_ | refine Rg.tm trivial rfl (t_lssF rfl rfl (by omega)) rfl ?_ | refine Rg.tm trivial rfl (t_lss rfl rfl) rfl ?_
 refine Rg.done ?_
 refine Wp.condF rfl ?_
 refine Wp.exit ?_
 exact ⟨[],trivial,hx⟩
theorem pdq0_ok {w : World} {f : Value} {l : Int} : Cl Tryz.prog 105 #[.slice none 0 0,.int .i64 0,.int .i64 0,.int .i64 l,f] w (fun u w' => Ext w w') := by
 have hxB := Ext.refl w
 refine Cl.enter Tryz.func105 rfl Tryz.ntmps105 rfl rfl ?_
 refine Wp.seq (Wp.region ?_)
 refine Rg.tm trivial rfl (t_assign rfl) rfl ?_
 refine Rg.done ?_
 refine Wp.seq (Wp.region ?_)
 refine Rg.tm trivial rfl (t_assign rfl) rfl ?_
 refine Rg.done ?_
 refine Wp.block ?_
 refine Wp.loop (ι := Unit) (fun _ => [(0,.slice none 0 0),(1,.int .i64 0),(2,.int .i64 0),(4,f)]) (fun _ w' => Ext w w') (fun _ => 0) () (by repeat (first | exact .nil | refine .cons rfl ?_)) hxB ?_
 clear hxB
 rintro _ w2 hxB
 refine Wp.block ?_
 refine Wp.seq (Wp.region ?_)
 refine Rg.tm trivial rfl (t_move rfl) rfl ?_
 refine Rg.tm trivial rfl (t_move rfl) rfl ?_
 refine Rg.tm trivial rfl (t_subI rfl rfl (by omega)) rfl ?_
 refine Rg.tm trivial rfl (t_assign rfl) rfl ?_
 refine Rg.done ?_
 refine Wp.seq ?_
 refine Wp.seq (Wp.region ?_)
 refine Rg.tm trivial rfl (t_move rfl) rfl ?_
 first | refine Rg.tm trivial rfl (t_leqT rfl rfl (by omega)) rfl ?_ | refine Rg.tm trivial rfl (t_leqF rfl rfl (by omega)) rfl ?_ | refine Rg.tm trivial rfl (t_leq rfl rfl) rfl ?_
 refine Rg.done ?_
 refine Wp.condT rfl ?_
 refine Wp.seq (Wp.region ?_)
 refine Rg.tm trivial rfl (t_move rfl) rfl ?_
 refine Rg.tm trivial rfl (t_move rfl) rfl ?_
 refine Rg.tm trivial rfl (t_move rfl) rfl ?_
 refine Rg.tm trivial rfl (t_move rfl) rfl ?_
 refine Rg.wd trivial (w_call Tryz.call126 rfl (insertion0_ok)) rfl ?_
 intro _ w3 hx3
 refine Rg.done ?_
 refine Wp.ret ?_
 exact ⟨[],trivial,Ext.tr hxB hx3⟩
theorem sortFunc0_ok {w : World} {f : Value} : Cl Tryz.prog 93 #[.slice none 0 0,f] w (fun u w' => Ext w w') := by
 have hxB := Ext.refl w
 refine Cl.enter Tryz.func93 rfl Tryz.ntmps93 rfl rfl ?_
 refine Wp.seq (Wp.region ?_)
 refine Rg.tm trivial rfl (t_move rfl) rfl ?_
 refine Rg.tm trivial rfl (t_lenS Tryz.underlying106 rfl) rfl ?_
 refine Rg.tm trivial rfl (t_assign rfl) rfl ?_
 refine Rg.done ?_
 refine Wp.region ?_
 refine Rg.tm trivial rfl (t_move rfl) rfl ?_
 refine Rg.tm trivial rfl (t_move rfl) rfl ?_
 refine Rg.tm trivial rfl (t_move rfl) rfl ?_
 refine Rg.tm trivial rfl (t_conv (conv12 0 (by omega)) rfl) rfl ?_
 refine Rg.wd trivial (w_call Tryz.call106 rfl (len_ok (n := 0) (by omega))) rfl ?_
 rintro _ _ ⟨⟨l,rfl⟩,rfl⟩
 refine Rg.tm trivial rfl (t_move rfl) rfl ?_
 refine Rg.wd trivial (w_call Tryz.call105 rfl (pdq0_ok)) rfl ?_
 intro _ w3 hx3
 refine Rg.done ?_
 exact ⟨[],trivial,hx3⟩
theorem keys_rptr (l : List (K3 × (Nat × Res))) : (l.map rptr).map (·.1) = l.map (·.1) := by
 rw [List.map_map]; rfl
theorem look3_some {α : Type} : ∀ {l : List (K3 × α)} {k : K3},k ∈ l.map (·.1) → ∃ x,look3 l k = some x
 | a :: l,k,h => by
  unfold look3
  by_cases e : a.1 = k
  ·exact ⟨a.2,if_pos e⟩
  ·rw [if_neg e]
   simp only [List.map_cons,List.mem_cons] at h
   exact look3_some (h.resolve_left fun h => e h.symm)
theorem own_whole {w : World} {B n : Nat} {v : Value} {ks : List K3} (h : w.ownsRow B 63 3 v n (encs kc ks)) : (v = .slice none 0 0 ∧ n = 0) ∨ ∃ g cap sp,v = .slice (some ⟨g,0,none⟩) n cap ∧ B ≤ g ∧ n ≤ cap ∧ cap ≤ maxLen ∧ sp.length = (cap - n) * 3 ∧ Var w g (encs kc ks ++ sp) 63 := by
 obtain ⟨hl,h | ⟨g,cap,cur,rfl,hB,hc,h1,h2,h3,h4⟩⟩ := h
 ·exact .inl h
 ·refine .inr ⟨g,cap,cur.toList.drop (n * 3),rfl,hB,h1,h2,?_,?_⟩
  ·rw [List.length_drop,Array.length_toList,h3,Nat.mul_sub_right_distrib]
  ·unfold Var
   rw [← h4,List.take_append_drop]
   simpa using hc
theorem whole_own {w : World} {B g n cap : Nat} {ks : List K3} {sp : List Value} (hB : B ≤ g) (hk : ks.length = n) (h1 : n ≤ cap) (h2 : cap ≤ maxLen) (hs : sp.length = (cap - n) * 3) (hv : Var w g (encs kc ks ++ sp) 63) : w.ownsRow B 63 3 (.slice (some ⟨g,0,none⟩) n cap) n (encs kc ks) := by
 have hl : (encs kc ks).length = n * 3 := by rw [encs_len kc_len,hk]
 refine ⟨hl,.inr ⟨g,cap,(encs kc ks ++ sp).toArray,rfl,hB,hv,h1,h2,?_,?_⟩⟩
 ·simp [hl,hs]; rw [← Nat.add_mul]; congr 1; omega
 ·simp [← hl]
theorem collect_ok {w : World} {Bm b : Nat} {l : List (K3 × Value)} (hv : Var w Bm [.map (some b)] 84) (hm : MapR w b l) (hl : l.length ≤ 1000) :
  Cl Tryz.prog 92 #[.func (.func 94) #[] #[.pointer (some ⟨Bm,0,none⟩)]] w (fun u c => ∃ ks,ks.Perm (l.map (·.1)) ∧ c.ownsRow w.heap.size 63 3 u ks.length (encs kc ks) ∧ Ext w c) := by
 refine Cl.enter Tryz.func92 rfl Tryz.ntmps92 rfl rfl ?_
 refine Wp.seq (Wp.region ?_)
 refine Rg.tm trivial rfl (t_assign rfl) rfl ?_
 refine Rg.done ?_
 refine Wp.seq (Wp.region ?_)
 refine Rg.tm trivial rfl (t_move rfl) rfl ?_
 refine Rg.wd trivial (w_call Tryz.call104 rfl (appendSeq_ok hv hm hl)) rfl ?_
 rintro u w1 hR
 refine Rg.tm trivial rfl (t_assign rfl) rfl ?_
 refine Rg.done ?_
 refine Wp.ret ?_
 exact ⟨[_],⟨rfl,trivial⟩,hR⟩
theorem keys_ok {w : World} {b : Nat} : Cl Tryz.prog 75 #[.map (some b)] w (fun u c => (∃ Bm,u = .func (.func 94) #[] #[.pointer (some ⟨Bm,0,none⟩)] ∧ Var c Bm [.map (some b)] 84) ∧ Ext w c) := by
 have hx := Ext.refl w
 refine Cl.enter Tryz.func75 rfl Tryz.ntmps75 rfl rfl ?_
 refine Wp.seq (Wp.region ?_)
 refine Rg.wd trivial (w_boxed rfl rfl) rfl ?_
 rintro _ w1 ⟨b1,rfl,qb1,hx1,hv1⟩
 replace hx := hx.ext hx1
 refine Rg.tm trivial rfl (t_assign rfl) rfl ?_
 refine Rg.done ?_
 refine Wp.seq (Wp.region ?_)
 refine Rg.tm trivial rfl (t_makeFunc (vs := [.pointer (some ⟨b1,0,none⟩)]) rfl) rfl ?_
 refine Rg.tm trivial rfl (t_assign rfl) rfl ?_
 refine Rg.done ?_
 refine Wp.ret ?_
 exact ⟨[_],⟨rfl,trivial⟩,⟨b1,rfl,hv1⟩,hx⟩
theorem sortedFunc_ok {w : World} {q : DbQ} {b1 Bm : Nat} (hD : DbW w q) (h1 : Var w b1 [.pointer (some ⟨q.bD,0,none⟩)] 60) (hv : Var w Bm [.map (some q.bR)] 84) (hl : q.rs.length ≤ 12) (hlast : ∀ x ∈ q.rs,0 ≤ x.2.2.last ∧ x.2.2.last ≤ 1000000001) :
  Cl Tryz.prog 74 #[.func (.func 94) #[] #[.pointer (some ⟨Bm,0,none⟩)],.func (.func 76) #[] #[.pointer (some ⟨b1,0,none⟩)]] w (fun u c => ∃ ks,ks.Perm (q.rs.map (·.1)) ∧ Srt (lastOf q) ks ks.length ∧ c.ownsRow w.heap.size 63 3 u ks.length (encs kc ks) ∧ Ext w c) := by
 refine Cl.enter Tryz.func74 rfl Tryz.ntmps74 rfl rfl ?_
 refine Wp.seq (Wp.region ?_)
 refine Rg.tm trivial rfl (t_assign rfl) rfl ?_
 refine Rg.done ?_
 refine Wp.seq (Wp.region ?_)
 refine Rg.tm trivial rfl (t_move rfl) rfl ?_
 refine Rg.wd trivial (w_call Tryz.call92 rfl (collect_ok hv hD.res (by simp; omega))) rfl ?_
 rintro u7 w1 ⟨ks0,hp,ho,hx⟩
 rw [keys_rptr] at hp
 have hl0 : ks0.length = q.rs.length := by have := hp.length_eq; simpa using this
 rcases own_whole ho with ⟨rfl,h0⟩ | ⟨g,cap,sp,rfl,hg,hcap,hmx,hsp,hvg⟩
 ·skip
  refine Rg.tm trivial rfl (t_assign rfl) rfl ?_
  refine Rg.done ?_
  skip
  refine Wp.seq (Wp.region ?_)
  refine Rg.tm trivial rfl (t_move rfl) rfl ?_
  refine Rg.tm trivial rfl (t_move rfl) rfl ?_
  refine Rg.wd trivial (w_call Tryz.call93 rfl (sortFunc0_ok)) rfl ?_
  intro _ w2 hx2
  refine Rg.done ?_
  refine Wp.seq (Wp.region ?_)
  refine Rg.tm trivial rfl (t_move rfl) rfl ?_
  refine Rg.tm trivial rfl (t_assign rfl) rfl ?_
  refine Rg.done ?_
  refine Wp.ret ?_
  obtain rfl : ks0 = [] := List.eq_nil_of_length_eq_zero h0
  exact ⟨[_],⟨rfl,trivial⟩,[],hp,fun p q h1 h2 => by simp at h2,own_nil _ _ _ _,Ext.tr hx hx2⟩
 ·skip
  refine Rg.tm trivial rfl (t_assign rfl) rfl ?_
  refine Rg.done ?_
  refine Wp.seq (Wp.region ?_)
  refine Rg.tm trivial rfl (t_move rfl) rfl ?_
  refine Rg.tm trivial rfl (t_move rfl) rfl ?_
  refine Rg.wd trivial (w_call Tryz.call93 rfl (sortFunc_ok hx hD h1 hg hvg rfl hcap (by omega) (fun k hk => look3_some (hp.mem_iff.1 hk)) hlast)) rfl ?_
  rintro _ w2 ⟨ks,hp2,hs2,hv2,hx2⟩
  refine Rg.done ?_
  refine Wp.seq (Wp.region ?_)
  refine Rg.tm trivial rfl (t_move rfl) rfl ?_
  refine Rg.tm trivial rfl (t_assign rfl) rfl ?_
  refine Rg.done ?_
  refine Wp.ret ?_
  have hle := hp2.length_eq
  exact ⟨[_],⟨rfl,trivial⟩,ks,hp2.trans hp,by rw [hle]; exact hs2,by rw [hle]; exact whole_own hg hle hcap hmx hsp hv2,hx2⟩
theorem cached_ok {w : World} {q : DbQ} (hD : DbW w q) (hl : q.rs.length ≤ 12) (hlast : ∀ x ∈ q.rs,0 ≤ x.2.2.last ∧ x.2.2.last ≤ 1000000001) :
  Cl Tryz.prog 58 #[.pointer (some ⟨q.bD,0,none⟩)] w (fun u c => ∃ ks,ks.Perm (q.rs.map (·.1)) ∧ Srt (lastOf q) ks ks.length ∧ c.ownsRow w.heap.size 63 3 u ks.length (encs kc ks) ∧ Ext w c) := by
 have hx := Ext.refl w
 have hcD := hD.var.cells
 unfold DbQ.cells at hcD
 refine Cl.enter Tryz.func58 rfl Tryz.ntmps58 rfl rfl ?_
 refine Wp.seq (Wp.region ?_)
 refine Rg.wd trivial (w_boxed rfl rfl) rfl ?_
 rintro _ w1 ⟨b1,rfl,qb1,hx1,hv1⟩
 replace hx := hx.ext hx1
 replace hD := hD.ext hx1
 replace hcD := hcD.ext hx1
 have hc1 := hv1.cells
 refine Rg.tm trivial rfl (t_assign rfl) rfl ?_
 refine Rg.done ?_
 refine Wp.seq (Wp.region ?_)
 refine Rg.tm trivial rfl (t_load ty60 rfl (by first | assumption | (apply Cells.get (i := 0); (case h => assumption); rfl))) rfl ?_
 refine Rg.tm trivial rfl (t_nilCheck rfl) rfl ?_
 refine Rg.tm trivial rfl (t_fieldAddr fa87_2 rfl) rfl ?_
 refine Rg.tm trivial rfl (t_load ty84 rfl (by apply Cells.get (i := 2); (case h => assumption); rfl)) rfl ?_
 refine Rg.wd trivial (w_call Tryz.call75 rfl (keys_ok)) rfl ?_
 rintro _ w2 ⟨⟨Bm,rfl,hvB⟩,hx2⟩
 replace hx := hx.ext hx2
 replace hD := hD.ext hx2
 replace hcD := hcD.ext hx2
 replace hv1 := hv1.ext hx2
 replace hc1 := hc1.ext hx2
 refine Rg.tm trivial rfl (t_makeFunc (vs := [.pointer (some ⟨b1,0,none⟩)]) rfl) rfl ?_
 refine Rg.wd trivial (w_call Tryz.call74 rfl (sortedFunc_ok hD hv1 hvB hl hlast)) rfl ?_
 have hle := hx.le
 rintro u w9 ⟨ks,hp,hs,ho,hx9⟩
 refine Rg.tm trivial rfl (t_assign rfl) rfl ?_
 refine Rg.done ?_
 refine Wp.ret ?_
 exact ⟨[_],⟨rfl,trivial⟩,ks,hp,hs,own_mono ho hle,Ext.tr hx hx9⟩
theorem del_rptr : ∀ (l : List (K3 × (Nat × Res))) (k : K3),(del3 l k).map rptr = del3 (l.map rptr) k
 | [],k => rfl
 | a :: l,k => by
  by_cases h : a.1 = k
  ·rw [show del3 (a :: l) k = l from if_pos h,List.map_cons]
   exact (if_pos (show (rptr a).1 = k from h)).symm
  ·rw [show del3 (a :: l) k = a :: del3 l k from if_neg h,List.map_cons,List.map_cons,del_rptr l k]
   exact (if_neg (show ¬ (rptr a).1 = k from h)).symm
theorem del_sub {α : Type} : ∀ (l : List (K3 × α)) (k : K3),(del3 l k).Sublist l
 | [],k => .slnil
 | a :: l,k => by
  unfold del3
  split
  ·exact .cons _ (List.Sublist.refl _)
  ·exact .cons_cons _ (del_sub l k)
theorem DbW.del {w w' : World} {q : DbQ} {key : K3} (h : DbW w q) (k : Upd q.bR w w') (hm : MapR w' q.bR (del3 (q.rs.map rptr) key)) : DbW w' { q with rs := del3 q.rs key } :=
 ⟨h.var.mapR h.res k,h.fn.mapR h.res k,h.ins.mapR h.res k (Ne.symm h.neMR),by rw [del_rptr]; exact hm,h.act.keep (k.block _ (Ne.symm h.neRA)),fun x hx => (h.each x ((del_sub _ _).subset hx)).mapR h.res k,((del_sub _ _).map _).nodup h.nodup,h.neMR,h.neMA,h.neRA⟩
theorem forget_ok {w : World} {q : DbQ} {B : Fs} {k1 k2 k3 : Int} (hD : DbW w q) (hfl : Floor B q) (hB : Und B w.heap.size) :
  Cl Tryz.prog 59 #[.pointer (some ⟨q.bD,0,none⟩),.agg #[.int .i64 k1,.int .i64 k2,.int .i64 k3]] w (fun u w' => DbW w' { q with rs := del3 q.rs (k1,k2,k3) } ∧ Kd B w w') := by
 have hx := Ext.refl w
 have hcD := hD.var.cells
 unfold DbQ.cells at hcD
 refine Cl.enter Tryz.func59 rfl Tryz.ntmps59 rfl rfl ?_
 refine Wp.seq (Wp.region ?_)
 refine Rg.wd trivial (w_boxed rfl rfl) rfl ?_
 rintro _ w1 ⟨b3,rfl,qb3,hx1,hv3⟩
 replace hx := hx.ext hx1
 replace hD := hD.ext hx1
 replace hcD := hcD.ext hx1
 have hc3 := hv3.cells
 refine Rg.tm trivial rfl (t_assign rfl) rfl ?_
 refine Rg.done ?_
 refine Wp.seq (Wp.draw [0,1,2,3,4,5,6,7,8,9,10] [] mixed (by kernel_rfl) (by kernel_rfl) ?_)
 intro w2 hx2 _
 replace hx := hx.ext hx2
 replace hD := hD.ext hx2
 replace hcD := hcD.ext hx2
 replace hv3 := hv3.ext hx2
 replace hc3 := hc3.ext hx2
 refine Rg.tm trivial rfl (t_move rfl) rfl ?_
 refine Rg.tm trivial rfl (t_nilCheck rfl) rfl ?_
 refine Rg.tm trivial rfl (t_fieldAddr fa87_2 rfl) rfl ?_
 refine Rg.tm trivial rfl (t_load ty84 rfl (by apply Cells.get (i := 2); (case h => assumption); rfl)) rfl ?_
 refine Rg.tm trivial rfl (t_loadA rfl hc3 ty63) rfl ?_
 refine Rg.tm trivial rfl (t_lookup3ok (key := (k1,k2,k3)) key3 Tryz.underlying84 Tryz.zeroValue137 rfl rfl hD.res) rfl ?_
 refine Rg.tm trivial rfl (t_move rfl) rfl ?_
 refine Rg.tm trivial rfl (t_extract rfl rfl) rfl ?_
 refine Rg.tm trivial rfl (t_extract rfl rfl) rfl ?_
 refine Rg.tm trivial rfl (t_assign rfl) rfl ?_
 refine Rg.tm trivial rfl (t_assign rfl) rfl ?_
 refine Rg.done ?_
 refine Wp.seq (Wp.draw [0,1,2,3,4,5] [0] mixed (by kernel_rfl) (by kernel_rfl) ?_)
 intro w3 hx3 _
 replace hx := hx.ext hx3
 replace hD := hD.ext hx3
 replace hcD := hcD.ext hx3
 replace hv3 := hv3.ext hx3
 replace hc3 := hc3.ext hx3
 refine Rg.tm trivial rfl (t_move rfl) rfl ?_
 refine Rg.tm trivial rfl (t_nilCheck rfl) rfl ?_
 refine Rg.tm trivial rfl (t_fieldAddr fa87_2 rfl) rfl ?_
 refine Rg.tm trivial rfl (t_load ty84 rfl (by apply Cells.get (i := 2); (case h => assumption); rfl)) rfl ?_
 refine Rg.tm trivial rfl (t_loadA rfl hc3 ty63) rfl ?_
 refine Rg.wnB trivial rfl (w_mapDel3 (key := (k1,k2,k3)) key3 Tryz.underlying84 rfl rfl hD.res) (by rfl) ?_
 rintro _ w4 ⟨hu4,hm4⟩
 have kd := ((Kd.refl hB).ext hx).updM hu4 hfl.r hD.res
 replace hD := hD.del hu4 hm4
 clear hx hcD hc3 hv3
 refine Rg.done ?_
 refine Wp.seq (Wp.region ?_)
 refine Rg.tm trivial rfl (t_move rfl) rfl ?_
 refine Rg.tm trivial rfl (t_assign rfl) rfl ?_
 refine Rg.done ?_
 refine Wp.ret ?_
 exact ⟨[_],⟨rfl,trivial⟩,hD,kd⟩
theorem Floor.sub {B : Fs} {q : DbQ} {rs : List (K3 × (Nat × Res))} (h : Floor B q) (hs : rs.Sublist q.rs) : Floor B { q with rs := rs } := ⟨h.d,h.i,h.m,h.r,h.a,fun x hx => h.e x (hs.subset hx)⟩
theorem foldl_del_sub {α : Type} : ∀ (ks : List K3) (l : List (K3 × α)),(ks.foldl del3 l).Sublist l
 | [],l => List.Sublist.refl _
 | k :: ks,l => (foldl_del_sub ks (del3 l k)).trans (del_sub l k)
theorem trim_ok {w : World} {q : DbQ} {B : Fs} {n : Int} (hD : DbW w q) (hfl : Floor B q) (hB : Und B w.heap.size) (hl : q.rs.length ≤ 12) (hlast : ∀ x ∈ q.rs,0 ≤ x.2.2.last ∧ x.2.2.last ≤ 1000000001) (hn : 0 ≤ n ∧ n ≤ 9223372036854775807) :
  Cl Tryz.prog 36 #[.pointer (some ⟨q.bD,0,none⟩),.int .i64 n] w (fun u w' => ∃ ks,ks.Perm (q.rs.map (·.1)) ∧ Srt (lastOf q) ks ks.length ∧ DbW w' { q with rs := (ks.take (ks.length - n.toNat)).foldl del3 q.rs } ∧ Kd B w w') := by
 refine Cl.enter Tryz.func36 rfl Tryz.ntmps36 rfl rfl ?_
 refine Wp.seq (Wp.region ?_)
 refine Rg.tm trivial rfl (t_assign rfl) rfl ?_
 refine Rg.done ?_
 refine Wp.seq ?_
 refine Wp.seq (Wp.region ?_)
 refine Rg.tm trivial rfl (t_move rfl) rfl ?_
 first | refine Rg.tm trivial rfl (t_peqT pt60 rfl rfl) rfl ?_ | refine Rg.tm trivial rfl (t_peqF pt60 rfl rfl) rfl ?_
 refine Rg.done ?_
 refine Wp.condF rfl ?_
 refine Wp.skip ?_
 refine Wp.seq (Wp.region ?_)
 refine Rg.tm trivial rfl (t_move rfl) rfl ?_
 refine Rg.wd trivial (w_call Tryz.call58 rfl (cached_ok hD hl hlast)) rfl ?_
 rintro u w1 ⟨ks,hp,hs,ho,hx1⟩
 have hD1 := hD.ext hx1
 have kd := (Kd.refl hB).ext hx1
 have hkl := hp.length_eq
 rw [List.length_map] at hkl
 rcases own_whole ho with ⟨rfl,h0⟩ | ⟨g,cap,sp,rfl,hg,hcap,hmx,hsp,hvg⟩
 ·skip
  obtain rfl : ks = [] := List.eq_nil_of_length_eq_zero h0
  refine Rg.tm trivial rfl (t_assign rfl) rfl ?_
  refine Rg.done ?_
  refine Wp.seq (Wp.region ?_)
  refine Rg.tm trivial rfl (t_move rfl) rfl ?_
  refine Rg.tm trivial rfl (t_move rfl) rfl ?_
  refine Rg.tm trivial rfl (t_lenS Tryz.underlying106 rfl) rfl ?_
  refine Rg.tm trivial rfl (t_move rfl) rfl ?_
  refine Rg.tm trivial rfl (t_maxI rfl rfl) rfl ?_
  refine Rg.tm trivial rfl (t_subI rfl rfl (by omega)) rfl ?_
  refine Rg.tm trivial rfl (t_maxI rfl rfl) rfl ?_
  rw [show max (0 : Int) (((0 : Nat) : Int) - max n 0) = 0 from by omega]
  first | refine Rg.tm trivial rfl (t_sliceN Tryz.underlying106 ty63 rfl rfl rfl) rfl ?_ | refine Rg.tm trivial rfl (t_sliceL Tryz.underlying106 ty63 rfl rfl rfl (by omega)) rfl ?_
  refine Rg.tm trivial rfl (t_assign rfl) rfl ?_
  refine Rg.done ?_
  refine Wp.seq ?_
  refine Wp.seq (Wp.region ?_)
  refine Rg.tm trivial rfl (t_move rfl) rfl ?_
  refine Rg.tm trivial rfl (t_lenS Tryz.underlying106 rfl) rfl ?_
  refine Rg.tm trivial rfl (t_move rfl) rfl ?_
  refine Rg.done ?_
  refine Wp.block ?_
  refine Wp.loop (ι := Unit) (fun _ => [(6,.slice none 0 0),(22,.int .i64 0),(23,.int .i64 0)]) (fun _ w' => DbW w' q ∧ Kd B w w') (fun _ => 0) () (by repeat (first | exact .nil | refine .cons rfl ?_)) ⟨hD1,kd⟩ ?_
  clear hD1 kd
  rintro _ w2 ⟨hD1,kd⟩
  refine Wp.seq (Wp.region ?_)
  first | refine Rg.tm trivial rfl (t_lssT rfl rfl (by omega)) rfl ?_ | refine Rg.tm trivial rfl (t_lssF rfl rfl (by omega)) rfl ?_ | refine Rg.tm trivial rfl (t_lss rfl rfl) rfl ?_
  refine Rg.done ?_
  refine Wp.seq ?_
  refine Wp.condF rfl ?_
  refine Wp.exit ?_
  refine Wp.seq (Wp.region ?_)
  refine Rg.tm trivial rfl (t_move rfl) rfl ?_
  refine Rg.tm trivial rfl (t_lenS Tryz.underlying106 rfl) rfl ?_
  refine Rg.tm trivial rfl (t_assign rfl) rfl ?_
  refine Rg.done ?_
  refine Wp.ret ?_
  exact ⟨[_],⟨rfl,trivial⟩,[],hp,hs,by simpa using hD1,kd⟩
 ·skip
  refine Rg.tm trivial rfl (t_assign rfl) rfl ?_
  refine Rg.done ?_
  refine Wp.seq (Wp.region ?_)
  refine Rg.tm trivial rfl (t_move rfl) rfl ?_
  refine Rg.tm trivial rfl (t_move rfl) rfl ?_
  refine Rg.tm trivial rfl (t_lenS Tryz.underlying106 rfl) rfl ?_
  refine Rg.tm trivial rfl (t_move rfl) rfl ?_
  refine Rg.tm trivial rfl (t_maxI rfl rfl) rfl ?_
  refine Rg.tm trivial rfl (t_subI rfl rfl (by omega)) rfl ?_
  refine Rg.tm trivial rfl (t_maxI rfl rfl) rfl ?_
  have hm : max (0 : Int) ((ks.length : Int) - max n 0) = ((ks.length - n.toNat : Nat) : Int) := by omega
  rw [hm]
  obtain ⟨m,hm2⟩ : ∃ m,m = ks.length - n.toNat := ⟨_,rfl⟩
  rw [← hm2]
  refine Rg.tm trivial rfl (t_sliceL Tryz.underlying106 ty63 rfl rfl rfl (by omega)) rfl ?_
  rw [show (Value.slice (some (if cap = (0 : Int).toNat then (⟨g,0,none⟩ : Addr) else ⟨g,0 + (0 : Int).toNat * 3,none⟩)) ((m : Int).toNat - (0 : Int).toNat) (cap - (0 : Int).toNat)) = .slice (some ⟨g,0,none⟩) m cap from by simp]
  refine Rg.tm trivial rfl (t_assign rfl) rfl ?_
  refine Rg.done ?_
  refine Wp.seq ?_
  refine Wp.seq (Wp.region ?_)
  refine Rg.tm trivial rfl (t_move rfl) rfl ?_
  refine Rg.tm trivial rfl (t_lenS Tryz.underlying106 rfl) rfl ?_
  refine Rg.tm trivial rfl (t_move rfl) rfl ?_
  refine Rg.done ?_
  refine Wp.block ?_
  refine Wp.loop (ι := Nat) (fun k => [(0,.pointer (some ⟨q.bD,0,none⟩)),(6,.slice (some ⟨g,0,none⟩) m cap),(21,.slice (some ⟨g,0,none⟩) m cap),(22,.int .i64 m),(23,.int .i64 k)])
   (fun k w' => k ≤ m ∧ DbW w' { q with rs := (ks.take k).foldl del3 q.rs } ∧ Var w' g (encs kc ks ++ sp) 63 ∧ Kd B w w') (fun k => m - k) 0 (by repeat (first | exact .nil | refine .cons rfl ?_)) ⟨Nat.zero_le _,hD1,hvg,kd⟩ ?_
  clear hD1 hvg kd ho hx1
  rintro k w2 ⟨hk,hD1,hvg,kd⟩
  have hcg := hvg.cells
  by_cases hkm : k < m
  ·have hkl2 : k < ks.length := by omega
   have hck : Cells w2 g (0 + k * 3) (kc (ks.getD k d0)) := by rw [← encs_getD (sp := sp) hkl2]; exact hcg.sub _ _
   refine Wp.seq (Wp.region ?_)
   first | refine Rg.tm trivial rfl (t_lssT rfl rfl (by omega)) rfl ?_ | refine Rg.tm trivial rfl (t_lssF rfl rfl (by omega)) rfl ?_ | refine Rg.tm trivial rfl (t_lss rfl rfl) rfl ?_
   refine Rg.done ?_
   refine Wp.seq ?_
   refine Wp.condT rfl ?_
   refine Wp.skip ?_
   refine Wp.seq ?_
   refine Wp.block ?_
   refine Wp.seq (Wp.region ?_)
   refine Rg.tm trivial rfl (t_indexAddrL Tryz.underlying106 ty63 rfl rfl (by omega)) rfl ?_
   rw [Int.toNat_natCast]
   refine Rg.tm trivial rfl (t_loadA rfl hck ty63) rfl ?_
   refine Rg.wd trivial (w_new Tryz.zeroValue63 rfl) rfl ?_
   rintro _ w3 ⟨b8,rfl,q8,hx3,hv8⟩
   refine Rg.wn trivial (w_put hv8 rfl rfl rfl ty63 rfl rfl) ?_
   rintro _ w4 ⟨hu4,hv8_⟩
   have hx4 := hx3.upd hu4 (Nat.le_of_eq q8.symm)
   replace hD1 := hD1.ext hx4
   replace hvg := hvg.ext hx4
   replace kd := kd.ext hx4
   have hc8 := hv8_.cells
   refine Rg.done ?_
   refine Wp.region ?_
   refine Rg.tm trivial rfl (t_move rfl) rfl ?_
   refine Rg.tm trivial rfl (t_loadA rfl hc8 ty63) rfl ?_
   refine Rg.wd trivial (w_call Tryz.call59 rfl (forget_ok hD1 (hfl.sub (foldl_del_sub _ _)) kd.le')) rfl ?_
   rintro _ w5 ⟨hD5,kd5⟩
   replace hvg := kd5.var _ _ _ (by decide) (by decide) hvg
   replace kd := kd.trans kd5
   refine Rg.done ?_
   refine Wp.region ?_
   first | refine Rg.tm trivial rfl (t_addI rfl rfl (by omega)) rfl ?_ | refine Rg.tm trivial rfl (t_add rfl rfl) rfl ?_
   refine Rg.tm trivial rfl (t_move rfl) rfl ?_
   refine Rg.done ?_
   refine ⟨k + 1,by repeat (first | exact .nil | refine .cons rfl ?_),⟨hkm,?_,hvg,kd⟩,by omega⟩
   rw [List.take_succ_eq_append_getElem hkl2,List.foldl_append]
   have : ks.getD k d0 = ks[k] := by rw [List.getD_eq_getElem?_getD,List.getElem?_eq_getElem hkl2]; rfl
   rw [this] at hD5
   exact hD5
  ·obtain rfl : k = m := by omega
   refine Wp.seq (Wp.region ?_)
   first | refine Rg.tm trivial rfl (t_lssT rfl rfl (by omega)) rfl ?_ | refine Rg.tm trivial rfl (t_lssF rfl rfl (by omega)) rfl ?_ | refine Rg.tm trivial rfl (t_lss rfl rfl) rfl ?_
   refine Rg.done ?_
   refine Wp.seq ?_
   refine Wp.condF rfl ?_
   refine Wp.exit ?_
   refine Wp.seq (Wp.region ?_)
   refine Rg.tm trivial rfl (t_move rfl) rfl ?_
   refine Rg.tm trivial rfl (t_lenS Tryz.underlying106 rfl) rfl ?_
   refine Rg.tm trivial rfl (t_assign rfl) rfl ?_
   refine Rg.done ?_
   refine Wp.ret ?_
   refine ⟨[_],⟨rfl,trivial⟩,ks,hp,hs,?_,kd⟩
   rw [← hm2]
   exact hD1
end Go.Proofs.YtliofpegbcegiaaGreatDoor
