/- The server in memory; the walks of memo.Set and of the server's setInputs, replace, index. Printed by r5/srvp.py. -/
import Derived.Test.YtliofpegbcegiaaGreatDoorXh
import Derived.Test.YtliofpegbcegiaaGreatDoorXb
set_option linter.unusedVariables false
set_option linter.unusedSimpArgs false
namespace Go.Proofs.YtliofpegbcegiaaGreatDoor
set_option maxRecDepth 20000
open Go.Gx Go.RowKit Go.Lib
open Lexi (Asc)
def VK (T : List TypeId) (w w' : World) : Prop := ∀ b cs t,t ∉ T → Var w b cs t → Var w' b cs t
theorem _root_.Go.Gx.Row.vk {T : List TypeId} {w w' : World} {e size n : Nat} {v : Value} {xs : List Value} (h : Row w e size v n xs) (k : VK T w w') (he : e ∉ T) : Row w' e size v n xs := h.keep fun b cs _ hv => by
 have := k b cs e he hv
 unfold Var at this hv
 rw [this,hv]
theorem _root_.Go.Gx.Row.vkB {w w' : World} {e size n : Nat} {v : Value} {xs : List Value} (h : Row w e size v n xs) (hb : ∀ b,v.ownBlock = some b → w'.heap[b]? = w.heap[b]?) : Row w' e size v n xs := h.keep fun b _ hb' _ => hb b hb'
theorem _root_.Go.Gx.Var.heq {w w' : World} {b t : Nat} {cs : List Value} (h : Var w b cs t) (k : w'.heap[b]? = w.heap[b]?) : Var w' b cs t := by
 unfold Var at *
 rw [k,h]
theorem ResAt.vk {T : List TypeId} {w w' : World} {b : Nat} {r : Res} (h : ResAt w b r) (k : VK T w w') (h3 : 3 ∉ T) (h63 : 63 ∉ T) (hb : w'.heap[b]? = w.heap[b]?) : ResAt w' b r := by
 obtain ⟨⟨vn,vd,chg,h1,h2,h5⟩,h4,h6,h7⟩ := h
 exact ⟨⟨vn,vd,chg,h1.heq hb,Row.vk h2 k h3,Row.vk h5 k h63⟩,h4,h6,h7⟩
theorem CellV.vk {T : List TypeId} {w w' : World} {v : Value} {c : QV × Int} (h : CellV w v c) (k : VK T w w') (h3 : 3 ∉ T) : CellV w' v c := by
 obtain ⟨vn,e,h1,h2⟩ := h
 exact ⟨vn,e,Row.vk h1 k h3,h2⟩
theorem InsA.vk {T : List TypeId} {w w' : World} {bI bM : Nat} {s : Ins} (h : InsA w bI bM s) (k : VK T w w') (h3 : 3 ∉ T) (hI : w'.heap[bI]? = w.heap[bI]?) (hM : w'.heap[bM]? = w.heap[bM]?) : InsA w' bI bM s := by
 obtain ⟨⟨l1,l2,hv⟩,l,h1,h2⟩ := h
 exact ⟨⟨l1,l2,hv.heq hI⟩,l,h1.keep hM,h2.mono fun _ _ h => h.vk k h3⟩
def FootD (q : DbQ) : Fs := fun z => z = q.bD ∨ z = q.bI ∨ z = q.bM ∨ z = q.bR ∨ z = q.bA ∨ ∃ x ∈ q.rs,z = x.2.1
theorem DbW.vk {T : List TypeId} {w w' : World} {q : DbQ} (h : DbW w q) (k : VK T w w') (h3 : 3 ∉ T) (h63 : 63 ∉ T) (h35 : 35 ∉ T) (hb : ∀ z,FootD q z → w'.heap[z]? = w.heap[z]?) : DbW w' q :=
 ⟨h.var.heq (hb _ (.inl rfl)),k _ _ _ h35 h.fn,h.ins.vk k h3 (hb _ (.inr (.inl rfl))) (hb _ (.inr (.inr (.inl rfl)))),h.res.keep (hb _ (.inr (.inr (.inr (.inl rfl))))),h.act.keep (hb _ (.inr (.inr (.inr (.inr (.inl rfl)))))),
  fun p hp => (h.each p hp).vk k h3 h63 (hb _ (.inr (.inr (.inr (.inr (.inr ⟨p,hp,rfl⟩)))))),h.nodup,h.neMR,h.neMA,h.neRA⟩
theorem kp_vk {w w' : World} {q : DbQ} (h : DbW w q) (k : Kp [q.bI,q.bM] w w') : VK [112] w w' := fun b cs t ht hv => hv.kp k fun hm => by
 simp only [List.mem_cons,List.not_mem_nil,or_false] at hm ht
 obtain ⟨⟨l1,l2,hI⟩,l,hM,_⟩ := h.ins
 rcases hm with e | e
 ·exact hv.ne hI ht e
 ·exact hM.ne hv e
theorem DbW.setIns {w w' : World} {q : DbQ} {s : Ins} (h : DbW w q) (k : Kp [q.bI,q.bM] w w') (hi : InsA w' q.bI q.bM s) : DbW w' { q with ins := s } := by
 have vk := kp_vk h k
 obtain ⟨⟨l1,l2,hI⟩,l,hM,_⟩ := h.ins
 have hk : ∀ z,z < w.heap.size → z ≠ q.bI → z ≠ q.bM → w'.heap[z]? = w.heap[z]? := fun z h1 h2 h3 => k.block z h1 (by simp [h2,h3])
 refine ⟨vk _ _ _ (by decide) h.var,vk _ _ _ (by decide) h.fn,hi,h.res.keep (hk _ h.res.lt ?_ (Ne.symm h.neMR)),h.act.keep (hk _ h.act.lt ?_ (Ne.symm h.neMA)),fun p hp => (h.each p hp).vk vk (by decide) (by decide) ?_,h.nodup,h.neMR,h.neMA,h.neRA⟩
 ·exact Ne.symm (h.res.ne hI)
 ·exact Ne.symm (h.act.ne hI)
 ·obtain ⟨⟨vn,vd,chg,hp1,_⟩,_⟩ := h.each p hp
  exact hk _ hp1.lt (hp1.ne hI (by decide)) (hM.ne hp1)
theorem DbA.setIns {F : Fs} {w w' : World} {q : DbQ} {db : DB} {s : Ins} (h : DbA F w q db) (k : Kp [q.bI,q.bM] w w') (hi : InsA w' q.bI q.bM s) : DbA F w' { q with ins := s } { db with ins := s } :=
 ⟨h.D.setIns k hi,⟨h.fl.d,h.fl.i,h.fl.m,h.fl.r,h.fl.a,h.fl.e⟩,⟨rfl,h.rel.res,h.rel.comps,h.rel.clock⟩,h.act,h.stop⟩
theorem DbA.ext {F : Fs} {w w' : World} {q : DbQ} {db : DB} (h : DbA F w q db) (k : Ext w w') : DbA F w' q db := ⟨h.D.ext k,h.fl,h.rel,h.act,h.stop⟩
structure SvQ where
 bS : Nat
 q : DbQ
 vm : Value
 vv : Value
 vp : Value
def SvQ.cells (s : SvQ) (rev : Int) : List Value := [s.vm,s.vv,s.vp,.int .i64 rev,.pointer (some ⟨s.q.bD,0,none⟩)]
structure SvW (F : Fs) (w : World) (s : SvQ) (st : St) : Prop where
 var : Var w s.bS (s.cells st.rev) 70
 mods : Row w 52 2 s.vm st.mods.length (encs mc st.mods)
 vers : Row w 3 1 s.vv st.vers.length (encs ei st.vers)
 pend : Row w 27 5 s.vp st.pend.length (encs rc st.pend)
 db : DbA F w s.q st.db
 fS : ¬ F s.bS
 fp : ∀ b,s.vp.ownBlock = some b → ¬ F b
def Foot (s : SvQ) : Fs := fun z => z = s.bS ∨ s.vp.ownBlock = some z ∨ FootD s.q z
theorem SvW.ext {F : Fs} {w w' : World} {s : SvQ} {st : St} (h : SvW F w s st) (k : Ext w w') : SvW F w' s st := ⟨h.var.ext k,h.mods.ext k,h.vers.ext k,h.pend.ext k,h.db.ext k,h.fS,h.fp⟩
theorem SvW.lt {F : Fs} {w : World} {s : SvQ} {st : St} (h : SvW F w s st) : Und (Foot s) w.heap.size := fun z hz => by
 have hD := h.db.D
 obtain ⟨⟨l1,l2,hI⟩,l,hM,_⟩ := hD.ins
 rcases hz with rfl | hz | rfl | rfl | rfl | rfl | rfl | ⟨x,hx,rfl⟩
 ·exact h.var.lt
 ·exact h.pend.lt _ hz
 ·exact hD.var.lt
 ·exact hI.lt
 ·exact hM.lt
 ·exact hD.res.lt
 ·exact hD.act.lt
 ·obtain ⟨⟨vn,vd,chg,hp1,_⟩,_⟩ := hD.each x hx
  exact hp1.lt
theorem SvW.not {F : Fs} {w : World} {s : SvQ} {st : St} (h : SvW F w s st) : ∀ z,Foot s z → ¬ F z := fun z hz => by
 have hf := h.db.fl
 rcases hz with rfl | hz | rfl | rfl | rfl | rfl | rfl | ⟨x,hx,rfl⟩
 ·exact h.fS
 ·exact h.fp _ hz
 ·exact hf.d
 ·exact hf.i
 ·exact hf.m
 ·exact hf.r
 ·exact hf.a
 ·exact hf.e x hx
theorem SvW.reF {F F' : Fs} {w : World} {s : SvQ} {st : St} (h : SvW F w s st) (k : ∀ z,Foot s z → ¬ F' z) : SvW F' w s st :=
 have kd : ∀ z,FootD s.q z → ¬ F' z := fun z hz => k z (.inr (.inr hz))
 ⟨h.var,h.mods,h.vers,h.pend,⟨h.db.D,⟨kd _ (.inl rfl),kd _ (.inr (.inl rfl)),kd _ (.inr (.inr (.inl rfl))),kd _ (.inr (.inr (.inr (.inl rfl)))),kd _ (.inr (.inr (.inr (.inr (.inl rfl))))),fun x hx => kd _ (.inr (.inr (.inr (.inr (.inr ⟨x,hx,rfl⟩)))))⟩,h.db.rel,h.db.act,h.db.stop⟩,k _ (.inl rfl),fun b hb => k b (.inr (.inl hb))⟩
def KT : List TypeId := [70,87,112,139,27]
structure Ks (F : Fs) (w w' : World) : Prop where
 fl : Und F w.heap.size
 base : Bw F w w'
 var : VK KT w w'
theorem Ks.refl {F : Fs} {w : World} (h : Und F w.heap.size) : Ks F w w := ⟨h,Bw.refl _ _,fun _ _ _ _ h => h⟩
theorem Ks.trans {F : Fs} {a b c : World} (h : Ks F a b) (k : Ks F b c) : Ks F a c := ⟨h.fl,h.base.trans k.base,fun x cs t h1 h2 => k.var x cs t h1 (h.var x cs t h1 h2)⟩
theorem Ks.le {F : Fs} {w w' : World} (h : Ks F w w') : w.heap.size ≤ w'.heap.size := h.base.size
theorem Ks.le' {F : Fs} {w w' : World} (h : Ks F w w') : Und F w'.heap.size := fun z hz => Nat.lt_of_lt_of_le (h.fl z hz) h.le
theorem _root_.Go.Gx.Ext.ks {F : Fs} {w w' : World} (k : Ext w w') (h : Und F w.heap.size) : Ks F w w' := ⟨h,⟨k.os,k.tape,k.output,k.size,fun i hi => k.block i (h i hi)⟩,fun _ _ _ _ h3 => h3.ext k⟩
theorem Ks.ext {F : Fs} {a b c : World} (h : Ks F a b) (k : Ext b c) : Ks F a c := h.trans (k.ks h.le')
theorem Kd.ks {F : Fs} {w w' : World} (h : Kd F w w') : Ks F w w' := ⟨h.fl,h.base,fun x cs t h1 h2 => h.var x cs t (fun e => h1 (by rw [e]; decide)) (fun e => h1 (by rw [e]; decide)) h2⟩
theorem Ks.upd {F : Fs} {b : Nat} {a w w' : World} (h : Ks F a w) (k : Upd b w w') (hB : ¬ F b) (hne : ∀ x cs t,t ∉ KT → Var a x cs t → x ≠ b) : Ks F a w' :=
 ⟨h.fl,h.base.trans ⟨k.os,k.tape,k.output,k.size ▸ Nat.le_refl _,fun i hi => k.block i fun e => hB (e ▸ hi)⟩,fun x cs t h1 h2 => (h.var x cs t h1 h2).upd k (hne x cs t h1 h2)⟩
theorem Ks.updV {F : Fs} {b t0 : Nat} {cs0 : List Value} {a w w' : World} (h : Ks F a w) (k : Upd b w w') (hB : ¬ F b) (hv : Var w b cs0 t0) (ht : t0 ∈ KT) : Ks F a w' :=
 h.upd k hB fun x cs t h1 h2 => (h.var x cs t h1 h2).ne hv fun e => h1 (e ▸ ht)
theorem Ks.updN {F : Fs} {b : Nat} {a w w' : World} (h : Ks F a w) (k : Upd b w w') (hb : a.heap.size ≤ b) : Ks F a w' :=
 h.upd k (fun hf => by have := h.fl b hf; omega) fun x cs t h1 h2 => by have := h2.lt; omega
theorem Ks.kp {F : Fs} {Z : List Nat} {w w' : World} (hF : Und F w.heap.size) (k : Kp Z w w') (hZ : ∀ z ∈ Z,¬ F z) (hv : VK KT w w') : Ks F w w' :=
 ⟨hF,⟨k.base.os,k.base.tape,k.base.output,k.base.size,fun i hi => k.block i (hF i hi) fun hm => hZ i hm hi⟩,hv⟩
theorem SvW.ks {F F0 : Fs} {w w' : World} {s : SvQ} {st : St} (h : SvW F0 w s st) (k : Ks F w w') (hf : ∀ z,Foot s z → F z) : SvW F0 w' s st :=
 have kb : ∀ z,Foot s z → w'.heap[z]? = w.heap[z]? := fun z hz => k.base.block z (hf z hz)
 ⟨h.var.heq (kb _ (.inl rfl)),h.mods.vk k.var (by decide),h.vers.vk k.var (by decide),h.pend.vkB fun b hb => kb b (.inr (.inl hb)),⟨h.db.D.vk k.var (by decide) (by decide) (by decide) fun z hz => kb z (.inr (.inr hz)),h.db.fl,h.db.rel,h.db.act,h.db.stop⟩,h.fS,h.fp⟩
theorem own_ks {F : Fs} {B e size n : Nat} {w w' : World} {v : Value} {xs : List Value} (h : w.ownsRow B e size v n xs) (k : VK KT w w') (h1 : e ∉ KT) : w'.ownsRow B e size v n xs := by
 obtain ⟨hl,h⟩ := h
 refine ⟨hl,h.imp id ?_⟩
 rintro ⟨g,cap,cur,rfl,hb,hg,h2,h3,h4,h5⟩
 refine ⟨g,cap,cur,rfl,hb,?_,h2,h3,h4,h5⟩
 have : Var w g cur.toList e := hg
 exact k g cur.toList e h1 this
theorem memoSet_ok {F : Fs} {w : World} {q : DbQ} {db : DB} {ka kb : Int} {vn : Value} {xs : List Int} {t : BA} (hA : DbA F w q db) (hn : RowI w vn xs) (hl : xs.length ≤ 1) (hrev : 0 ≤ q.ins.rev ∧ q.ins.rev ≤ 1000000000) :
  Cl Tryz.prog 83 #[.pointer (some ⟨q.bD,0,none⟩),.agg #[.int .i64 0,.int .i64 ka,.int .i64 kb],.agg #[vn,.string t],.int .i64 0] w (fun u w' => u = .int .i64 0 ∧ DbA F w' { q with ins := q.ins.set (0,ka,kb) (xs,t) } { db with ins := q.ins.set (0,ka,kb) (xs,t) } ∧ Kp [q.bI,q.bM] w w') := by
 have hx := Ext.refl w
 have hI := hA.D.ins
 have hcD := hA.D.var.cells
 simp only [DbQ.cells] at hcD
 obtain ⟨pn,cn,rfl⟩ := Row.shape hn
 refine Cl.enter Tryz.func83 rfl Tryz.ntmps83 rfl rfl ?_
 refine Wp.seq (Wp.region ?_)
 refine Rg.wd trivial (w_boxed rfl rfl) rfl ?_
 rintro _ w1 ⟨b5,rfl,qb5,hx1,hv5⟩
 replace hx := hx.ext hx1
 replace hI := hI.ext hx1
 replace hcD := hcD.ext hx1
 replace hn := hn.ext hx1
 have hc5 := hv5.cells
 refine Rg.wd trivial (w_boxed rfl rfl) rfl ?_
 rintro _ w2 ⟨b6,rfl,qb6,hx2,hv6⟩
 replace hx := hx.ext hx2
 replace hI := hI.ext hx2
 replace hcD := hcD.ext hx2
 replace hn := hn.ext hx2
 replace hv5 := hv5.ext hx2
 replace hc5 := hc5.ext hx2
 have hc6 := hv6.cells
 refine Rg.tm trivial rfl (t_assign rfl) rfl ?_
 refine Rg.done ?_
 refine Wp.seq (Wp.draw [0,1,2,3,4,5,6,7,8,9,10,11,12] [5] mixed (by kernel_rfl) (by kernel_rfl) ?_)
 intro w3 hx3 _
 replace hx := hx.ext hx3
 replace hI := hI.ext hx3
 replace hcD := hcD.ext hx3
 replace hn := hn.ext hx3
 replace hv5 := hv5.ext hx3
 replace hc5 := hc5.ext hx3
 replace hv6 := hv6.ext hx3
 replace hc6 := hc6.ext hx3
 refine Rg.tm trivial rfl (t_move rfl) rfl ?_
 refine Rg.tm trivial rfl (t_nilCheck rfl) rfl ?_
 refine Rg.tm trivial rfl (t_fieldAddr fa87_1 rfl) rfl ?_
 refine Rg.tm trivial rfl (t_load ty82 rfl (by apply Cells.get (i := 1); (case h => assumption); rfl)) rfl ?_
 refine Rg.tm trivial rfl (t_loadA rfl hc5 ty63) rfl ?_
 refine Rg.tm trivial rfl (t_loadA rfl hc6 ty66) rfl ?_
 refine Rg.tm trivial rfl (t_move rfl) rfl ?_
 refine rg_wdC trivial rfl (w_call Tryz.call96 rfl (set_ok hI hn hl hrev)) rfl (by rfl) ?_
 rintro _ wS ⟨⟨bb,rfl⟩,hI2,hk⟩
 refine Rg.tm trivial rfl (t_move rfl) rfl ?_
 refine Rg.tm trivial rfl (t_extract rfl rfl) rfl ?_
 refine Rg.tm trivial rfl (t_extract rfl rfl) rfl ?_
 refine Rg.tm trivial rfl (t_assign rfl) rfl ?_
 refine Rg.tm trivial rfl (t_assign rfl) rfl ?_
 refine Rg.done ?_
 refine Wp.seq (Wp.region ?_)
 refine Rg.tm trivial rfl (t_move rfl) rfl ?_
 refine Rg.tm trivial rfl (t_assign rfl) rfl ?_
 refine Rg.done ?_
 refine Wp.ret ?_
 exact ⟨[_],⟨rfl,trivial⟩,rfl,(hA.ext hx).setIns hk hI2,(hx.kp _).trans hk⟩
theorem mods_snoc : ∀ (l : List MD) (s : Ins) (i : Nat) (m : MD),s.mods i (l ++ [m]) = ((s.mods i l).set (0,1,((i + l.length : Nat) : Int)) ([],m.1)).set (0,2,((i + l.length : Nat) : Int)) ([],m.2)
 | [],s,i,m => rfl
 | a :: l,s,i,m => by
  simp only [List.cons_append,Ins.mods]
  rw [mods_snoc l _ (i + 1) m,show i + 1 + l.length = i + (a :: l).length from by simp; omega]
theorem mods_rev : ∀ (l : List MD) (s : Ins) (i : Nat),s.rev ≤ (s.mods i l).rev ∧ (s.mods i l).rev ≤ s.rev + 2 * l.length
 | [],s,i => ⟨Int.le_refl _,by simp [Ins.mods]⟩
 | a :: l,s,i => by
  have h1 := s.rev_set (0,1,i) ([],a.1)
  have h2 := (s.set (0,1,i) ([],a.1)).rev_set (0,2,i) ([],a.2)
  have h3 := mods_rev l ((s.set (0,1,i) ([],a.1)).set (0,2,i) ([],a.2)) (i + 1)
  simp only [Ins.mods,List.length_cons]
  omega
theorem setInputs_ok {F : Fs} {w : World} {s : SvQ} {db : DB} {rev : Int} {ms : List MD} (hS : Var w s.bS (s.cells rev) 70) (hm : Row w 52 2 s.vm ms.length (encs mc ms)) (hA : DbA F w s.q db) (hl : ms.length ≤ 1000) (hrev : 0 ≤ db.ins.rev ∧ db.ins.rev ≤ 100000000) :
  Cl Tryz.prog 62 #[.pointer (some ⟨s.bS,0,none⟩)] w (fun u w' => DbA F w' { s.q with ins := db.ins.all ms } { db with ins := db.ins.all ms } ∧ Kp [s.q.bI,s.q.bM] w w') := by
 have hx := Ext.refl w
 obtain ⟨bS,q,vm,vv,vp⟩ := s
 simp only [SvQ.cells] at hS hm hA ⊢
 obtain ⟨pm,cm,rfl⟩ := hm.shape
 have hcS := hS.cells
 have heI : q.ins = db.ins := hA.rel.ins
 have hkp : ∀ {w1 w2 : World} {s1 : Ins},DbA F w1 { q with ins := s1 } { db with ins := s1 } → Kp [q.bI,q.bM] w1 w2 → VK [112] w1 w2 := fun h k => kp_vk h.D k
 have hrev0 : 0 ≤ q.ins.rev ∧ q.ins.rev ≤ 1000000000 := by rw [heI]; omega
 refine Cl.enter Tryz.func62 rfl Tryz.ntmps62 rfl rfl ?_
 refine Wp.seq (Wp.draw [0,1,2,3,4,5,6,7,8,9,10,11,12] [0] mixed (by kernel_rfl) (by kernel_rfl) ?_)
 intro w1 hx1 _
 replace hx := hx.ext hx1
 replace hS := hS.ext hx1
 replace hcS := hcS.ext hx1
 replace hA := hA.ext hx1
 replace hm := hm.ext hx1
 refine Rg.tm trivial rfl (t_move rfl) rfl ?_
 refine Rg.tm trivial rfl (t_nilCheck rfl) rfl ?_
 refine Rg.tm trivial rfl (t_fieldAddr fa70_4 rfl) rfl ?_
 refine Rg.tm trivial rfl (t_load ty60 rfl (by apply Cells.get (i := 4); (case h => assumption); rfl)) rfl ?_
 refine Rg.tm trivial rfl (t_build (bd63_1 _) rfl) rfl ?_
 refine Rg.tm trivial rfl (t_move rfl) rfl ?_
 refine Rg.tm trivial rfl (t_nilCheck rfl) rfl ?_
 refine Rg.tm trivial rfl (t_fieldAddr fa70_0 rfl) rfl ?_
 refine Rg.tm trivial rfl (t_load ty49 rfl (by apply Cells.get (i := 0); (case h => assumption); rfl)) rfl ?_
 refine Rg.tm trivial rfl (t_lenS Tryz.underlying49 rfl) rfl ?_
 refine Rg.wdB trivial rfl (w_buildSlice (bs41_1 _) rfl) rfl (fun _ _ h => by obtain ⟨_,_,_,h,_⟩ := h; exact h) ?_
 rintro _ wb ⟨bb,rfl,qb,hxb,hvb⟩
 replace hx := hx.ext hxb
 replace hm := hm.ext hxb
 replace hA := hA.ext hxb
 replace hS := hS.ext hxb
 have hnn : RowI wb (.slice (some ⟨bb,0,none⟩) 1 1) [(ms.length : Int)] := RowI.own (own_of_varS hvb (Nat.zero_le _) rfl (by unfold maxLen; omega))
 refine Rg.tm trivial rfl (t_build (bd66_0 _ _ _) rfl) rfl ?_
 refine rg_wdC trivial rfl (w_call Tryz.call83 rfl (memoSet_ok (xs := [(ms.length : Int)]) hA hnn (Nat.le_refl _) hrev0)) rfl (by rfl) ?_
 rintro _ w2 ⟨rfl,hA2,hk2⟩
 have vk2 := kp_vk hA.D hk2
 replace hm := hm.vk vk2 (by decide)
 replace hS := vk2 _ _ _ (by decide) hS
 have hk := (hx.kp [q.bI,q.bM]).trans hk2
 clear hcS hx hA
 have hA := hA2
 clear hA2
 have hcS := hS.cells
 refine Rg.done ?_
 refine Wp.seq (Wp.region ?_)
 refine Rg.tm trivial rfl (t_move rfl) rfl ?_
 refine Rg.tm trivial rfl (t_nilCheck rfl) rfl ?_
 refine Rg.tm trivial rfl (t_fieldAddr fa70_0 rfl) rfl ?_
 refine Rg.tm trivial rfl (t_load ty49 rfl (by apply Cells.get (i := 0); (case h => assumption); rfl)) rfl ?_
 refine Rg.tm trivial rfl (t_lenS Tryz.underlying49 rfl) rfl ?_
 refine Rg.tm trivial rfl (t_move rfl) rfl ?_
 refine Rg.done ?_
 refine Wp.block ?_
 rw [heI] at hA
 have hr1 := db.ins.rev_set (0,0,0) ([(ms.length : Int)],noB)
 obtain ⟨s0,hs0⟩ : ∃ s0,db.ins.set (0,0,0) ([(ms.length : Int)],noB) = s0 := ⟨_,rfl⟩
 have hall : ∀ l,db.ins.all l = (db.ins.set (0,0,0) ([(l.length : Int)],noB)).mods 0 l := fun _ => rfl
 rw [hall,hs0]
 have hs0' : db.ins.set (0,0,0) ([(ms.length : Int)],⟨#[]⟩) = s0 := hs0
 rw [hs0'] at hA
 rw [hs0] at hr1
 refine Wp.loop (ι := Nat) (fun k => [(0,.pointer (some ⟨bS,0,none⟩)),(20,.slice pm ms.length cm),(21,.int .i64 ms.length),(22,.int .i64 k)])
  (fun k w' => k ≤ ms.length ∧ Var w' bS [.slice pm ms.length cm,vv,vp,.int .i64 rev,.pointer (some ⟨q.bD,0,none⟩)] 70 ∧ Row w' 52 2 (.slice pm ms.length cm) ms.length (encs mc ms) ∧ DbA F w' { q with ins := s0.mods 0 (ms.take k) } { db with ins := s0.mods 0 (ms.take k) } ∧ Kp [q.bI,q.bM] w w')
  (fun k => ms.length - k) 0 (by repeat (first | exact .nil | refine .cons rfl ?_)) ⟨Nat.zero_le _,hS,hm,by simpa [Ins.mods] using hA,hk⟩ ?_
 clear hS hm hA hk hcS
 rintro k w3 ⟨hkk,hS,hm,hA,hk⟩
 have hcS := hS.cells
 have hms := hm.slc
 have hr2 := mods_rev (ms.take k) s0 0
 rw [List.length_take,Nat.min_eq_left hkk] at hr2
 obtain ⟨sk,hsk⟩ : ∃ sk,s0.mods 0 (ms.take k) = sk := ⟨_,rfl⟩
 rw [hsk] at hA hr2
 by_cases hlt : k < ms.length
 ·have hsn : s0.mods 0 (ms.take (k + 1)) = (sk.set (0,1,(k : Int)) ([],ms[k].1)).set (0,2,(k : Int)) ([],ms[k].2) := by
   rw [List.take_succ_eq_append_getElem hlt,mods_snoc,hsk,List.length_take,Nat.min_eq_left hkk,Nat.zero_add]
  have hr3 := sk.rev_set (0,1,(k : Int)) ([],ms[k].1)
  refine Wp.seq (Wp.region ?_)
  first | refine Rg.tm trivial rfl (t_lssT rfl rfl (by omega)) rfl ?_ | refine Rg.tm trivial rfl (t_lssF rfl rfl (by omega)) rfl ?_ | refine Rg.tm trivial rfl (t_lss rfl rfl) rfl ?_
  refine Rg.done ?_
  refine Wp.seq ?_
  refine Wp.condT rfl ?_
  refine Wp.skip ?_
  refine Wp.seq ?_
  refine Wp.block ?_
  refine Wp.seq (Wp.region ?_)
  refine Rg.tm trivial rfl (t_move rfl) rfl ?_
  refine Rg.ix hms trivial rfl rfl Tryz.underlying49 ty52 (by omega) rfl ?_
  intro bt25 ot25 ht25
  rw [Int.toNat_natCast,encs_at mc_len ms k hlt] at ht25
  refine Rg.tm trivial rfl (t_loadA rfl ht25 ty52) rfl ?_
  obtain ⟨mk,hmk⟩ : ∃ mk,ms[k] = mk := ⟨_,rfl⟩
  obtain ⟨nm,tx⟩ := mk
  rw [hmk] at ht25 hsn hr3 ⊢
  simp only [mc] at ht25 hsn hr3 ⊢
  refine Rg.wd trivial (w_new Tryz.zeroValue52 rfl) rfl ?_
  rintro _ wa ⟨b3,rfl,qb3,hxa,hva⟩
  refine Rg.tm trivial rfl (t_assign rfl) rfl ?_
  refine Rg.wn trivial (w_put hva rfl rfl rfl ty52 rfl rfl) ?_
  rintro _ w3 ⟨hu,h3⟩
  have hx3 := hxa.upd hu (Nat.le_of_eq qb3.symm)
  replace hS := hS.ext hx3
  replace hcS := hcS.ext hx3
  replace hA := hA.ext hx3
  replace hm := hm.ext hx3
  replace hms := hms.ext hx3
  replace ht25 := ht25.ext hx3
  replace hk := hk.trans (hx3.kp _)
  have hc3 := h3.cells
  clear hva hu ht25
  refine Rg.done ?_
  refine Wp.seq (Wp.draw [0,1,2,3,4,5,6,7,8,9] [0] mixed (by kernel_rfl) (by kernel_rfl) ?_)
  intro w4 hx4 _
  replace hS := hS.ext hx4
  replace hcS := hcS.ext hx4
  replace hA := hA.ext hx4
  replace hm := hm.ext hx4
  replace h3 := h3.ext hx4
  replace hc3 := hc3.ext hx4
  replace hk := hk.trans (hx4.kp _)
  refine Rg.tm trivial rfl (t_move rfl) rfl ?_
  refine Rg.tm trivial rfl (t_nilCheck rfl) rfl ?_
  refine Rg.tm trivial rfl (t_fieldAddr fa70_4 rfl) rfl ?_
  refine Rg.tm trivial rfl (t_load ty60 rfl (by apply Cells.get (i := 4); (case h => assumption); rfl)) rfl ?_
  refine Rg.tm trivial rfl (t_move rfl) rfl ?_
  refine Rg.tm trivial rfl (t_build (bd63_1_2 _ _) rfl) rfl ?_
  refine Rg.tm trivial rfl (t_fieldAddr fa52_0 rfl) rfl ?_
  refine Rg.tm trivial rfl (t_load ty9 rfl (by apply Cells.get (i := 0); (case h => assumption); rfl)) rfl ?_
  refine Rg.tm trivial rfl (t_build (bd66_1 _) rfl) rfl ?_
  refine rg_wdC trivial rfl (w_call Tryz.call83 rfl (memoSet_ok (xs := []) hA (Row.nil _ _ _) (by decide) (show 0 ≤ sk.rev ∧ sk.rev ≤ 1000000000 from by omega))) rfl (by rfl) ?_
  rintro _ w5 ⟨rfl,hA5,hk5⟩
  have vk5 := kp_vk hA.D hk5
  replace hk5 : Kp [q.bI,q.bM] _ _ := hk5
  replace hm := hm.vk vk5 (by decide)
  replace hS := vk5 _ _ _ (by decide) hS
  replace h3 := vk5 _ _ _ (by decide) h3
  replace hk := hk.trans hk5
  clear hcS hc3 hA
  have hA := hA5
  clear hA5
  have hcS := hS.cells
  have hc3 := h3.cells
  refine Rg.done ?_
  refine Wp.draw [0,1,2,3,4,5,6,7,8,9] [0] mixed (by kernel_rfl) (by kernel_rfl) ?_
  intro w6 hx6 _
  replace hS := hS.ext hx6
  replace hcS := hcS.ext hx6
  replace hA := hA.ext hx6
  replace hm := hm.ext hx6
  replace h3 := h3.ext hx6
  replace hc3 := hc3.ext hx6
  replace hk := hk.trans (hx6.kp _)
  refine Rg.tm trivial rfl (t_move rfl) rfl ?_
  refine Rg.tm trivial rfl (t_nilCheck rfl) rfl ?_
  refine Rg.tm trivial rfl (t_fieldAddr fa70_4 rfl) rfl ?_
  refine Rg.tm trivial rfl (t_load ty60 rfl (by apply Cells.get (i := 4); (case h => assumption); rfl)) rfl ?_
  refine Rg.tm trivial rfl (t_move rfl) rfl ?_
  refine Rg.tm trivial rfl (t_build (bd63_1_2 _ _) rfl) rfl ?_
  refine Rg.tm trivial rfl (t_fieldAddr fa52_1 rfl) rfl ?_
  refine Rg.tm trivial rfl (t_load ty9 rfl (by apply Cells.get (i := 1); (case h => assumption); rfl)) rfl ?_
  refine Rg.tm trivial rfl (t_build (bd66_1 _) rfl) rfl ?_
  refine rg_wdC trivial rfl (w_call Tryz.call83 rfl (memoSet_ok (xs := []) hA (Row.nil _ _ _) (by decide) (show 0 ≤ (sk.set (0,1,(k : Int)) ([],nm)).rev ∧ (sk.set (0,1,(k : Int)) ([],nm)).rev ≤ 1000000000 from by omega))) rfl (by rfl) ?_
  rintro _ w7 ⟨rfl,hA7,hk7⟩
  have vk7 := kp_vk hA.D hk7
  replace hk7 : Kp [q.bI,q.bM] _ _ := hk7
  replace hm := hm.vk vk7 (by decide)
  replace hS := vk7 _ _ _ (by decide) hS
  replace h3 := vk7 _ _ _ (by decide) h3
  replace hk := hk.trans hk7
  clear hcS hc3 hA
  have hA := hA7
  clear hA7
  have hcS := hS.cells
  have hc3 := h3.cells
  refine Rg.done ?_
  refine Wp.region ?_
  first | refine Rg.tm trivial rfl (t_addI rfl rfl (by omega)) rfl ?_ | refine Rg.tm trivial rfl (t_add rfl rfl) rfl ?_
  refine Rg.tm trivial rfl (t_move rfl) rfl ?_
  refine Rg.done ?_
  exact ⟨k + 1,by repeat (first | exact .nil | refine .cons rfl ?_),⟨hlt,hS,hm,by rw [hsn]; exact hA,hk⟩,by omega⟩
 ·obtain rfl : k = ms.length := by omega
  rw [List.take_length] at hsk
  refine Wp.seq (Wp.region ?_)
  first | refine Rg.tm trivial rfl (t_lssT rfl rfl (by omega)) rfl ?_ | refine Rg.tm trivial rfl (t_lssF rfl rfl (by omega)) rfl ?_ | refine Rg.tm trivial rfl (t_lss rfl rfl) rfl ?_
  refine Rg.done ?_
  refine Wp.seq ?_
  refine Wp.condF rfl ?_
  refine Wp.exit ?_
  exact ⟨[],trivial,by rw [hsk]; exact hA,hk⟩
noncomputable def appC (s : BA) (es : List TE) : Int × BA := if codeE s.size es = 0 then (0,outE s es) else (codeE s.size es,noB)
noncomputable def Cx : Ctx TE := ⟨valC,appC,ltB⟩
theorem replace_ok {F : Fs} {w : World} {s : SvQ} {st : St} {vm vv : Value} {ms : List MD} {vs : List Int} (h : SvW F w s st) (hF : Und F w.heap.size) (hm : Row w 52 2 vm ms.length (encs mc ms)) (hv : Row w 3 1 vv vs.length (encs ei vs)) (hA : Asc w) (hl : ms.length ≤ 1000) (hrev : 0 ≤ st.rev ∧ st.rev ≤ 100000000) (hrevI : 0 ≤ st.db.ins.rev ∧ st.db.ins.rev ≤ 100000000) :
  Cl Tryz.prog 44 #[.pointer (some ⟨s.bS,0,none⟩),vm,vv] w (fun u w' => u = .int .i64 (replaceS Cx st ms vs).2 ∧ (∃ s',SvW F w' s' (replaceS Cx st ms vs).1 ∧ s'.bS = s.bS) ∧ Ks F w w') := by
 have hx := Ext.refl w
 have hms := hm.slc
 obtain ⟨pm,cm,rfl⟩ := hm.shape
 obtain ⟨pv,cv,rfl⟩ := hv.shape
 cases hval : decide (valC ms = 0) with
 | false =>
  replace hval := of_decide_eq_false hval
  rw [show replaceS Cx st ms vs = (st,valC ms) from if_pos hval]
  refine Cl.enter Tryz.func44 rfl Tryz.ntmps44 rfl rfl ?_
  refine Wp.seq (Wp.region ?_)
  refine Rg.tm trivial rfl (t_assign rfl) rfl ?_
  refine Rg.done ?_
  refine Wp.seq ?_
  refine Wp.seq (Wp.region ?_)
  refine Rg.tm trivial rfl (t_move rfl) rfl ?_
  refine Rg.wd trivial (w_call Tryz.call61 rfl (wValidate_ok hms hl hA)) rfl ?_
  rintro _ w1 ⟨rfl,hx1⟩
  replace hx := hx.ext hx1
  replace h := h.ext hx1
  refine Rg.tm trivial rfl (t_assign rfl) rfl ?_
  refine Rg.done ?_
  refine Wp.seq (Wp.region ?_)
  refine Rg.tm trivial rfl (t_move rfl) rfl ?_
  first | refine Rg.tm trivial rfl (t_neqT rfl rfl (by omega)) rfl ?_ | refine Rg.tm trivial rfl (t_neqF rfl rfl (by omega)) rfl ?_ | refine Rg.tm trivial rfl (t_neq rfl rfl) rfl ?_
  refine Rg.done ?_
  refine Wp.condT rfl ?_
  refine Wp.seq (Wp.region ?_)
  refine Rg.tm trivial rfl (t_move rfl) rfl ?_
  refine Rg.tm trivial rfl (t_assign rfl) rfl ?_
  refine Rg.done ?_
  refine Wp.ret ?_
  exact ⟨[_],⟨rfl,trivial⟩,rfl,⟨s,h,rfl⟩,hx.ks hF⟩
 | true =>
  replace hval := of_decide_eq_true hval
  rw [show replaceS Cx st ms vs = ({ st with mods := ms,vers := vs,rev := st.rev + 1,db := { st.db with ins := st.db.ins.all ms } },0) from if_neg (by show ¬ valC ms ≠ 0; simp [hval])]
  obtain ⟨bS,q,vm0,vv0,vp⟩ := s
  obtain ⟨hS,hm0,hv0,hp,hD,hfS,hfp⟩ := h
  simp only [SvQ.cells] at hS hm0 hv0 hp hD hfS hfp ⊢
  have hcS := hS.cells
  have ks := Ks.refl hF
  refine Cl.enter Tryz.func44 rfl Tryz.ntmps44 rfl rfl ?_
  refine Wp.seq (Wp.region ?_)
  refine Rg.tm trivial rfl (t_assign rfl) rfl ?_
  refine Rg.done ?_
  refine Wp.seq ?_
  refine Wp.seq (Wp.region ?_)
  refine Rg.tm trivial rfl (t_move rfl) rfl ?_
  refine Rg.wd trivial (w_call Tryz.call61 rfl (wValidate_ok hms hl hA)) rfl ?_
  rintro _ w1 ⟨rfl,hx1⟩
  replace hS := hS.ext hx1
  replace hcS := hcS.ext hx1
  replace hm := hm.ext hx1
  replace hv := hv.ext hx1
  replace hp := hp.ext hx1
  replace hD := hD.ext hx1
  replace ks := ks.ext hx1
  rw [hval]
  clear hx hms hm0 hv0
  refine Rg.tm trivial rfl (t_assign rfl) rfl ?_
  refine Rg.done ?_
  refine Wp.seq (Wp.region ?_)
  refine Rg.tm trivial rfl (t_move rfl) rfl ?_
  first | refine Rg.tm trivial rfl (t_neqT rfl rfl (by omega)) rfl ?_ | refine Rg.tm trivial rfl (t_neqF rfl rfl (by omega)) rfl ?_ | refine Rg.tm trivial rfl (t_neq rfl rfl) rfl ?_
  refine Rg.done ?_
  refine Wp.condF rfl ?_
  refine Wp.skip ?_
  refine Wp.seq (Wp.region ?_)
  refine Rg.tm trivial rfl (t_move rfl) rfl ?_
  refine Rg.tm trivial rfl (t_move rfl) rfl ?_
  refine Rg.tm trivial rfl (t_move rfl) rfl ?_
  refine Rg.tm trivial rfl (t_move rfl) rfl ?_
  refine Rg.tm trivial rfl (t_nilCheck rfl) rfl ?_
  refine Rg.tm trivial rfl (t_fieldAddr fa70_0 rfl) rfl ?_
  refine Rg.wn trivial (by first | exact w_putF hS ty49 rfl rfl rfl rfl rfl | exact w_putF hS ty41 rfl rfl rfl rfl rfl) ?_
  rintro _ w2 ⟨hu2,hS2⟩
  replace hm := hm.upd hS hu2 (by decide)
  replace hv := hv.upd hS hu2 (by decide)
  replace hp := hp.upd hS hu2 (by decide)
  replace hD : DbA F _ q st.db := ⟨hD.D.upd hS hu2 (by decide) (by decide) (by decide) (by decide) (by decide) (by decide),hD.fl,hD.rel,hD.act,hD.stop⟩
  replace ks := ks.updV hu2 hfS hS (by decide)
  clear hS hcS
  have hS := hS2
  clear hS2
  simp only [List.set] at hS
  have hcS := hS.cells
  refine Rg.tm trivial rfl (t_nilCheck rfl) rfl ?_
  refine Rg.tm trivial rfl (t_fieldAddr fa70_1 rfl) rfl ?_
  refine Rg.wn trivial (by first | exact w_putF hS ty49 rfl rfl rfl rfl rfl | exact w_putF hS ty41 rfl rfl rfl rfl rfl) ?_
  rintro _ w3 ⟨hu3,hS3⟩
  replace hm := hm.upd hS hu3 (by decide)
  replace hv := hv.upd hS hu3 (by decide)
  replace hp := hp.upd hS hu3 (by decide)
  replace hD : DbA F _ q st.db := ⟨hD.D.upd hS hu3 (by decide) (by decide) (by decide) (by decide) (by decide) (by decide),hD.fl,hD.rel,hD.act,hD.stop⟩
  replace ks := ks.updV hu3 hfS hS (by decide)
  clear hS hcS
  have hS := hS3
  clear hS3
  simp only [List.set] at hS
  have hcS := hS.cells
  refine Rg.done ?_
  refine Wp.seq (Wp.region ?_)
  refine Rg.tm trivial rfl (t_move rfl) rfl ?_
  refine Rg.tm trivial rfl (t_nilCheck rfl) rfl ?_
  refine Rg.tm trivial rfl (t_fieldAddr fa70_3 rfl) rfl ?_
  refine Rg.tm trivial rfl (t_load ty3 rfl (by apply Cells.get (i := 3); (case h => assumption); rfl)) rfl ?_
  refine Rg.tm trivial rfl (t_addI rfl rfl (by omega)) rfl ?_
  refine Rg.tm trivial rfl (t_nilCheck rfl) rfl ?_
  refine Rg.tm trivial rfl (t_fieldAddr fa70_3 rfl) rfl ?_
  refine Rg.wn trivial (w_putF hS ty3 rfl rfl rfl rfl rfl) ?_
  rintro _ w4 ⟨hu4,hS4⟩
  replace hm := hm.upd hS hu4 (by decide)
  replace hv := hv.upd hS hu4 (by decide)
  replace hp := hp.upd hS hu4 (by decide)
  replace hD : DbA F _ q st.db := ⟨hD.D.upd hS hu4 (by decide) (by decide) (by decide) (by decide) (by decide) (by decide),hD.fl,hD.rel,hD.act,hD.stop⟩
  replace ks := ks.updV hu4 hfS hS (by decide)
  clear hS hcS
  have hS := hS4
  clear hS4
  simp only [List.set] at hS
  have hcS := hS.cells
  refine Rg.done ?_
  refine Wp.seq (Wp.region ?_)
  refine Rg.tm trivial rfl (t_move rfl) rfl ?_
  refine Rg.wd trivial (w_call Tryz.call62 rfl (setInputs_ok (s := ⟨bS,q,_,_,vp⟩) hS hm hD hl hrevI)) rfl ?_
  rintro _ wS ⟨hD2,hk2⟩
  have vk2 := kp_vk hD.D hk2
  have ks2 := Ks.kp ks.le' hk2 (fun z hz => by
   simp only [List.mem_cons,List.not_mem_nil,or_false] at hz
   rcases hz with rfl | rfl
   ·exact hD.fl.i
   ·exact hD.fl.m) (fun b cs t ht hb => vk2 b cs t (fun e => ht (by simp only [List.mem_cons,List.not_mem_nil,or_false] at e; rw [e]; decide)) hb)
  replace hS := vk2 _ _ _ (by decide) hS
  replace hm := hm.vk vk2 (by decide)
  replace hv := hv.vk vk2 (by decide)
  replace hp := hp.vk vk2 (by decide)
  replace ks := ks.trans ks2
  refine Rg.done ?_
  refine Wp.seq (Wp.region ?_)
  refine Rg.tm trivial rfl (t_assign rfl) rfl ?_
  refine Rg.done ?_
  refine Wp.ret ?_
  exact ⟨[_],⟨rfl,trivial⟩,rfl,⟨⟨bS,{ q with ins := st.db.ins.all ms },_,_,vp⟩,⟨hS,hm,hv,hp,hD2,hfS,hfp⟩,rfl⟩,ks⟩
theorem index_ok {w : World} {bS : Nat} {vm a b c e : Value} {ms : List MD} {name : BA} (hS : Var w bS [vm,a,b,c,e] 70) (hm : Row w 52 2 vm ms.length (encs mc ms)) (hl : ms.length ≤ 1000) :
  Cl Tryz.prog 38 #[.pointer (some ⟨bS,0,none⟩),.string name] w (fun u w' => u = .int .i64 (idxM ms name) ∧ Ext w w') := by
 have hx := Ext.refl w
 have hcS := hS.cells
 refine Cl.enter Tryz.func38 rfl Tryz.ntmps38 rfl rfl ?_
 refine Wp.seq (Wp.region ?_)
 refine Rg.tm trivial rfl (t_assign rfl) rfl ?_
 refine Rg.done ?_
 refine Wp.seq (Wp.region ?_)
 refine Rg.tm trivial rfl (t_move rfl) rfl ?_
 refine Rg.tm trivial rfl (t_nilCheck rfl) rfl ?_
 refine Rg.tm trivial rfl (t_fieldAddr fa70_0 rfl) rfl ?_
 refine Rg.tm trivial rfl (t_load ty49 rfl (by apply Cells.get (i := 0); (case h => assumption); rfl)) rfl ?_
 refine Rg.tm trivial rfl (t_move rfl) rfl ?_
 refine Rg.wd trivial (w_call Tryz.call60 rfl (wIndexOf_ok hm.slc hl)) rfl ?_
 rintro _ w1 ⟨rfl,hx1⟩
 replace hx := hx.ext hx1
 refine Rg.tm trivial rfl (t_assign rfl) rfl ?_
 refine Rg.done ?_
 refine Wp.ret ?_
 exact ⟨[_],⟨rfl,trivial⟩,rfl,hx⟩
end Go.Proofs.YtliofpegbcegiaaGreatDoor
namespace Go.Proofs.YtliofpegbcegiaaGreatDoor
set_option maxRecDepth 20000
open Go.Gx Go.RowKit Go.Lib
open Lexi (Asc)
structure Fine (st : St) : Prop where
 mlen : st.mods.length ≤ 8
 txt : ∀ m ∈ st.mods,m.2.size ≤ 2000
 vlen : st.vers.length = st.mods.length
 sorted : st.mods.Pairwise fun a b => ltB a.1 b.1 = true
 rev : 0 ≤ st.rev ∧ st.rev ≤ 100000000
 irev : 0 ≤ st.db.ins.rev ∧ st.db.ins.rev ≤ 100000000
 vb : ∀ v ∈ st.vers,0 ≤ v ∧ v ≤ 100000000
 plen : st.pend.length ≤ 20
 comps : 0 ≤ st.db.comps ∧ st.db.comps ≤ 100000000
 clock : 0 ≤ st.db.clock ∧ st.db.clock ≤ 100000000
 mt : Match st.db.ins st.mods
 qok : ∀ r ∈ st.pend,1 ≤ r.query ∧ r.query ≤ 8
theorem mono_of_sorted {l : List MD} (hs : l.Pairwise fun a b => ltB a.1 b.1 = true) (name : BA) : ∀ i j (hi : i < l.length) (hj : j < l.length),i < j → ltB l[j].1 name = true → ltB l[i].1 name = true := fun i j hi hj hij h =>
 ltB_trans _ _ _ (List.pairwise_iff_getElem.1 hs i j hi hj hij) h
theorem mc_set : ∀ (l : List MD) (i : Nat) (h : i < l.length) (t : BA),(encs mc l).set (i * 2 + 1) (.string t) = encs mc (l.set i (l[i].1,t))
 | a :: l,0,h,t => by simp [encs,mc]
 | a :: l,i + 1,h,t => by
  have ih := mc_set l i (by simpa using h) t
  rw [show encs mc (a :: l) = mc a ++ encs mc l from List.flatMap_cons,show (i + 1) * 2 + 1 = (i * 2 + 1) + 1 + 1 from by omega]
  simp only [mc,List.cons_append,List.nil_append,List.set_cons_succ,List.getElem_cons_succ,ih]
  rfl
theorem ei_set (l : List Int) (i : Nat) (x : Int) : (encs ei l).set i (.int .i64 x) = encs ei (l.set i x) := by
 rw [encs_ei,encs_ei,List.map_set]
theorem _root_.Go.Gx.Kp.vk {w w' : World} {g t0 : Nat} {cs0 : List Value} (k : Kp [g] w w') (hg : Var w g cs0 t0) : VK [t0] w w' := fun b cs t ht hv => hv.kp k fun hm => by
 simp only [List.mem_cons,List.not_mem_nil,or_false] at hm ht
 exact hv.ne hg ht hm
theorem insertM_all {w : World} {B vb : Nat} {v : Value} {l : List MD} {x : MD} {i : Nat} (ho : w.ownsRow B 52 2 v l.length (encs mc l)) (hB : B ≤ w.heap.size) (hl : l.length ≤ 1000) (hvb : Var w vb (mc x) 52) (hi : i ≤ l.length) (hne : v.ownBlock ≠ some vb) :
  Cl Tryz.prog 48 #[v,.int .i64 i,.slice (some ⟨vb,0,none⟩) 1 1] w (fun u w' => w'.ownsRow B 52 2 u (l.length + 1) (encs mc (insert1 l i x)) ∧ Ko 52 B w w') := by
 by_cases h : i = l.length
 ·exact insertEndM_ok ho hB hl hvb h
 ·rcases own_wholeG ho with ⟨_,h0⟩ | ⟨g,cap,sp,rfl,hg,hcap,hmx,hsp,hv⟩
  ·omega
  ·have hng : vb ≠ g := fun e => hne (by rw [e]; rfl)
   by_cases hr : cap < l.length + 1
   ·exact insertMG_ok hg hcap hmx hsp hv hB hl hvb (by omega) hr hng
   ·exact insertMR_ok hg hcap hmx hsp hv hB hl hvb (by omega) (by omega) hng
theorem insertI_all {w : World} {B vb : Nat} {v : Value} {l : List Int} {x : Int} {i : Nat} (ho : w.ownsRow B 3 1 v l.length (encs ei l)) (hB : B ≤ w.heap.size) (hl : l.length ≤ 1000) (hvb : Var w vb (ei x) 3) (hi : i ≤ l.length) (hne : v.ownBlock ≠ some vb) :
  Cl Tryz.prog 49 #[v,.int .i64 i,.slice (some ⟨vb,0,none⟩) 1 1] w (fun u w' => w'.ownsRow B 3 1 u (l.length + 1) (encs ei (insert1 l i x)) ∧ Ko 3 B w w') := by
 by_cases h : i = l.length
 ·exact insertEndI_ok ho hB hl hvb h
 ·rcases own_wholeG ho with ⟨_,h0⟩ | ⟨g,cap,sp,rfl,hg,hcap,hmx,hsp,hv⟩
  ·omega
  ·have hng : vb ≠ g := fun e => hne (by rw [e]; rfl)
   by_cases hr : cap < l.length + 1
   ·exact insertIG_ok hg hcap hmx hsp hv hB hl hvb (by omega) hr hng
   ·exact insertIR_ok hg hcap hmx hsp hv hB hl hvb (by omega) (by omega) hng
theorem write_ok {F : Fs} {w : World} {s : SvQ} {st : St} {name text : BA} (h : SvW F w s st) (hF : Und F w.heap.size) (hA : Asc w) (hf : Fine st) :
  Cl Tryz.prog 30 #[.pointer (some ⟨s.bS,0,none⟩),.string name,.string text] w (fun u w' => u = .int .i64 (writeS Cx st name text).2 ∧ (∃ s',SvW F w' s' (writeS Cx st name text).1 ∧ s'.bS = s.bS) ∧ Ks F w w') := by
 have hx := Ext.refl w
 have h0 := h
 obtain ⟨bS,q,vm,vv,vp⟩ := s
 obtain ⟨hS,hm,hv,hp,hD,hfS,hfp⟩ := h
 simp only [SvQ.cells] at hS hm hv hp hD hfS hfp ⊢
 have hcS := hS.cells
 have hms := hm.slc
 have hvs := hv.slc
 have hml := hf.mlen
 have hvl := hf.vlen
 refine Cl.enter Tryz.func30 rfl Tryz.ntmps30 rfl rfl ?_
 refine Wp.seq (Wp.region ?_)
 refine Rg.tm trivial rfl (t_assign rfl) rfl ?_
 refine Rg.done ?_
 refine Wp.seq (Wp.draw [0,1,2,3,5,6,7,8,4,9,10,11] [] mixed (by kernel_rfl) (by kernel_rfl) ?_)
 intro w1 hx1 _
 replace hx := hx.ext hx1
 replace hcS := hcS.ext hx1
 replace hms := hms.ext hx1
 replace hvs := hvs.ext hx1
 have hle1 := hx1.le
 refine Rg.tm trivial rfl (t_move rfl) rfl ?_
 refine Rg.tm trivial rfl (t_nilCheck rfl) rfl ?_
 refine Rg.tm trivial rfl (t_fieldAddr fa70_0 rfl) rfl ?_
 refine Rg.tm trivial rfl (t_load ty49 rfl (by apply Cells.get (i := 0); (case h => assumption); rfl)) rfl ?_
 refine Rg.tm trivial rfl (t_move rfl) rfl ?_
 refine Rg.tm trivial rfl (t_nilCheck rfl) rfl ?_
 refine Rg.tm trivial rfl (t_fieldAddr fa70_1 rfl) rfl ?_
 refine Rg.tm trivial rfl (t_load ty41 rfl (by apply Cells.get (i := 1); (case h => assumption); rfl)) rfl ?_
 refine Rg.wdB trivial rfl (w_call Tryz.call37 rfl (cloneMods_ok hms (encs_one mc_one _) (by omega))) rfl (fun _ _ h => h.2) ?_
 rintro v7 w2 ⟨ho7,hx2⟩
 replace ho7 := own_mono ho7 hx.le
 replace hx := hx.ext hx2
 replace hcS := hcS.ext hx2
 replace hms := hms.ext hx2
 replace hvs := hvs.ext hx2
 refine Rg.wdB trivial rfl (w_call Tryz.call43 rfl (cloneInts_ok hvs (encs_one ei_one _) (by omega))) rfl (fun _ _ h => h.2) ?_
 rintro v8 w3 ⟨ho8,hx3⟩
 replace ho8 := own_mono ho8 hx.le
 replace hx := hx.ext hx3
 replace hcS := hcS.ext hx3
 replace hms := hms.ext hx3
 replace hvs := hvs.ext hx3
 replace ho7 := own_ext ho7 hx3
 refine Rg.tm trivial rfl (t_assign rfl) rfl ?_
 refine Rg.tm trivial rfl (t_assign rfl) rfl ?_
 refine Rg.done ?_
 refine Wp.seq ?_
 refine Wp.seq (Wp.region ?_)
 refine Rg.tm trivial rfl (t_move rfl) rfl ?_
 refine Rg.tm trivial rfl (t_move rfl) rfl ?_
 refine Rg.wd trivial (w_call Tryz.call38 rfl (index_ok (hS.ext hx) (hm.ext hx) (by omega))) rfl ?_
 rintro _ w4 ⟨rfl,hx4⟩
 replace hx := hx.ext hx4
 replace hcS := hcS.ext hx4
 replace hms := hms.ext hx4
 replace hvs := hvs.ext hx4
 replace ho7 := own_ext ho7 hx4
 replace ho8 := own_ext ho8 hx4
 refine Rg.tm trivial rfl (t_assign rfl) rfl ?_
 refine Rg.done ?_
 refine Wp.seq (Wp.region ?_)
 refine Rg.tm trivial rfl (t_move rfl) rfl ?_
 refine Rg.tm trivial rfl (t_geq rfl rfl) rfl ?_
 refine Rg.done ?_
 by_cases hi : 0 ≤ idxM st.mods name
 ·rw [show writeS Cx st name text = replaceS Cx st (st.mods.set (idxM st.mods name).toNat ((mdAt st.mods (idxM st.mods name).toNat).1,text)) (st.vers.set (idxM st.mods name).toNat (st.vers.getD (idxM st.mods name).toNat 0 + 1)) from if_pos hi]
  rw [show decide (idxM st.mods name ≥ 0) = true from decide_eq_true hi]
  obtain ⟨ix,eix,hix⟩ := idxF_lt (show ¬ idxM st.mods name < 0 by omega)
  rw [Nat.zero_add] at eix
  change idxM st.mods name = (ix : Int) at eix
  rw [eix,Int.toNat_natCast,mdAt_get hix]
  have hixv : ix < st.vers.length := by omega
  have hvb := hf.vb _ (List.getElem_mem hixv)
  have hgd : st.vers.getD ix 0 = st.vers[ix] := by simp [List.getD,List.getElem?_eq_getElem hixv]
  rw [hgd]
  obtain ⟨g7,c7,rfl,hB7,hlt7⟩ : ∃ g cap,v7 = .slice (some ⟨g,0,none⟩) st.mods.length cap ∧ w.heap.size ≤ g ∧ True := by
   rcases own_wholeG ho7 with ⟨_,h0⟩ | ⟨g,cap,sp,e,hg,_⟩
   ·omega
   ·exact ⟨g,cap,e,hg,trivial⟩
  obtain ⟨g8,c8,rfl,hB8,hlt8⟩ : ∃ g cap,v8 = .slice (some ⟨g,0,none⟩) st.vers.length cap ∧ w.heap.size ≤ g ∧ True := by
   rcases own_wholeG ho8 with ⟨_,h0⟩ | ⟨g,cap,sp,e,hg,_⟩
   ·omega
   ·exact ⟨g,cap,e,hg,trivial⟩
  refine Wp.condT rfl ?_
  refine Wp.seq (Wp.region ?_)
  refine Rg.tm trivial rfl (t_move rfl) rfl ?_
  refine Rg.tm trivial rfl (t_move rfl) rfl ?_
  refine Rg.tm trivial rfl (t_move rfl) rfl ?_
  refine Rg.tm trivial rfl (t_indexAddrL Tryz.underlying49 ty52 rfl rfl (by omega)) rfl ?_
  refine Rg.tm trivial rfl (t_fieldAddr fa52_1 rfl) rfl ?_
  refine Rg.wn trivial (w_setOwn ho7 ty9 rfl rfl (by rw [show 0 + ((ix : Nat) : Int).toNat * 2 + 1 = ix * 2 + 1 from by omega]; exact List.getElem?_eq_getElem (by rw [encs_len mc_len]; omega)) rfl rfl) ?_
  rintro _ we ⟨ho7',hu7⟩
  rw [show 0 + ((ix : Nat) : Int).toNat * 2 + 1 = ix * 2 + 1 from by omega,mc_set _ _ hix] at ho7'
  replace ho8 := own_grown ho8 ho7 ⟨hu7.os,hu7.tape,hu7.output,Nat.le_of_eq hu7.size.symm,fun k _ hk => hu7.block k fun e => hk (by rw [e]; rfl)⟩ (by decide)
  replace hx := hx.upd hu7 (by omega)
  clear ho7 hcS hms hvs
  refine Rg.done ?_
  refine Wp.seq (Wp.region ?_)
  refine Rg.tm trivial rfl (t_move rfl) rfl ?_
  refine Rg.tm trivial rfl (t_move rfl) rfl ?_
  refine Rg.tm trivial rfl (t_indexAddrL Tryz.underlying41 ty3 rfl rfl (by omega)) rfl ?_
  refine Rg.tm trivial rfl (t_load ty3 rfl (by have h := ho8.cellAt ix (by rw [Nat.mul_one]; omega); rw [show 0 + ((ix : Nat) : Int).toNat * 1 = ix from by omega,h,encs_ei,List.getElem?_map,List.getElem?_eq_getElem hixv]; rfl)) rfl ?_
  refine Rg.tm trivial rfl (t_addI rfl rfl (by omega)) rfl ?_
  refine Rg.tm trivial rfl (t_indexAddrL Tryz.underlying41 ty3 rfl rfl (by omega)) rfl ?_
  refine Rg.wn trivial (w_setOwn ho8 ty3 rfl rfl (by rw [show 0 + ((ix : Nat) : Int).toNat * 1 = ix from by omega]; exact List.getElem?_eq_getElem (by rw [encs_len ei_len]; omega)) rfl rfl) ?_
  rintro _ wf ⟨ho8',hu8⟩
  rw [show 0 + ((ix : Nat) : Int).toNat * 1 = ix from by omega,ei_set] at ho8'
  replace ho7' := own_grown ho7' ho8 ⟨hu8.os,hu8.tape,hu8.output,Nat.le_of_eq hu8.size.symm,fun k _ hk => hu8.block k fun e => hk (by rw [e]; rfl)⟩ (by decide)
  replace hx := hx.upd hu8 (by omega)
  clear ho8
  refine Rg.done ?_
  refine Wp.seq (Wp.region ?_)
  refine Rg.tm trivial rfl (t_move rfl) rfl ?_
  refine Rg.tm trivial rfl (t_move rfl) rfl ?_
  refine Rg.tm trivial rfl (t_move rfl) rfl ?_
  refine Rg.wd trivial (w_call Tryz.call44 rfl (replace_ok (h0.ext hx) (hx.ks hF).le' (ms := st.mods.set ix (st.mods[ix].1,text)) (vs := st.vers.set ix (st.vers[ix] + 1)) (by rw [List.length_set]; exact Row.ofOwn ho7') (by rw [List.length_set]; exact Row.ofOwn ho8') (hA.ext hx) (by rw [List.length_set]; omega) hf.rev hf.irev)) rfl ?_
  rintro _ wR ⟨rfl,hR,hk⟩
  refine Rg.tm trivial rfl (t_assign rfl) rfl ?_
  refine Rg.done ?_
  refine Wp.ret ?_
  exact ⟨[_],⟨rfl,trivial⟩,rfl,hR,(hx.ks hF).trans hk⟩
 ·rw [show writeS Cx st name text = replaceS Cx st (insert1 st.mods (insAt Cx st.mods name) (name,text)) (insert1 st.vers (insAt Cx st.mods name) 1) from if_neg hi]
  rw [show decide (idxM st.mods name ≥ 0) = false from decide_eq_false hi]
  obtain ⟨ia,hia⟩ : ∃ ia,insAt Cx st.mods name = ia := ⟨_,rfl⟩
  have hia' : st.mods.countP (fun m => ltB m.1 name) = ia := hia
  have hil : ia ≤ st.mods.length := by rw [← hia']; exact List.countP_le_length
  rw [hia]
  refine Wp.condF rfl ?_
  refine Wp.skip ?_
  refine Wp.seq (Wp.region ?_)
  refine Rg.tm trivial rfl (t_move rfl) rfl ?_
  refine Rg.tm trivial rfl (t_move rfl) rfl ?_
  refine Rg.wd trivial (w_call Tryz.call45 rfl (search_ok (own_slice ho7) (by omega) (mono_of_sorted hf.sorted name))) rfl ?_
  rintro _ w5 ⟨⟨bb,rfl⟩,hx5⟩
  replace hx := hx.ext hx5
  replace hcS := hcS.ext hx5
  replace hms := hms.ext hx5
  replace hvs := hvs.ext hx5
  rw [hia']
  replace ho7 := own_ext ho7 hx5
  replace ho8 := own_ext ho8 hx5
  refine Rg.tm trivial rfl (t_move rfl) rfl ?_
  refine Rg.tm trivial rfl (t_extract rfl rfl) rfl ?_
  refine Rg.tm trivial rfl (t_extract rfl rfl) rfl ?_
  refine Rg.tm trivial rfl (t_assign rfl) rfl ?_
  refine Rg.tm trivial rfl (t_assign rfl) rfl ?_
  refine Rg.done ?_
  refine Wp.seq (Wp.region ?_)
  refine Rg.tm trivial rfl (t_move rfl) rfl ?_
  refine Rg.tm trivial rfl (t_move rfl) rfl ?_
  refine Rg.tm trivial rfl (t_move rfl) rfl ?_
  refine Rg.tm trivial rfl (t_move rfl) rfl ?_
  refine Rg.tm trivial rfl (t_move rfl) rfl ?_
  refine Rg.tm trivial rfl (t_build (bd52_0_1 _ _) rfl) rfl ?_
  refine Rg.wd trivial (w_buildSlice (bs49_1 _ _) rfl) rfl ?_
  rintro _ w6 ⟨bm,rfl,qbm,hx6,hvbm⟩
  have hnbm : v7.ownBlock ≠ some bm := fun e => by have := (ho7.lt _ e).2; omega
  replace hx := hx.ext hx6
  replace hcS := hcS.ext hx6
  replace hms := hms.ext hx6
  replace hvs := hvs.ext hx6
  replace ho7 := own_ext ho7 hx6
  replace ho8 := own_ext ho8 hx6
  refine Rg.wd trivial (w_call Tryz.call48 rfl (insertM_all (x := (name,text)) ho7 hx.le (by omega) hvbm hil hnbm)) rfl ?_
  rintro v9 wi ⟨ho9,hko⟩
  replace hx : Ext w wi := Below.trans hx hko.base
  replace ho8 := own_ko ho8 hko (by decide)
  clear ho7 hcS hms hvs hvbm
  refine Rg.tm trivial rfl (t_move rfl) rfl ?_
  refine Rg.tm trivial rfl (t_move rfl) rfl ?_
  refine Rg.wd trivial (w_buildSlice (bs41_1 _) rfl) rfl ?_
  rintro _ w7 ⟨bi,rfl,qbi,hx7,hvbi⟩
  have hnbi : v8.ownBlock ≠ some bi := fun e => by have := (ho8.lt _ e).2; omega
  replace hx := hx.ext hx7
  replace ho8 := own_ext ho8 hx7
  replace ho9 := own_ext ho9 hx7
  refine Rg.wd trivial (w_call Tryz.call49 rfl (insertI_all (x := 1) ho8 hx.le (by omega) hvbi (by omega) hnbi)) rfl ?_
  rintro v10 wj ⟨ho10,hko⟩
  replace hx : Ext w wj := Below.trans hx hko.base
  replace ho9 := own_ko ho9 hko (by decide)
  clear ho8 hvbi
  refine Rg.wd trivial (w_call Tryz.call44 rfl (replace_ok (h0.ext hx) (hx.ks hF).le' (ms := insert1 st.mods ia (name,text)) (vs := insert1 st.vers ia 1) (by rw [insert1_length]; exact Row.ofOwn ho9) (by rw [insert1_length]; exact Row.ofOwn ho10) (hA.ext hx) (by rw [insert1_length]; omega) hf.rev hf.irev)) rfl ?_
  rintro _ wR ⟨rfl,hR,hk⟩
  refine Rg.tm trivial rfl (t_assign rfl) rfl ?_
  refine Rg.done ?_
  refine Wp.ret ?_
  exact ⟨[_],⟨rfl,trivial⟩,rfl,hR,(hx.ks hF).trans hk⟩
theorem remove_ok {F : Fs} {w : World} {s : SvQ} {st : St} {name : BA} (h : SvW F w s st) (hF : Und F w.heap.size) (hA : Asc w) (hf : Fine st) :
  Cl Tryz.prog 31 #[.pointer (some ⟨s.bS,0,none⟩),.string name] w (fun u w' => u = .int .i64 (removeS Cx st name).2 ∧ (∃ s',SvW F w' s' (removeS Cx st name).1 ∧ s'.bS = s.bS) ∧ Ks F w w') := by
 have hx := Ext.refl w
 have h0 := h
 obtain ⟨bS,q,vm,vv,vp⟩ := s
 obtain ⟨hS,hm,hv,hp,hD,hfS,hfp⟩ := h
 simp only [SvQ.cells] at hS hm hv hp hD hfS hfp ⊢
 have hcS := hS.cells
 have hms := hm.slc
 have hvs := hv.slc
 have hml := hf.mlen
 have hvl := hf.vlen
 refine Cl.enter Tryz.func31 rfl Tryz.ntmps31 rfl rfl ?_
 refine Wp.seq (Wp.region ?_)
 refine Rg.tm trivial rfl (t_assign rfl) rfl ?_
 refine Rg.done ?_
 refine Wp.seq (Wp.region ?_)
 refine Rg.tm trivial rfl (t_move rfl) rfl ?_
 refine Rg.tm trivial rfl (t_move rfl) rfl ?_
 refine Rg.wd trivial (w_call Tryz.call38 rfl (index_ok (hS.ext hx) (hm.ext hx) (by omega))) rfl ?_
 rintro _ w1 ⟨rfl,hx1⟩
 replace hx := hx.ext hx1
 refine Rg.tm trivial rfl (t_assign rfl) rfl ?_
 refine Rg.done ?_
 refine Wp.seq ?_
 refine Wp.seq (Wp.region ?_)
 refine Rg.tm trivial rfl (t_move rfl) rfl ?_
 refine Rg.tm trivial rfl (t_lss rfl rfl) rfl ?_
 refine Rg.done ?_
 by_cases hi : idxM st.mods name < 0
 ·rw [show removeS Cx st name = (st,5) from if_pos hi,show decide (idxM st.mods name < 0) = true from decide_eq_true hi]
  refine Wp.condT rfl ?_
  refine Wp.seq (Wp.region ?_)
  refine Rg.tm trivial rfl (t_assign rfl) rfl ?_
  refine Rg.done ?_
  refine Wp.ret ?_
  exact ⟨[_],⟨rfl,trivial⟩,rfl,⟨_,h0.ext hx,rfl⟩,hx.ks hF⟩
 ·rw [show removeS Cx st name = replaceS Cx st (st.mods.eraseIdx (idxM st.mods name).toNat) (st.vers.eraseIdx (idxM st.mods name).toNat) from if_neg hi]
  rw [show decide (idxM st.mods name < 0) = false from decide_eq_false hi]
  obtain ⟨ix,eix,hix⟩ := idxF_lt hi
  rw [Nat.zero_add] at eix
  change idxM st.mods name = (ix : Int) at eix
  rw [eix,Int.toNat_natCast]
  refine Wp.condF rfl ?_
  refine Wp.skip ?_
  refine Wp.seq (Wp.drawV (fun w' => Var w' bS [vm,vv,vp,.int .i64 st.rev,.pointer (some ⟨q.bD,0,none⟩)] 70) [0,1,2,3,4,6,7,8,10,11,12,13,15,16,17,5,9,14,18,19,20] [1] mixed (by kernel_rfl) (by kernel_rfl) ?_)
  intro w2 hx2 hh2
  replace hx := hx.ext hx2
  refine ⟨hS.ext hx,?_⟩
  refine Rv.tm trivial rfl (ts fun wz hkz => by exact t_move rfl) rfl ?_
  refine Rv.tm trivial rfl (ts fun wz hkz => by exact t_move rfl) rfl ?_
  refine Rv.tm trivial rfl (ts fun wz hkz => by exact t_nilCheck rfl) rfl ?_
  refine Rv.tm trivial rfl (ts fun wz hkz => by exact t_fieldAddr fa70_0 rfl) rfl ?_
  refine Rv.tm trivial rfl (ts fun wz hkz => by have yS := hkz.cells; exact t_load ty49 rfl (by apply Cells.get (i := 0); (case h => assumption); rfl)) rfl ?_
  refine Rv.tm trivial rfl (ts fun wz hkz => by exact t_move rfl) rfl ?_
  refine Rv.tm trivial rfl (ts fun wz hkz => by exact t_move rfl) rfl ?_
  refine Rv.tm trivial rfl (ts fun wz hkz => t_addI rfl rfl (by omega)) rfl ?_
  refine Rv.tm trivial rfl (ts fun wz hkz => by exact t_move rfl) rfl ?_
  refine Rv.tm trivial rfl (ts fun wz hkz => by exact t_nilCheck rfl) rfl ?_
  refine Rv.tm trivial rfl (ts fun wz hkz => by exact t_fieldAddr fa70_1 rfl) rfl ?_
  refine Rv.tm trivial rfl (ts fun wz hkz => by have yS := hkz.cells; exact t_load ty41 rfl (by apply Cells.get (i := 1); (case h => assumption); rfl)) rfl ?_
  refine Rv.tm trivial rfl (ts fun wz hkz => by exact t_move rfl) rfl ?_
  refine Rv.tm trivial rfl (ts fun wz hkz => by exact t_move rfl) rfl ?_
  refine Rv.tm trivial rfl (ts fun wz hkz => t_addI rfl rfl (by omega)) rfl ?_
  refine Rv.wd trivial rfl (w_call Tryz.call37 rfl (cloneMods_ok (hms.ext hx) (encs_one mc_one _) (by omega))) rfl (fun _ _ h => hS.ext (hx.ext h.2)) ?_
  rintro v7 w3 ⟨ho7,hx3⟩
  replace ho7 := own_mono ho7 hx.le
  replace hx := hx.ext hx3
  obtain ⟨g7,c7,sp7,rfl,hB7,hc7,hmx7,hsp7,hv7⟩ : ∃ g cap sp,v7 = .slice (some ⟨g,0,none⟩) st.mods.length cap ∧ w.heap.size ≤ g ∧ st.mods.length ≤ cap ∧ cap ≤ maxLen ∧ sp.length = (cap - st.mods.length) * 2 ∧ Var _ g (encs mc st.mods ++ sp) 52 := by
   rcases own_wholeG ho7 with ⟨_,h0⟩ | h
   ·omega
   ·exact h
  clear ho7
  have hl7 := encs_len mc_len st.mods
  refine Rv.wd trivial rfl (w_call Tryz.call50 rfl (deleteM_ok (o := 0) (l := st.mods) hv7 hc7 hmx7 (by rw [List.length_append,hl7,hsp7]; omega) (by rw [List.drop_zero,List.take_append_of_le_length (by omega),List.take_of_length_le (by omega)]) hix (by omega))) rfl (fun _ _ h => by obtain ⟨_,_,_,_,_,hk⟩ := h; exact hS.ext (Kp.ext hx hk (by simp; omega))) ?_
  rintro _ wd ⟨cur7,rfl,hv7',hl7',hs7,hk7⟩
  replace hx := Kp.ext hx hk7 (by simp; omega)
  clear hv7
  refine Rv.wd trivial rfl (w_call Tryz.call43 rfl (cloneInts_ok (hvs.ext hx) (encs_one ei_one _) (by omega))) rfl (fun _ _ h => hS.ext (hx.ext h.2)) ?_
  rintro v8 w4 ⟨ho8,hx4⟩
  replace ho8 := own_mono ho8 hx.le
  replace hx := hx.ext hx4
  replace hv7' := hv7'.ext hx4
  obtain ⟨g8,c8,sp8,rfl,hB8,hc8,hmx8,hsp8,hv8⟩ : ∃ g cap sp,v8 = .slice (some ⟨g,0,none⟩) st.vers.length cap ∧ w.heap.size ≤ g ∧ st.vers.length ≤ cap ∧ cap ≤ maxLen ∧ sp.length = (cap - st.vers.length) * 1 ∧ Var _ g (encs ei st.vers ++ sp) 3 := by
   rcases own_wholeG ho8 with ⟨_,h0⟩ | h
   ·omega
   ·exact h
  clear ho8
  have hl8 := encs_len ei_len st.vers
  refine Rv.wd trivial rfl (w_call Tryz.call51 rfl (deleteI_ok (o := 0) (l := st.vers) hv8 hc8 hmx8 (by rw [List.length_append,hl8,hsp8]; omega) (by rw [List.drop_zero,List.take_append_of_le_length (by omega),List.take_of_length_le (by omega)]) (by omega) (by omega))) rfl (fun _ _ h => by obtain ⟨_,_,_,_,_,hk⟩ := h; exact hS.ext (Kp.ext hx hk (by simp; omega))) ?_
  rintro _ we ⟨cur8,rfl,hv8',hl8',hs8,hk8⟩
  replace hx := Kp.ext hx hk8 (by simp; omega)
  replace hv7' := hk8.vk hv8 _ _ _ (by decide) hv7'
  clear hv8
  refine Rv.wdB (fun _ => True) trivial rfl (w_call Tryz.call44 rfl (replace_ok (h0.ext hx) (hx.ks hF).le' (ms := st.mods.eraseIdx ix) (vs := st.vers.eraseIdx ix)
    (by rw [List.length_eraseIdx_of_lt hix]; exact ⟨by rw [encs_len mc_len,List.length_eraseIdx_of_lt hix],.inr ⟨g7,0,c7,cur7,rfl,by omega,hmx7,hv7',by rw [hl7',List.length_append,hl7,hsp7]; omega,hs7⟩⟩)
    (by rw [List.length_eraseIdx_of_lt (by omega)]; exact ⟨by rw [encs_len ei_len,List.length_eraseIdx_of_lt (by omega)],.inr ⟨g8,0,c8,cur8,rfl,by omega,hmx8,hv8',by rw [hl8',List.length_append,hl8,hsp8]; omega,hs8⟩⟩)
    (hA.ext hx) (by rw [List.length_eraseIdx_of_lt hix]; omega) hf.rev hf.irev)) rfl (by rfl) (fun _ _ _ => trivial) ?_
  rintro _ wR ⟨rfl,hR,hk⟩
  refine Rv.tm trivial rfl (ts fun wz hkz => by exact t_assign rfl) rfl ?_
  refine Rv.done ?_
  refine Wp.ret ?_
  exact ⟨[_],⟨rfl,trivial⟩,rfl,hR,(hx.ks hF).trans hk⟩
theorem textApply_all {s : BA} {es : List TE} {w : World} {v : Value} (hs0 : SlC w v 3 es.length (tes es)) (hlen : es.length < 4611686018427387904) (hb : ∀ e ∈ es,(e.s.size : Int) ≤ 140737488355328) (hsz : s.size < 4611686018427387904) :
  Cl Tryz.prog 52 #[.string s,v] w (fun u w' => u = .tuple #[.string (appC s es).2,.int .i64 (appC s es).1] ∧ Ext w w') := by
 by_cases h : codeE s.size es = 0
 ·rw [show appC s es = (0,outE s es) from if_pos h]
  exact textApply_ok hs0 hlen hb h
 ·rw [show appC s es = (codeE s.size es,noB) from if_neg h]
  exact textApply_no hs0 hlen hb hsz h
theorem edit_ok {F : Fs} {w : World} {s : SvQ} {st : St} {name : BA} {ver : Int} {es : List TE} {ve : Value} (h : SvW F w s st) (hF : Und F w.heap.size) (hA : Asc w) (hf : Fine st) (hes : SlC w ve 3 es.length (tes es)) (hlen : es.length < 4611686018427387904) (hb : ∀ e ∈ es,(e.s.size : Int) ≤ 140737488355328) :
  Cl Tryz.prog 32 #[.pointer (some ⟨s.bS,0,none⟩),.string name,.int .i64 ver,ve] w (fun u w' => u = .int .i64 (editS Cx st name ver es).2 ∧ (∃ s',SvW F w' s' (editS Cx st name ver es).1 ∧ s'.bS = s.bS) ∧ Ks F w w') := by
 have hx := Ext.refl w
 have h0 := h
 obtain ⟨bS,q,vm,vv,vp⟩ := s
 obtain ⟨hS,hm,hv,hp,hD,hfS,hfp⟩ := h
 simp only [SvQ.cells] at hS hm hv hp hD hfS hfp ⊢
 have hcS := hS.cells
 have hms := hm.slc
 have hvs := hv.slc
 have hml := hf.mlen
 have hvl := hf.vlen
 refine Cl.enter Tryz.func32 rfl Tryz.ntmps32 rfl rfl ?_
 refine Wp.seq (Wp.region ?_)
 refine Rg.tm trivial rfl (t_assign rfl) rfl ?_
 refine Rg.done ?_
 refine Wp.seq (Wp.region ?_)
 refine Rg.tm trivial rfl (t_move rfl) rfl ?_
 refine Rg.tm trivial rfl (t_move rfl) rfl ?_
 refine Rg.wd trivial (w_call Tryz.call38 rfl (index_ok (hS.ext hx) (hm.ext hx) (by omega))) rfl ?_
 rintro _ w1 ⟨rfl,hx1⟩
 replace hx := hx.ext hx1
 replace hcS := hcS.ext hx1
 replace hms := hms.ext hx1
 replace hvs := hvs.ext hx1
 refine Rg.tm trivial rfl (t_assign rfl) rfl ?_
 refine Rg.done ?_
 refine Wp.seq ?_
 refine Wp.block ?_
 refine Wp.seq (Wp.region ?_)
 refine Rg.tm trivial rfl (t_move rfl) rfl ?_
 refine Rg.tm trivial rfl (t_lss rfl rfl) rfl ?_
 refine Rg.tm trivial rfl (t_assign rfl) rfl ?_
 refine Rg.done ?_
 by_cases hi : idxM st.mods name < 0
 ·rw [show editS Cx st name ver es = (st,5) from if_pos hi,show decide (idxM st.mods name < 0) = true from decide_eq_true hi]
  refine Wp.condT rfl ?_
  refine Wp.seq (Wp.region ?_)
  refine Rg.tm trivial rfl (t_assign rfl) rfl ?_
  refine Rg.done ?_
  refine Wp.ret ?_
  exact ⟨[_],⟨rfl,trivial⟩,rfl,⟨_,h0.ext hx,rfl⟩,hx.ks hF⟩
 ·have hE : editS Cx st name ver es = if st.vers.getD (idxM st.mods name).toNat 0 ≠ ver then (st,11) else if (appC (mdAt st.mods (idxM st.mods name).toNat).2 es).1 ≠ 0 then (st,(appC (mdAt st.mods (idxM st.mods name).toNat).2 es).1) else writeS Cx st name (appC (mdAt st.mods (idxM st.mods name).toNat).2 es).2 := if_neg hi
  rw [show decide (idxM st.mods name < 0) = false from decide_eq_false hi]
  obtain ⟨ix,eix,hix⟩ := idxF_lt hi
  rw [Nat.zero_add] at eix
  change idxM st.mods name = (ix : Int) at eix
  have hixv : ix < st.vers.length := by omega
  have hgd : st.vers.getD ix 0 = st.vers[ix] := by simp [List.getD,List.getElem?_eq_getElem hixv]
  rw [eix,Int.toNat_natCast,mdAt_get hix,hgd] at hE
  rw [hE]
  rw [eix]
  have htx := hf.txt _ (List.getElem_mem hix)
  refine Wp.condF rfl ?_
  refine Wp.seq (Wp.region ?_)
  refine Rg.tm trivial rfl (t_move rfl) rfl ?_
  refine Rg.tm trivial rfl (t_nilCheck rfl) rfl ?_
  refine Rg.tm trivial rfl (t_fieldAddr fa70_1 rfl) rfl ?_
  refine Rg.tm trivial rfl (t_load ty41 rfl (by apply Cells.get (i := 1); (case h => assumption); rfl)) rfl ?_
  refine Rg.tm trivial rfl (t_move rfl) rfl ?_
  refine Rg.ix hvs trivial rfl rfl Tryz.underlying41 ty3 (by omega) rfl ?_
  intro bt24 ot24 ht24
  rw [Int.toNat_natCast,encs_at ei_len st.vers ix hixv] at ht24
  simp only [ei] at ht24
  refine Rg.tm trivial rfl (t_load ty3 rfl (by first | assumption | (apply Cells.get (i := 0); (case h => assumption); rfl))) rfl ?_
  refine Rg.tm trivial rfl (t_move rfl) rfl ?_
  refine Rg.tm trivial rfl (t_neq rfl rfl) rfl ?_
  refine Rg.tm trivial rfl (t_assign rfl) rfl ?_
  refine Rg.done ?_
  by_cases hver : st.vers[ix] ≠ ver
  ·rw [if_pos hver,show decide (st.vers[ix] ≠ ver) = true from decide_eq_true hver]
   refine Wp.condT rfl ?_
   refine Wp.seq (Wp.region ?_)
   refine Rg.tm trivial rfl (t_assign rfl) rfl ?_
   refine Rg.done ?_
   refine Wp.ret ?_
   exact ⟨[_],⟨rfl,trivial⟩,rfl,⟨_,h0.ext hx,rfl⟩,hx.ks hF⟩
  ·rw [if_neg hver,show decide (st.vers[ix] ≠ ver) = false from decide_eq_false hver]
   refine Wp.condF rfl ?_
   refine Wp.skip ?_
   refine Wp.seq (Wp.region ?_)
   refine Rg.tm trivial rfl (t_move rfl) rfl ?_
   refine Rg.tm trivial rfl (t_nilCheck rfl) rfl ?_
   refine Rg.tm trivial rfl (t_fieldAddr fa70_0 rfl) rfl ?_
   refine Rg.tm trivial rfl (t_load ty49 rfl (by apply Cells.get (i := 0); (case h => assumption); rfl)) rfl ?_
   refine Rg.tm trivial rfl (t_move rfl) rfl ?_
   refine Rg.ix hms trivial rfl rfl Tryz.underlying49 ty52 (by omega) rfl ?_
   intro bt34 ot34 ht34
   rw [Int.toNat_natCast,encs_at mc_len st.mods ix hix] at ht34
   simp only [mc] at ht34
   refine Rg.tm trivial rfl (t_fieldAddr fa52_1 rfl) rfl ?_
   refine Rg.tm trivial rfl (t_load ty9 rfl (by apply Cells.get (i := 1); (case h => assumption); rfl)) rfl ?_
   refine Rg.tm trivial rfl (t_move rfl) rfl ?_
   refine Rg.wd trivial (w_call Tryz.call52 rfl (textApply_all (hes.ext hx) hlen hb (by omega))) rfl ?_
   rintro _ w2 ⟨rfl,hx2⟩
   replace hx := hx.ext hx2
   replace hcS := hcS.ext hx2
   replace hms := hms.ext hx2
   replace hvs := hvs.ext hx2
   replace ht24 := ht24.ext hx2
   replace ht34 := ht34.ext hx2
   refine Rg.tm trivial rfl (t_move rfl) rfl ?_
   refine Rg.tm trivial rfl (t_extract rfl rfl) rfl ?_
   refine Rg.tm trivial rfl (t_extract rfl rfl) rfl ?_
   refine Rg.tm trivial rfl (t_assign rfl) rfl ?_
   refine Rg.tm trivial rfl (t_assign rfl) rfl ?_
   refine Rg.done ?_
   refine Wp.seq ?_
   refine Wp.seq (Wp.region ?_)
   refine Rg.tm trivial rfl (t_move rfl) rfl ?_
   refine Rg.tm trivial rfl (t_neq rfl rfl) rfl ?_
   refine Rg.done ?_
   by_cases hap : (appC st.mods[ix].2 es).1 ≠ 0
   ·rw [if_pos hap,show decide ((appC st.mods[ix].2 es).1 ≠ 0) = true from decide_eq_true hap]
    refine Wp.condT rfl ?_
    refine Wp.seq (Wp.region ?_)
    refine Rg.tm trivial rfl (t_move rfl) rfl ?_
    refine Rg.tm trivial rfl (t_assign rfl) rfl ?_
    refine Rg.done ?_
    refine Wp.ret ?_
    exact ⟨[_],⟨rfl,trivial⟩,rfl,⟨_,h0.ext hx,rfl⟩,hx.ks hF⟩
   ·rw [if_neg hap,show decide ((appC st.mods[ix].2 es).1 ≠ 0) = false from decide_eq_false hap]
    refine Wp.condF rfl ?_
    refine Wp.skip ?_
    refine Wp.seq (Wp.region ?_)
    refine Rg.tm trivial rfl (t_move rfl) rfl ?_
    refine Rg.tm trivial rfl (t_move rfl) rfl ?_
    refine Rg.tm trivial rfl (t_move rfl) rfl ?_
    refine Rg.wd trivial (w_call Tryz.call30 rfl (write_ok (h0.ext hx) (hx.ks hF).le' (hA.ext hx) hf)) rfl ?_
    rintro _ wR ⟨rfl,hR,hk⟩
    refine Rg.tm trivial rfl (t_assign rfl) rfl ?_
    refine Rg.done ?_
    refine Wp.ret ?_
    exact ⟨[_],⟨rfl,trivial⟩,rfl,hR,(hx.ks hF).trans hk⟩
end Go.Proofs.YtliofpegbcegiaaGreatDoor
namespace Go.Proofs.YtliofpegbcegiaaGreatDoor
set_option maxRecDepth 20000
open Go.Gx Go.RowKit Go.Lib
theorem _root_.Go.Gx.Row.appended {w' : World} {b o n cap size e : Nat} {cur xs news : List Value} (hxs : (cur.drop o).take (n * size) = xs) (hn : news.length = size) (hfit : o + cap * size ≤ cur.length) (hroom : n + 1 ≤ cap) (hmx : cap ≤ maxLen) (hl : xs.length = n * size)
  (hv' : Var w' b (cur.take (o + n * size) ++ news ++ cur.drop (o + n * size + news.length)) e) : Row w' e size (.slice (some ⟨b,o,none⟩) (n + 1) cap) (n + 1) (xs ++ news) := by
 have h1 : (n + 1) * size ≤ cap * size := Nat.mul_le_mul_right _ hroom
 have h2 : (n + 1) * size = n * size + size := by rw [Nat.add_mul,Nat.one_mul]
 have h3 : (cur.take (o + n * size)).length = o + n * size := by rw [List.length_take]; omega
 refine ⟨by rw [List.length_append,hl,hn,h2],.inr ⟨b,o,cap,_,rfl,hroom,hmx,hv',?_,?_⟩⟩
 ·rw [List.length_append,List.length_append,h3,hn,List.length_drop]; omega
 ·rw [List.append_assoc,List.drop_append_of_le_length (by omega),List.drop_take,show o + n * size - o = n * size from by omega,hxs,← List.append_assoc,List.take_append_of_le_length (by rw [List.length_append,hl,hn]; omega),List.take_of_length_le (by rw [List.length_append,hl,hn]; omega)]
def pq (c i : Int) (r : Rq) : Bool := decide (r.client = c) && decide (r.id = i)
def fpos : Option Nat → Int
 | some k => (k : Int)
 | none => -1
theorem fpos_some (k : Nat) : fpos (some k) = (k : Int) := rfl
theorem fpos_none : fpos none = -1 := rfl
theorem findR_eq (pend : List Rq) (c i : Int) : idxF (pq c i) 0 pend = fpos (findR pend c i) := by
 rw [idxF_find]
 show (match pend.findIdx? (pq c i) with | some k => ((0 + k : Nat) : Int) | none => -1) = fpos (pend.findIdx? (pq c i))
 cases pend.findIdx? (pq c i) <;> simp [fpos]
theorem DbW.foot_ne {w : World} {q : DbQ} {b t : Nat} {cs : List Value} (h : DbW w q) (hv : Var w b cs t) (h1 : t ≠ 87) (h2 : t ≠ 112) (h3 : t ≠ 139) : ∀ z,FootD q z → z ≠ b ∧ z < w.heap.size := fun z hz => by
 obtain ⟨⟨l1,l2,hI⟩,l,hM,_⟩ := h.ins
 rcases hz with rfl | rfl | rfl | rfl | rfl | ⟨x,hx,rfl⟩
 ·exact ⟨h.var.ne hv (Ne.symm h1),h.var.lt⟩
 ·exact ⟨hI.ne hv (Ne.symm h2),hI.lt⟩
 ·exact ⟨Ne.symm (hM.ne hv),hM.lt⟩
 ·exact ⟨Ne.symm (h.res.ne hv),h.res.lt⟩
 ·exact ⟨Ne.symm (h.act.ne hv),h.act.lt⟩
 ·obtain ⟨⟨vn,vd,chg,hp1,_⟩,_⟩ := h.each x hx
  exact ⟨hp1.ne hv (Ne.symm h3),hp1.lt⟩
theorem findR_lt {pend : List Rq} {c i : Int} {k : Nat} (h : findR pend c i = some k) : k < pend.length := by
 unfold findR at h
 exact (List.findIdx?_eq_some_iff_findIdx_eq.1 h).1
theorem isPend_ok {w : World} {bc bi : Nat} {c i : Int} {r : Rq} (h1 : Var w bc [.int .i64 c] 3) (h2 : Var w bi [.int .i64 i] 3) : Cl Tryz.prog 72 #[.agg (rc r).toArray,.pointer (some ⟨bc,0,none⟩),.pointer (some ⟨bi,0,none⟩)] w (fun u w' => u = .bool (pq c i r) ∧ Ext w w') := by
 have hx := Ext.refl w
 have hc1 := h1.cells
 have hc2 := h2.cells
 obtain ⟨rcl,rid,rq,ra,rn⟩ := r
 simp only [rc,pq]
 by_cases hcl : rcl = c
 ·skip
  refine Cl.enter Tryz.func72 rfl Tryz.ntmps72 rfl rfl ?_
  refine Wp.seq (Wp.region ?_)
  refine Rg.wd trivial (w_boxed rfl rfl) rfl ?_
  rintro _ w1 ⟨b3,rfl,qb3,hx1,hv3⟩
  replace hx := hx.ext hx1
  replace hc1 := hc1.ext hx1
  replace hc2 := hc2.ext hx1
  have hc3 := hv3.cells
  refine Rg.tm trivial rfl (t_assign rfl) rfl ?_
  refine Rg.done ?_
  refine Wp.seq (Wp.region ?_)
  refine Rg.tm trivial rfl (t_fieldAddr fa27_0 rfl) rfl ?_
  refine Rg.tm trivial rfl (t_load ty3 rfl (Cells.get (i := 0) hc3 rfl)) rfl ?_
  refine Rg.tm trivial rfl (t_load ty3 rfl (Cells.get (i := 0) hc1 rfl)) rfl ?_
  first | refine Rg.tm trivial rfl (t_eqlT rfl rfl (by omega)) rfl ?_ | refine Rg.tm trivial rfl (t_eqlF rfl rfl (by omega)) rfl ?_ | refine Rg.tm trivial rfl (t_eql rfl rfl) rfl ?_
  refine Rg.tm trivial rfl (t_move rfl) rfl ?_
  first | refine Rg.tm ⟨_,rfl,rfl⟩ rfl (t_fieldAddr fa27_1 rfl) rfl ?_ | refine Rg.so rfl rfl ?_
  refine Rg.tm ⟨_,rfl,rfl⟩ rfl (t_load ty3 rfl (Cells.get (i := 1) hc3 rfl)) rfl ?_
  refine Rg.tm ⟨_,rfl,rfl⟩ rfl (t_load ty3 rfl (Cells.get (i := 0) hc2 rfl)) rfl ?_
  refine Rg.tm ⟨_,rfl,rfl⟩ rfl (t_eql rfl rfl) rfl ?_
  first | refine Rg.tm trivial rfl (t_pickT rfl rfl) rfl ?_ | refine Rg.tm trivial rfl (t_pickF rfl rfl) rfl ?_
  refine Rg.tm trivial rfl (t_assign rfl) rfl ?_
  refine Rg.done ?_
  refine Wp.ret ?_
  exact ⟨[_],⟨rfl,trivial⟩,by simp [hcl,tup],hx⟩
 ·skip
  refine Cl.enter Tryz.func72 rfl Tryz.ntmps72 rfl rfl ?_
  refine Wp.seq (Wp.region ?_)
  refine Rg.wd trivial (w_boxed rfl rfl) rfl ?_
  rintro _ w1 ⟨b3,rfl,qb3,hx1,hv3⟩
  replace hx := hx.ext hx1
  replace hc1 := hc1.ext hx1
  replace hc2 := hc2.ext hx1
  have hc3 := hv3.cells
  refine Rg.tm trivial rfl (t_assign rfl) rfl ?_
  refine Rg.done ?_
  refine Wp.seq (Wp.region ?_)
  refine Rg.tm trivial rfl (t_fieldAddr fa27_0 rfl) rfl ?_
  refine Rg.tm trivial rfl (t_load ty3 rfl (Cells.get (i := 0) hc3 rfl)) rfl ?_
  refine Rg.tm trivial rfl (t_load ty3 rfl (Cells.get (i := 0) hc1 rfl)) rfl ?_
  first | refine Rg.tm trivial rfl (t_eqlT rfl rfl (by omega)) rfl ?_ | refine Rg.tm trivial rfl (t_eqlF rfl rfl (by omega)) rfl ?_ | refine Rg.tm trivial rfl (t_eql rfl rfl) rfl ?_
  refine Rg.tm trivial rfl (t_move rfl) rfl ?_
  refine Rg.so rfl rfl ?_
  refine Rg.so rfl rfl ?_
  refine Rg.so rfl rfl ?_
  refine Rg.so rfl rfl ?_
  first | refine Rg.tm trivial rfl (t_pickT rfl rfl) rfl ?_ | refine Rg.tm trivial rfl (t_pickF rfl rfl) rfl ?_
  refine Rg.tm trivial rfl (t_assign rfl) rfl ?_
  refine Rg.done ?_
  refine Wp.ret ?_
  exact ⟨[_],⟨rfl,trivial⟩,by simp [hcl,tup],hx⟩
theorem findPending_ok {w : World} {bS : Nat} {vm vv vp a e : Value} {pend : List Rq} {c i : Int} (hS : Var w bS [vm,vv,vp,a,e] 70) (hp : SlC w vp 5 pend.length (encs rc pend)) (hl : pend.length ≤ 1000) :
  Cl Tryz.prog 53 #[.pointer (some ⟨bS,0,none⟩),.int .i64 c,.int .i64 i] w (fun u w' => u = .int .i64 (idxF (pq c i) 0 pend) ∧ Ext w w') := by
 have hx := Ext.refl w
 have hcS := hS.cells
 refine Cl.enter Tryz.func53 rfl Tryz.ntmps53 rfl rfl ?_
 refine Wp.seq (Wp.region ?_)
 refine Rg.wd trivial (w_boxed rfl rfl) rfl ?_
 rintro _ w1 ⟨b4,rfl,qb4,hx1,hv4⟩
 replace hx := hx.ext hx1
 replace hcS := hcS.ext hx1
 replace hp := hp.ext hx1
 refine Rg.wd trivial (w_boxed rfl rfl) rfl ?_
 rintro _ w2 ⟨b5,rfl,qb5,hx2,hv5⟩
 replace hx := hx.ext hx2
 replace hcS := hcS.ext hx2
 replace hp := hp.ext hx2
 replace hv4 := hv4.ext hx2
 refine Rg.tm trivial rfl (t_assign rfl) rfl ?_
 refine Rg.done ?_
 refine Wp.seq (Wp.region ?_)
 refine Rg.tm trivial rfl (t_move rfl) rfl ?_
 refine Rg.tm trivial rfl (t_nilCheck rfl) rfl ?_
 refine Rg.tm trivial rfl (t_fieldAddr fa70_2 rfl) rfl ?_
 refine Rg.tm trivial rfl (t_load ty38 rfl (by apply Cells.get (i := 2); (case h => assumption); rfl)) rfl ?_
 refine Rg.tm trivial rfl (t_makeFunc (vs := [_,_]) rfl) rfl ?_
 refine Rg.wd trivial (w_call Tryz.call71 rfl (indexFQ_ok (f := 72) (cap := [.pointer (some ⟨b4,0,none⟩),.pointer (some ⟨b5,0,none⟩)]) (q := pq c i) hp hl Tryz.call72 (fun w' a _ hx' => isPend_ok (hv4.ext hx') (hv5.ext hx')))) rfl ?_
 rintro _ w3 ⟨rfl,hx3⟩
 replace hx := hx.ext hx3
 replace hcS := hcS.ext hx3
 replace hp := hp.ext hx3
 replace hv4 := hv4.ext hx3
 replace hv5 := hv5.ext hx3
 refine Rg.tm trivial rfl (t_assign rfl) rfl ?_
 refine Rg.done ?_
 refine Wp.ret ?_
 exact ⟨[_],⟨rfl,trivial⟩,rfl,hx⟩
theorem request_ok {F : Fs} {w : World} {s : SvQ} {st : St} {r : Rq} (h : SvW F w s st) (hF : Und F w.heap.size) (hf : Fine st) :
  Cl Tryz.prog 33 #[.pointer (some ⟨s.bS,0,none⟩),.agg (rc r).toArray] w (fun u w' => u = .int .i64 (requestS st r).2 ∧ (∃ s',SvW F w' s' (requestS st r).1 ∧ s'.bS = s.bS) ∧ Ks F w w') := by
 have hx := Ext.refl w
 have h0 := h
 obtain ⟨bS,q,vm,vv,vp⟩ := s
 obtain ⟨hS,hm,hv,hp,hD,hfS,hfp⟩ := h
 simp only [SvQ.cells] at hS hm hv hp hD hfS hfp ⊢
 have hcS := hS.cells
 have hps := hp.slc
 have hpl := hf.plen
 obtain ⟨pm,cm,rfl⟩ := hm.shape
 obtain ⟨pv,cv,rfl⟩ := hv.shape
 obtain ⟨rcl,rid,rq,ra,rn⟩ := r
 simp only [rc]
 obtain ⟨pp,cp,rfl⟩ := hp.shape
 refine Cl.enter Tryz.func33 rfl Tryz.ntmps33 rfl rfl ?_
 refine Wp.seq (Wp.region ?_)
 refine Rg.wd trivial (w_boxed rfl rfl) rfl ?_
 rintro _ w1 ⟨b3,rfl,qb3,hx1,hv3⟩
 replace hx := hx.ext hx1
 replace hcS := hcS.ext hx1
 replace hps := hps.ext hx1
 have hc3 := hv3.cells
 have hk3 : w.heap.size ≤ b3 := by omega
 refine Rg.tm trivial rfl (t_assign rfl) rfl ?_
 refine Rg.done ?_
 refine Wp.seq ?_
 refine Wp.block ?_
 refine Wp.seq (Wp.region ?_)
 refine Rg.tm trivial rfl (t_move rfl) rfl ?_
 refine Rg.tm trivial rfl (t_fieldAddr fa27_0 rfl) rfl ?_
 refine Rg.tm trivial rfl (t_load ty3 rfl (Cells.get (i := 0) hc3 rfl)) rfl ?_
 refine Rg.tm trivial rfl (t_fieldAddr fa27_1 rfl) rfl ?_
 refine Rg.tm trivial rfl (t_load ty3 rfl (Cells.get (i := 1) hc3 rfl)) rfl ?_
 refine Rg.wd trivial (w_call Tryz.call53 rfl (findPending_ok (hS.ext hx) hps (by omega))) rfl ?_
 rintro _ w2 ⟨rfl,hx2⟩
 replace hx := hx.ext hx2
 replace hcS := hcS.ext hx2
 replace hps := hps.ext hx2
 replace hv3 := hv3.ext hx2
 replace hc3 := hc3.ext hx2
 rw [findR_eq]
 refine Rg.tm trivial rfl (t_geq rfl rfl) rfl ?_
 refine Rg.tm trivial rfl (t_assign rfl) rfl ?_
 refine Rg.done ?_
 cases hfind : findR st.pend rcl rid with
 | some k =>
  rw [show requestS st ⟨rcl,rid,rq,ra,rn⟩ = (st,6) from if_pos (by show (findR st.pend rcl rid).isSome = true; rw [hfind]; rfl)]
  rw [show decide (fpos (some k) ≥ 0) = true from decide_eq_true (Int.natCast_nonneg k)]
  refine Wp.condT rfl ?_
  refine Wp.seq (Wp.region ?_)
  refine Rg.tm trivial rfl (t_assign rfl) rfl ?_
  refine Rg.done ?_
  refine Wp.ret ?_
  exact ⟨[_],⟨rfl,trivial⟩,rfl,⟨_,h0.ext hx,rfl⟩,hx.ks hF⟩
 | none =>
  have hE : requestS st ⟨rcl,rid,rq,ra,rn⟩ = if 20 ≤ st.pend.length then (st,2) else if rq < 1 ∨ 8 < rq then (st,7) else ({ st with pend := st.pend ++ [⟨rcl,rid,rq,ra,rn⟩] },0) := if_neg (by show ¬ (findR st.pend rcl rid).isSome = true; rw [hfind]; simp)
  rw [hE]
  rw [show decide (fpos none ≥ 0) = false from rfl]
  by_cases h20 : 20 ≤ st.pend.length
  ·rw [if_pos h20]
   refine Wp.condF rfl ?_
   refine Wp.seq (Wp.region ?_)
   refine Rg.tm trivial rfl (t_move rfl) rfl ?_
   refine Rg.tm trivial rfl (t_nilCheck rfl) rfl ?_
   refine Rg.tm trivial rfl (t_fieldAddr fa70_2 rfl) rfl ?_
   refine Rg.tm trivial rfl (t_load ty38 rfl (by apply Cells.get (i := 2); (case h => assumption); rfl)) rfl ?_
   refine Rg.tm trivial rfl (t_lenS Tryz.underlying38 rfl) rfl ?_
   first | refine Rg.tm trivial rfl (t_geqT rfl rfl (by omega)) rfl ?_ | refine Rg.tm trivial rfl (t_geqF rfl rfl (by omega)) rfl ?_ | refine Rg.tm trivial rfl (t_geq rfl rfl) rfl ?_
   refine Rg.tm trivial rfl (t_assign rfl) rfl ?_
   refine Rg.done ?_
   refine Wp.condT rfl ?_
   refine Wp.seq (Wp.region ?_)
   refine Rg.tm trivial rfl (t_assign rfl) rfl ?_
   refine Rg.done ?_
   refine Wp.ret ?_
   exact ⟨[_],⟨rfl,trivial⟩,rfl,⟨_,h0.ext hx,rfl⟩,hx.ks hF⟩
  ·rw [if_neg h20]
   refine Wp.condF rfl ?_
   refine Wp.seq (Wp.region ?_)
   refine Rg.tm trivial rfl (t_move rfl) rfl ?_
   refine Rg.tm trivial rfl (t_nilCheck rfl) rfl ?_
   refine Rg.tm trivial rfl (t_fieldAddr fa70_2 rfl) rfl ?_
   refine Rg.tm trivial rfl (t_load ty38 rfl (by apply Cells.get (i := 2); (case h => assumption); rfl)) rfl ?_
   refine Rg.tm trivial rfl (t_lenS Tryz.underlying38 rfl) rfl ?_
   first | refine Rg.tm trivial rfl (t_geqT rfl rfl (by omega)) rfl ?_ | refine Rg.tm trivial rfl (t_geqF rfl rfl (by omega)) rfl ?_ | refine Rg.tm trivial rfl (t_geq rfl rfl) rfl ?_
   refine Rg.tm trivial rfl (t_assign rfl) rfl ?_
   refine Rg.done ?_
   by_cases hq1 : rq < 1
   ·rw [if_pos (.inl hq1)]
    refine Wp.condF rfl ?_
    refine Wp.seq (Wp.region ?_)
    refine Rg.tm trivial rfl (t_fieldAddr fa27_2 rfl) rfl ?_
    refine Rg.tm trivial rfl (t_load ty3 rfl (Cells.get (i := 2) hc3 rfl)) rfl ?_
    first | refine Rg.tm trivial rfl (t_lssT rfl rfl (by omega)) rfl ?_ | refine Rg.tm trivial rfl (t_lssF rfl rfl (by omega)) rfl ?_ | refine Rg.tm trivial rfl (t_lss rfl rfl) rfl ?_
    refine Rg.tm trivial rfl (t_move rfl) rfl ?_
    first | refine Rg.tm ⟨_,rfl,rfl⟩ rfl (t_fieldAddr fa27_2 rfl) rfl ?_ | refine Rg.so rfl rfl ?_
    first | refine Rg.so rfl rfl ?_ | refine Rg.tm ⟨_,rfl,rfl⟩ rfl (t_load ty3 rfl (Cells.get (i := 2) hc3 rfl)) rfl ?_
    first | refine Rg.tm ⟨_,rfl,rfl⟩ rfl (t_gtrT rfl rfl (by omega)) rfl ?_ | refine Rg.tm ⟨_,rfl,rfl⟩ rfl (t_gtrF rfl rfl (by omega)) rfl ?_ | refine Rg.tm ⟨_,rfl,rfl⟩ rfl (t_gtr rfl rfl) rfl ?_ | refine Rg.so rfl rfl ?_
    first | refine Rg.tm trivial rfl (t_pickT rfl rfl) rfl ?_ | refine Rg.tm trivial rfl (t_pickF rfl rfl) rfl ?_
    refine Rg.tm trivial rfl (t_assign rfl) rfl ?_
    refine Rg.done ?_
    refine Wp.condT rfl ?_
    refine Wp.seq (Wp.region ?_)
    refine Rg.tm trivial rfl (t_assign rfl) rfl ?_
    refine Rg.done ?_
    refine Wp.ret ?_
    exact ⟨[_],⟨rfl,trivial⟩,rfl,⟨_,h0.ext hx,rfl⟩,hx.ks hF⟩
   by_cases hq8 : 8 < rq
   ·rw [if_pos (.inr hq8)]
    refine Wp.condF rfl ?_
    refine Wp.seq (Wp.region ?_)
    refine Rg.tm trivial rfl (t_fieldAddr fa27_2 rfl) rfl ?_
    refine Rg.tm trivial rfl (t_load ty3 rfl (Cells.get (i := 2) hc3 rfl)) rfl ?_
    first | refine Rg.tm trivial rfl (t_lssT rfl rfl (by omega)) rfl ?_ | refine Rg.tm trivial rfl (t_lssF rfl rfl (by omega)) rfl ?_ | refine Rg.tm trivial rfl (t_lss rfl rfl) rfl ?_
    refine Rg.tm trivial rfl (t_move rfl) rfl ?_
    first | refine Rg.tm ⟨_,rfl,rfl⟩ rfl (t_fieldAddr fa27_2 rfl) rfl ?_ | refine Rg.so rfl rfl ?_
    first | refine Rg.so rfl rfl ?_ | refine Rg.tm ⟨_,rfl,rfl⟩ rfl (t_load ty3 rfl (Cells.get (i := 2) hc3 rfl)) rfl ?_
    first | refine Rg.tm ⟨_,rfl,rfl⟩ rfl (t_gtrT rfl rfl (by omega)) rfl ?_ | refine Rg.tm ⟨_,rfl,rfl⟩ rfl (t_gtrF rfl rfl (by omega)) rfl ?_ | refine Rg.tm ⟨_,rfl,rfl⟩ rfl (t_gtr rfl rfl) rfl ?_ | refine Rg.so rfl rfl ?_
    first | refine Rg.tm trivial rfl (t_pickT rfl rfl) rfl ?_ | refine Rg.tm trivial rfl (t_pickF rfl rfl) rfl ?_
    refine Rg.tm trivial rfl (t_assign rfl) rfl ?_
    refine Rg.done ?_
    refine Wp.condT rfl ?_
    refine Wp.seq (Wp.region ?_)
    refine Rg.tm trivial rfl (t_assign rfl) rfl ?_
    refine Rg.done ?_
    refine Wp.ret ?_
    exact ⟨[_],⟨rfl,trivial⟩,rfl,⟨_,h0.ext hx,rfl⟩,hx.ks hF⟩
   rw [if_neg (show ¬ (rq < 1 ∨ 8 < rq) by omega)]
   have hpW := hp
   obtain ⟨i27,hi27,hz27,hsi27,hby27⟩ := inf27
   obtain ⟨hlp,hcase⟩ := hp
   have hroom : (∃ b o cur,pp = some ⟨b,o,none⟩ ∧ st.pend.length + 1 ≤ cp ∧ cp ≤ maxLen ∧ Var w b cur 27 ∧ o + cp * 5 ≤ cur.length ∧ (cur.drop o).take (st.pend.length * 5) = encs rc st.pend) ∨ cp < st.pend.length + 1 := by
    rcases hcase with ⟨e1,e2⟩ | ⟨b,o,cap,cur,e1,g1,g2,g3,g4,g5⟩
    ·injection e1 with _ _ e3
     right; omega
    ·injection e1 with e1 _ e3
     subst e1 e3
     by_cases hr : cp < st.pend.length + 1
     ·exact .inr hr
     ·exact .inl ⟨b,o,cur,rfl,by omega,g2,g3,g4,g5⟩
   clear hcase
   rcases hroom with ⟨b,o,cur,rfl,hrm,hmx,hvb,hfit,hseg⟩ | hrm
   ·skip
    refine Wp.condF rfl ?_
    refine Wp.seq (Wp.region ?_)
    refine Rg.tm trivial rfl (t_fieldAddr fa27_2 rfl) rfl ?_
    refine Rg.tm trivial rfl (t_load ty3 rfl (Cells.get (i := 2) hc3 rfl)) rfl ?_
    first | refine Rg.tm trivial rfl (t_lssT rfl rfl (by omega)) rfl ?_ | refine Rg.tm trivial rfl (t_lssF rfl rfl (by omega)) rfl ?_ | refine Rg.tm trivial rfl (t_lss rfl rfl) rfl ?_
    refine Rg.tm trivial rfl (t_move rfl) rfl ?_
    first | refine Rg.tm ⟨_,rfl,rfl⟩ rfl (t_fieldAddr fa27_2 rfl) rfl ?_ | refine Rg.so rfl rfl ?_
    first | refine Rg.so rfl rfl ?_ | refine Rg.tm ⟨_,rfl,rfl⟩ rfl (t_load ty3 rfl (Cells.get (i := 2) hc3 rfl)) rfl ?_
    first | refine Rg.tm ⟨_,rfl,rfl⟩ rfl (t_gtrT rfl rfl (by omega)) rfl ?_ | refine Rg.tm ⟨_,rfl,rfl⟩ rfl (t_gtrF rfl rfl (by omega)) rfl ?_ | refine Rg.tm ⟨_,rfl,rfl⟩ rfl (t_gtr rfl rfl) rfl ?_ | refine Rg.so rfl rfl ?_
    first | refine Rg.tm trivial rfl (t_pickT rfl rfl) rfl ?_ | refine Rg.tm trivial rfl (t_pickF rfl rfl) rfl ?_
    refine Rg.tm trivial rfl (t_assign rfl) rfl ?_
    refine Rg.done ?_
    refine Wp.condF rfl ?_
    refine Wp.skip ?_
    refine Wp.seq (Wp.drawV (fun w' => Var w' bS [.slice pm st.mods.length cm,.slice pv st.vers.length cv,.slice (some ⟨b,o,none⟩) st.pend.length cp,.int .i64 st.rev,.pointer (some ⟨q.bD,0,none⟩)] 70 ∧ Var w' b3 [.int .i64 rcl,.int .i64 rid,.int .i64 rq,.int .i64 ra,.string rn] 27) [0,1,2,3,4,5,6,7,8,9,10] [0] mixed (by kernel_rfl) (by kernel_rfl) ?_)
    intro w3 hx3 hh3
    replace hx := hx.ext hx3
    replace hv3 := hv3.ext hx3
    replace hps := hps.ext hx3
    refine ⟨⟨hS.ext hx,hv3⟩,?_⟩
    refine Rv.tm trivial rfl (ts fun wz hkz => by exact t_move rfl) rfl ?_
    refine Rv.tm trivial rfl (ts fun wz hkz => by exact t_move rfl) rfl ?_
    refine Rv.tm trivial rfl (ts fun wz hkz => by exact t_nilCheck rfl) rfl ?_
    refine Rv.tm trivial rfl (ts fun wz hkz => by exact t_fieldAddr fa70_2 rfl) rfl ?_
    refine Rv.tm trivial rfl (ts fun wz hkz => by have yS := hkz.1.cells; have y3 := hkz.2.cells; exact t_load ty38 rfl (by apply Cells.get (i := 2); (case h => assumption); rfl)) rfl ?_
    refine Rv.tm trivial rfl (ts fun wz hkz => t_loadA rfl hkz.2.cells ty27) rfl ?_
    refine Rv.wd trivial rfl (w_buildSlice (bs38_1 _ _ _ _ _) rfl) rfl (fun _ _ h => by obtain ⟨_,_,_,h,_⟩ := h; exact ⟨hS.ext (hx.ext h),hv3.ext h⟩) ?_
    rintro _ w4 ⟨bb,rfl,qb,hx4,hvbb⟩
    have hsn : SlC _ (.slice (some ⟨bb,0,none⟩) 1 1) 5 1 (rc ⟨rcl,rid,rq,ra,rn⟩) := slc_var hvbb rfl
    replace hx := hx.ext hx4
    replace hv3 := hv3.ext hx4
    replace hps := hps.ext hx4
    clear hvbb
    refine Rv.wd trivial rfl (w_appendV Tryz.underlying38 hi27 hsi27 (hvb.ext hx) rfl rfl hsn (rc_one _) hrm (by omega)) rfl (fun _ _ h => by obtain ⟨_,hu,_⟩ := h; exact ⟨(hS.ext hx).upd hu (hS.ne hvb (by decide)),hv3.upd hu (by have := hvb.lt; omega)⟩) ?_
    rintro _ wA ⟨rfl,huA,hvA⟩
    have hrow := Row.appended hseg rfl hfit hrm hmx hlp hvA
    have hneS := hS.ne hvb (by decide)
    have hS1 := (hS.ext hx).upd huA hneS
    have ks := (hx.ks hF).updV huA (hfp b rfl) (hvb.ext hx) (by decide)
    have hm1 := (hm.ext hx).upd (hvb.ext hx) huA (by decide)
    have hv1 := (hv.ext hx).upd (hvb.ext hx) huA (by decide)
    have hD0 := hD.ext hx
    have hD1 : DbA F _ q st.db := ⟨hD0.D.upd (hvb.ext hx) huA (by decide) (by decide) (by decide) (by decide) (by decide) (by decide),hD0.fl,hD0.rel,hD0.act,hD0.stop⟩
    have hfp1 : ∀ z,(Value.slice (some ⟨b,o,none⟩) (st.pend.length + 1) cp).ownBlock = some z → ¬ F z := fun z hz => hfp z hz
    refine Rv.tm trivial rfl (ts fun wz hkz => by exact t_nilCheck rfl) rfl ?_
    refine Rv.tm trivial rfl (ts fun wz hkz => by exact t_fieldAddr fa70_2 rfl) rfl ?_
    refine Rv.wnB (fun _ => True) trivial rfl (w_putF hS1 ty38 rfl rfl rfl rfl rfl) (by rfl) (fun _ _ _ => trivial) ?_
    rintro _ wB ⟨huB,hS2⟩
    simp only [List.set] at hS2
    have hm2 := hm1.upd hS1 huB (by decide)
    have hv2 := hv1.upd hS1 huB (by decide)
    have hrow2 := hrow.upd hS1 huB (by decide)
    have hD2 : DbA F _ q st.db := ⟨hD1.D.upd hS1 huB (by decide) (by decide) (by decide) (by decide) (by decide) (by decide),hD1.fl,hD1.rel,hD1.act,hD1.stop⟩
    have ks2 := ks.updV huB hfS hS1 (by decide)
    refine Rv.done ?_
    refine Wp.seq (Wp.region ?_)
    refine Rg.tm trivial rfl (t_assign rfl) rfl ?_
    refine Rg.done ?_
    refine Wp.ret ?_
    refine ⟨[_],⟨rfl,trivial⟩,rfl,⟨⟨bS,q,_,_,_⟩,⟨hS2,hm2,hv2,?_,hD2,hfS,hfp1⟩,rfl⟩,ks2⟩
    simp only [List.length_append,List.length_cons,List.length_nil,Nat.zero_add]
    rw [encs_append,encs_single]
    exact hrow2
   ·skip
    refine Wp.condF rfl ?_
    refine Wp.seq (Wp.region ?_)
    refine Rg.tm trivial rfl (t_fieldAddr fa27_2 rfl) rfl ?_
    refine Rg.tm trivial rfl (t_load ty3 rfl (Cells.get (i := 2) hc3 rfl)) rfl ?_
    first | refine Rg.tm trivial rfl (t_lssT rfl rfl (by omega)) rfl ?_ | refine Rg.tm trivial rfl (t_lssF rfl rfl (by omega)) rfl ?_ | refine Rg.tm trivial rfl (t_lss rfl rfl) rfl ?_
    refine Rg.tm trivial rfl (t_move rfl) rfl ?_
    first | refine Rg.tm ⟨_,rfl,rfl⟩ rfl (t_fieldAddr fa27_2 rfl) rfl ?_ | refine Rg.so rfl rfl ?_
    first | refine Rg.so rfl rfl ?_ | refine Rg.tm ⟨_,rfl,rfl⟩ rfl (t_load ty3 rfl (Cells.get (i := 2) hc3 rfl)) rfl ?_
    first | refine Rg.tm ⟨_,rfl,rfl⟩ rfl (t_gtrT rfl rfl (by omega)) rfl ?_ | refine Rg.tm ⟨_,rfl,rfl⟩ rfl (t_gtrF rfl rfl (by omega)) rfl ?_ | refine Rg.tm ⟨_,rfl,rfl⟩ rfl (t_gtr rfl rfl) rfl ?_ | refine Rg.so rfl rfl ?_
    first | refine Rg.tm trivial rfl (t_pickT rfl rfl) rfl ?_ | refine Rg.tm trivial rfl (t_pickF rfl rfl) rfl ?_
    refine Rg.tm trivial rfl (t_assign rfl) rfl ?_
    refine Rg.done ?_
    refine Wp.condF rfl ?_
    refine Wp.skip ?_
    refine Wp.seq (Wp.drawV (fun w' => Var w' bS [.slice pm st.mods.length cm,.slice pv st.vers.length cv,.slice pp st.pend.length cp,.int .i64 st.rev,.pointer (some ⟨q.bD,0,none⟩)] 70 ∧ Var w' b3 [.int .i64 rcl,.int .i64 rid,.int .i64 rq,.int .i64 ra,.string rn] 27) [0,1,2,3,4,5,6,7,8,9,10] [0] mixed (by kernel_rfl) (by kernel_rfl) ?_)
    intro w3 hx3 hh3
    replace hx := hx.ext hx3
    replace hv3 := hv3.ext hx3
    replace hps := hps.ext hx3
    refine ⟨⟨hS.ext hx,hv3⟩,?_⟩
    refine Rv.tm trivial rfl (ts fun wz hkz => by exact t_move rfl) rfl ?_
    refine Rv.tm trivial rfl (ts fun wz hkz => by exact t_move rfl) rfl ?_
    refine Rv.tm trivial rfl (ts fun wz hkz => by exact t_nilCheck rfl) rfl ?_
    refine Rv.tm trivial rfl (ts fun wz hkz => by exact t_fieldAddr fa70_2 rfl) rfl ?_
    refine Rv.tm trivial rfl (ts fun wz hkz => by have yS := hkz.1.cells; have y3 := hkz.2.cells; exact t_load ty38 rfl (by apply Cells.get (i := 2); (case h => assumption); rfl)) rfl ?_
    refine Rv.tm trivial rfl (ts fun wz hkz => t_loadA rfl hkz.2.cells ty27) rfl ?_
    refine Rv.wd trivial rfl (w_buildSlice (bs38_1 _ _ _ _ _) rfl) rfl (fun _ _ h => by obtain ⟨_,_,_,h,_⟩ := h; exact ⟨hS.ext (hx.ext h),hv3.ext h⟩) ?_
    rintro _ w4 ⟨bb,rfl,qb,hx4,hvbb⟩
    have hsn : SlC _ (.slice (some ⟨bb,0,none⟩) 1 1) 5 1 (rc ⟨rcl,rid,rq,ra,rn⟩) := slc_var hvbb rfl
    replace hx := hx.ext hx4
    replace hv3 := hv3.ext hx4
    replace hps := hps.ext hx4
    clear hvbb
    refine Rv.wd trivial rfl (w_appendG Tryz.underlying38 hi27 hz27 hsi27 hby27 rfl rfl rfl hps hsn (rc_one _) hrm (by unfold maxLen; omega) (by omega)) rfl (fun _ _ h => ⟨hS.ext (hx.ext h.1),hv3.ext h.1⟩) ?_
    rintro vA wA ⟨hxA,hoA⟩
    have hleA := hx.le
    replace hx := hx.ext hxA
    have hS1 := hS.ext hx
    have ks := hx.ks hF
    have hm1 := hm.ext hx
    have hv1 := hv.ext hx
    have hD1 := hD.ext hx
    have hrow := Row.ofOwn hoA
    have hfp1 : ∀ z,vA.ownBlock = some z → ¬ F z := fun z hz hf => by have := (hoA.lt z hz).1; have := hF z hf; omega
    obtain ⟨pA,cA,rfl⟩ := hrow.shape
    refine Rv.tm trivial rfl (ts fun wz hkz => by exact t_nilCheck rfl) rfl ?_
    refine Rv.tm trivial rfl (ts fun wz hkz => by exact t_fieldAddr fa70_2 rfl) rfl ?_
    refine Rv.wnB (fun _ => True) trivial rfl (w_putF hS1 ty38 rfl rfl rfl rfl rfl) (by rfl) (fun _ _ _ => trivial) ?_
    rintro _ wB ⟨huB,hS2⟩
    simp only [List.set] at hS2
    have hm2 := hm1.upd hS1 huB (by decide)
    have hv2 := hv1.upd hS1 huB (by decide)
    have hrow2 := hrow.upd hS1 huB (by decide)
    have hD2 : DbA F _ q st.db := ⟨hD1.D.upd hS1 huB (by decide) (by decide) (by decide) (by decide) (by decide) (by decide),hD1.fl,hD1.rel,hD1.act,hD1.stop⟩
    have ks2 := ks.updV huB hfS hS1 (by decide)
    refine Rv.done ?_
    refine Wp.seq (Wp.region ?_)
    refine Rg.tm trivial rfl (t_assign rfl) rfl ?_
    refine Rg.done ?_
    refine Wp.ret ?_
    refine ⟨[_],⟨rfl,trivial⟩,rfl,⟨⟨bS,q,_,_,_⟩,⟨hS2,hm2,hv2,?_,hD2,hfS,hfp1⟩,rfl⟩,ks2⟩
    simp only [List.length_append,List.length_cons,List.length_nil,Nat.zero_add]
    rw [encs_append,encs_single]
    exact hrow2
def rsc (p : Rs × Value) : List Value := [.int .i64 p.1.client,.int .i64 p.1.id,.int .i64 p.1.err,.int .i64 p.1.rev,p.2,.string p.1.text]
theorem rsc_len (p : Rs × Value) : (rsc p).length = 6 := rfl
def NumsW (w : World) (ps : List (Rs × Value)) : Prop := ∀ p ∈ ps,RowI w p.2 p.1.nums
theorem RowI.one {w : World} {v : Value} {xs : List Int} (h : RowI w v xs) : v.oneCell' = true := by
 obtain ⟨p,c,rfl⟩ := Row.shape h
 rfl
theorem NumsW.one {w : World} {ps : List (Rs × Value)} (h : NumsW w ps) : ∀ u ∈ encs rsc ps,u.oneCell' = true := fun u hu => by
 obtain ⟨p,hp,hu⟩ := List.mem_flatMap.1 hu
 have := (h p hp).one
 simp only [rsc,List.mem_cons,List.not_mem_nil,or_false] at hu
 rcases hu with rfl | rfl | rfl | rfl | rfl | rfl
 ·rfl
 ·rfl
 ·rfl
 ·rfl
 ·exact this
 ·rfl
theorem NumsW.vk {T : List TypeId} {w w' : World} {ps : List (Rs × Value)} (h : NumsW w ps) (k : VK T w w') (h3 : 3 ∉ T) : NumsW w' ps := fun p hp => Row.vk (h p hp) k h3
theorem NumsW.ext {w w' : World} {ps : List (Rs × Value)} (h : NumsW w ps) (k : Ext w w') : NumsW w' ps := fun p hp => (h p hp).ext k
def RsW (B : Nat) (w : World) (v : Value) (l : List Rs) : Prop := ∃ ps : List (Rs × Value),ps.map (·.1) = l ∧ w.ownsRow B 43 6 v ps.length (encs rsc ps) ∧ NumsW w ps
theorem RsW.nil (B : Nat) (w : World) : RsW B w (.slice none 0 0) [] := ⟨[],rfl,own_nil _ _ _ _,fun p hp => by cases hp⟩
theorem RsW.ext {B : Nat} {w w' : World} {v : Value} {l : List Rs} (h : RsW B w v l) (k : Ext w w') : RsW B w' v l := by
 obtain ⟨ps,h1,h2,h3⟩ := h
 exact ⟨ps,h1,own_ext h2 k,h3.ext k⟩
theorem RsW.vk {B : Nat} {T : List TypeId} {w w' : World} {v : Value} {l : List Rs} (h : RsW B w v l) (k : VK T w w') (h3 : 3 ∉ T) (h43 : 43 ∉ T) : RsW B w' v l := by
 obtain ⟨ps,h1,h2,h4⟩ := h
 refine ⟨ps,h1,?_,h4.vk k h3⟩
 obtain ⟨hl,h⟩ := h2
 refine ⟨hl,h.imp id ?_⟩
 rintro ⟨g,cap,cur,rfl,hb,hg,h2,h3,h4,h5⟩
 have : Var w g cur.toList 43 := hg
 exact ⟨g,cap,cur,rfl,hb,k g cur.toList 43 h43 this,h2,h3,h4,h5⟩
theorem RsW.mono {B B' : Nat} {w : World} {v : Value} {l : List Rs} (h : RsW B w v l) (hb : B' ≤ B) : RsW B' w v l := by
 obtain ⟨ps,h1,h2,h3⟩ := h
 exact ⟨ps,h1,own_mono h2 hb,h3⟩
theorem cancel_ok {F : Fs} {w : World} {s : SvQ} {st : St} {cl id' : Int} (h : SvW F w s st) (hF : Und F w.heap.size) (hf : Fine st) :
  Cl Tryz.prog 34 #[.pointer (some ⟨s.bS,0,none⟩),.int .i64 cl,.int .i64 id'] w (fun u w' => (∃ v,u = .tuple #[v,.int .i64 (cancelS st cl id').2.2] ∧ RsW w.heap.size w' v (cancelS st cl id').2.1) ∧ (∃ s',SvW F w' s' (cancelS st cl id').1 ∧ s'.bS = s.bS) ∧ Ks F w w') := by
 have hx := Ext.refl w
 have h0 := h
 obtain ⟨bS,q,vm,vv,vp⟩ := s
 obtain ⟨hS,hm,hv,hp,hD,hfS,hfp⟩ := h
 simp only [SvQ.cells] at hS hm hv hp hD hfS hfp ⊢
 have hcS := hS.cells
 have hps := hp.slc
 have hpl := hf.plen
 obtain ⟨pm,cm,rfl⟩ := hm.shape
 obtain ⟨pv,cv,rfl⟩ := hv.shape
 refine Cl.enter Tryz.func34 rfl Tryz.ntmps34 rfl rfl ?_
 cases hfind : findR st.pend cl id' with
 | none =>
  have hE : cancelS st cl id' = (st,[],5) := by unfold cancelS; rw [hfind]
  rw [hE]
  refine Wp.seq (Wp.region ?_)
  refine Rg.tm trivial rfl (t_assign rfl) rfl ?_
  refine Rg.tm trivial rfl (t_assign rfl) rfl ?_
  refine Rg.done ?_
  refine Wp.seq (Wp.region ?_)
  refine Rg.tm trivial rfl (t_move rfl) rfl ?_
  refine Rg.tm trivial rfl (t_move rfl) rfl ?_
  refine Rg.tm trivial rfl (t_move rfl) rfl ?_
  refine Rg.wd trivial (w_call Tryz.call53 rfl (findPending_ok (hS.ext hx) hps (by omega))) rfl ?_
  rintro _ w1 ⟨rfl,hx1⟩
  replace hx := hx.ext hx1
  replace hcS := hcS.ext hx1
  replace hps := hps.ext hx1
  rw [findR_eq,hfind,fpos_none]
  refine Rg.tm trivial rfl (t_assign rfl) rfl ?_
  refine Rg.done ?_
  refine Wp.seq ?_
  refine Wp.seq (Wp.region ?_)
  refine Rg.tm trivial rfl (t_move rfl) rfl ?_
  refine Rg.tm trivial rfl (t_lssT rfl rfl (by decide)) rfl ?_
  refine Rg.done ?_
  refine Wp.condT rfl ?_
  refine Wp.seq (Wp.region ?_)
  refine Rg.tm trivial rfl (t_assign rfl) rfl ?_
  refine Rg.tm trivial rfl (t_assign rfl) rfl ?_
  refine Rg.done ?_
  refine Wp.ret ?_
  exact ⟨[_,_],⟨rfl,rfl,trivial⟩,⟨_,rfl,RsW.nil _ _⟩,⟨_,h0.ext hx,rfl⟩,hx.ks hF⟩
 | some k =>
  have hE : cancelS st cl id' = ({ st with pend := st.pend.eraseIdx k },[⟨cl,id',12,st.rev,[],noB⟩],0) := by unfold cancelS; rw [hfind]
  rw [hE]
  have hkl := findR_lt hfind
  obtain ⟨hlp,hcase⟩ := hp
  obtain ⟨b,o,cp,cur,rfl,hncp,hmx,hvb,hfit,hseg⟩ : ∃ b o cp cur,vp = .slice (some ⟨b,o,none⟩) st.pend.length cp ∧ st.pend.length ≤ cp ∧ cp ≤ maxLen ∧ Var w b cur 27 ∧ o + cp * 5 ≤ cur.length ∧ (cur.drop o).take (st.pend.length * 5) = encs rc st.pend := by
   rcases hcase with ⟨_,e⟩ | h
   ·omega
   ·exact h
  clear hcase
  refine Wp.seq (Wp.region ?_)
  refine Rg.tm trivial rfl (t_assign rfl) rfl ?_
  refine Rg.tm trivial rfl (t_assign rfl) rfl ?_
  refine Rg.done ?_
  refine Wp.seq (Wp.region ?_)
  refine Rg.tm trivial rfl (t_move rfl) rfl ?_
  refine Rg.tm trivial rfl (t_move rfl) rfl ?_
  refine Rg.tm trivial rfl (t_move rfl) rfl ?_
  refine Rg.wd trivial (w_call Tryz.call53 rfl (findPending_ok (hS.ext hx) hps (by omega))) rfl ?_
  rintro _ w1 ⟨rfl,hx1⟩
  replace hx := hx.ext hx1
  replace hcS := hcS.ext hx1
  replace hps := hps.ext hx1
  rw [findR_eq,hfind,fpos_some]
  refine Rg.tm trivial rfl (t_assign rfl) rfl ?_
  refine Rg.done ?_
  refine Wp.seq ?_
  refine Wp.seq (Wp.region ?_)
  refine Rg.tm trivial rfl (t_move rfl) rfl ?_
  refine Rg.tm trivial rfl (t_lssF rfl rfl (by omega)) rfl ?_
  refine Rg.done ?_
  refine Wp.condF rfl ?_
  refine Wp.skip ?_
  refine Wp.seq (Wp.region ?_)
  refine Rg.tm trivial rfl (t_move rfl) rfl ?_
  refine Rg.tm trivial rfl (t_move rfl) rfl ?_
  refine Rg.tm trivial rfl (t_nilCheck rfl) rfl ?_
  refine Rg.tm trivial rfl (t_fieldAddr fa70_2 rfl) rfl ?_
  refine Rg.tm trivial rfl (t_load ty38 rfl (by apply Cells.get (i := 2); (case h => assumption); rfl)) rfl ?_
  refine Rg.tm trivial rfl (t_move rfl) rfl ?_
  refine Rg.tm trivial rfl (t_move rfl) rfl ?_
  refine Rg.tm trivial rfl (t_addI rfl rfl (by omega)) rfl ?_
  refine Rg.wd trivial (w_call Tryz.call54 rfl (deleteQ_ok (l := st.pend) (hvb.ext hx) hncp hmx hfit hseg hkl (by omega))) rfl ?_
  rintro _ wA ⟨cur',rfl,hvA,hlA,hsA,hkA⟩
  have vkA := hkA.vk (hvb.ext hx)
  have hS1 := vkA _ _ _ (by decide) (hS.ext hx)
  have hcS1 := hS1.cells
  have ks := (hx.ks hF).trans (Ks.kp (hx.ks hF).le' hkA (fun z hz => by simp only [List.mem_cons,List.not_mem_nil,or_false] at hz; rw [hz]; exact hfp b rfl) (fun x cs t ht hb => vkA x cs t (fun e => ht (by simp only [List.mem_cons,List.not_mem_nil,or_false] at e; rw [e]; decide)) hb))
  have hm1 := (hm.ext hx).vk vkA (by decide)
  have hv1 := (hv.ext hx).vk vkA (by decide)
  have hD0 := hD.ext hx
  have hft := hD0.D.foot_ne (hvb.ext hx) (by decide) (by decide) (by decide)
  have hkb : ∀ z,FootD q z → wA.heap[z]? = _ := fun z hz => hkA.block z (hft z hz).2 (by simp [(hft z hz).1])
  have hD1 : DbA F wA q st.db := ⟨hD0.D.vk vkA (by decide) (by decide) (by decide) hkb,hD0.fl,hD0.rel,hD0.act,hD0.stop⟩
  have hrow : Row wA 27 5 (.slice (some ⟨b,o,none⟩) (st.pend.length - 1) cp) (st.pend.length - 1) (encs rc (st.pend.eraseIdx k)) := ⟨by rw [encs_len rc_len,List.length_eraseIdx_of_lt hkl],.inr ⟨b,o,cp,cur',rfl,by omega,hmx,hvA,by rw [hlA]; exact hfit,hsA⟩⟩
  clear hcS hps
  refine Rg.tm trivial rfl (t_nilCheck rfl) rfl ?_
  refine Rg.tm trivial rfl (t_fieldAddr fa70_2 rfl) rfl ?_
  refine Rg.wn trivial (w_putF hS1 ty38 rfl rfl rfl rfl rfl) ?_
  rintro _ wB ⟨huB,hS2⟩
  simp only [List.set] at hS2
  have hm2 := hm1.upd hS1 huB (by decide)
  have hv2 := hv1.upd hS1 huB (by decide)
  have hrow2 := hrow.upd hS1 huB (by decide)
  have hD2 : DbA F _ q st.db := ⟨hD1.D.upd hS1 huB (by decide) (by decide) (by decide) (by decide) (by decide) (by decide),hD1.fl,hD1.rel,hD1.act,hD1.stop⟩
  have ks2 := ks.updV huB hfS hS1 (by decide)
  have hcS2 := hS2.cells
  clear hcS1
  refine Rg.done ?_
  refine Wp.seq (Wp.region ?_)
  refine Rg.tm trivial rfl (t_move rfl) rfl ?_
  refine Rg.tm trivial rfl (t_move rfl) rfl ?_
  refine Rg.tm trivial rfl (t_move rfl) rfl ?_
  refine Rg.tm trivial rfl (t_nilCheck rfl) rfl ?_
  refine Rg.tm trivial rfl (t_fieldAddr fa70_3 rfl) rfl ?_
  refine Rg.tm trivial rfl (t_load ty3 rfl (by apply Cells.get (i := 3); (case h => assumption); rfl)) rfl ?_
  refine Rg.tm trivial rfl (t_build (bd43_0_1_2_3 _ _ _ _) rfl) rfl ?_
  refine Rg.wd trivial (w_buildSlice (bs31_1 _ _ _ _ _ _ _ _) rfl) rfl ?_
  rintro _ w2 ⟨bb,rfl,qb,hx2,hvbb⟩
  have ks3 := ks2.ext hx2
  have hle3 := ks2.le
  refine Rg.tm trivial rfl (t_assign rfl) rfl ?_
  refine Rg.tm trivial rfl (t_assign rfl) rfl ?_
  refine Rg.done ?_
  refine Wp.ret ?_
  refine ⟨[_,_],⟨rfl,rfl,trivial⟩,⟨_,rfl,[(⟨cl,id',12,st.rev,[],noB⟩,.slice none 0 0)],rfl,own_of_varS hvbb (by omega) rfl (by unfold maxLen; simp),fun p hp => ?_⟩,⟨⟨bS,q,_,_,_⟩,SvW.ext (w := wB) ⟨hS2,hm2,hv2,?_,hD2,hfS,fun z hz => hfp z hz⟩ hx2,rfl⟩,ks3⟩
  ·obtain rfl := List.mem_singleton.1 hp
   exact Row.nil _ _ _
  ·rw [List.length_eraseIdx_of_lt hkl]
   exact hrow2
end Go.Proofs.YtliofpegbcegiaaGreatDoor
