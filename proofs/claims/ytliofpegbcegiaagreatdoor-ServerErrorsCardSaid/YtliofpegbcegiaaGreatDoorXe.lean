/- The walks of package inputs: Equal, Clone, Get, Set, New. Printed by r5/srva.py. -/
import Derived.Test.YtliofpegbcegiaaGreatDoorXb
import Derived.Test.YtliofpegbcegiaaGreatDoorXd
import Derived.Test.YtliofpegbcegiaaGreatDoorXn
import Derived.Test.YtliofpegbcegiaaGreatDoorXa
import Derived.Laws.StructEq
set_option linter.unusedVariables false
set_option linter.unusedSimpArgs false
namespace Go.Proofs.YtliofpegbcegiaaGreatDoor
set_option maxRecDepth 20000
open Go.Gx Go.RowKit Go.Lib
theorem part3 (xs : Array Value) (v : Value) (o : Nat) (h : xs[o]? = some v) (w : World) : (part 3 xs o).run Tryz.prog w = .ok v w := by
 have h1 := ty3.ag w
 have h2 := ty3.sz w
 simp [part,h1,h2,h]
theorem fields63 : (Tryz.prog.fieldsOf 63).toList.map (fun f => (f.name != "_",f.type,f.offset)) = [(true,3,0),(true,3,1),(true,3,2)] := by kernel_rfl
theorem under63 : Tryz.prog.underlying 63 = some (.struct (Tryz.prog.fieldsOf 63)) := by kernel_rfl
theorem three63 : ∃ f0 f1 f2 : Field,(Tryz.prog.fieldsOf 63).toList = [f0,f1,f2] ∧ f0.name ≠ "_" ∧ f0.type = 3 ∧ f0.offset = 0 ∧ f1.name ≠ "_" ∧ f1.type = 3 ∧ f1.offset = 1 ∧ f2.name ≠ "_" ∧ f2.type = 3 ∧ f2.offset = 2 := by
 have hf := fields63
 generalize (Tryz.prog.fieldsOf 63).toList = fs at hf ⊢
 rcases fs with _ | ⟨f0,_ | ⟨f1,_ | ⟨f2,_ | ⟨f3,r⟩⟩⟩⟩
 ·cases hf
 ·simp at hf
 ·simp at hf
 ·simp only [List.map_cons,List.map_nil,List.cons.injEq,Prod.mk.injEq,and_true,bne_iff_ne,ne_eq] at hf
  obtain ⟨⟨n0,t0,o0⟩,⟨n1,t1,o1⟩,n2,t2,o2⟩ := hf
  exact ⟨f0,f1,f2,rfl,n0,t0,o0,n1,t1,o1,n2,t2,o2⟩
 ·simp at hf
theorem eq63 (a b c x y z : Int) (w : World) : (Op.equal 63 (.agg #[.int .i64 a,.int .i64 b,.int .i64 c]) (.agg #[.int .i64 x,.int .i64 y,.int .i64 z])).run Tryz.prog w = .ok (a == x && (b == y && c == z)) w := by
 obtain ⟨f0,f1,f2,hf,n0,t0,o0,n1,t1,o1,n2,t2,o2⟩ := three63
 unfold Op.equal
 rw [show Op.maxDepth = 9999 + 1 from rfl,run_equalIn_struct w 9999 63 _ _ under63 (by kernel_rfl),hf]
 have e1 : ∀ p q : Int,(Op.equalIn 9999 3 (.int .i64 p) (.int .i64 q)).run Tryz.prog w = .ok (p == q) w := fun p q => run_equalIn_int w 9998 3 .i64 .i64 p q Tryz.underlying3
 have p0 := part3 #[.int .i64 a,.int .i64 b,.int .i64 c] (.int .i64 a) 0 rfl w
 have p1 := part3 #[.int .i64 a,.int .i64 b,.int .i64 c] (.int .i64 b) 1 rfl w
 have p2 := part3 #[.int .i64 a,.int .i64 b,.int .i64 c] (.int .i64 c) 2 rfl w
 have q0 := part3 #[.int .i64 x,.int .i64 y,.int .i64 z] (.int .i64 x) 0 rfl w
 have q1 := part3 #[.int .i64 x,.int .i64 y,.int .i64 z] (.int .i64 y) 1 rfl w
 have q2 := part3 #[.int .i64 x,.int .i64 y,.int .i64 z] (.int .i64 z) 2 rfl w
 have ea := e1 a x
 have eb := e1 b y
 have ec := e1 c z
 generalize (a == x) = r1 at ea ⊢
 generalize (b == y) = r2 at eb ⊢
 generalize (c == z) = r3 at ec ⊢
 simp only [Op.eqFields,t0,t1,t2,o0,o1,o2,n0,n1,n2,ne_eq,not_false_eq_true,if_true,Sem.run_bind,p0,q0,Result.andThen_ok,ea]
 cases r1
 ·simp
 ·simp [p1,q1,eb]
  cases r2
  ·simp
  ·simp [p2,q2,ec]
   cases r3 <;> simp
theorem chk63 (a b c : Int) (em : Bool) (w : World) : (Instr.checkKey em 10000 63 (.agg #[.int .i64 a,.int .i64 b,.int .i64 c])).run Tryz.prog w = .ok () w := by
 obtain ⟨f0,f1,f2,hf,n0,t0,o0,n1,t1,o1,n2,t2,o2⟩ := three63
 have p0 := part3 #[.int .i64 a,.int .i64 b,.int .i64 c] (.int .i64 a) 0 rfl w
 have p1 := part3 #[.int .i64 a,.int .i64 b,.int .i64 c] (.int .i64 b) 1 rfl w
 have p2 := part3 #[.int .i64 a,.int .i64 b,.int .i64 c] (.int .i64 c) 2 rfl w
 have e1 : ∀ p : Int,(Instr.checkKey em 9999 3 (.int .i64 p)).run Tryz.prog w = .ok () w := fun p => by
  rw [show (9999 : Nat) = 9998 + 1 from rfl]
  generalize 9998 = dd
  simp [Instr.checkKey,run_underlying Tryz.underlying3]
 rw [show (10000 : Nat) = 9999 + 1 from rfl]
 generalize 9999 = dd at e1 ⊢
 unfold Instr.checkKey
 simp only [run_underlying under63,Sem.run_bind,Result.andThen_ok]
 rw [← Array.forIn_toList,hf]
 simp [n0,n1,n2,t0,t1,t2,o0,o1,o2,p0,p1,p2,e1]
theorem bits63 (a b c : Int) : Instr.sameBits 10000 (.agg #[.int .i64 a,.int .i64 b,.int .i64 c]) (.agg #[.int .i64 a,.int .i64 b,.int .i64 c]) = true := by
 rw [show (10000 : Nat) = 9999 + 1 from rfl]
 generalize 9999 = dd
 simp [Instr.sameBits]
theorem key3 : Key3 Tryz.prog 63 where
 wide := by kernel_rfl
 chk := fun v em w => chk63 v.1 v.2.1 v.2.2 em w
 eq := fun x y w => by
  have h := eq63 x.1 x.2.1 x.2.2 y.1 y.2.1 y.2.2 w
  rw [show encK x = .agg #[.int .i64 x.1,.int .i64 x.2.1,.int .i64 x.2.2] from rfl,show encK y = .agg #[.int .i64 y.1,.int .i64 y.2.1,.int .i64 y.2.2] from rfl,h]
  congr 1
  obtain ⟨a,b,c⟩ := x
  obtain ⟨p,q,r⟩ := y
  rw [Bool.eq_iff_iff]
  simp
 bits := fun v => bits63 v.1 v.2.1 v.2.2
theorem ints_one (xs : List Int) : ∀ u ∈ xs.map (Value.int .i64),u.oneCell' = true := fun u hu => by
 obtain ⟨x,_,rfl⟩ := List.mem_map.1 hu
 rfl
theorem own_shape {w : World} {B e size n : Nat} {v : Value} {xs : List Value} (h : w.ownsRow B e size v n xs) : ∃ p c,v = .slice p n c := by
 rcases h.2 with ⟨rfl,rfl⟩ | ⟨g,cap,cur,rfl,_⟩
 ·exact ⟨_,_,rfl⟩
 ·exact ⟨_,_,rfl⟩
theorem own_mono0 {w : World} {B e size n : Nat} {v : Value} {xs : List Value} (h : w.ownsRow B e size v n xs) : w.ownsRow 0 e size v n xs := own_mono h (Nat.zero_le _)
theorem eqInts_ok {w : World} {v1 v2 : Value} {n m : Nat} {xs ys : List Int} (hx0 : SlC w v1 1 n (xs.map (.int .i64))) (hy0 : SlC w v2 1 m (ys.map (.int .i64))) (hn : n ≤ 100) :
  Cl Tryz.prog 141 #[v1,v2] w (fun u w' => u = .bool (decide (xs = ys)) ∧ Ext w w') := by
 have hx := Ext.refl w
 have lx : xs.length = n := by have := hx0.1; simpa using this
 have ly : ys.length = m := by have := hy0.1; simpa using this
 by_cases hnm : n = m
 ·subst hnm
  refine Cl.enter Tryz.func141 rfl Tryz.ntmps141 rfl rfl ?_
  refine Wp.seq (Wp.region ?_)
  refine Rg.tm trivial rfl (t_assign rfl) rfl ?_
  refine Rg.done ?_
  refine Wp.seq ?_
  refine Wp.seq (Wp.region ?_)
  refine Rg.tm trivial rfl (t_move rfl) rfl ?_
  refine Rg.tm trivial rfl (t_lenC hx0 Tryz.underlying41 rfl) rfl ?_
  refine Rg.tm trivial rfl (t_move rfl) rfl ?_
  refine Rg.tm trivial rfl (t_lenC hy0 Tryz.underlying41 rfl) rfl ?_
  first | refine Rg.tm trivial rfl (t_neqT rfl rfl (by omega)) rfl ?_ | refine Rg.tm trivial rfl (t_neqF rfl rfl (by omega)) rfl ?_ | refine Rg.tm trivial rfl (t_neq rfl rfl) rfl ?_
  refine Rg.done ?_
  refine Wp.condF rfl ?_
  refine Wp.skip ?_
  refine Wp.seq ?_
  refine Wp.seq (Wp.region ?_)
  refine Rg.tm trivial rfl (t_move rfl) rfl ?_
  refine Rg.tm trivial rfl (t_lenC hx0 Tryz.underlying41 rfl) rfl ?_
  refine Rg.tm trivial rfl (t_move rfl) rfl ?_
  refine Rg.done ?_
  refine Wp.block ?_
  refine Wp.loop (ι := Nat) (fun k => [(0,v1),(1,v2),(12,.int .i64 n),(13,.int .i64 k)])
   (fun k w' => k ≤ n ∧ (∀ j (h : j < k),xs[j]? = ys[j]?) ∧ Ext w w') (fun k => n - k) 0 (by repeat (first | exact .nil | refine .cons rfl ?_)) ⟨Nat.zero_le _,fun j h => by omega,hx⟩ ?_
  clear hx
  rintro k w3 ⟨hk,hpre,hx⟩
  by_cases hlt : k < n
  ·by_cases heq : xs[k]'(by omega) = ys[k]'(by omega)
   ·skip
    refine Wp.seq (Wp.region ?_)
    first | refine Rg.tm trivial rfl (t_lssT rfl rfl (by omega)) rfl ?_ | refine Rg.tm trivial rfl (t_lssF rfl rfl (by omega)) rfl ?_ | refine Rg.tm trivial rfl (t_lss rfl rfl) rfl ?_
    refine Rg.done ?_
    refine Wp.seq ?_
    refine Wp.condT rfl ?_
    refine Wp.skip ?_
    refine Wp.seq ?_
    refine Wp.block ?_
    refine Wp.seq (Wp.region ?_)
    refine Rg.tm trivial rfl (t_move rfl) rfl ?_
    refine Rg.tm trivial rfl (t_assign rfl) rfl ?_
    refine Rg.done ?_
    refine Wp.seq (Wp.draw [0,1,2,3,4,5,6,7,8] [] mixed (by kernel_rfl) (by kernel_rfl) ?_)
    intro w1 hx1 _
    replace hx := hx.ext hx1
    refine Rg.tm trivial rfl (t_move rfl) rfl ?_
    refine Rg.tm trivial rfl (t_move rfl) rfl ?_
    refine Rg.ix hx0 trivial rfl rfl Tryz.underlying41 ty3 (by omega) rfl ?_
    intro bt18 ot18 ht18
    replace ht18 := ht18.ext hx
    rw [Int.toNat_natCast,Nat.mul_one,List.drop_eq_getElem_cons (by simp; omega),List.getElem_map,List.take_succ_cons,List.take_zero] at ht18
    refine Rg.tm trivial rfl (t_load ty3 rfl (by first | assumption | (apply Cells.get (i := 0); (case h => assumption); rfl))) rfl ?_
    refine Rg.tm trivial rfl (t_move rfl) rfl ?_
    refine Rg.tm trivial rfl (t_move rfl) rfl ?_
    refine Rg.ix hy0 trivial rfl rfl Tryz.underlying41 ty3 (by omega) rfl ?_
    intro bt22 ot22 ht22
    replace ht22 := ht22.ext hx
    rw [Int.toNat_natCast,Nat.mul_one,List.drop_eq_getElem_cons (by simp; omega),List.getElem_map,List.take_succ_cons,List.take_zero] at ht22
    refine Rg.tm trivial rfl (t_load ty3 rfl (by first | assumption | (apply Cells.get (i := 0); (case h => assumption); rfl))) rfl ?_
    first | refine Rg.tm trivial rfl (t_neqT rfl rfl (by omega)) rfl ?_ | refine Rg.tm trivial rfl (t_neqF rfl rfl (by omega)) rfl ?_ | refine Rg.tm trivial rfl (t_neq rfl rfl) rfl ?_
    refine Rg.done ?_
    refine Wp.condF rfl ?_
    refine Wp.skip ?_
    refine Wp.region ?_
    first | refine Rg.tm trivial rfl (t_addI rfl rfl (by omega)) rfl ?_ | refine Rg.tm trivial rfl (t_add rfl rfl) rfl ?_
    refine Rg.tm trivial rfl (t_move rfl) rfl ?_
    refine Rg.done ?_
    refine ⟨k + 1,by repeat (first | exact .nil | refine .cons rfl ?_),⟨hlt,fun j hj => ?_,hx⟩,by omega⟩
    rcases Nat.lt_succ_iff_lt_or_eq.1 hj with h | h
    ·exact hpre j h
    ·subst h
     rw [List.getElem?_eq_getElem (by omega),List.getElem?_eq_getElem (by omega),heq]
   ·skip
    refine Wp.seq (Wp.region ?_)
    first | refine Rg.tm trivial rfl (t_lssT rfl rfl (by omega)) rfl ?_ | refine Rg.tm trivial rfl (t_lssF rfl rfl (by omega)) rfl ?_ | refine Rg.tm trivial rfl (t_lss rfl rfl) rfl ?_
    refine Rg.done ?_
    refine Wp.seq ?_
    refine Wp.condT rfl ?_
    refine Wp.skip ?_
    refine Wp.seq ?_
    refine Wp.block ?_
    refine Wp.seq (Wp.region ?_)
    refine Rg.tm trivial rfl (t_move rfl) rfl ?_
    refine Rg.tm trivial rfl (t_assign rfl) rfl ?_
    refine Rg.done ?_
    refine Wp.seq (Wp.draw [0,1,2,3,4,5,6,7,8] [] mixed (by kernel_rfl) (by kernel_rfl) ?_)
    intro w1 hx1 _
    replace hx := hx.ext hx1
    refine Rg.tm trivial rfl (t_move rfl) rfl ?_
    refine Rg.tm trivial rfl (t_move rfl) rfl ?_
    refine Rg.ix hx0 trivial rfl rfl Tryz.underlying41 ty3 (by omega) rfl ?_
    intro bt18 ot18 ht18
    replace ht18 := ht18.ext hx
    rw [Int.toNat_natCast,Nat.mul_one,List.drop_eq_getElem_cons (by simp; omega),List.getElem_map,List.take_succ_cons,List.take_zero] at ht18
    refine Rg.tm trivial rfl (t_load ty3 rfl (by first | assumption | (apply Cells.get (i := 0); (case h => assumption); rfl))) rfl ?_
    refine Rg.tm trivial rfl (t_move rfl) rfl ?_
    refine Rg.tm trivial rfl (t_move rfl) rfl ?_
    refine Rg.ix hy0 trivial rfl rfl Tryz.underlying41 ty3 (by omega) rfl ?_
    intro bt22 ot22 ht22
    replace ht22 := ht22.ext hx
    rw [Int.toNat_natCast,Nat.mul_one,List.drop_eq_getElem_cons (by simp; omega),List.getElem_map,List.take_succ_cons,List.take_zero] at ht22
    refine Rg.tm trivial rfl (t_load ty3 rfl (by first | assumption | (apply Cells.get (i := 0); (case h => assumption); rfl))) rfl ?_
    first | refine Rg.tm trivial rfl (t_neqT rfl rfl (by omega)) rfl ?_ | refine Rg.tm trivial rfl (t_neqF rfl rfl (by omega)) rfl ?_ | refine Rg.tm trivial rfl (t_neq rfl rfl) rfl ?_
    refine Rg.done ?_
    refine Wp.condT rfl ?_
    refine Wp.seq (Wp.region ?_)
    refine Rg.tm trivial rfl (t_assign rfl) rfl ?_
    refine Rg.done ?_
    refine Wp.ret ?_
    refine ⟨[_],⟨rfl,trivial⟩,?_,hx⟩
    have hne : ¬ xs = ys := fun e => by subst e; exact heq rfl
    simp [hne,tup]
  ·skip
   refine Wp.seq (Wp.region ?_)
   first | refine Rg.tm trivial rfl (t_lssT rfl rfl (by omega)) rfl ?_ | refine Rg.tm trivial rfl (t_lssF rfl rfl (by omega)) rfl ?_ | refine Rg.tm trivial rfl (t_lss rfl rfl) rfl ?_
   refine Rg.done ?_
   refine Wp.seq ?_
   refine Wp.condF rfl ?_
   refine Wp.exit ?_
   refine Wp.seq (Wp.region ?_)
   refine Rg.tm trivial rfl (t_assign rfl) rfl ?_
   refine Rg.done ?_
   refine Wp.ret ?_
   refine ⟨[_],⟨rfl,trivial⟩,?_,hx⟩
   have he : xs = ys := List.ext_getElem? fun j => by
    by_cases hj : j < n
    ·exact hpre j (by omega)
    ·rw [List.getElem?_eq_none (by omega),List.getElem?_eq_none (by omega)]
   simp [he,tup]
 ·skip
  refine Cl.enter Tryz.func141 rfl Tryz.ntmps141 rfl rfl ?_
  refine Wp.seq (Wp.region ?_)
  refine Rg.tm trivial rfl (t_assign rfl) rfl ?_
  refine Rg.done ?_
  refine Wp.seq ?_
  refine Wp.seq (Wp.region ?_)
  refine Rg.tm trivial rfl (t_move rfl) rfl ?_
  refine Rg.tm trivial rfl (t_lenC hx0 Tryz.underlying41 rfl) rfl ?_
  refine Rg.tm trivial rfl (t_move rfl) rfl ?_
  refine Rg.tm trivial rfl (t_lenC hy0 Tryz.underlying41 rfl) rfl ?_
  first | refine Rg.tm trivial rfl (t_neqT rfl rfl (by omega)) rfl ?_ | refine Rg.tm trivial rfl (t_neqF rfl rfl (by omega)) rfl ?_ | refine Rg.tm trivial rfl (t_neq rfl rfl) rfl ?_
  refine Rg.done ?_
  refine Wp.condT rfl ?_
  refine Wp.seq (Wp.region ?_)
  refine Rg.tm trivial rfl (t_assign rfl) rfl ?_
  refine Rg.done ?_
  refine Wp.ret ?_
  refine ⟨[_],⟨rfl,trivial⟩,?_,hx⟩
  have hne : ¬ xs = ys := fun e => by subst e; omega
  simp [hne,tup]
theorem cloneInts_ok {w : World} {v : Value} {n : Nat} {cs : List Value} (hs : SlC w v 1 n cs) (hone : ∀ u ∈ cs,u.oneCell' = true) (hlen : n ≤ 1000) :
  Cl Tryz.prog 43 #[v] w (fun u w' => w'.ownsRow w.heap.size 3 1 u n cs ∧ Ext w w') := by
 obtain ⟨i,hi,hz,hsi,hby⟩ := inf3
 have hx := Ext.refl w
 obtain ⟨hcl,p,cap,rfl,hc1,hc2⟩ := id hs
 cases p with
 | none =>
  have h0 : cap = 0 := hc2.elim id fun ⟨b,o,h,_⟩ => by cases h
  obtain rfl : n = 0 := by omega
  obtain rfl : cs = [] := List.length_eq_zero_iff.1 (by omega)
  subst h0
  refine Cl.enter Tryz.func43 rfl Tryz.ntmps43 rfl rfl ?_
  refine Wp.seq (Wp.region ?_)
  refine Rg.tm trivial rfl (t_assign rfl) rfl ?_
  refine Rg.done ?_
  refine Wp.seq ?_
  refine Wp.seq (Wp.region ?_)
  refine Rg.tm trivial rfl (t_move rfl) rfl ?_
  refine Rg.tm trivial rfl (t_slNil Tryz.underlying41 rfl rfl) rfl ?_
  refine Rg.done ?_
  refine Wp.condT rfl ?_
  refine Wp.seq (Wp.region ?_)
  refine Rg.tm trivial rfl (t_assign rfl) rfl ?_
  refine Rg.done ?_
  refine Wp.ret ?_
  exact ⟨[_],⟨rfl,trivial⟩,own_nil _ _ _ _,hx⟩
 | some ad =>
  refine Cl.enter Tryz.func43 rfl Tryz.ntmps43 rfl rfl ?_
  refine Wp.seq (Wp.region ?_)
  refine Rg.tm trivial rfl (t_assign rfl) rfl ?_
  refine Rg.done ?_
  refine Wp.seq ?_
  refine Wp.seq (Wp.region ?_)
  refine Rg.tm trivial rfl (t_move rfl) rfl ?_
  refine Rg.tm trivial rfl (t_slNil Tryz.underlying41 rfl rfl) rfl ?_
  refine Rg.done ?_
  refine Wp.condF rfl ?_
  refine Wp.skip ?_
  refine Wp.seq (Wp.region ?_)
  refine Rg.wd trivial (w_buildSlice bs41_0 rfl) rfl ?_
  rintro _ wb ⟨bb,rfl,qb,hxb,hvb⟩
  replace hx := hx.ext hxb
  have hown : wb.ownsRow w.heap.size 3 1 (.slice (some ⟨bb,0,none⟩) 0 0) 0 [] := own_of_varS hvb (Nat.le_of_eq qb.symm) rfl (Nat.zero_le _)
  replace hs := hs.ext hxb
  refine Rg.tm trivial rfl (t_move rfl) rfl ?_
  refine Rg.wd trivial (w_appendC w.heap.size Tryz.underlying41 hi hz hsi hby rfl (by decide) rfl rfl hown hs hone (by unfold maxLen; omega) (by omega) hx.le) rfl ?_
  rintro v2 wc ⟨hown2,hgr,p2,l2,c2,rfl⟩
  replace hx := own_ext3 hx hown hgr
  rw [Nat.zero_add,List.nil_append] at hown2
  refine Rg.tm trivial rfl (t_assign rfl) rfl ?_
  refine Rg.done ?_
  refine Wp.ret ?_
  exact ⟨[_],⟨rfl,trivial⟩,hown2,hx⟩
theorem cloneMods_ok {w : World} {v : Value} {n : Nat} {cs : List Value} (hs : SlC w v 2 n cs) (hone : ∀ u ∈ cs,u.oneCell' = true) (hlen : n ≤ 1000) :
  Cl Tryz.prog 37 #[v] w (fun u w' => w'.ownsRow w.heap.size 52 2 u n cs ∧ Ext w w') := by
 obtain ⟨i,hi,hz,hsi,hby⟩ := inf52
 have hx := Ext.refl w
 obtain ⟨hcl,p,cap,rfl,hc1,hc2⟩ := id hs
 cases p with
 | none =>
  have h0 : cap = 0 := hc2.elim id fun ⟨b,o,h,_⟩ => by cases h
  obtain rfl : n = 0 := by omega
  obtain rfl : cs = [] := List.length_eq_zero_iff.1 (by omega)
  subst h0
  refine Cl.enter Tryz.func37 rfl Tryz.ntmps37 rfl rfl ?_
  refine Wp.seq (Wp.region ?_)
  refine Rg.tm trivial rfl (t_assign rfl) rfl ?_
  refine Rg.done ?_
  refine Wp.seq ?_
  refine Wp.seq (Wp.region ?_)
  refine Rg.tm trivial rfl (t_move rfl) rfl ?_
  refine Rg.tm trivial rfl (t_slNil Tryz.underlying49 rfl rfl) rfl ?_
  refine Rg.done ?_
  refine Wp.condT rfl ?_
  refine Wp.seq (Wp.region ?_)
  refine Rg.tm trivial rfl (t_assign rfl) rfl ?_
  refine Rg.done ?_
  refine Wp.ret ?_
  exact ⟨[_],⟨rfl,trivial⟩,own_nil _ _ _ _,hx⟩
 | some ad =>
  refine Cl.enter Tryz.func37 rfl Tryz.ntmps37 rfl rfl ?_
  refine Wp.seq (Wp.region ?_)
  refine Rg.tm trivial rfl (t_assign rfl) rfl ?_
  refine Rg.done ?_
  refine Wp.seq ?_
  refine Wp.seq (Wp.region ?_)
  refine Rg.tm trivial rfl (t_move rfl) rfl ?_
  refine Rg.tm trivial rfl (t_slNil Tryz.underlying49 rfl rfl) rfl ?_
  refine Rg.done ?_
  refine Wp.condF rfl ?_
  refine Wp.skip ?_
  refine Wp.seq (Wp.region ?_)
  refine Rg.wd trivial (w_buildSlice bs49_0 rfl) rfl ?_
  rintro _ wb ⟨bb,rfl,qb,hxb,hvb⟩
  replace hx := hx.ext hxb
  have hown : wb.ownsRow w.heap.size 52 2 (.slice (some ⟨bb,0,none⟩) 0 0) 0 [] := own_of_varS hvb (Nat.le_of_eq qb.symm) rfl (Nat.zero_le _)
  replace hs := hs.ext hxb
  refine Rg.tm trivial rfl (t_move rfl) rfl ?_
  refine Rg.wd trivial (w_appendC w.heap.size Tryz.underlying49 hi hz hsi hby rfl (by decide) rfl rfl hown hs hone (by unfold maxLen; omega) (by omega) hx.le) rfl ?_
  rintro v2 wc ⟨hown2,hgr,p2,l2,c2,rfl⟩
  replace hx := own_ext3 hx hown hgr
  rw [Nat.zero_add,List.nil_append] at hown2
  refine Rg.tm trivial rfl (t_assign rfl) rfl ?_
  refine Rg.done ?_
  refine Wp.ret ?_
  exact ⟨[_],⟨rfl,trivial⟩,hown2,hx⟩
theorem cloneReqs_ok {w : World} {v : Value} {n : Nat} {cs : List Value} (hs : SlC w v 5 n cs) (hone : ∀ u ∈ cs,u.oneCell' = true) (hlen : n ≤ 1000) :
  Cl Tryz.prog 29 #[v] w (fun u w' => w'.ownsRow w.heap.size 27 5 u n cs ∧ Ext w w') := by
 obtain ⟨i,hi,hz,hsi,hby⟩ := inf27
 have hx := Ext.refl w
 obtain ⟨hcl,p,cap,rfl,hc1,hc2⟩ := id hs
 cases p with
 | none =>
  have h0 : cap = 0 := hc2.elim id fun ⟨b,o,h,_⟩ => by cases h
  obtain rfl : n = 0 := by omega
  obtain rfl : cs = [] := List.length_eq_zero_iff.1 (by omega)
  subst h0
  refine Cl.enter Tryz.func29 rfl Tryz.ntmps29 rfl rfl ?_
  refine Wp.seq (Wp.region ?_)
  refine Rg.tm trivial rfl (t_assign rfl) rfl ?_
  refine Rg.done ?_
  refine Wp.seq ?_
  refine Wp.seq (Wp.region ?_)
  refine Rg.tm trivial rfl (t_move rfl) rfl ?_
  refine Rg.tm trivial rfl (t_slNil Tryz.underlying38 rfl rfl) rfl ?_
  refine Rg.done ?_
  refine Wp.condT rfl ?_
  refine Wp.seq (Wp.region ?_)
  refine Rg.tm trivial rfl (t_assign rfl) rfl ?_
  refine Rg.done ?_
  refine Wp.ret ?_
  exact ⟨[_],⟨rfl,trivial⟩,own_nil _ _ _ _,hx⟩
 | some ad =>
  refine Cl.enter Tryz.func29 rfl Tryz.ntmps29 rfl rfl ?_
  refine Wp.seq (Wp.region ?_)
  refine Rg.tm trivial rfl (t_assign rfl) rfl ?_
  refine Rg.done ?_
  refine Wp.seq ?_
  refine Wp.seq (Wp.region ?_)
  refine Rg.tm trivial rfl (t_move rfl) rfl ?_
  refine Rg.tm trivial rfl (t_slNil Tryz.underlying38 rfl rfl) rfl ?_
  refine Rg.done ?_
  refine Wp.condF rfl ?_
  refine Wp.skip ?_
  refine Wp.seq (Wp.region ?_)
  refine Rg.wd trivial (w_buildSlice bs38_0 rfl) rfl ?_
  rintro _ wb ⟨bb,rfl,qb,hxb,hvb⟩
  replace hx := hx.ext hxb
  have hown : wb.ownsRow w.heap.size 27 5 (.slice (some ⟨bb,0,none⟩) 0 0) 0 [] := own_of_varS hvb (Nat.le_of_eq qb.symm) rfl (Nat.zero_le _)
  replace hs := hs.ext hxb
  refine Rg.tm trivial rfl (t_move rfl) rfl ?_
  refine Rg.wd trivial (w_appendC w.heap.size Tryz.underlying38 hi hz hsi hby rfl (by decide) rfl rfl hown hs hone (by unfold maxLen; omega) (by omega) hx.le) rfl ?_
  rintro v2 wc ⟨hown2,hgr,p2,l2,c2,rfl⟩
  replace hx := own_ext3 hx hown hgr
  rw [Nat.zero_add,List.nil_append] at hown2
  refine Rg.tm trivial rfl (t_assign rfl) rfl ?_
  refine Rg.done ?_
  refine Wp.ret ?_
  exact ⟨[_],⟨rfl,trivial⟩,hown2,hx⟩
theorem cloneV_ok {w : World} {vn : Value} {xs : List Int} {t : ByteArray} (hs : SlC w vn 1 xs.length (xs.map (.int .i64))) (hl : xs.length ≤ 100) :
  Cl Tryz.prog 100 #[.agg #[vn,.string t]] w (fun u w' => (∃ p c,u = .agg #[.slice p xs.length c,.string t] ∧ w'.ownsRow w.heap.size 3 1 (.slice p xs.length c) xs.length (xs.map (.int .i64))) ∧ Ext w w') := by
 have hx := Ext.refl w
 obtain ⟨_,pn,cn,rfl,_⟩ := id hs
 refine Cl.enter Tryz.func100 rfl Tryz.ntmps100 rfl rfl ?_
 refine Wp.seq (Wp.region ?_)
 refine Rg.wd trivial (w_boxed rfl rfl) rfl ?_
 rintro _ w1 ⟨b1,rfl,qb1,hx1,hv1⟩
 replace hx := hx.ext hx1
 replace hs := hs.ext hx1
 have hc1 := hv1.cells
 have k1 := hx.le
 refine Rg.wd trivial (w_new Tryz.zeroValue66 rfl) rfl ?_
 rintro _ w2 ⟨b2,rfl,qb2,hx2,hv2⟩
 replace hx := hx.ext hx2
 replace hs := hs.ext hx2
 replace hv1 := hv1.ext hx2
 replace hc1 := hc1.ext hx2
 refine Rg.done ?_
 refine Wp.seq (Wp.draw [0,1,3,4,2,5,6] [0] mixed (by kernel_rfl) (by kernel_rfl) ?_)
 intro w3 hx3 _
 replace hx := hx.ext hx3
 replace hs := hs.ext hx3
 replace hv1 := hv1.ext hx3
 replace hc1 := hc1.ext hx3
 replace hv2 := hv2.ext hx3
 refine Rg.tm trivial rfl (t_fieldAddr fa66_0 rfl) rfl ?_
 refine Rg.tm trivial rfl (t_load ty41 rfl (by apply Cells.get (i := 0); (case h => assumption); rfl)) rfl ?_
 refine Rg.tm trivial rfl (t_fieldAddr fa66_1 rfl) rfl ?_
 refine Rg.tm trivial rfl (t_load ty9 rfl (by apply Cells.get (i := 1); (case h => assumption); rfl)) rfl ?_
 refine Rg.wdB trivial rfl (w_call Tryz.call43 rfl (cloneInts_ok hs (ints_one _) (by omega))) rfl (fun _ _ h => h.2) ?_
 have hle5 := hx.le
 rintro v5 w4 ⟨ho5,hx4⟩
 replace hx := hx.ext hx4
 replace hs := hs.ext hx4
 replace hv1 := hv1.ext hx4
 replace hc1 := hc1.ext hx4
 replace hv2 := hv2.ext hx4
 obtain ⟨p5,c5,rfl⟩ := own_shape ho5
 refine Rg.tm trivial rfl (t_build (bd66_0_1 _ _ _ _) rfl) rfl ?_
 refine Rg.wnB trivial rfl (w_put hv2 rfl rfl rfl ty66 rfl rfl) (by rfl) ?_
 rintro _ wd ⟨hu,hv2'⟩
 replace ho5 := own_upd ho5 hv2 hu (by decide)
 replace hx := hx.upd hu (by omega)
 refine Rg.done ?_
 refine Wp.ret ?_
 exact ⟨[_],⟨RV.cellA (vs := [_,_]) ty66 rfl hv2'.cells,trivial⟩,⟨p5,c5,rfl,own_mono ho5 hle5⟩,hx⟩
theorem cloneR_ok {w : World} {vn : Value} {xs : List Int} {t : ByteArray} (hs : SlC w vn 1 xs.length (xs.map (.int .i64))) (hl : xs.length ≤ 100) :
  Cl Tryz.prog 90 #[.agg #[vn,.string t]] w (fun u w' => (∃ p c,u = .agg #[.slice p xs.length c,.string t] ∧ w'.ownsRow w.heap.size 3 1 (.slice p xs.length c) xs.length (xs.map (.int .i64))) ∧ Ext w w') := by
 have hx := Ext.refl w
 obtain ⟨_,pn,cn,rfl,_⟩ := id hs
 refine Cl.enter Tryz.func90 rfl Tryz.ntmps90 rfl rfl ?_
 refine Wp.seq (Wp.region ?_)
 refine Rg.wd trivial (w_boxed rfl rfl) rfl ?_
 rintro _ w1 ⟨b1,rfl,qb1,hx1,hv1⟩
 replace hx := hx.ext hx1
 replace hs := hs.ext hx1
 have hc1 := hv1.cells
 have k1 := hx.le
 refine Rg.wd trivial (w_new Tryz.zeroValue66 rfl) rfl ?_
 rintro _ w2 ⟨b2,rfl,qb2,hx2,hv2⟩
 replace hx := hx.ext hx2
 replace hs := hs.ext hx2
 replace hv1 := hv1.ext hx2
 replace hc1 := hc1.ext hx2
 refine Rg.done ?_
 refine Wp.seq (Wp.draw [0,1,3,4,2,5,6] [0] mixed (by kernel_rfl) (by kernel_rfl) ?_)
 intro w3 hx3 _
 replace hx := hx.ext hx3
 replace hs := hs.ext hx3
 replace hv1 := hv1.ext hx3
 replace hc1 := hc1.ext hx3
 replace hv2 := hv2.ext hx3
 refine Rg.tm trivial rfl (t_fieldAddr fa66_0 rfl) rfl ?_
 refine Rg.tm trivial rfl (t_load ty41 rfl (by apply Cells.get (i := 0); (case h => assumption); rfl)) rfl ?_
 refine Rg.tm trivial rfl (t_fieldAddr fa66_1 rfl) rfl ?_
 refine Rg.tm trivial rfl (t_load ty9 rfl (by apply Cells.get (i := 1); (case h => assumption); rfl)) rfl ?_
 refine Rg.wdB trivial rfl (w_call Tryz.call43 rfl (cloneInts_ok hs (ints_one _) (by omega))) rfl (fun _ _ h => h.2) ?_
 have hle5 := hx.le
 rintro v5 w4 ⟨ho5,hx4⟩
 replace hx := hx.ext hx4
 replace hs := hs.ext hx4
 replace hv1 := hv1.ext hx4
 replace hc1 := hc1.ext hx4
 replace hv2 := hv2.ext hx4
 obtain ⟨p5,c5,rfl⟩ := own_shape ho5
 refine Rg.tm trivial rfl (t_build (bd66_0_1 _ _ _ _) rfl) rfl ?_
 refine Rg.wnB trivial rfl (w_put hv2 rfl rfl rfl ty66 rfl rfl) (by rfl) ?_
 rintro _ wd ⟨hu,hv2'⟩
 replace ho5 := own_upd ho5 hv2 hu (by decide)
 replace hx := hx.upd hu (by omega)
 refine Rg.done ?_
 refine Wp.ret ?_
 exact ⟨[_],⟨RV.cellA (vs := [_,_]) ty66 rfl hv2'.cells,trivial⟩,⟨p5,c5,rfl,own_mono ho5 hle5⟩,hx⟩
theorem equalV_ok {w : World} {vn vm : Value} {xs ys : List Int} {t s : ByteArray} (hs : SlC w vn 1 xs.length (xs.map (.int .i64))) (hl : xs.length ≤ 100) (hs2 : SlC w vm 1 ys.length (ys.map (.int .i64))) :
  Cl Tryz.prog 119 #[.agg #[vn,.string t],.agg #[vm,.string s]] w (fun u w' => u = .bool (decide ((xs,t) = (ys,s))) ∧ Ext w w') := by
 have hx := Ext.refl w
 by_cases hts : t = s
 ·skip
  refine Cl.enter Tryz.func119 rfl Tryz.ntmps119 rfl rfl ?_
  refine Wp.seq (Wp.region ?_)
  refine Rg.wd trivial (w_boxed rfl rfl) rfl ?_
  rintro _ w1 ⟨b2,rfl,qb2,hx1,hv2⟩
  replace hx := hx.ext hx1
  replace hs := hs.ext hx1
  replace hs2 := hs2.ext hx1
  have hc2 := hv2.cells
  refine Rg.wd trivial (w_boxed rfl rfl) rfl ?_
  rintro _ w2 ⟨b3,rfl,qb3,hx2,hv3⟩
  replace hx := hx.ext hx2
  replace hs := hs.ext hx2
  replace hs2 := hs2.ext hx2
  replace hv2 := hv2.ext hx2
  replace hc2 := hc2.ext hx2
  have hc3 := hv3.cells
  refine Rg.tm trivial rfl (t_assign rfl) rfl ?_
  refine Rg.done ?_
  refine Wp.seq (Wp.region ?_)
  refine Rg.tm trivial rfl (t_fieldAddr fa66_1 rfl) rfl ?_
  refine Rg.tm trivial rfl (t_load ty9 rfl (by apply Cells.get (i := 1); (case h => assumption); rfl)) rfl ?_
  refine Rg.tm trivial rfl (t_fieldAddr fa66_1 rfl) rfl ?_
  refine Rg.tm trivial rfl (t_load ty9 rfl (by apply Cells.get (i := 1); (case h => assumption); rfl)) rfl ?_
  first | refine Rg.tm trivial rfl (t_seqlT rfl rfl (by first | with_reducible rfl | assumption)) rfl ?_ | refine Rg.tm trivial rfl (t_seqlF rfl rfl (by assumption)) rfl ?_ | refine Rg.tm trivial rfl (t_seql rfl rfl) rfl ?_
  refine Rg.tm trivial rfl (t_move rfl) rfl ?_
  first | refine Rg.tm ⟨_,rfl,rfl⟩ rfl (t_fieldAddr fa66_0 rfl) rfl ?_ | refine Rg.so rfl rfl ?_
  first | refine Rg.tm ⟨_,rfl,rfl⟩ rfl (t_load ty41 rfl (by apply Cells.get (i := 0); (case h => assumption); rfl)) rfl ?_ | refine Rg.so rfl rfl ?_
  first | refine Rg.tm ⟨_,rfl,rfl⟩ rfl (t_fieldAddr fa66_0 rfl) rfl ?_ | refine Rg.so rfl rfl ?_
  first | refine Rg.tm ⟨_,rfl,rfl⟩ rfl (t_load ty41 rfl (by apply Cells.get (i := 0); (case h => assumption); rfl)) rfl ?_ | refine Rg.so rfl rfl ?_
  refine Rg.wd ⟨_,rfl,rfl⟩ (w_call Tryz.call141 rfl (eqInts_ok hs hs2 (by omega))) rfl ?_
  rintro _ w3 ⟨rfl,hx3⟩
  replace hx := hx.ext hx3
  replace hs := hs.ext hx3
  replace hs2 := hs2.ext hx3
  replace hv2 := hv2.ext hx3
  replace hc2 := hc2.ext hx3
  replace hv3 := hv3.ext hx3
  replace hc3 := hc3.ext hx3
  first | refine Rg.tm trivial rfl (t_pickT rfl rfl) rfl ?_ | refine Rg.tm trivial rfl (t_pickF rfl rfl) rfl ?_
  refine Rg.tm trivial rfl (t_assign rfl) rfl ?_
  refine Rg.done ?_
  refine Wp.ret ?_
  refine ⟨[_],⟨rfl,trivial⟩,?_,hx⟩
  simp [tup,hts]
 ·skip
  refine Cl.enter Tryz.func119 rfl Tryz.ntmps119 rfl rfl ?_
  refine Wp.seq (Wp.region ?_)
  refine Rg.wd trivial (w_boxed rfl rfl) rfl ?_
  rintro _ w1 ⟨b2,rfl,qb2,hx1,hv2⟩
  replace hx := hx.ext hx1
  replace hs := hs.ext hx1
  replace hs2 := hs2.ext hx1
  have hc2 := hv2.cells
  refine Rg.wd trivial (w_boxed rfl rfl) rfl ?_
  rintro _ w2 ⟨b3,rfl,qb3,hx2,hv3⟩
  replace hx := hx.ext hx2
  replace hs := hs.ext hx2
  replace hs2 := hs2.ext hx2
  replace hv2 := hv2.ext hx2
  replace hc2 := hc2.ext hx2
  have hc3 := hv3.cells
  refine Rg.tm trivial rfl (t_assign rfl) rfl ?_
  refine Rg.done ?_
  refine Wp.seq (Wp.region ?_)
  refine Rg.tm trivial rfl (t_fieldAddr fa66_1 rfl) rfl ?_
  refine Rg.tm trivial rfl (t_load ty9 rfl (by apply Cells.get (i := 1); (case h => assumption); rfl)) rfl ?_
  refine Rg.tm trivial rfl (t_fieldAddr fa66_1 rfl) rfl ?_
  refine Rg.tm trivial rfl (t_load ty9 rfl (by apply Cells.get (i := 1); (case h => assumption); rfl)) rfl ?_
  first | refine Rg.tm trivial rfl (t_seqlT rfl rfl (by first | with_reducible rfl | assumption)) rfl ?_ | refine Rg.tm trivial rfl (t_seqlF rfl rfl (by assumption)) rfl ?_ | refine Rg.tm trivial rfl (t_seql rfl rfl) rfl ?_
  refine Rg.tm trivial rfl (t_move rfl) rfl ?_
  first | refine Rg.tm ⟨_,rfl,rfl⟩ rfl (t_fieldAddr fa66_0 rfl) rfl ?_ | refine Rg.so rfl rfl ?_
  first | refine Rg.tm ⟨_,rfl,rfl⟩ rfl (t_load ty41 rfl (by apply Cells.get (i := 0); (case h => assumption); rfl)) rfl ?_ | refine Rg.so rfl rfl ?_
  first | refine Rg.tm ⟨_,rfl,rfl⟩ rfl (t_fieldAddr fa66_0 rfl) rfl ?_ | refine Rg.so rfl rfl ?_
  first | refine Rg.tm ⟨_,rfl,rfl⟩ rfl (t_load ty41 rfl (by apply Cells.get (i := 0); (case h => assumption); rfl)) rfl ?_ | refine Rg.so rfl rfl ?_
  refine Rg.so rfl rfl ?_
  first | refine Rg.tm trivial rfl (t_pickT rfl rfl) rfl ?_ | refine Rg.tm trivial rfl (t_pickF rfl rfl) rfl ?_
  refine Rg.tm trivial rfl (t_assign rfl) rfl ?_
  refine Rg.done ?_
  refine Wp.ret ?_
  refine ⟨[_],⟨rfl,trivial⟩,?_,hx⟩
  simp [tup,hts]
def Rel3 {α β : Type} (R : α → β → Prop) : List (K3 × α) → List (Key × β) → Prop
 | [],[] => True
 | p :: l,q :: m => p.1 = q.1 ∧ R p.2 q.2 ∧ Rel3 R l m
 | _,_ => False
theorem Rel3.mono {α β : Type} {R R' : α → β → Prop} (h : ∀ a b,R a b → R' a b) : ∀ {l : List (K3 × α)} {m : List (Key × β)},Rel3 R l m → Rel3 R' l m
 | [],[],_ => trivial
 | p :: l,q :: m,hr => ⟨hr.1,h _ _ hr.2.1,Rel3.mono h hr.2.2⟩
 | [],_ :: _,hr => hr.elim
 | _ :: _,[],hr => hr.elim
theorem Rel3.look {α β : Type} {R : α → β → Prop} : ∀ {l : List (K3 × α)} {m : List (Key × β)} (k : Key),Rel3 R l m → (look3 l k = none ∧ lkp m k = none) ∨ ∃ a b,look3 l k = some a ∧ lkp m k = some b ∧ R a b
 | [],[],_,_ => .inl ⟨rfl,rfl⟩
 | p :: l,q :: m,k,hr => by
  obtain ⟨h1,h2,h3⟩ := hr
  unfold look3 lkp
  rw [h1]
  by_cases hk : q.1 = k
  ·rw [if_pos hk,if_pos hk]
   exact .inr ⟨_,_,rfl,rfl,h2⟩
  ·rw [if_neg hk,if_neg hk]
   exact Rel3.look k h3
 | [],_ :: _,_,hr => hr.elim
 | _ :: _,[],_,hr => hr.elim
theorem Rel3.put {α β : Type} {R : α → β → Prop} : ∀ {l : List (K3 × α)} {m : List (Key × β)} (k : Key) {a : α} {b : β},Rel3 R l m → R a b → Rel3 R (ups3 l k a) (ups m k b)
 | [],[],k,_,_,_,hab => ⟨rfl,hab,trivial⟩
 | p :: l,q :: m,k,a,b,hr,hab => by
  obtain ⟨h1,h2,h3⟩ := hr
  unfold ups3 ups
  rw [h1]
  by_cases hk : q.1 = k
  ·rw [if_pos hk,if_pos hk]
   exact ⟨rfl,hab,h3⟩
  ·rw [if_neg hk,if_neg hk]
   exact ⟨h1,h2,Rel3.put k h3 hab⟩
 | [],_ :: _,_,_,_,hr,_ => hr.elim
 | _ :: _,[],_,_,_,hr,_ => hr.elim
def RowI (w : World) (v : Value) (xs : List Int) : Prop := Row w 3 1 v xs.length (xs.map (.int .i64))
theorem RowI.ext {w w' : World} {v : Value} {xs : List Int} (h : RowI w v xs) (k : Ext w w') : RowI w' v xs := Row.ext h k
theorem RowI.slc {w : World} {v : Value} {xs : List Int} (h : RowI w v xs) : SlC w v 1 xs.length (xs.map (.int .i64)) := Row.slc h
theorem RowI.own {w : World} {B : Nat} {v : Value} {xs : List Int} (h : w.ownsRow B 3 1 v xs.length (xs.map (.int .i64))) : RowI w v xs := Row.ofOwn h
def CellV (w : World) (v : Value) (c : QV × Int) : Prop := ∃ vn,v = .agg #[vn,.string c.1.2,.int .i64 c.2,.int .i64 0] ∧ RowI w vn c.1.1 ∧ c.1.1.length ≤ 1
theorem CellV.ext {w w' : World} {v : Value} {c : QV × Int} (h : CellV w v c) (k : Ext w w') : CellV w' v c := by
 obtain ⟨vn,h1,h2,h3⟩ := h
 exact ⟨vn,h1,h2.ext k,h3⟩
theorem CellV.upd {w w' : World} {v : Value} {c : QV × Int} {b t : Nat} {cs : List Value} (h : CellV w v c) (hv : Var w b cs t) (k : Upd b w w') (ht : t ≠ 3) : CellV w' v c := by
 obtain ⟨vn,h1,h2,h3⟩ := h
 exact ⟨vn,h1,Row.upd h2 hv k ht,h3⟩
theorem CellV.mapR {w w' : World} {v : Value} {c : QV × Int} {b : Nat} {l : List (K3 × Value)} (h : CellV w v c) (hv : MapR w b l) (k : Upd b w w') : CellV w' v c := by
 obtain ⟨vn,h1,h2,h3⟩ := h
 exact ⟨vn,h1,Row.mapR h2 hv k,h3⟩
theorem CellV.zero (w : World) : CellV w (.agg #[.slice none 0 0,.string ⟨#[]⟩,.int .i64 0,.int .i64 0]) (([],noB),0) := ⟨_,rfl,Row.nil _ _ _,Nat.zero_le _⟩
def InsM (w : World) (bM : Nat) (cells : List (Key × (QV × Int))) : Prop := ∃ l,MapR w bM l ∧ Rel3 (CellV w) l cells
theorem InsM.ext {w w' : World} {bM : Nat} {cells : List (Key × (QV × Int))} (h : InsM w bM cells) (k : Ext w w') : InsM w' bM cells := by
 obtain ⟨l,h1,h2⟩ := h
 exact ⟨l,h1.ext k,h2.mono fun _ _ h => h.ext k⟩
theorem InsM.upd {w w' : World} {bM b t : Nat} {cs : List Value} {cells : List (Key × (QV × Int))} (h : InsM w bM cells) (hv : Var w b cs t) (k : Upd b w w') (ht : t ≠ 3) : InsM w' bM cells := by
 obtain ⟨l,h1,h2⟩ := h
 exact ⟨l,h1.upd hv k,h2.mono fun _ _ h => h.upd hv k ht⟩
theorem InsM.mapR {w w' : World} {bM b : Nat} {l' : List (K3 × Value)} {cells : List (Key × (QV × Int))} (h : InsM w bM cells) (hm : MapR w b l') (k : Upd b w w') (hne : b ≠ bM) : InsM w' bM cells := by
 obtain ⟨l,h1,h2⟩ := h
 exact ⟨l,h1.keep (k.block bM (Ne.symm hne)),h2.mono fun _ _ h => h.mapR hm k⟩
theorem InsM.look {w : World} {bM : Nat} {s : Ins} (h : InsM w bM s.cells) (k : Key) : ∃ l,MapR w bM l ∧ Rel3 (CellV w) l s.cells ∧ CellV w ((look3 l k).getD (.agg #[.slice none 0 0,.string ⟨#[]⟩,.int .i64 0,.int .i64 0])) (s.get k) := by
 obtain ⟨l,h1,h2⟩ := h
 refine ⟨l,h1,h2,?_⟩
 rcases h2.look k with ⟨e1,e2⟩ | ⟨a,b,e1,e2,hr⟩
 ·rw [e1]
  unfold Ins.get
  rw [e2]
  exact CellV.zero w
 ·rw [e1]
  unfold Ins.get
  rw [e2]
  exact hr
structure InsA (w : World) (bI bM : Nat) (s : Ins) : Prop where
 var : ∃ l1 l2,Var w bI [.int .i64 s.rev,.int .i64 s.rev,.int .i64 l1,.int .i64 l2,.map (some bM)] 112
 map : InsM w bM s.cells
theorem InsA.ext {w w' : World} {bI bM : Nat} {s : Ins} (h : InsA w bI bM s) (k : Ext w w') : InsA w' bI bM s := by
 obtain ⟨⟨l1,l2,hv⟩,hm⟩ := h
 exact ⟨⟨l1,l2,hv.ext k⟩,hm.ext k⟩
theorem InsA.upd {w w' : World} {bI bM b t : Nat} {cs : List Value} {s : Ins} (h : InsA w bI bM s) (hv : Var w b cs t) (k : Upd b w w') (ht : t ≠ 3) (ht2 : t ≠ 112) : InsA w' bI bM s := by
 obtain ⟨⟨l1,l2,hv'⟩,hm⟩ := h
 exact ⟨⟨l1,l2,hv'.upd k (hv'.ne hv (Ne.symm ht2))⟩,hm.upd hv k ht⟩
theorem InsA.mapR {w w' : World} {bI bM b : Nat} {l' : List (K3 × Value)} {s : Ins} (h : InsA w bI bM s) (hm : MapR w b l') (k : Upd b w w') (hne : b ≠ bM) : InsA w' bI bM s := by
 obtain ⟨⟨l1,l2,hv'⟩,hm'⟩ := h
 exact ⟨⟨l1,l2,hv'.mapR hm k⟩,hm'.mapR hm k hne⟩
theorem get_ok {w : World} {bI bM : Nat} {s : Ins} {kq ka kb : Int} (hI : InsA w bI bM s) :
  Cl Tryz.prog 88 #[.pointer (some ⟨bI,0,none⟩),.agg #[.int .i64 kq,.int .i64 ka,.int .i64 kb]] w (fun u w' => (∃ p c,u = .tuple #[.agg #[.slice p (s.val (kq,ka,kb)).1.length c,.string (s.val (kq,ka,kb)).2],.int .i64 (s.get (kq,ka,kb)).2,.int .i64 0] ∧ w'.ownsRow w.heap.size 3 1 (.slice p (s.val (kq,ka,kb)).1.length c) (s.val (kq,ka,kb)).1.length ((s.val (kq,ka,kb)).1.map (.int .i64)) ∧ (s.val (kq,ka,kb)).1.length ≤ 1) ∧ Ext w w') := by
 have hx := Ext.refl w
 obtain ⟨⟨l1,l2,hv⟩,hm⟩ := hI
 obtain ⟨l,hM,hR,vn,hg,hrow,hlen⟩ := hm.look (kq,ka,kb)
 change RowI w vn (s.val (kq,ka,kb)).1 at hrow
 change (s.val (kq,ka,kb)).1.length ≤ 1 at hlen
 change _ = Value.agg #[vn,.string (s.val (kq,ka,kb)).2,.int .i64 (s.get (kq,ka,kb)).2,.int .i64 0] at hg
 have hcI := hv.cells
 have hsl := hrow.slc
 obtain ⟨_,pn,cn,rfl,_⟩ := id hsl
 refine Cl.enter Tryz.func88 rfl Tryz.ntmps88 rfl rfl ?_
 refine Wp.seq (Wp.region ?_)
 refine Rg.wd trivial (w_boxed rfl rfl) rfl ?_
 rintro _ w1 ⟨b3,rfl,qb3,hx1,hv3⟩
 replace hx := hx.ext hx1
 replace hcI := hcI.ext hx1
 replace hM := hM.ext hx1
 replace hsl := hsl.ext hx1
 have hc3 := hv3.cells
 have k3 := hx.le
 refine Rg.wd trivial (w_new Tryz.zeroValue66 rfl) rfl ?_
 rintro _ w2 ⟨b4,rfl,qb4,hx2,hv4⟩
 replace hx := hx.ext hx2
 replace hcI := hcI.ext hx2
 replace hM := hM.ext hx2
 replace hsl := hsl.ext hx2
 replace hv3 := hv3.ext hx2
 replace hc3 := hc3.ext hx2
 refine Rg.tm trivial rfl (t_assign rfl) rfl ?_
 refine Rg.tm trivial rfl (t_assign rfl) rfl ?_
 refine Rg.done ?_
 refine Wp.seq (Wp.draw [0,1,2,3,4,5,6,7] [0] mixed (by kernel_rfl) (by kernel_rfl) ?_)
 intro w3 hx3 _
 replace hx := hx.ext hx3
 replace hcI := hcI.ext hx3
 replace hM := hM.ext hx3
 replace hsl := hsl.ext hx3
 replace hv3 := hv3.ext hx3
 replace hc3 := hc3.ext hx3
 replace hv4 := hv4.ext hx3
 refine Rg.tm trivial rfl (t_move rfl) rfl ?_
 refine Rg.tm trivial rfl (t_nilCheck rfl) rfl ?_
 refine Rg.tm trivial rfl (t_fieldAddr fa112_2 rfl) rfl ?_
 refine Rg.tm trivial rfl (t_load ty109 rfl (by apply Cells.get (i := 4); (case h => assumption); rfl)) rfl ?_
 refine Rg.tm trivial rfl (t_loadA rfl hc3 ty63) rfl ?_
 refine Rg.tm trivial rfl (t_lookup3 (key := (kq,ka,kb)) key3 Tryz.underlying109 Tryz.zeroValue166 rfl rfl hM) rfl ?_
 rw [hg]
 refine Rg.wdB trivial rfl (w_new Tryz.zeroValue166 rfl) rfl (fun _ _ h => h.below) ?_
 have k7 := hx.le
 rintro _ wa ⟨b7,rfl,qb7,hxa,hva⟩
 refine Rg.wnB trivial rfl (w_put hva rfl rfl rfl ty166 rfl rfl) (by rfl) ?_
 rintro _ w4 ⟨hu,hv7⟩
 have hx4 := hxa.upd hu (Nat.le_of_eq qb7.symm)
 replace hx := hx.ext hx4
 replace hcI := hcI.ext hx4
 replace hM := hM.ext hx4
 replace hsl := hsl.ext hx4
 replace hv3 := hv3.ext hx4
 replace hc3 := hc3.ext hx4
 replace hv4 := hv4.ext hx4
 clear hva hu
 have hc7 := hv7.cells
 refine Rg.done ?_
 refine Wp.seq (Wp.drawZ [b4] [0,1,3,4,5,6,2,7,8,9] mixed (by kernel_rfl) (by kernel_rfl) ?_)
 intro w5 hx5 _
 replace hx := hx.ext hx5
 replace hcI := hcI.ext hx5
 replace hM := hM.ext hx5
 replace hsl := hsl.ext hx5
 replace hv3 := hv3.ext hx5
 replace hc3 := hc3.ext hx5
 replace hv4 := hv4.ext hx5
 replace hv7 := hv7.ext hx5
 replace hc7 := hc7.ext hx5
 refine Rz.tm trivial rfl (tz fun wz hkz => by exact t_fieldAddr fa166_0 rfl) rfl ?_
 refine Rz.tm trivial rfl (tz fun wz hkz => t_loadA rfl (show Cells wz b7 0 [.slice pn _ cn,.string (s.val (kq,ka,kb)).2] from Cells.sub (hv7.kp hkz (by simp [hv7.ne hv4 (by decide)])).cells 0 2) ty66) rfl ?_
 refine Rz.tm trivial rfl (tz fun wz hkz => by exact t_fieldAddr fa166_1 rfl) rfl ?_
 skip
 refine Rz.tm trivial rfl (tz fun wz hkz => by have hc7z := (hv7.kp hkz (by simp [hv7.ne hv4 (by decide)])).cells; exact t_load ty3 rfl (by apply Cells.get (i := 2); (case h => assumption); rfl)) rfl ?_
 refine Rz.tm trivial rfl (tz fun wz hkz => by exact t_fieldAddr fa166_2 rfl) rfl ?_
 refine Rz.tm trivial rfl (tz fun wz hkz => by have hc7z := (hv7.kp hkz (by simp [hv7.ne hv4 (by decide)])).cells; exact t_load ty3 rfl (by apply Cells.get (i := 3); (case h => assumption); rfl)) rfl ?_
 refine Rz.wd trivial rfl (w_call Tryz.call100 rfl (cloneV_ok hsl (by omega))) rfl (fun _ _ h => h.2.kp _) ?_
 have hle16 := hx.le
 rintro _ w6 ⟨⟨p5,c5,rfl,ho5⟩,hx6⟩
 replace hx := hx.ext hx6
 replace hcI := hcI.ext hx6
 replace hM := hM.ext hx6
 replace hsl := hsl.ext hx6
 replace hv3 := hv3.ext hx6
 replace hc3 := hc3.ext hx6
 replace hv4 := hv4.ext hx6
 replace hv7 := hv7.ext hx6
 replace hc7 := hc7.ext hx6
 refine Rz.wn trivial rfl (w_put hv4 rfl rfl rfl ty66 rfl rfl) (fun _ _ h => h.1.kp (by simp)) ?_
 rintro _ wd ⟨hu,hv4'⟩
 replace ho5 := own_upd ho5 hv4 hu (by decide)
 replace hx := hx.upd hu (by omega)
 refine Rz.tm trivial rfl (tz fun wz hkz => by exact t_assign rfl) rfl ?_
 refine Rz.tm trivial rfl (tz fun wz hkz => by exact t_assign rfl) rfl ?_
 refine Rz.done ?_
 refine Wp.ret ?_
 exact ⟨[_,_,_],⟨RV.cellA (vs := [_,_]) ty66 rfl hv4'.cells,rfl,rfl,trivial⟩,⟨p5,c5,rfl,own_mono ho5 hle16,hlen⟩,hx⟩
theorem revision_ok {w : World} {bI bM : Nat} {s : Ins} (hI : InsA w bI bM s) : Cl Tryz.prog 103 #[.pointer (some ⟨bI,0,none⟩)] w (fun u w' => u = .int .i64 s.rev ∧ w = w') := by
 obtain ⟨⟨l1,l2,hv⟩,hm⟩ := hI
 have hcI := hv.cells
 refine Cl.enter Tryz.func103 rfl Tryz.ntmps103 rfl rfl ?_
 refine Wp.seq (Wp.region ?_)
 refine Rg.tm trivial rfl (t_assign rfl) rfl ?_
 refine Rg.done ?_
 refine Wp.seq (Wp.region ?_)
 refine Rg.tm trivial rfl (t_move rfl) rfl ?_
 refine Rg.tm trivial rfl (t_nilCheck rfl) rfl ?_
 refine Rg.tm trivial rfl (t_fieldAddr fa112_0 rfl) rfl ?_
 refine Rg.tm trivial rfl (t_load ty3 rfl (by apply Cells.get (i := 0); (case h => assumption); rfl)) rfl ?_
 refine Rg.tm trivial rfl (t_assign rfl) rfl ?_
 refine Rg.done ?_
 refine Wp.ret ?_
 exact ⟨[_],⟨rfl,trivial⟩,rfl,rfl⟩
theorem lastChange_ok {w : World} {bI bM : Nat} {s : Ins} (hI : InsA w bI bM s) : Cl Tryz.prog 120 #[.pointer (some ⟨bI,0,none⟩),.int .i64 0] w (fun u w' => u = .int .i64 s.rev ∧ w = w') := by
 obtain ⟨⟨l1,l2,hv⟩,hm⟩ := hI
 have hcI := hv.cells
 refine Cl.enter Tryz.func120 rfl Tryz.ntmps120 rfl rfl ?_
 refine Wp.seq (Wp.region ?_)
 refine Rg.tm trivial rfl (t_assign rfl) rfl ?_
 refine Rg.done ?_
 refine Wp.seq ?_
 refine Wp.seq (Wp.region ?_)
 refine Rg.tm trivial rfl (t_move rfl) rfl ?_
 first | refine Rg.tm trivial rfl (t_lssT rfl rfl (by omega)) rfl ?_ | refine Rg.tm trivial rfl (t_lssF rfl rfl (by omega)) rfl ?_ | refine Rg.tm trivial rfl (t_lss rfl rfl) rfl ?_
 refine Rg.tm trivial rfl (t_move rfl) rfl ?_
 first | refine Rg.tm ⟨_,rfl,rfl⟩ rfl (t_move rfl) rfl ?_ | refine Rg.so rfl rfl ?_
 first | refine Rg.tm ⟨_,rfl,rfl⟩ rfl (t_geqT rfl rfl (by omega)) rfl ?_ | refine Rg.tm ⟨_,rfl,rfl⟩ rfl (t_geqF rfl rfl (by omega)) rfl ?_ | refine Rg.tm ⟨_,rfl,rfl⟩ rfl (t_geq rfl rfl) rfl ?_ | refine Rg.so rfl rfl ?_
 first | refine Rg.tm trivial rfl (t_pickT rfl rfl) rfl ?_ | refine Rg.tm trivial rfl (t_pickF rfl rfl) rfl ?_
 refine Rg.done ?_
 refine Wp.condF rfl ?_
 refine Wp.skip ?_
 refine Wp.seq (Wp.region ?_)
 refine Rg.tm trivial rfl (t_move rfl) rfl ?_
 refine Rg.tm trivial rfl (t_move rfl) rfl ?_
 refine Rg.tm trivial rfl (t_nilCheck rfl) rfl ?_
 refine Rg.tm trivial rfl (t_fieldAddr fa112_1 rfl) rfl ?_
 refine Rg.tm trivial rfl (t_indexAddrA Tryz.underlying110 ty3 rfl rfl (by omega)) rfl ?_
 refine Rg.tm trivial rfl (t_load ty3 rfl (by apply Cells.get (i := 1); (case h => assumption); rfl)) rfl ?_
 refine Rg.tm trivial rfl (t_assign rfl) rfl ?_
 refine Rg.done ?_
 refine Wp.ret ?_
 exact ⟨[_],⟨rfl,trivial⟩,rfl,rfl⟩
end Go.Proofs.YtliofpegbcegiaaGreatDoor
namespace Go.Proofs.YtliofpegbcegiaaGreatDoor
set_option maxRecDepth 20000
open Go.Gx Go.RowKit Go.Lib
theorem set_ok {w : World} {bI bM : Nat} {s : Ins} {ka kb : Int} {vn : Value} {xs : List Int} {t : ByteArray} (hI : InsA w bI bM s) (hn : RowI w vn xs) (hl : xs.length ≤ 1) (hrev : 0 ≤ s.rev ∧ s.rev ≤ 1000000000) :
  Cl Tryz.prog 96 #[.pointer (some ⟨bI,0,none⟩),.agg #[.int .i64 0,.int .i64 ka,.int .i64 kb],.agg #[vn,.string t],.int .i64 0] w (fun u w' => (∃ b : Bool,u = .tuple #[.bool b,.int .i64 0]) ∧ InsA w' bI bM (s.set (0,ka,kb) (xs,t)) ∧ Kp [bI,bM] w w') := by
 have hx := Ext.refl w
 obtain ⟨⟨l1,l2,hv⟩,hm⟩ := id hI
 obtain ⟨l,hM,hR,vo,hg,hrow,hlen⟩ := hm.look (0,ka,kb)
 change RowI w vo (s.val (0,ka,kb)).1 at hrow
 change (s.val (0,ka,kb)).1.length ≤ 1 at hlen
 change _ = Value.agg #[vo,.string (s.val (0,ka,kb)).2,.int .i64 (s.get (0,ka,kb)).2,.int .i64 0] at hg
 have hR : ∃ w0,w0 = w ∧ Rel3 (CellV w0) l s.cells := ⟨w,rfl,hR⟩
 obtain ⟨w0,hw0,hR⟩ := hR
 have hcI := hv.cells
 obtain ⟨po,co,rfl⟩ := hrow.shape
 obtain ⟨pn,cn,rfl⟩ := hn.shape
 refine Cl.enter Tryz.func96 rfl Tryz.ntmps96 rfl rfl ?_
 clear hm
 refine Wp.seq (Wp.region ?_)
 refine Rg.wd trivial (w_boxed rfl rfl) rfl ?_
 rintro _ w1 ⟨b5,rfl,qb5,hx1,hv5⟩
 replace hx := hx.ext hx1
 replace hv := hv.ext hx1
 replace hM := hM.ext hx1
 replace hcI := hcI.ext hx1
 replace hn := hn.ext hx1
 replace hrow := hrow.ext hx1
 replace hI := hI.ext hx1
 have hc5 := hv5.cells
 refine Rg.wd trivial (w_boxed rfl rfl) rfl ?_
 rintro _ w2 ⟨b6,rfl,qb6,hx2,hv6⟩
 replace hx := hx.ext hx2
 replace hv := hv.ext hx2
 replace hM := hM.ext hx2
 replace hcI := hcI.ext hx2
 replace hn := hn.ext hx2
 replace hrow := hrow.ext hx2
 replace hI := hI.ext hx2
 replace hv5 := hv5.ext hx2
 replace hc5 := hc5.ext hx2
 have hc6 := hv6.cells
 refine Rg.tm trivial rfl (t_assign rfl) rfl ?_
 refine Rg.tm trivial rfl (t_assign rfl) rfl ?_
 refine Rg.done ?_
 refine Wp.seq ?_
 refine Wp.seq (Wp.region ?_)
 refine Rg.tm trivial rfl (t_fieldAddr fa63_0 rfl) rfl ?_
 refine Rg.tm trivial rfl (t_load ty3 rfl (by apply Cells.get (i := 0); (case h => assumption); rfl)) rfl ?_
 first | refine Rg.tm trivial rfl (t_neqT rfl rfl (by omega)) rfl ?_ | refine Rg.tm trivial rfl (t_neqF rfl rfl (by omega)) rfl ?_ | refine Rg.tm trivial rfl (t_neq rfl rfl) rfl ?_
 refine Rg.done ?_
 refine Wp.condF rfl ?_
 refine Wp.skip ?_
 refine Wp.seq ?_
 refine Wp.seq (Wp.region ?_)
 refine Rg.tm trivial rfl (t_move rfl) rfl ?_
 first | refine Rg.tm trivial rfl (t_lssT rfl rfl (by omega)) rfl ?_ | refine Rg.tm trivial rfl (t_lssF rfl rfl (by omega)) rfl ?_ | refine Rg.tm trivial rfl (t_lss rfl rfl) rfl ?_
 refine Rg.tm trivial rfl (t_move rfl) rfl ?_
 first | refine Rg.tm ⟨_,rfl,rfl⟩ rfl (t_move rfl) rfl ?_ | refine Rg.so rfl rfl ?_
 first | refine Rg.tm ⟨_,rfl,rfl⟩ rfl (t_geqT rfl rfl (by omega)) rfl ?_ | refine Rg.tm ⟨_,rfl,rfl⟩ rfl (t_geqF rfl rfl (by omega)) rfl ?_ | refine Rg.tm ⟨_,rfl,rfl⟩ rfl (t_geq rfl rfl) rfl ?_ | refine Rg.so rfl rfl ?_
 first | refine Rg.tm trivial rfl (t_pickT rfl rfl) rfl ?_ | refine Rg.tm trivial rfl (t_pickF rfl rfl) rfl ?_
 refine Rg.done ?_
 refine Wp.condF rfl ?_
 refine Wp.skip ?_
 refine Wp.seq (Wp.draw [0,1,2,3,4,5,6,7] [0] mixed (by kernel_rfl) (by kernel_rfl) ?_)
 intro w3 hx3 _
 replace hx := hx.ext hx3
 replace hv := hv.ext hx3
 replace hM := hM.ext hx3
 replace hcI := hcI.ext hx3
 replace hn := hn.ext hx3
 replace hrow := hrow.ext hx3
 replace hI := hI.ext hx3
 replace hv5 := hv5.ext hx3
 replace hc5 := hc5.ext hx3
 replace hv6 := hv6.ext hx3
 replace hc6 := hc6.ext hx3
 refine Rg.tm trivial rfl (t_move rfl) rfl ?_
 refine Rg.tm trivial rfl (t_nilCheck rfl) rfl ?_
 refine Rg.tm trivial rfl (t_fieldAddr fa112_2 rfl) rfl ?_
 refine Rg.tm trivial rfl (t_load ty109 rfl (by apply Cells.get (i := 4); (case h => assumption); rfl)) rfl ?_
 refine Rg.tm trivial rfl (t_loadA rfl hc5 ty63) rfl ?_
 refine Rg.tm trivial rfl (t_lookup3 (key := (0,ka,kb)) key3 Tryz.underlying109 Tryz.zeroValue166 rfl rfl hM) rfl ?_
 rw [hg]
 refine Rg.wdB trivial rfl (w_new Tryz.zeroValue166 rfl) rfl (fun _ _ h => h.below) ?_
 rintro _ wa ⟨b10,rfl,qb10,hxa,hva⟩
 refine Rg.wnB trivial rfl (w_put hva rfl rfl rfl ty166 rfl rfl) (by rfl) ?_
 rintro _ w4 ⟨hu,hv10⟩
 have hx4 := hxa.upd hu (Nat.le_of_eq qb10.symm)
 replace hx := hx.ext hx4
 replace hv := hv.ext hx4
 replace hM := hM.ext hx4
 replace hcI := hcI.ext hx4
 replace hn := hn.ext hx4
 replace hrow := hrow.ext hx4
 replace hI := hI.ext hx4
 replace hv5 := hv5.ext hx4
 replace hc5 := hc5.ext hx4
 replace hv6 := hv6.ext hx4
 replace hc6 := hc6.ext hx4
 have hc10 := hv10.cells
 clear hva hu
 refine Rg.done ?_
 refine Wp.seq ?_
 refine Wp.seq (Wp.region ?_)
 refine Rg.tm trivial rfl (t_fieldAddr fa166_2 rfl) rfl ?_
 refine Rg.tm trivial rfl (t_load ty3 rfl (by apply Cells.get (i := 3); (case h => assumption); rfl)) rfl ?_
 refine Rg.tm trivial rfl (t_move rfl) rfl ?_
 first | refine Rg.tm trivial rfl (t_eqlT rfl rfl (by omega)) rfl ?_ | refine Rg.tm trivial rfl (t_eqlF rfl rfl (by omega)) rfl ?_ | refine Rg.tm trivial rfl (t_eql rfl rfl) rfl ?_
 refine Rg.tm trivial rfl (t_move rfl) rfl ?_
 first | refine Rg.tm ⟨_,rfl,rfl⟩ rfl (t_fieldAddr fa166_0 rfl) rfl ?_ | refine Rg.so rfl rfl ?_
 refine Rg.tm ⟨_,rfl,rfl⟩ rfl (t_loadA rfl (show Cells _ b10 0 [.slice po (s.val (0,ka,kb)).1.length co,.string (s.val (0,ka,kb)).2] from Cells.sub hc10 0 2) ty66) rfl ?_
 refine Rg.tm ⟨_,rfl,rfl⟩ rfl (t_loadA rfl hc6 ty66) rfl ?_
 refine Rg.wd ⟨_,rfl,rfl⟩ (w_call Tryz.call119 rfl (equalV_ok hrow.slc (by omega) hn.slc)) rfl ?_
 rintro _ w5 ⟨rfl,hx5⟩
 replace hx := hx.ext hx5
 replace hv := hv.ext hx5
 replace hM := hM.ext hx5
 replace hcI := hcI.ext hx5
 replace hn := hn.ext hx5
 replace hrow := hrow.ext hx5
 replace hI := hI.ext hx5
 replace hv5 := hv5.ext hx5
 replace hc5 := hc5.ext hx5
 replace hv6 := hv6.ext hx5
 replace hc6 := hc6.ext hx5
 replace hc10 := hc10.ext hx5
 replace hv10 := hv10.ext hx5
 first | refine Rg.tm trivial rfl (t_pickT rfl rfl) rfl ?_ | refine Rg.tm trivial rfl (t_pickF rfl rfl) rfl ?_
 refine Rg.done ?_
 by_cases hsame : s.val (0,ka,kb) = (xs,t)
 ·have hset : s.set (0,ka,kb) (xs,t) = s := by exact if_pos hsame
  rw [hset]
  rw [show decide (((s.val (0,ka,kb)).1,(s.val (0,ka,kb)).2) = (xs,t)) = true from decide_eq_true hsame]
  refine Wp.condT rfl ?_
  refine Wp.seq (Wp.region ?_)
  refine Rg.tm trivial rfl (t_assign rfl) rfl ?_
  refine Rg.tm trivial rfl (t_assign rfl) rfl ?_
  refine Rg.done ?_
  refine Wp.ret ?_
  exact ⟨[_,_],⟨rfl,rfl,trivial⟩,⟨false,rfl⟩,hI,hx.kp _⟩
 ·have hset : s.set (0,ka,kb) (xs,t) = ⟨s.rev + 1,ups s.cells (0,ka,kb) ((xs,t),s.rev + 1)⟩ := by exact if_neg hsame
  rw [hset]
  rw [show decide (((s.val (0,ka,kb)).1,(s.val (0,ka,kb)).2) = (xs,t)) = false from decide_eq_false hsame]
  replace hR : Rel3 (CellV _) l s.cells := hR.mono fun _ _ h => (h.ext (by rw [hw0]; exact hx))
  have hk := hx.kp [bI,bM]
  clear hx hrow hI
  refine Wp.condF rfl ?_
  refine Wp.skip ?_
  refine Wp.seq (Wp.region ?_)
  refine Rg.tm trivial rfl (t_move rfl) rfl ?_
  refine Rg.tm trivial rfl (t_nilCheck rfl) rfl ?_
  refine Rg.tm trivial rfl (t_fieldAddr fa112_0 rfl) rfl ?_
  refine Rg.tm trivial rfl (t_load ty3 rfl (by apply Cells.get (i := 0); (case h => assumption); rfl)) rfl ?_
  first | refine Rg.tm trivial rfl (t_addI rfl rfl (by omega)) rfl ?_ | refine Rg.tm trivial rfl (t_add rfl rfl) rfl ?_
  refine Rg.tm trivial rfl (t_nilCheck rfl) rfl ?_
  refine Rg.tm trivial rfl (t_fieldAddr fa112_0 rfl) rfl ?_
  refine Rg.wn trivial (w_putF hv ty3 rfl rfl rfl rfl rfl) ?_
  rintro _ wb ⟨hu,hv'⟩
  replace hk := hk.trans (hu.kp (by simp))
  replace hM := hM.upd hv hu
  replace hR : Rel3 (CellV _) l s.cells := hR.mono fun _ _ h => h.upd hv hu (by decide)
  replace hn : RowI _ _ _ := Row.upd hn hv hu (by decide)
  replace hv10 := hv10.upd hu (hv10.ne hv (by decide))
  replace hv5 := hv5.upd hu (hv5.ne hv (by decide))
  replace hv6 := hv6.upd hu (hv6.ne hv (by decide))
  clear hv hcI hc10 hc5 hc6
  have hv : Var wb bI [.int .i64 (s.rev + 1),.int .i64 s.rev,.int .i64 l1,.int .i64 l2,.map (some bM)] 112 := hv'
  have hcI := hv.cells
  have hc10 := hv10.cells
  clear hv'
  refine Rg.done ?_
  refine Wp.seq ?_
  refine Wp.seq (Wp.region ?_)
  refine Rg.tm trivial rfl (t_fieldAddr fa166_2 rfl) rfl ?_
  refine Rg.tm trivial rfl (t_load ty3 rfl (by apply Cells.get (i := 3); (case h => assumption); rfl)) rfl ?_
  refine Rg.tm trivial rfl (t_move rfl) rfl ?_
  refine Rg.tm trivial rfl (t_maxI rfl rfl) rfl ?_
  first | refine Rg.tm trivial rfl (t_addI rfl rfl (by omega)) rfl ?_ | refine Rg.tm trivial rfl (t_add rfl rfl) rfl ?_
  refine Rg.tm trivial rfl (t_move rfl) rfl ?_
  refine Rg.done ?_
  refine Wp.block ?_
  refine Wp.loop (ι := Nat) (fun k => [(0,.pointer (some ⟨bI,0,none⟩)),(3,.int .i64 0),(5,.pointer (some ⟨b5,0,none⟩)),(6,.pointer (some ⟨b6,0,none⟩)),(48,.int .i64 1),(49,.int .i64 k)])
   (fun k w' => k ≤ 1 ∧ Var w' bI [.int .i64 (s.rev + 1),.int .i64 (if k = 0 then s.rev else s.rev + 1),.int .i64 l1,.int .i64 l2,.map (some bM)] 112 ∧ MapR w' bM l ∧ Rel3 (CellV w') l s.cells ∧ RowI w' (.slice pn xs.length cn) xs ∧ Var w' b5 [.int .i64 0,.int .i64 ka,.int .i64 kb] 63 ∧ Var w' b6 [.slice pn xs.length cn,.string t] 66 ∧ Kp [bI,bM] w w')
   (fun k => 1 - k) 0 (by repeat (first | exact .nil | refine .cons rfl ?_)) ⟨Nat.zero_le _,hv,hM,hR,hn,hv5,hv6,hk⟩ ?_
  clear hk hv hM hn hv5 hv6 hcI hc10 hv10 hR
  rintro k w3 ⟨hkk,hv,hM,hR,hn,hv5,hv6,hk⟩
  have hcI := hv.cells
  have hc5 := hv5.cells
  have hc6 := hv6.cells
  by_cases hlt : k < 1
  ·obtain rfl : k = 0 := by omega
   rw [if_pos rfl] at hv hcI
   refine Wp.seq (Wp.region ?_)
   first | refine Rg.tm trivial rfl (t_lssT rfl rfl (by omega)) rfl ?_ | refine Rg.tm trivial rfl (t_lssF rfl rfl (by omega)) rfl ?_ | refine Rg.tm trivial rfl (t_lss rfl rfl) rfl ?_
   refine Rg.done ?_
   refine Wp.seq ?_
   refine Wp.condT rfl ?_
   refine Wp.skip ?_
   refine Wp.seq ?_
   refine Wp.block ?_
   refine Wp.seq (Wp.region ?_)
   refine Rg.tm trivial rfl (t_move rfl) rfl ?_
   refine Rg.tm trivial rfl (t_assign rfl) rfl ?_
   refine Rg.done ?_
   refine Wp.draw [0,1,2,3,4,5,6,7,8,9] [0] mixed (by kernel_rfl) (by kernel_rfl) ?_
   intro w6 hx6 _
   replace hv := hv.ext hx6
   replace hM := hM.ext hx6
   replace hn := hn.ext hx6
   replace hv5 := hv5.ext hx6
   replace hv6 := hv6.ext hx6
   replace hcI := hcI.ext hx6
   have hk2 := hk.trans (hx6.kp [bI,bM])
   replace hR : Rel3 (CellV _) l s.cells := hR.mono fun _ _ h => h.ext hx6
   refine Rg.tm trivial rfl (t_move rfl) rfl ?_
   refine Rg.tm trivial rfl (t_move rfl) rfl ?_
   refine Rg.tm trivial rfl (t_move rfl) rfl ?_
   refine Rg.tm trivial rfl (t_nilCheck rfl) rfl ?_
   refine Rg.tm trivial rfl (t_fieldAddr fa112_0 rfl) rfl ?_
   refine Rg.tm trivial rfl (t_load ty3 rfl (by apply Cells.get (i := 0); (case h => assumption); rfl)) rfl ?_
   refine Rg.tm trivial rfl (t_nilCheck rfl) rfl ?_
   refine Rg.tm trivial rfl (t_fieldAddr fa112_1 rfl) rfl ?_
   refine Rg.tm trivial rfl (t_indexAddrA Tryz.underlying110 ty3 rfl rfl (by omega)) rfl ?_
   refine Rg.wnB trivial rfl (w_putF hv ty3 rfl rfl rfl rfl rfl) (by rfl) ?_
   rintro _ wb ⟨hu,hv'⟩
   replace hM := hM.upd hv hu
   replace hR : Rel3 (CellV _) l s.cells := hR.mono fun _ _ h => h.upd hv hu (by decide)
   replace hn : RowI _ _ _ := Row.upd hn hv hu (by decide)
   replace hv5 := hv5.upd hu (hv5.ne hv (by decide))
   replace hv6 := hv6.upd hu (hv6.ne hv (by decide))
   clear hcI hc5 hc6
   have hv2 : Var wb bI [.int .i64 (s.rev + 1),.int .i64 (s.rev + 1),.int .i64 l1,.int .i64 l2,.map (some bM)] 112 := hv'
   refine Rg.done ?_
   refine Wp.region ?_
   first | refine Rg.tm trivial rfl (t_addI rfl rfl (by omega)) rfl ?_ | refine Rg.tm trivial rfl (t_add rfl rfl) rfl ?_
   refine Rg.tm trivial rfl (t_move rfl) rfl ?_
   refine Rg.done ?_
   exact ⟨1,by repeat (first | exact .nil | refine .cons rfl ?_),⟨Nat.le_refl _,hv2,hM,hR,hn,hv5,hv6,hk2.trans (hu.kp (by simp))⟩,by omega⟩
  ·obtain rfl : k = 1 := by omega
   rw [if_neg (by decide)] at hv hcI
   refine Wp.seq (Wp.region ?_)
   first | refine Rg.tm trivial rfl (t_lssT rfl rfl (by omega)) rfl ?_ | refine Rg.tm trivial rfl (t_lssF rfl rfl (by omega)) rfl ?_ | refine Rg.tm trivial rfl (t_lss rfl rfl) rfl ?_
   refine Rg.done ?_
   refine Wp.seq ?_
   refine Wp.condF rfl ?_
   refine Wp.exit ?_
   refine Wp.seq (Wp.draw [0,1,2,3,4,5,7,8,9,10,11,6,12,13] [0] mixed (by kernel_rfl) (by kernel_rfl) ?_)
   intro w6 hx6 _
   replace hv := hv.ext hx6
   replace hM := hM.ext hx6
   replace hn := hn.ext hx6
   replace hv5 := hv5.ext hx6
   replace hv6 := hv6.ext hx6
   replace hcI := hcI.ext hx6
   replace hc5 := hc5.ext hx6
   replace hc6 := hc6.ext hx6
   replace hk := hk.trans (hx6.kp [bI,bM])
   replace hR : Rel3 (CellV _) l s.cells := hR.mono fun _ _ h => h.ext hx6
   refine Rg.tm trivial rfl (t_move rfl) rfl ?_
   refine Rg.tm trivial rfl (t_nilCheck rfl) rfl ?_
   refine Rg.tm trivial rfl (t_fieldAddr fa112_2 rfl) rfl ?_
   refine Rg.tm trivial rfl (t_load ty109 rfl (by apply Cells.get (i := 4); (case h => assumption); rfl)) rfl ?_
   refine Rg.tm trivial rfl (t_loadA rfl hc5 ty63) rfl ?_
   refine Rg.tm trivial rfl (t_loadA rfl hc6 ty66) rfl ?_
   refine Rg.tm trivial rfl (t_move rfl) rfl ?_
   refine Rg.tm trivial rfl (t_nilCheck rfl) rfl ?_
   refine Rg.tm trivial rfl (t_fieldAddr fa112_0 rfl) rfl ?_
   refine Rg.tm trivial rfl (t_load ty3 rfl (by apply Cells.get (i := 0); (case h => assumption); rfl)) rfl ?_
   refine Rg.tm trivial rfl (t_move rfl) rfl ?_
   refine Rg.wdB trivial rfl (w_call Tryz.call100 rfl (cloneV_ok hn.slc (by omega))) rfl (fun _ _ h => h.2) ?_
   rintro _ w7 ⟨⟨p8,c8,rfl,ho8⟩,hx7⟩
   replace hk := hk.trans (hx7.kp [bI,bM])
   replace hR : Rel3 (CellV _) l s.cells := hR.mono fun _ _ h => h.ext hx7
   have hr8 : RowI _ _ xs := RowI.own ho8
   replace hv := hv.ext hx7
   replace hM := hM.ext hx7
   replace hn := hn.ext hx7
   replace hv5 := hv5.ext hx7
   replace hv6 := hv6.ext hx7
   replace hcI := hcI.ext hx7
   replace hc5 := hc5.ext hx7
   replace hc6 := hc6.ext hx7
   refine Rg.tm trivial rfl (t_build (bd166_0_1_2 _ _ _ _ _ _) rfl) rfl ?_
   refine Rg.wnB trivial rfl (w_mapSet3 (key := (0,ka,kb)) key3 Tryz.underlying109 rfl rfl rfl hM) (by rfl) ?_
   rintro _ wb ⟨hu,hM'⟩
   replace hk := hk.trans (hu.kp (by simp))
   replace hR : Rel3 (CellV wb) l s.cells := hR.mono fun _ _ h => h.mapR hM hu
   have hnew : CellV wb (.agg #[.slice p8 xs.length c8,.string t,.int .i64 (s.rev + 1),.int .i64 0]) ((xs,t),s.rev + 1) := ⟨_,rfl,Row.mapR hr8 hM hu,hl⟩
   have hI' : InsA wb bI bM ⟨s.rev + 1,ups s.cells (0,ka,kb) ((xs,t),s.rev + 1)⟩ := ⟨⟨_,_,hv.mapR hM hu⟩,_,hM',hR.put (0,ka,kb) hnew⟩
   refine Rg.done ?_
   refine Wp.seq (Wp.region ?_)
   refine Rg.tm trivial rfl (t_assign rfl) rfl ?_
   refine Rg.tm trivial rfl (t_assign rfl) rfl ?_
   refine Rg.done ?_
   refine Wp.ret ?_
   exact ⟨[_,_],⟨rfl,rfl,trivial⟩,⟨true,rfl⟩,hI',hk⟩
theorem bd112m (x : Option Nat) (w : World) : (Instr.build 112 [(2,.map x)].toArray).run Tryz.prog w = .ok (.agg #[.int .i64 0,.int .i64 0,.int .i64 0,.int .i64 0,.map x]) w := by kernel_rfl
theorem inputsNew_ok {w : World} : Cl Tryz.prog 40 #[] w (fun u w' => (∃ bI bM,u = .pointer (some ⟨bI,0,none⟩) ∧ w.heap.size ≤ bI ∧ w.heap.size ≤ bM ∧ bI ≠ bM ∧ InsA w' bI bM ⟨0,[]⟩) ∧ Ext w w') := by
 have hx := Ext.refl w
 refine Cl.enter Tryz.func40 rfl Tryz.ntmps40 rfl rfl ?_
 refine Wp.seq (Wp.region ?_)
 refine Rg.tm trivial rfl (t_assign rfl) rfl ?_
 refine Rg.done ?_
 refine Wp.seq (Wp.region ?_)
 refine Rg.wd trivial (w_makeMap3) rfl ?_
 rintro _ w1 ⟨bM,rfl,qM,hx1,hm⟩
 replace hx := hx.ext hx1
 refine Rg.tm trivial rfl (t_build (bd112m _) rfl) rfl ?_
 refine Rg.wd trivial (w_boxed rfl rfl) rfl ?_
 rintro _ w2 ⟨bI,rfl,qI,hx2,hv⟩
 have hle := hx.le
 replace hx := hx.ext hx2
 replace hm := hm.ext hx2
 refine Rg.tm trivial rfl (t_assign rfl) rfl ?_
 refine Rg.done ?_
 refine Wp.ret ?_
 exact ⟨[_],⟨rfl,trivial⟩,⟨bI,bM,rfl,by omega,by omega,hm.ne hv,⟨⟨_,_,hv⟩,[],hm,trivial⟩⟩,hx⟩
end Go.Proofs.YtliofpegbcegiaaGreatDoor
namespace Go.Proofs.YtliofpegbcegiaaGreatDoor
set_option maxRecDepth 20000
open Go.Gx Go.RowKit Go.Lib
def encs {α : Type} (f : α → List Value) (l : List α) : List Value := l.flatMap f
theorem encs_len {α : Type} {f : α → List Value} {k : Nat} (hf : ∀ a,(f a).length = k) : ∀ l : List α,(encs f l).length = l.length * k
 | [] => by simp [encs]
 | a :: l => by
  have ih := encs_len hf l
  unfold encs at ih ⊢
  rw [List.flatMap_cons,List.length_append,hf a,ih,List.length_cons,Nat.add_mul,Nat.one_mul,Nat.add_comm]
theorem encs_drop {α : Type} {f : α → List Value} {k : Nat} (hf : ∀ a,(f a).length = k) : ∀ (l : List α) (i : Nat),(encs f l).drop (i * k) = encs f (l.drop i)
 | [],i => by simp [encs]
 | a :: l,0 => by simp
 | a :: l,i + 1 => by
  have ih := encs_drop hf l i
  unfold encs at ih ⊢
  rw [List.flatMap_cons,List.drop_succ_cons,← ih,List.drop_append,List.drop_eq_nil_of_le (by rw [hf a,Nat.add_mul]; omega),List.nil_append]
  congr 1
  rw [hf a,Nat.add_mul]; omega
theorem encs_take {α : Type} {f : α → List Value} {k : Nat} (hf : ∀ a,(f a).length = k) : ∀ (l : List α) (i : Nat),(encs f l).take (i * k) = encs f (l.take i)
 | [],i => by simp [encs]
 | a :: l,0 => by simp [encs]
 | a :: l,i + 1 => by
  have ih := encs_take hf l i
  unfold encs at ih ⊢
  rw [List.flatMap_cons,List.take_succ_cons,List.flatMap_cons,← ih,List.take_append,List.take_of_length_le (by rw [hf a,Nat.add_mul]; omega)]
  congr 2
  rw [hf a,Nat.add_mul]; omega
theorem encs_at {α : Type} {f : α → List Value} {k : Nat} (hf : ∀ a,(f a).length = k) (l : List α) (i : Nat) (h : i < l.length) : ((encs f l).drop (i * k)).take k = f l[i] := by
 rw [encs_drop hf,List.drop_eq_getElem_cons h]
 unfold encs
 rw [List.flatMap_cons,List.take_left' (hf _)]
theorem encs_one {α : Type} {f : α → List Value} (hf : ∀ a,∀ u ∈ f a,u.oneCell' = true) (l : List α) : ∀ u ∈ encs f l,u.oneCell' = true := fun u hu => by
 obtain ⟨a,_,h⟩ := List.mem_flatMap.1 hu
 exact hf a u h
theorem encs_append {α : Type} (f : α → List Value) (l m : List α) : encs f (l ++ m) = encs f l ++ encs f m := by unfold encs; rw [List.flatMap_append]
theorem encs_single {α : Type} (f : α → List Value) (a : α) : encs f [a] = f a := by simp [encs]
def kc (k : Key) : List Value := [.int .i64 k.1,.int .i64 k.2.1,.int .i64 k.2.2]
def mc (m : MD) : List Value := [.string m.1,.string m.2]
def rc (r : Rq) : List Value := [.int .i64 r.client,.int .i64 r.id,.int .i64 r.query,.int .i64 r.arg,.string r.name]
theorem kc_len (k : Key) : (kc k).length = 3 := rfl
theorem mc_len (m : MD) : (mc m).length = 2 := rfl
theorem rc_len (r : Rq) : (rc r).length = 5 := rfl
theorem kc_one (k : Key) : ∀ u ∈ kc k,u.oneCell' = true := by intro u hu; simp [kc] at hu; rcases hu with rfl | rfl | rfl <;> rfl
theorem mc_one (m : MD) : ∀ u ∈ mc m,u.oneCell' = true := by intro u hu; simp [mc] at hu; rcases hu with rfl | rfl <;> rfl
theorem rc_one (r : Rq) : ∀ u ∈ rc r,u.oneCell' = true := by intro u hu; simp [rc] at hu; rcases hu with rfl | rfl | rfl | rfl | rfl <;> rfl
theorem idxF_step {α : Type} (q : α → Bool) : ∀ (l : List α) (k j : Nat) (h : j < l.length),(∀ i (hi : i < j),q (l[i]'(by omega)) = false) → q l[j] = true → idxF q k l = (k + j : Nat)
 | a :: l,k,0,h,_,hq => by unfold idxF; rw [if_pos (by simpa using hq)]; simp
 | a :: l,k,j + 1,h,hpre,hq => by
  unfold idxF
  rw [if_neg (by have := hpre 0 (by omega); simpa using this),idxF_step q l (k + 1) j (by simpa using h) (fun i hi => by have := hpre (i + 1) (by omega); simpa using this) (by simpa using hq)]
  congr 1; omega
theorem idxF_neg {α : Type} (q : α → Bool) : ∀ (l : List α) (k : Nat),(∀ i (hi : i < l.length),q l[i] = false) → idxF q k l = -1
 | [],k,_ => rfl
 | a :: l,k,hpre => by
  unfold idxF
  rw [if_neg (by have := hpre 0 (by simp); simpa using this)]
  exact idxF_neg q l (k + 1) fun i hi => by have := hpre (i + 1) (by simp; omega); simpa using this
theorem idxF_find {α : Type} (q : α → Bool) : ∀ (l : List α) (k : Nat),idxF q k l = match l.findIdx? q with | some i => ((k + i : Nat) : Int) | none => -1
 | [],k => rfl
 | a :: l,k => by
  unfold idxF
  rw [List.findIdx?_cons]
  by_cases h : q a = true
  ·rw [if_pos h,if_pos h]; simp
  ·rw [if_neg h,if_neg h,idxF_find q l (k + 1)]
   cases l.findIdx? q with
   | none => rfl
   | some i =>
    show ((k + 1 + i : Nat) : Int) = ((k + (i + 1) : Nat) : Int)
    congr 1; omega
theorem idxF_any {α : Type} (q : α → Bool) (l : List α) (k : Nat) : decide (idxF q k l ≥ 0) = l.any q := by
 rw [idxF_find]
 cases h : l.findIdx? q with
 | none =>
  rw [List.findIdx?_eq_none_iff] at h
  have : l.any q = false := by rw [List.any_eq_false]; intro x hx; rw [h x hx]; simp
  rw [this]; simp
 | some i =>
  obtain ⟨hi,hq,_⟩ := List.findIdx?_eq_some_iff_getElem.1 h
  have : l.any q = true := List.any_eq_true.2 ⟨l[i],by simp,hq⟩
  rw [this]
  simp only [decide_eq_true_eq]
  omega
theorem indexFK_ok {w : World} {v : Value} {l : List Key} {f : FuncId} {cap : List Value} {q : Key → Bool} (hs0 : SlC w v 3 l.length (encs kc l)) (hl : l.length ≤ 1000) (hcf : ∀ (args : Array Value) (w : World),(callFunc f args).run Tryz.prog w = .ok (.enter f args) w)
  (hq : ∀ (w' : World) (a : Key),a ∈ l → Ext w w' → Cl Tryz.prog f (([.agg (kc a).toArray] : List Value) ++ cap).toArray w' (fun u w'' => u = .bool (q a) ∧ Ext w' w'')) :
  Cl Tryz.prog 142 #[v,.func (.func f) #[] cap.toArray] w (fun u w' => u = .int .i64 (idxF q 0 l) ∧ Ext w w') := by
 have hx := Ext.refl w
 refine Cl.enter Tryz.func142 rfl Tryz.ntmps142 rfl rfl ?_
 refine Wp.seq (Wp.region ?_)
 refine Rg.tm trivial rfl (t_assign rfl) rfl ?_
 refine Rg.done ?_
 refine Wp.seq ?_
 refine Wp.seq (Wp.region ?_)
 refine Rg.tm trivial rfl (t_move rfl) rfl ?_
 refine Rg.tm trivial rfl (t_lenC hs0 Tryz.underlying106 rfl) rfl ?_
 refine Rg.tm trivial rfl (t_move rfl) rfl ?_
 refine Rg.done ?_
 refine Wp.block ?_
 refine Wp.loop (ι := Nat) (fun k => [(0,v),(1,.func (.func f) #[] cap.toArray),(7,.int .i64 l.length),(8,.int .i64 k)])
  (fun k w' => k ≤ l.length ∧ (∀ i (hi : i < k) (hk : i < l.length),q l[i] = false) ∧ Ext w w') (fun k => l.length - k) 0 (by repeat (first | exact .nil | refine .cons rfl ?_)) ⟨Nat.zero_le _,fun i hi => by omega,hx⟩ ?_
 clear hx
 rintro k w3 ⟨hk,hpre,hx⟩
 by_cases hlt : k < l.length
 ·skip
  refine Wp.seq (Wp.region ?_)
  first | refine Rg.tm trivial rfl (t_lssT rfl rfl (by omega)) rfl ?_ | refine Rg.tm trivial rfl (t_lssF rfl rfl (by omega)) rfl ?_ | refine Rg.tm trivial rfl (t_lss rfl rfl) rfl ?_
  refine Rg.done ?_
  refine Wp.seq ?_
  refine Wp.condT rfl ?_
  refine Wp.skip ?_
  refine Wp.seq ?_
  refine Wp.block ?_
  refine Wp.seq (Wp.region ?_)
  refine Rg.tm trivial rfl (t_move rfl) rfl ?_
  refine Rg.tm trivial rfl (t_assign rfl) rfl ?_
  refine Rg.done ?_
  refine Wp.seq (Wp.region ?_)
  refine Rg.tm trivial rfl (t_move rfl) rfl ?_
  refine Rg.tm trivial rfl (t_move rfl) rfl ?_
  refine Rg.tm trivial rfl (t_move rfl) rfl ?_
  refine Rg.ix hs0 trivial rfl rfl Tryz.underlying106 ty63 (by omega) rfl ?_
  intro bt14 ot14 ht14
  replace ht14 := ht14.ext hx
  rw [Int.toNat_natCast,encs_at kc_len l k hlt] at ht14
  refine Rg.tm trivial rfl (t_loadA rfl ht14 ty63) rfl ?_
  refine Rg.wd trivial (w_callK rfl hcf rfl (hq _ l[k] (by simp) hx)) rfl ?_
  rintro _ w1 ⟨rfl,hx1⟩
  replace hx := hx.ext hx1
  replace ht14 := ht14.ext hx1
  refine Rg.done ?_
  cases hqk : q l[k] with
  | true =>
   refine Wp.condT rfl ?_
   refine Wp.seq (Wp.region ?_)
   refine Rg.tm trivial rfl (t_move rfl) rfl ?_
   refine Rg.tm trivial rfl (t_assign rfl) rfl ?_
   refine Rg.done ?_
   refine Wp.ret ?_
   exact ⟨[_],⟨rfl,trivial⟩,by rw [idxF_step q l 0 k hlt (fun i hi => hpre i hi (by omega)) hqk]; simp [tup],hx⟩
  | false =>
   refine Wp.condF rfl ?_
   refine Wp.skip ?_
   refine Wp.region ?_
   first | refine Rg.tm trivial rfl (t_addI rfl rfl (by omega)) rfl ?_ | refine Rg.tm trivial rfl (t_add rfl rfl) rfl ?_
   refine Rg.tm trivial rfl (t_move rfl) rfl ?_
   refine Rg.done ?_
   refine ⟨k + 1,by repeat (first | exact .nil | refine .cons rfl ?_),⟨hlt,fun i hi hil => ?_,hx⟩,by omega⟩
   rcases Nat.lt_succ_iff_lt_or_eq.1 hi with h | h
   ·exact hpre i h hil
   ·subst h; exact hqk
 ·skip
  refine Wp.seq (Wp.region ?_)
  first | refine Rg.tm trivial rfl (t_lssT rfl rfl (by omega)) rfl ?_ | refine Rg.tm trivial rfl (t_lssF rfl rfl (by omega)) rfl ?_ | refine Rg.tm trivial rfl (t_lss rfl rfl) rfl ?_
  refine Rg.done ?_
  refine Wp.seq ?_
  refine Wp.condF rfl ?_
  refine Wp.exit ?_
  refine Wp.seq (Wp.region ?_)
  refine Rg.tm trivial rfl (t_assign rfl) rfl ?_
  refine Rg.done ?_
  refine Wp.ret ?_
  exact ⟨[_],⟨rfl,trivial⟩,by rw [idxF_neg q l 0 fun i hi => hpre i (by omega) hi]; rfl,hx⟩
theorem indexFQ_ok {w : World} {v : Value} {l : List Rq} {f : FuncId} {cap : List Value} {q : Rq → Bool} (hs0 : SlC w v 5 l.length (encs rc l)) (hl : l.length ≤ 1000) (hcf : ∀ (args : Array Value) (w : World),(callFunc f args).run Tryz.prog w = .ok (.enter f args) w)
  (hq : ∀ (w' : World) (a : Rq),a ∈ l → Ext w w' → Cl Tryz.prog f (([.agg (rc a).toArray] : List Value) ++ cap).toArray w' (fun u w'' => u = .bool (q a) ∧ Ext w' w'')) :
  Cl Tryz.prog 71 #[v,.func (.func f) #[] cap.toArray] w (fun u w' => u = .int .i64 (idxF q 0 l) ∧ Ext w w') := by
 have hx := Ext.refl w
 refine Cl.enter Tryz.func71 rfl Tryz.ntmps71 rfl rfl ?_
 refine Wp.seq (Wp.region ?_)
 refine Rg.tm trivial rfl (t_assign rfl) rfl ?_
 refine Rg.done ?_
 refine Wp.seq ?_
 refine Wp.seq (Wp.region ?_)
 refine Rg.tm trivial rfl (t_move rfl) rfl ?_
 refine Rg.tm trivial rfl (t_lenC hs0 Tryz.underlying38 rfl) rfl ?_
 refine Rg.tm trivial rfl (t_move rfl) rfl ?_
 refine Rg.done ?_
 refine Wp.block ?_
 refine Wp.loop (ι := Nat) (fun k => [(0,v),(1,.func (.func f) #[] cap.toArray),(7,.int .i64 l.length),(8,.int .i64 k)])
  (fun k w' => k ≤ l.length ∧ (∀ i (hi : i < k) (hk : i < l.length),q l[i] = false) ∧ Ext w w') (fun k => l.length - k) 0 (by repeat (first | exact .nil | refine .cons rfl ?_)) ⟨Nat.zero_le _,fun i hi => by omega,hx⟩ ?_
 clear hx
 rintro k w3 ⟨hk,hpre,hx⟩
 by_cases hlt : k < l.length
 ·skip
  refine Wp.seq (Wp.region ?_)
  first | refine Rg.tm trivial rfl (t_lssT rfl rfl (by omega)) rfl ?_ | refine Rg.tm trivial rfl (t_lssF rfl rfl (by omega)) rfl ?_ | refine Rg.tm trivial rfl (t_lss rfl rfl) rfl ?_
  refine Rg.done ?_
  refine Wp.seq ?_
  refine Wp.condT rfl ?_
  refine Wp.skip ?_
  refine Wp.seq ?_
  refine Wp.block ?_
  refine Wp.seq (Wp.region ?_)
  refine Rg.tm trivial rfl (t_move rfl) rfl ?_
  refine Rg.tm trivial rfl (t_assign rfl) rfl ?_
  refine Rg.done ?_
  refine Wp.seq (Wp.region ?_)
  refine Rg.tm trivial rfl (t_move rfl) rfl ?_
  refine Rg.tm trivial rfl (t_move rfl) rfl ?_
  refine Rg.tm trivial rfl (t_move rfl) rfl ?_
  refine Rg.ix hs0 trivial rfl rfl Tryz.underlying38 ty27 (by omega) rfl ?_
  intro bt14 ot14 ht14
  replace ht14 := ht14.ext hx
  rw [Int.toNat_natCast,encs_at rc_len l k hlt] at ht14
  refine Rg.tm trivial rfl (t_loadA rfl ht14 ty27) rfl ?_
  refine Rg.wd trivial (w_callK rfl hcf rfl (hq _ l[k] (by simp) hx)) rfl ?_
  rintro _ w1 ⟨rfl,hx1⟩
  replace hx := hx.ext hx1
  replace ht14 := ht14.ext hx1
  refine Rg.done ?_
  cases hqk : q l[k] with
  | true =>
   refine Wp.condT rfl ?_
   refine Wp.seq (Wp.region ?_)
   refine Rg.tm trivial rfl (t_move rfl) rfl ?_
   refine Rg.tm trivial rfl (t_assign rfl) rfl ?_
   refine Rg.done ?_
   refine Wp.ret ?_
   exact ⟨[_],⟨rfl,trivial⟩,by rw [idxF_step q l 0 k hlt (fun i hi => hpre i hi (by omega)) hqk]; simp [tup],hx⟩
  | false =>
   refine Wp.condF rfl ?_
   refine Wp.skip ?_
   refine Wp.region ?_
   first | refine Rg.tm trivial rfl (t_addI rfl rfl (by omega)) rfl ?_ | refine Rg.tm trivial rfl (t_add rfl rfl) rfl ?_
   refine Rg.tm trivial rfl (t_move rfl) rfl ?_
   refine Rg.done ?_
   refine ⟨k + 1,by repeat (first | exact .nil | refine .cons rfl ?_),⟨hlt,fun i hi hil => ?_,hx⟩,by omega⟩
   rcases Nat.lt_succ_iff_lt_or_eq.1 hi with h | h
   ·exact hpre i h hil
   ·subst h; exact hqk
 ·skip
  refine Wp.seq (Wp.region ?_)
  first | refine Rg.tm trivial rfl (t_lssT rfl rfl (by omega)) rfl ?_ | refine Rg.tm trivial rfl (t_lssF rfl rfl (by omega)) rfl ?_ | refine Rg.tm trivial rfl (t_lss rfl rfl) rfl ?_
  refine Rg.done ?_
  refine Wp.seq ?_
  refine Wp.condF rfl ?_
  refine Wp.exit ?_
  refine Wp.seq (Wp.region ?_)
  refine Rg.tm trivial rfl (t_assign rfl) rfl ?_
  refine Rg.done ?_
  refine Wp.ret ?_
  exact ⟨[_],⟨rfl,trivial⟩,by rw [idxF_neg q l 0 fun i hi => hpre i (by omega) hi]; rfl,hx⟩
theorem indexFM_ok {w : World} {v : Value} {l : List MD} {f : FuncId} {cap : List Value} {q : MD → Bool} (hs0 : SlC w v 2 l.length (encs mc l)) (hl : l.length ≤ 1000) (hcf : ∀ (args : Array Value) (w : World),(callFunc f args).run Tryz.prog w = .ok (.enter f args) w)
  (hq : ∀ (w' : World) (a : MD),a ∈ l → Ext w w' → Cl Tryz.prog f (([.agg (mc a).toArray] : List Value) ++ cap).toArray w' (fun u w'' => u = .bool (q a) ∧ Ext w' w'')) :
  Cl Tryz.prog 77 #[v,.func (.func f) #[] cap.toArray] w (fun u w' => u = .int .i64 (idxF q 0 l) ∧ Ext w w') := by
 have hx := Ext.refl w
 refine Cl.enter Tryz.func77 rfl Tryz.ntmps77 rfl rfl ?_
 refine Wp.seq (Wp.region ?_)
 refine Rg.tm trivial rfl (t_assign rfl) rfl ?_
 refine Rg.done ?_
 refine Wp.seq ?_
 refine Wp.seq (Wp.region ?_)
 refine Rg.tm trivial rfl (t_move rfl) rfl ?_
 refine Rg.tm trivial rfl (t_lenC hs0 Tryz.underlying49 rfl) rfl ?_
 refine Rg.tm trivial rfl (t_move rfl) rfl ?_
 refine Rg.done ?_
 refine Wp.block ?_
 refine Wp.loop (ι := Nat) (fun k => [(0,v),(1,.func (.func f) #[] cap.toArray),(7,.int .i64 l.length),(8,.int .i64 k)])
  (fun k w' => k ≤ l.length ∧ (∀ i (hi : i < k) (hk : i < l.length),q l[i] = false) ∧ Ext w w') (fun k => l.length - k) 0 (by repeat (first | exact .nil | refine .cons rfl ?_)) ⟨Nat.zero_le _,fun i hi => by omega,hx⟩ ?_
 clear hx
 rintro k w3 ⟨hk,hpre,hx⟩
 by_cases hlt : k < l.length
 ·skip
  refine Wp.seq (Wp.region ?_)
  first | refine Rg.tm trivial rfl (t_lssT rfl rfl (by omega)) rfl ?_ | refine Rg.tm trivial rfl (t_lssF rfl rfl (by omega)) rfl ?_ | refine Rg.tm trivial rfl (t_lss rfl rfl) rfl ?_
  refine Rg.done ?_
  refine Wp.seq ?_
  refine Wp.condT rfl ?_
  refine Wp.skip ?_
  refine Wp.seq ?_
  refine Wp.block ?_
  refine Wp.seq (Wp.region ?_)
  refine Rg.tm trivial rfl (t_move rfl) rfl ?_
  refine Rg.tm trivial rfl (t_assign rfl) rfl ?_
  refine Rg.done ?_
  refine Wp.seq (Wp.region ?_)
  refine Rg.tm trivial rfl (t_move rfl) rfl ?_
  refine Rg.tm trivial rfl (t_move rfl) rfl ?_
  refine Rg.tm trivial rfl (t_move rfl) rfl ?_
  refine Rg.ix hs0 trivial rfl rfl Tryz.underlying49 ty52 (by omega) rfl ?_
  intro bt14 ot14 ht14
  replace ht14 := ht14.ext hx
  rw [Int.toNat_natCast,encs_at mc_len l k hlt] at ht14
  refine Rg.tm trivial rfl (t_loadA rfl ht14 ty52) rfl ?_
  refine Rg.wd trivial (w_callK rfl hcf rfl (hq _ l[k] (by simp) hx)) rfl ?_
  rintro _ w1 ⟨rfl,hx1⟩
  replace hx := hx.ext hx1
  replace ht14 := ht14.ext hx1
  refine Rg.done ?_
  cases hqk : q l[k] with
  | true =>
   refine Wp.condT rfl ?_
   refine Wp.seq (Wp.region ?_)
   refine Rg.tm trivial rfl (t_move rfl) rfl ?_
   refine Rg.tm trivial rfl (t_assign rfl) rfl ?_
   refine Rg.done ?_
   refine Wp.ret ?_
   exact ⟨[_],⟨rfl,trivial⟩,by rw [idxF_step q l 0 k hlt (fun i hi => hpre i hi (by omega)) hqk]; simp [tup],hx⟩
  | false =>
   refine Wp.condF rfl ?_
   refine Wp.skip ?_
   refine Wp.region ?_
   first | refine Rg.tm trivial rfl (t_addI rfl rfl (by omega)) rfl ?_ | refine Rg.tm trivial rfl (t_add rfl rfl) rfl ?_
   refine Rg.tm trivial rfl (t_move rfl) rfl ?_
   refine Rg.done ?_
   refine ⟨k + 1,by repeat (first | exact .nil | refine .cons rfl ?_),⟨hlt,fun i hi hil => ?_,hx⟩,by omega⟩
   rcases Nat.lt_succ_iff_lt_or_eq.1 hi with h | h
   ·exact hpre i h hil
   ·subst h; exact hqk
 ·skip
  refine Wp.seq (Wp.region ?_)
  first | refine Rg.tm trivial rfl (t_lssT rfl rfl (by omega)) rfl ?_ | refine Rg.tm trivial rfl (t_lssF rfl rfl (by omega)) rfl ?_ | refine Rg.tm trivial rfl (t_lss rfl rfl) rfl ?_
  refine Rg.done ?_
  refine Wp.seq ?_
  refine Wp.condF rfl ?_
  refine Wp.exit ?_
  refine Wp.seq (Wp.region ?_)
  refine Rg.tm trivial rfl (t_assign rfl) rfl ?_
  refine Rg.done ?_
  refine Wp.ret ?_
  exact ⟨[_],⟨rfl,trivial⟩,by rw [idxF_neg q l 0 fun i hi => hpre i (by omega) hi]; rfl,hx⟩
theorem containsFK_ok {w : World} {v : Value} {l : List Key} {f : FuncId} {cap : List Value} {q : Key → Bool} (hs0 : SlC w v 3 l.length (encs kc l)) (hl : l.length ≤ 1000) (hcf : ∀ (args : Array Value) (w : World),(callFunc f args).run Tryz.prog w = .ok (.enter f args) w)
  (hq : ∀ (w' : World) (a : Key),a ∈ l → Ext w w' → Cl Tryz.prog f (([.agg (kc a).toArray] : List Value) ++ cap).toArray w' (fun u w'' => u = .bool (q a) ∧ Ext w' w'')) :
  Cl Tryz.prog 121 #[v,.func (.func f) #[] cap.toArray] w (fun u w' => u = .bool (l.any q) ∧ Ext w w') := by
 have hx := Ext.refl w
 refine Cl.enter Tryz.func121 rfl Tryz.ntmps121 rfl rfl ?_
 refine Wp.seq (Wp.region ?_)
 refine Rg.tm trivial rfl (t_assign rfl) rfl ?_
 refine Rg.done ?_
 refine Wp.seq (Wp.region ?_)
 refine Rg.tm trivial rfl (t_move rfl) rfl ?_
 refine Rg.tm trivial rfl (t_move rfl) rfl ?_
 refine Rg.wd trivial (w_call Tryz.call142 rfl (indexFK_ok hs0 hl hcf hq)) rfl ?_
 rintro _ w1 ⟨rfl,hx1⟩
 replace hx := hx.ext hx1
 refine Rg.tm trivial rfl (t_geq rfl rfl) rfl ?_
 refine Rg.tm trivial rfl (t_assign rfl) rfl ?_
 refine Rg.done ?_
 refine Wp.ret ?_
 exact ⟨[_],⟨rfl,trivial⟩,by rw [← idxF_any q l 0]; rfl,hx⟩
theorem containsFM_ok {w : World} {v : Value} {l : List MD} {f : FuncId} {cap : List Value} {q : MD → Bool} (hs0 : SlC w v 2 l.length (encs mc l)) (hl : l.length ≤ 1000) (hcf : ∀ (args : Array Value) (w : World),(callFunc f args).run Tryz.prog w = .ok (.enter f args) w)
  (hq : ∀ (w' : World) (a : MD),a ∈ l → Ext w w' → Cl Tryz.prog f (([.agg (mc a).toArray] : List Value) ++ cap).toArray w' (fun u w'' => u = .bool (q a) ∧ Ext w' w'')) :
  Cl Tryz.prog 79 #[v,.func (.func f) #[] cap.toArray] w (fun u w' => u = .bool (l.any q) ∧ Ext w w') := by
 have hx := Ext.refl w
 refine Cl.enter Tryz.func79 rfl Tryz.ntmps79 rfl rfl ?_
 refine Wp.seq (Wp.region ?_)
 refine Rg.tm trivial rfl (t_assign rfl) rfl ?_
 refine Rg.done ?_
 refine Wp.seq (Wp.region ?_)
 refine Rg.tm trivial rfl (t_move rfl) rfl ?_
 refine Rg.tm trivial rfl (t_move rfl) rfl ?_
 refine Rg.wd trivial (w_call Tryz.call77 rfl (indexFM_ok hs0 hl hcf hq)) rfl ?_
 rintro _ w1 ⟨rfl,hx1⟩
 replace hx := hx.ext hx1
 refine Rg.tm trivial rfl (t_geq rfl rfl) rfl ?_
 refine Rg.tm trivial rfl (t_assign rfl) rfl ?_
 refine Rg.done ?_
 refine Wp.ret ?_
 exact ⟨[_],⟨rfl,trivial⟩,by rw [← idxF_any q l 0]; rfl,hx⟩
theorem indexK_ok {w : World} {v : Value} {l : List Key} {x y z : Int} (hs : SlC w v 3 l.length (encs kc l)) (hl : l.length ≤ 1000) :
  Cl Tryz.prog 143 #[v,.agg #[.int .i64 x,.int .i64 y,.int .i64 z]] w (fun u w' => u = .int .i64 (idxF (fun a : Key => decide ((x,y,z) = a)) 0 l) ∧ Ext w w') := by
 have hx := Ext.refl w
 refine Cl.enter Tryz.func143 rfl Tryz.ntmps143 rfl rfl ?_
 refine Wp.seq (Wp.region ?_)
 refine Rg.wd trivial (w_boxed rfl rfl) rfl ?_
 rintro _ w1 ⟨b3,rfl,qb3,hx1,hv3⟩
 replace hx := hx.ext hx1
 replace hs := hs.ext hx1
 refine Rg.tm trivial rfl (t_assign rfl) rfl ?_
 refine Rg.done ?_
 refine Wp.seq ?_
 refine Wp.seq (Wp.region ?_)
 refine Rg.tm trivial rfl (t_move rfl) rfl ?_
 refine Rg.tm trivial rfl (t_lenC hs Tryz.underlying106 rfl) rfl ?_
 refine Rg.tm trivial rfl (t_move rfl) rfl ?_
 refine Rg.done ?_
 refine Wp.block ?_
 refine Wp.loop (ι := Nat) (fun k => [(0,v),(3,.pointer (some ⟨b3,0,none⟩)),(7,.int .i64 l.length),(8,.int .i64 k)])
  (fun k w' => k ≤ l.length ∧ (∀ i (hi : i < k) (hk : i < l.length),decide ((x,y,z) = l[i]) = false) ∧ Var w' b3 [.int .i64 x,.int .i64 y,.int .i64 z] 63 ∧ SlC w' v 3 l.length (encs kc l) ∧ Ext w w') (fun k => l.length - k) 0 (by repeat (first | exact .nil | refine .cons rfl ?_)) ⟨Nat.zero_le _,fun i hi => by omega,hv3,hs,hx⟩ ?_
 clear hx hv3 hs
 rintro k w3 ⟨hk,hpre,hv3,hs,hx⟩
 by_cases hlt : k < l.length
 ·have hc3 := hv3.cells
  refine Wp.seq (Wp.region ?_)
  first | refine Rg.tm trivial rfl (t_lssT rfl rfl (by omega)) rfl ?_ | refine Rg.tm trivial rfl (t_lssF rfl rfl (by omega)) rfl ?_ | refine Rg.tm trivial rfl (t_lss rfl rfl) rfl ?_
  refine Rg.done ?_
  refine Wp.seq ?_
  refine Wp.condT rfl ?_
  refine Wp.skip ?_
  refine Wp.seq ?_
  refine Wp.block ?_
  refine Wp.seq (Wp.region ?_)
  refine Rg.tm trivial rfl (t_move rfl) rfl ?_
  refine Rg.tm trivial rfl (t_assign rfl) rfl ?_
  refine Rg.done ?_
  refine Wp.seq (Wp.draw [0,1,2,3,4,5] [] mixed (by kernel_rfl) (by kernel_rfl) ?_)
  intro w2 hx2 _
  replace hx := hx.ext hx2
  replace hs := hs.ext hx2
  replace hv3 := hv3.ext hx2
  replace hc3 := hc3.ext hx2
  refine Rg.tm trivial rfl (t_loadA rfl hc3 ty63) rfl ?_
  refine Rg.tm trivial rfl (t_move rfl) rfl ?_
  refine Rg.tm trivial rfl (t_move rfl) rfl ?_
  refine Rg.ix hs trivial rfl rfl Tryz.underlying106 ty63 (by omega) rfl ?_
  intro bt14 ot14 ht14
  rw [Int.toNat_natCast,encs_at kc_len l k hlt] at ht14
  refine Rg.tm trivial rfl (t_loadA rfl ht14 ty63) rfl ?_
  refine Rg.tm trivial rfl (t_eqlAgg (xs := #[.int .i64 x,.int .i64 y,.int .i64 z]) (ys := (kc l[k]).toArray) (b := decide ((x,y,z) = l[k])) (by kernel_rfl) (fun w => by have h := key3.eq (x,y,z) l[k] w; exact h) rfl rfl) rfl ?_
  refine Rg.done ?_
  cases hqk : decide ((x,y,z) = l[k]) with
  | true =>
   refine Wp.condT rfl ?_
   refine Wp.seq (Wp.region ?_)
   refine Rg.tm trivial rfl (t_move rfl) rfl ?_
   refine Rg.tm trivial rfl (t_assign rfl) rfl ?_
   refine Rg.done ?_
   refine Wp.ret ?_
   exact ⟨[_],⟨rfl,trivial⟩,by rw [idxF_step _ l 0 k hlt (fun i hi => hpre i hi (by omega)) hqk]; simp [tup],hx⟩
  | false =>
   refine Wp.condF rfl ?_
   refine Wp.skip ?_
   refine Wp.region ?_
   first | refine Rg.tm trivial rfl (t_addI rfl rfl (by omega)) rfl ?_ | refine Rg.tm trivial rfl (t_add rfl rfl) rfl ?_
   refine Rg.tm trivial rfl (t_move rfl) rfl ?_
   refine Rg.done ?_
   refine ⟨k + 1,by repeat (first | exact .nil | refine .cons rfl ?_),⟨hlt,fun i hi hil => ?_,hv3,hs,hx⟩,by omega⟩
   rcases Nat.lt_succ_iff_lt_or_eq.1 hi with h | h
   ·exact hpre i h hil
   ·subst h; exact hqk
 ·skip
  refine Wp.seq (Wp.region ?_)
  first | refine Rg.tm trivial rfl (t_lssT rfl rfl (by omega)) rfl ?_ | refine Rg.tm trivial rfl (t_lssF rfl rfl (by omega)) rfl ?_ | refine Rg.tm trivial rfl (t_lss rfl rfl) rfl ?_
  refine Rg.done ?_
  refine Wp.seq ?_
  refine Wp.condF rfl ?_
  refine Wp.exit ?_
  refine Wp.seq (Wp.region ?_)
  refine Rg.tm trivial rfl (t_assign rfl) rfl ?_
  refine Rg.done ?_
  refine Wp.ret ?_
  exact ⟨[_],⟨rfl,trivial⟩,by rw [idxF_neg _ l 0 fun i hi => hpre i (by omega) hi]; rfl,hx⟩
theorem containsK_ok {w : World} {v : Value} {l : List Key} {x y z : Int} (hs : SlC w v 3 l.length (encs kc l)) (hl : l.length ≤ 1000) :
  Cl Tryz.prog 125 #[v,.agg #[.int .i64 x,.int .i64 y,.int .i64 z]] w (fun u w' => u = .bool (decide ((x,y,z) ∈ l)) ∧ Ext w w') := by
 have hx := Ext.refl w
 refine Cl.enter Tryz.func125 rfl Tryz.ntmps125 rfl rfl ?_
 refine Wp.seq (Wp.region ?_)
 refine Rg.wd trivial (w_boxed rfl rfl) rfl ?_
 rintro _ w1 ⟨b3,rfl,qb3,hx1,hv3⟩
 replace hx := hx.ext hx1
 replace hs := hs.ext hx1
 have hc3 := hv3.cells
 refine Rg.tm trivial rfl (t_assign rfl) rfl ?_
 refine Rg.done ?_
 refine Wp.seq (Wp.region ?_)
 refine Rg.tm trivial rfl (t_move rfl) rfl ?_
 refine Rg.tm trivial rfl (t_loadA rfl hc3 ty63) rfl ?_
 refine Rg.wd trivial (w_call Tryz.call143 rfl (indexK_ok hs hl)) rfl ?_
 rintro _ w2 ⟨rfl,hx2⟩
 replace hx := hx.ext hx2
 replace hs := hs.ext hx2
 replace hv3 := hv3.ext hx2
 replace hc3 := hc3.ext hx2
 refine Rg.tm trivial rfl (t_geq rfl rfl) rfl ?_
 refine Rg.tm trivial rfl (t_assign rfl) rfl ?_
 refine Rg.done ?_
 refine Wp.ret ?_
 refine ⟨[_],⟨rfl,trivial⟩,?_,hx⟩
 have := idxF_any (fun a : Key => decide ((x,y,z) = a)) l 0
 show Value.bool _ = _
 congr 1
 rw [show decide (0 ≤ idxF (fun a : Key => decide ((x,y,z) = a)) 0 l) = l.any (fun a : Key => decide ((x,y,z) = a)) from this]
 rw [Bool.eq_iff_iff]
 simp
def RowK (w : World) (v : Value) (ks : List Key) : Prop := Row w 63 3 v ks.length (encs kc ks)
theorem RowK.ext {w w' : World} {v : Value} {ks : List Key} (h : RowK w v ks) (k : Ext w w') : RowK w' v ks := Row.ext h k
structure ResAt (w : World) (b : Nat) (r : Res) : Prop where
 var : ∃ vn vd chg,Var w b [vn,.string r.val.2,.int .i64 r.ver,.int .i64 chg,.int .i64 0,vd,.int .i64 r.last] 139 ∧ RowI w vn r.val.1 ∧ RowK w vd r.deps
 small : r.val.1.length ≤ 50 ∧ r.deps.length ≤ 50
 zero : ∀ d ∈ r.deps,d.1 = 0
 ne : r.val.1 ≠ []
theorem ResAt.ext {w w' : World} {b : Nat} {r : Res} (h : ResAt w b r) (k : Ext w w') : ResAt w' b r := by
 obtain ⟨⟨vn,vd,chg,h1,h2,h3⟩,h4,h5,h6⟩ := h
 exact ⟨⟨vn,vd,chg,h1.ext k,h2.ext k,h3.ext k⟩,h4,h5,h6⟩
theorem ResAt.upd {w w' : World} {b c t : Nat} {cs : List Value} {r : Res} (h : ResAt w b r) (hv : Var w c cs t) (k : Upd c w w') (hne : b ≠ c) (ht : t ≠ 3) (ht2 : t ≠ 63) : ResAt w' b r := by
 obtain ⟨⟨vn,vd,chg,h1,h2,h3⟩,h4,h5,h6⟩ := h
 exact ⟨⟨vn,vd,chg,h1.upd k hne,Row.upd h2 hv k ht,Row.upd h3 hv k ht2⟩,h4,h5,h6⟩
theorem ResAt.mapR {w w' : World} {b c : Nat} {l : List (K3 × Value)} {r : Res} (h : ResAt w b r) (hm : MapR w c l) (k : Upd c w w') : ResAt w' b r := by
 obtain ⟨⟨vn,vd,chg,h1,h2,h3⟩,h4,h5,h6⟩ := h
 exact ⟨⟨vn,vd,chg,h1.mapR hm k,Row.mapR h2 hm k,Row.mapR h3 hm k⟩,h4,h5,h6⟩
structure DbQ where
 bD : Nat
 bI : Nat
 bM : Nat
 bR : Nat
 bA : Nat
 bF : Nat
 ins : Ins
 act : List (K3 × Value)
 stop : Value
 rs : List (K3 × (Nat × Res))
 comps : Int
 clock : Int
def rptr (p : K3 × (Nat × Res)) : K3 × Value := (p.1,.pointer (some ⟨p.2.1,0,none⟩))
def DbQ.cells (q : DbQ) : List Value := [.func (.func 26) #[] #[.pointer (some ⟨q.bF,0,none⟩)],.pointer (some ⟨q.bI,0,none⟩),.map (some q.bR),.map (some q.bA),q.stop,.int .i64 q.comps,.int .i64 q.clock]
structure DbW (w : World) (q : DbQ) : Prop where
 var : Var w q.bD q.cells 87
 fn : Var w q.bF [.func (.func 13) #[] #[]] 35
 ins : InsA w q.bI q.bM q.ins
 res : MapR w q.bR (q.rs.map rptr)
 act : MapR w q.bA q.act
 each : ∀ p ∈ q.rs,ResAt w p.2.1 p.2.2
 nodup : (q.rs.map (·.2.1)).Nodup
 neMR : q.bM ≠ q.bR
 neMA : q.bM ≠ q.bA
 neRA : q.bR ≠ q.bA
theorem DbW.ext {w w' : World} {q : DbQ} (h : DbW w q) (k : Ext w w') : DbW w' q :=
 ⟨h.var.ext k,h.fn.ext k,h.ins.ext k,h.res.ext k,h.act.ext k,fun p hp => (h.each p hp).ext k,h.nodup,h.neMR,h.neMA,h.neRA⟩
theorem DbW.upd {w w' : World} {q : DbQ} {b t : Nat} {cs : List Value} (h : DbW w q) (hv : Var w b cs t) (k : Upd b w w') (h1 : t ≠ 3) (h2 : t ≠ 63) (h3 : t ≠ 87) (h4 : t ≠ 35) (h5 : t ≠ 112) (h6 : t ≠ 139) : DbW w' q :=
 ⟨h.var.upd k (h.var.ne hv (Ne.symm h3)),h.fn.upd k (h.fn.ne hv (Ne.symm h4)),h.ins.upd hv k h1 h5,h.res.upd hv k,h.act.upd hv k,fun p hp => (h.each p hp).upd hv k (by
  obtain ⟨⟨_,_,_,hr,_⟩,_⟩ := h.each p hp
  exact hr.ne hv (Ne.symm h6)) h1 h2,h.nodup,h.neMR,h.neMA,h.neRA⟩
theorem DbW.own {w w' : World} {q q' : DbQ} (h : DbW w q) (k : Upd q.bD w w') (hv : Var w' q.bD q'.cells 87) (e : q' = { q with stop := q'.stop,comps := q'.comps,clock := q'.clock }) : DbW w' q' := by
 rw [e] at hv ⊢
 exact ⟨hv,h.fn.upd k (h.fn.ne h.var (by decide)),h.ins.upd h.var k (by decide) (by decide),h.res.upd h.var k,h.act.upd h.var k,fun p hp => (h.each p hp).upd h.var k (by
  obtain ⟨⟨_,_,_,hr,_⟩,_⟩ := h.each p hp
  exact hr.ne h.var (by decide)) (by decide) (by decide),h.nodup,h.neMR,h.neMA,h.neRA⟩
theorem DbW.setAct {w w' : World} {q : DbQ} {a : List (K3 × Value)} (h : DbW w q) (k : Upd q.bA w w') (hm : MapR w' q.bA a) : DbW w' { q with act := a } :=
 ⟨h.var.mapR h.act k,h.fn.mapR h.act k,h.ins.mapR h.act k (Ne.symm h.neMA),h.res.keep (k.block _ h.neRA),hm,fun p hp => (h.each p hp).mapR h.act k,h.nodup,h.neMR,h.neMA,h.neRA⟩
theorem changedSince_ok {w : World} {q : DbQ} {ka kb v : Int} (hD : DbW w q) :
  Cl Tryz.prog 123 #[.pointer (some ⟨q.bD,0,none⟩),.agg #[.int .i64 0,.int .i64 ka,.int .i64 kb],.int .i64 v] w (fun u w' => u = .bool (decide (v < (q.ins.get (0,ka,kb)).2)) ∧ Ext w w') := by
 have hx := Ext.refl w
 have hcD := hD.var.cells
 unfold DbQ.cells at hcD
 refine Cl.enter Tryz.func123 rfl Tryz.ntmps123 rfl rfl ?_
 refine Wp.seq (Wp.region ?_)
 refine Rg.wd trivial (w_boxed rfl rfl) rfl ?_
 rintro _ w1 ⟨b4,rfl,qb4,hx1,hv4⟩
 replace hx := hx.ext hx1
 replace hcD := hcD.ext hx1
 replace hD := hD.ext hx1
 have hc4 := hv4.cells
 refine Rg.tm trivial rfl (t_assign rfl) rfl ?_
 refine Rg.done ?_
 refine Wp.seq ?_
 refine Wp.seq (Wp.region ?_)
 refine Rg.tm trivial rfl (t_fieldAddr fa63_0 rfl) rfl ?_
 refine Rg.tm trivial rfl (t_load ty3 rfl (by apply Cells.get (i := 0); (case h => assumption); rfl)) rfl ?_
 first | refine Rg.tm trivial rfl (t_eqlT rfl rfl (by omega)) rfl ?_ | refine Rg.tm trivial rfl (t_eqlF rfl rfl (by omega)) rfl ?_ | refine Rg.tm trivial rfl (t_eql rfl rfl) rfl ?_
 refine Rg.done ?_
 refine Wp.condT rfl ?_
 refine Wp.seq (Wp.cut (fun L w' => ∃ i : Unit,Sub ((fun _ => [(2,.int .i64 v),(8,.int .i64 (q.ins.get (0,ka,kb)).2)]) i) L ∧ (fun _ w' => Ext w w') i w') ?_ ?_)
 ·skip
  refine Wp.drawQ [] mixed ?_
  intro w2 hx2 _
  replace hx := hx.ext hx2
  replace hcD := hcD.ext hx2
  replace hD := hD.ext hx2
  replace hv4 := hv4.ext hx2
  replace hc4 := hc4.ext hx2
  have hxs := Ext.refl w2
  refine Qz.tame (by kernel_rfl) 0 rfl (by kernel_rfl) trivial (tq fun wz hkz => by exact t_move rfl) rfl ?_
  refine Qz.tame (by kernel_rfl) 1 rfl (by kernel_rfl) trivial (tq fun wz hkz => by exact t_nilCheck rfl) rfl ?_
  refine Qz.tame (by kernel_rfl) 2 rfl (by kernel_rfl) trivial (tq fun wz hkz => by exact t_fieldAddr fa87_1 rfl) rfl ?_
  refine Qz.tame (by kernel_rfl) 3 rfl (by kernel_rfl) trivial (tq fun wz hkz => by have q1 := (hD.var.kb hkz hD.var.lt (by simp)).cells; unfold DbQ.cells at q1; have q4 := (hv4.kb hkz hv4.lt (by simp)).cells; exact t_load ty82 rfl (by apply Cells.get (i := 1); (case h => assumption); rfl)) rfl ?_
  refine Qz.tame (by kernel_rfl) 4 rfl (by kernel_rfl) trivial (tq fun wz hkz => by have q1 := (hD.var.kb hkz hD.var.lt (by simp)).cells; unfold DbQ.cells at q1; have q4 := (hv4.kb hkz hv4.lt (by simp)).cells; exact t_loadA rfl q4 ty63) rfl ?_
  refine Qz.alt2 (i := 5) (j := 10) (by kernel_rfl) ?_ ?_
  ·skip
   refine ⟨_,_,rfl,trivial,w_call Tryz.call88 rfl (get_ok hD.ins),rfl,fun _ _ h => h.2.kb hxs.le,?_⟩
   rintro _ w3 ⟨⟨p19,c19,rfl,ho19,hl19⟩,hx3⟩
   replace hx := hx.ext hx3
   replace hcD := hcD.ext hx3
   replace hD := hD.ext hx3
   replace hv4 := hv4.ext hx3
   replace hc4 := hc4.ext hx3
   replace hxs := hxs.ext hx3
   refine Qz.tame (by kernel_rfl) 6 rfl (by kernel_rfl) trivial (tq fun wz hkz => by exact t_move rfl) rfl ?_
   refine Qz.tame (by kernel_rfl) 7 rfl (by kernel_rfl) trivial (tq fun wz hkz => by exact t_extract rfl rfl) rfl ?_
   refine Qz.tame (by kernel_rfl) 8 rfl (by kernel_rfl) trivial (tq fun wz hkz => by exact t_extract rfl rfl) rfl ?_
   refine Qz.tame (by kernel_rfl) 9 rfl (by kernel_rfl) trivial (tq fun wz hkz => by exact t_extract rfl rfl) rfl ?_
   refine Qz.alt1 (i := 10) (by kernel_rfl) ?_
   refine ⟨_,_,rfl,trivial,w_new Tryz.zeroValue66 rfl,rfl,fun _ _ ⟨_,_,_,h,_⟩ => h.kb hxs.le,?_⟩
   have hBb7 := hxs.le
   have hCb7 := hx.le
   rintro _ w4 ⟨b7,rfl,qb7,hx4,hv7⟩
   replace hx := hx.ext hx4
   replace hcD := hcD.ext hx4
   replace hD := hD.ext hx4
   replace hv4 := hv4.ext hx4
   replace hc4 := hc4.ext hx4
   replace hxs := hxs.ext hx4
   refine Qz.alt1 (i := 11) (by kernel_rfl) ?_
   refine ⟨_,_,rfl,trivial,w_put hv7 rfl rfl rfl ty66 rfl rfl,rfl,fun _ _ h => h.1.kb (.inl (by omega)),?_⟩
   rintro _ w5 ⟨hu5,hv7'⟩
   replace hx := hx.upd hu5 (by omega)
   replace hxs := hxs.upd hu5 (by omega)
   refine Qz.tame (by kernel_rfl) 12 rfl (by kernel_rfl) trivial (tq fun wz hkz => by exact t_assign rfl) rfl ?_
   refine Qz.tame (by kernel_rfl) 13 rfl (by kernel_rfl) trivial (tq fun wz hkz => by exact t_assign rfl) rfl ?_
   refine Qz.done (by kernel_rfl) ?_
   exact ⟨(),by repeat (first | exact .nil | refine .cons rfl ?_),hx⟩
  ·skip
   refine ⟨_,_,rfl,trivial,w_new Tryz.zeroValue66 rfl,rfl,fun _ _ ⟨_,_,_,h,_⟩ => h.kb hxs.le,?_⟩
   have hBb7 := hxs.le
   have hCb7 := hx.le
   rintro _ w3 ⟨b7,rfl,qb7,hx3,hv7⟩
   replace hx := hx.ext hx3
   replace hcD := hcD.ext hx3
   replace hD := hD.ext hx3
   replace hv4 := hv4.ext hx3
   replace hc4 := hc4.ext hx3
   replace hxs := hxs.ext hx3
   refine Qz.alt1 (i := 5) (by kernel_rfl) ?_
   refine ⟨_,_,rfl,trivial,w_call Tryz.call88 rfl (get_ok hD.ins),rfl,fun _ _ h => h.2.kb hxs.le,?_⟩
   rintro _ w4 ⟨⟨p19,c19,rfl,ho19,hl19⟩,hx4⟩
   replace hx := hx.ext hx4
   replace hcD := hcD.ext hx4
   replace hD := hD.ext hx4
   replace hv4 := hv4.ext hx4
   replace hc4 := hc4.ext hx4
   replace hxs := hxs.ext hx4
   replace hv7 := hv7.ext hx4
   refine Qz.tame (by kernel_rfl) 6 rfl (by kernel_rfl) trivial (tq fun wz hkz => by exact t_move rfl) rfl ?_
   refine Qz.tame (by kernel_rfl) 7 rfl (by kernel_rfl) trivial (tq fun wz hkz => by exact t_extract rfl rfl) rfl ?_
   refine Qz.tame (by kernel_rfl) 8 rfl (by kernel_rfl) trivial (tq fun wz hkz => by exact t_extract rfl rfl) rfl ?_
   refine Qz.tame (by kernel_rfl) 9 rfl (by kernel_rfl) trivial (tq fun wz hkz => by exact t_extract rfl rfl) rfl ?_
   refine Qz.alt1 (i := 11) (by kernel_rfl) ?_
   refine ⟨_,_,rfl,trivial,w_put hv7 rfl rfl rfl ty66 rfl rfl,rfl,fun _ _ h => h.1.kb (.inl (by omega)),?_⟩
   rintro _ w5 ⟨hu5,hv7'⟩
   replace hx := hx.upd hu5 (by omega)
   replace hxs := hxs.upd hu5 (by omega)
   refine Qz.tame (by kernel_rfl) 12 rfl (by kernel_rfl) trivial (tq fun wz hkz => by exact t_assign rfl) rfl ?_
   refine Qz.tame (by kernel_rfl) 13 rfl (by kernel_rfl) trivial (tq fun wz hkz => by exact t_assign rfl) rfl ?_
   refine Qz.done (by kernel_rfl) ?_
   exact ⟨(),by repeat (first | exact .nil | refine .cons rfl ?_),hx⟩
 ·clear hx hcD hv4 hc4
  rintro L' w5 ⟨_,hs,hx⟩
  refine Wp.sub hs ?_
  refine Wp.seq (Wp.region ?_)
  refine Rg.tm trivial rfl (t_move rfl) rfl ?_
  refine Rg.tm trivial rfl (t_move rfl) rfl ?_
  refine Rg.tm trivial rfl (t_gtr rfl rfl) rfl ?_
  refine Rg.tm trivial rfl (t_assign rfl) rfl ?_
  refine Rg.done ?_
  refine Wp.ret ?_
  exact ⟨[_],⟨rfl,trivial⟩,rfl,hx⟩
theorem valid1_ok {w : World} {q : DbQ} {b2 b3 p : Nat} {r : Res} {k : Key} (hD : DbW w q) (h2 : Var w b2 [.pointer (some ⟨q.bD,0,none⟩)] 60) (h3 : Var w b3 [.pointer (some ⟨p,0,none⟩)] 137) (hr : ResAt w p r) (hk : k.1 = 0) :
  Cl Tryz.prog 122 #[.agg (kc k).toArray,.pointer (some ⟨b2,0,none⟩),.pointer (some ⟨b3,0,none⟩)] w (fun u w' => u = .bool (decide (r.ver < (q.ins.get k).2)) ∧ Ext w w') := by
 have hx := Ext.refl w
 obtain ⟨kq,ka,kb⟩ := k
 obtain rfl : kq = 0 := hk
 have hc2 := h2.cells
 have hc3 := h3.cells
 obtain ⟨⟨vn,vd,chg,hvr,_⟩,_⟩ := hr
 have hcr := hvr.cells
 change Cl _ _ #[.agg #[.int .i64 0,.int .i64 ka,.int .i64 kb],_,_] _ _
 refine Cl.enter Tryz.func122 rfl Tryz.ntmps122 rfl rfl ?_
 refine Wp.seq (Wp.region ?_)
 refine Rg.wd trivial (w_boxed rfl rfl) rfl ?_
 rintro _ w1 ⟨b5,rfl,qb5,hx1,hv5⟩
 replace hx := hx.ext hx1
 replace hc2 := hc2.ext hx1
 replace hc3 := hc3.ext hx1
 replace hcr := hcr.ext hx1
 replace hD := hD.ext hx1
 have hc5 := hv5.cells
 refine Rg.tm trivial rfl (t_assign rfl) rfl ?_
 refine Rg.done ?_
 refine Wp.seq (Wp.draw [0,1,2,3,4,5,6,7] [] mixed (by kernel_rfl) (by kernel_rfl) ?_)
 intro w2 hx2 _
 replace hx := hx.ext hx2
 replace hc2 := hc2.ext hx2
 replace hc3 := hc3.ext hx2
 replace hcr := hcr.ext hx2
 replace hD := hD.ext hx2
 replace hv5 := hv5.ext hx2
 replace hc5 := hc5.ext hx2
 refine Rg.tm trivial rfl (t_load ty60 rfl (by first | assumption | (apply Cells.get (i := 0); (case h => assumption); rfl))) rfl ?_
 refine Rg.tm trivial rfl (t_loadA rfl hc5 ty63) rfl ?_
 refine Rg.tm trivial rfl (t_load ty137 rfl (by first | assumption | (apply Cells.get (i := 0); (case h => assumption); rfl))) rfl ?_
 refine Rg.tm trivial rfl (t_nilCheck rfl) rfl ?_
 refine Rg.tm trivial rfl (t_fieldAddr fa139_1 rfl) rfl ?_
 refine Rg.tm trivial rfl (t_load ty3 rfl (by apply Cells.get (i := 2); (case h => assumption); rfl)) rfl ?_
 refine Rg.wdB trivial rfl (w_call Tryz.call123 rfl (changedSince_ok hD)) rfl (fun _ _ h => h.2) ?_
 rintro _ w3 ⟨rfl,hx3⟩
 replace hx := hx.ext hx3
 replace hc2 := hc2.ext hx3
 replace hc3 := hc3.ext hx3
 replace hcr := hcr.ext hx3
 replace hD := hD.ext hx3
 replace hv5 := hv5.ext hx3
 replace hc5 := hc5.ext hx3
 refine Rg.tm trivial rfl (t_assign rfl) rfl ?_
 refine Rg.done ?_
 refine Wp.ret ?_
 exact ⟨[_],⟨rfl,trivial⟩,rfl,hx⟩
theorem valid_ok {w : World} {q : DbQ} {p : Nat} {r : Res} (hD : DbW w q) (hr : ResAt w p r) :
  Cl Tryz.prog 101 #[.pointer (some ⟨q.bD,0,none⟩),.pointer (some ⟨p,0,none⟩)] w (fun u w' => u = .bool (okI q.ins r) ∧ Ext w w') := by
 have hx := Ext.refl w
 have hcD := hD.var.cells
 unfold DbQ.cells at hcD
 obtain ⟨⟨vn,vd,chg,hvr,hrn,hrd⟩,hsm,hz,_⟩ := id hr
 have hcr := hvr.cells
 refine Cl.enter Tryz.func101 rfl Tryz.ntmps101 rfl rfl ?_
 by_cases h1 : r.ver = q.ins.rev
 ·skip
  refine Wp.seq (Wp.region ?_)
  refine Rg.wd trivial (w_boxed rfl rfl) rfl ?_
  rintro _ w1 ⟨b2,rfl,qb2,hx1,hv2⟩
  replace hx := hx.ext hx1
  replace hcD := hcD.ext hx1
  replace hcr := hcr.ext hx1
  replace hD := hD.ext hx1
  replace hrd := hrd.ext hx1
  replace hr := hr.ext hx1
  have hc2 := hv2.cells
  refine Rg.wd trivial (w_boxed rfl rfl) rfl ?_
  rintro _ w2 ⟨b3,rfl,qb3,hx2,hv3⟩
  replace hx := hx.ext hx2
  replace hcD := hcD.ext hx2
  replace hcr := hcr.ext hx2
  replace hD := hD.ext hx2
  replace hrd := hrd.ext hx2
  replace hr := hr.ext hx2
  replace hv2 := hv2.ext hx2
  replace hc2 := hc2.ext hx2
  have hc3 := hv3.cells
  refine Rg.tm trivial rfl (t_assign rfl) rfl ?_
  refine Rg.done ?_
  refine Wp.seq ?_
  refine Wp.seq (Wp.draw [0,1,2,3,4,5,6,7,8,9,10,11,12,13,14,15,16,17,18,20,21,22,23,19,24,25] [] mixed (by kernel_rfl) (by kernel_rfl) ?_)
  intro w3 hx3 _
  replace hx := hx.ext hx3
  replace hcD := hcD.ext hx3
  replace hcr := hcr.ext hx3
  replace hD := hD.ext hx3
  replace hrd := hrd.ext hx3
  replace hr := hr.ext hx3
  replace hv2 := hv2.ext hx3
  replace hc2 := hc2.ext hx3
  replace hv3 := hv3.ext hx3
  replace hc3 := hc3.ext hx3
  refine Rg.tm trivial rfl (t_load ty137 rfl (by first | assumption | (apply Cells.get (i := 0); (case h => assumption); rfl))) rfl ?_
  refine Rg.tm trivial rfl (t_nilCheck rfl) rfl ?_
  refine Rg.tm trivial rfl (t_fieldAddr fa139_1 rfl) rfl ?_
  refine Rg.tm trivial rfl (t_load ty3 rfl (by apply Cells.get (i := 2); (case h => assumption); rfl)) rfl ?_
  refine Rg.tm trivial rfl (t_load ty60 rfl (by first | assumption | (apply Cells.get (i := 0); (case h => assumption); rfl))) rfl ?_
  refine Rg.tm trivial rfl (t_nilCheck rfl) rfl ?_
  refine Rg.tm trivial rfl (t_fieldAddr fa87_1 rfl) rfl ?_
  refine Rg.tm trivial rfl (t_load ty82 rfl (by apply Cells.get (i := 1); (case h => assumption); rfl)) rfl ?_
  refine Rg.wdB trivial rfl (w_call Tryz.call103 rfl (revision_ok hD.ins)) rfl (fun _ _ h => by rw [h.2]; exact Below.refl _ _) ?_
  rintro _ _ ⟨rfl,rfl⟩
  first | refine Rg.tm trivial rfl (t_eqlT rfl rfl (by omega)) rfl ?_ | refine Rg.tm trivial rfl (t_eqlF rfl rfl (by omega)) rfl ?_ | refine Rg.tm trivial rfl (t_eql rfl rfl) rfl ?_
  refine Rg.tm trivial rfl (t_move rfl) rfl ?_
  first | refine Rg.tm ⟨_,rfl,rfl⟩ rfl (t_load ty60 rfl (by first | assumption | (apply Cells.get (i := 0); (case h => assumption); rfl))) rfl ?_ | refine Rg.so rfl rfl ?_
  first | refine Rg.tm ⟨_,rfl,rfl⟩ rfl (t_nilCheck rfl) rfl ?_ | refine Rg.so rfl rfl ?_
  first | refine Rg.tm ⟨_,rfl,rfl⟩ rfl (t_fieldAddr fa87_1 rfl) rfl ?_ | refine Rg.so rfl rfl ?_
  first | refine Rg.tm ⟨_,rfl,rfl⟩ rfl (t_load ty82 rfl (by apply Cells.get (i := 1); (case h => assumption); rfl)) rfl ?_ | refine Rg.so rfl rfl ?_
  first | refine Rg.tm ⟨_,rfl,rfl⟩ rfl (t_load ty137 rfl (by first | assumption | (apply Cells.get (i := 0); (case h => assumption); rfl))) rfl ?_ | refine Rg.so rfl rfl ?_
  first | refine Rg.tm ⟨_,rfl,rfl⟩ rfl (t_nilCheck rfl) rfl ?_ | refine Rg.so rfl rfl ?_
  first | refine Rg.tm ⟨_,rfl,rfl⟩ rfl (t_fieldAddr fa139_3 rfl) rfl ?_ | refine Rg.so rfl rfl ?_
  first | refine Rg.tm ⟨_,rfl,rfl⟩ rfl (t_load ty3 rfl (by apply Cells.get (i := 4); (case h => assumption); rfl)) rfl ?_ | refine Rg.so rfl rfl ?_
  first | refine Rg.tm ⟨_,rfl,rfl⟩ rfl (t_load ty137 rfl (by first | assumption | (apply Cells.get (i := 0); (case h => assumption); rfl))) rfl ?_ | refine Rg.so rfl rfl ?_
  first | refine Rg.tm ⟨_,rfl,rfl⟩ rfl (t_nilCheck rfl) rfl ?_ | refine Rg.so rfl rfl ?_
  first | refine Rg.tm ⟨_,rfl,rfl⟩ rfl (t_fieldAddr fa139_1 rfl) rfl ?_ | refine Rg.so rfl rfl ?_
  first | refine Rg.tm ⟨_,rfl,rfl⟩ rfl (t_load ty3 rfl (by apply Cells.get (i := 2); (case h => assumption); rfl)) rfl ?_ | refine Rg.so rfl rfl ?_
  refine Rg.so rfl rfl ?_
  first | refine Rg.tm ⟨_,rfl,rfl⟩ rfl (t_leqT rfl rfl (by omega)) rfl ?_ | refine Rg.tm ⟨_,rfl,rfl⟩ rfl (t_leqF rfl rfl (by omega)) rfl ?_ | refine Rg.tm ⟨_,rfl,rfl⟩ rfl (t_leq rfl rfl) rfl ?_ | refine Rg.so rfl rfl ?_
  first | refine Rg.tm trivial rfl (t_pickT rfl rfl) rfl ?_ | refine Rg.tm trivial rfl (t_pickF rfl rfl) rfl ?_
  refine Rg.done ?_
  refine Wp.condT rfl ?_
  refine Wp.seq (Wp.region ?_)
  refine Rg.tm trivial rfl (t_assign rfl) rfl ?_
  refine Rg.done ?_
  refine Wp.ret ?_
  exact ⟨[_],⟨rfl,trivial⟩,by simp [okI,h1,tup],hx⟩
 ·by_cases h2 : q.ins.rev ≤ r.ver
  ·skip
   refine Wp.seq (Wp.region ?_)
   refine Rg.wd trivial (w_boxed rfl rfl) rfl ?_
   rintro _ w1 ⟨b2,rfl,qb2,hx1,hv2⟩
   replace hx := hx.ext hx1
   replace hcD := hcD.ext hx1
   replace hcr := hcr.ext hx1
   replace hD := hD.ext hx1
   replace hrd := hrd.ext hx1
   replace hr := hr.ext hx1
   have hc2 := hv2.cells
   refine Rg.wd trivial (w_boxed rfl rfl) rfl ?_
   rintro _ w2 ⟨b3,rfl,qb3,hx2,hv3⟩
   replace hx := hx.ext hx2
   replace hcD := hcD.ext hx2
   replace hcr := hcr.ext hx2
   replace hD := hD.ext hx2
   replace hrd := hrd.ext hx2
   replace hr := hr.ext hx2
   replace hv2 := hv2.ext hx2
   replace hc2 := hc2.ext hx2
   have hc3 := hv3.cells
   refine Rg.tm trivial rfl (t_assign rfl) rfl ?_
   refine Rg.done ?_
   refine Wp.seq ?_
   refine Wp.seq (Wp.draw [0,1,2,3,4,5,6,7,8,9,10,11,12,13,14,15,16,17,18,20,21,22,23,19,24,25] [] mixed (by kernel_rfl) (by kernel_rfl) ?_)
   intro w3 hx3 _
   replace hx := hx.ext hx3
   replace hcD := hcD.ext hx3
   replace hcr := hcr.ext hx3
   replace hD := hD.ext hx3
   replace hrd := hrd.ext hx3
   replace hr := hr.ext hx3
   replace hv2 := hv2.ext hx3
   replace hc2 := hc2.ext hx3
   replace hv3 := hv3.ext hx3
   replace hc3 := hc3.ext hx3
   refine Rg.tm trivial rfl (t_load ty137 rfl (by first | assumption | (apply Cells.get (i := 0); (case h => assumption); rfl))) rfl ?_
   refine Rg.tm trivial rfl (t_nilCheck rfl) rfl ?_
   refine Rg.tm trivial rfl (t_fieldAddr fa139_1 rfl) rfl ?_
   refine Rg.tm trivial rfl (t_load ty3 rfl (by apply Cells.get (i := 2); (case h => assumption); rfl)) rfl ?_
   refine Rg.tm trivial rfl (t_load ty60 rfl (by first | assumption | (apply Cells.get (i := 0); (case h => assumption); rfl))) rfl ?_
   refine Rg.tm trivial rfl (t_nilCheck rfl) rfl ?_
   refine Rg.tm trivial rfl (t_fieldAddr fa87_1 rfl) rfl ?_
   refine Rg.tm trivial rfl (t_load ty82 rfl (by apply Cells.get (i := 1); (case h => assumption); rfl)) rfl ?_
   refine Rg.wdB trivial rfl (w_call Tryz.call103 rfl (revision_ok hD.ins)) rfl (fun _ _ h => by rw [h.2]; exact Below.refl _ _) ?_
   rintro _ _ ⟨rfl,rfl⟩
   first | refine Rg.tm trivial rfl (t_eqlT rfl rfl (by omega)) rfl ?_ | refine Rg.tm trivial rfl (t_eqlF rfl rfl (by omega)) rfl ?_ | refine Rg.tm trivial rfl (t_eql rfl rfl) rfl ?_
   refine Rg.tm trivial rfl (t_move rfl) rfl ?_
   first | refine Rg.tm ⟨_,rfl,rfl⟩ rfl (t_load ty60 rfl (by first | assumption | (apply Cells.get (i := 0); (case h => assumption); rfl))) rfl ?_ | refine Rg.so rfl rfl ?_
   first | refine Rg.tm ⟨_,rfl,rfl⟩ rfl (t_nilCheck rfl) rfl ?_ | refine Rg.so rfl rfl ?_
   first | refine Rg.tm ⟨_,rfl,rfl⟩ rfl (t_fieldAddr fa87_1 rfl) rfl ?_ | refine Rg.so rfl rfl ?_
   first | refine Rg.tm ⟨_,rfl,rfl⟩ rfl (t_load ty82 rfl (by apply Cells.get (i := 1); (case h => assumption); rfl)) rfl ?_ | refine Rg.so rfl rfl ?_
   first | refine Rg.tm ⟨_,rfl,rfl⟩ rfl (t_load ty137 rfl (by first | assumption | (apply Cells.get (i := 0); (case h => assumption); rfl))) rfl ?_ | refine Rg.so rfl rfl ?_
   first | refine Rg.tm ⟨_,rfl,rfl⟩ rfl (t_nilCheck rfl) rfl ?_ | refine Rg.so rfl rfl ?_
   first | refine Rg.tm ⟨_,rfl,rfl⟩ rfl (t_fieldAddr fa139_3 rfl) rfl ?_ | refine Rg.so rfl rfl ?_
   first | refine Rg.tm ⟨_,rfl,rfl⟩ rfl (t_load ty3 rfl (by apply Cells.get (i := 4); (case h => assumption); rfl)) rfl ?_ | refine Rg.so rfl rfl ?_
   first | refine Rg.tm ⟨_,rfl,rfl⟩ rfl (t_load ty137 rfl (by first | assumption | (apply Cells.get (i := 0); (case h => assumption); rfl))) rfl ?_ | refine Rg.so rfl rfl ?_
   first | refine Rg.tm ⟨_,rfl,rfl⟩ rfl (t_nilCheck rfl) rfl ?_ | refine Rg.so rfl rfl ?_
   first | refine Rg.tm ⟨_,rfl,rfl⟩ rfl (t_fieldAddr fa139_1 rfl) rfl ?_ | refine Rg.so rfl rfl ?_
   first | refine Rg.tm ⟨_,rfl,rfl⟩ rfl (t_load ty3 rfl (by apply Cells.get (i := 2); (case h => assumption); rfl)) rfl ?_ | refine Rg.so rfl rfl ?_
   refine Rg.wdB ⟨_,rfl,rfl⟩ rfl (w_call Tryz.call120 rfl (lastChange_ok hD.ins)) rfl (fun _ _ h => by rw [h.2]; exact Below.refl _ _) ?_
   rintro _ _ ⟨rfl,rfl⟩
   first | refine Rg.tm ⟨_,rfl,rfl⟩ rfl (t_leqT rfl rfl (by omega)) rfl ?_ | refine Rg.tm ⟨_,rfl,rfl⟩ rfl (t_leqF rfl rfl (by omega)) rfl ?_ | refine Rg.tm ⟨_,rfl,rfl⟩ rfl (t_leq rfl rfl) rfl ?_ | refine Rg.so rfl rfl ?_
   first | refine Rg.tm trivial rfl (t_pickT rfl rfl) rfl ?_ | refine Rg.tm trivial rfl (t_pickF rfl rfl) rfl ?_
   refine Rg.done ?_
   refine Wp.condT rfl ?_
   refine Wp.seq (Wp.region ?_)
   refine Rg.tm trivial rfl (t_assign rfl) rfl ?_
   refine Rg.done ?_
   refine Wp.ret ?_
   exact ⟨[_],⟨rfl,trivial⟩,by simp [okI,h2,tup],hx⟩
  ·skip
   refine Wp.seq (Wp.region ?_)
   refine Rg.wd trivial (w_boxed rfl rfl) rfl ?_
   rintro _ w1 ⟨b2,rfl,qb2,hx1,hv2⟩
   replace hx := hx.ext hx1
   replace hcD := hcD.ext hx1
   replace hcr := hcr.ext hx1
   replace hD := hD.ext hx1
   replace hrd := hrd.ext hx1
   replace hr := hr.ext hx1
   have hc2 := hv2.cells
   refine Rg.wd trivial (w_boxed rfl rfl) rfl ?_
   rintro _ w2 ⟨b3,rfl,qb3,hx2,hv3⟩
   replace hx := hx.ext hx2
   replace hcD := hcD.ext hx2
   replace hcr := hcr.ext hx2
   replace hD := hD.ext hx2
   replace hrd := hrd.ext hx2
   replace hr := hr.ext hx2
   replace hv2 := hv2.ext hx2
   replace hc2 := hc2.ext hx2
   have hc3 := hv3.cells
   refine Rg.tm trivial rfl (t_assign rfl) rfl ?_
   refine Rg.done ?_
   refine Wp.seq ?_
   refine Wp.seq (Wp.draw [0,1,2,3,4,5,6,7,8,9,10,11,12,13,14,15,16,17,18,20,21,22,23,19,24,25] [] mixed (by kernel_rfl) (by kernel_rfl) ?_)
   intro w3 hx3 _
   replace hx := hx.ext hx3
   replace hcD := hcD.ext hx3
   replace hcr := hcr.ext hx3
   replace hD := hD.ext hx3
   replace hrd := hrd.ext hx3
   replace hr := hr.ext hx3
   replace hv2 := hv2.ext hx3
   replace hc2 := hc2.ext hx3
   replace hv3 := hv3.ext hx3
   replace hc3 := hc3.ext hx3
   refine Rg.tm trivial rfl (t_load ty137 rfl (by first | assumption | (apply Cells.get (i := 0); (case h => assumption); rfl))) rfl ?_
   refine Rg.tm trivial rfl (t_nilCheck rfl) rfl ?_
   refine Rg.tm trivial rfl (t_fieldAddr fa139_1 rfl) rfl ?_
   refine Rg.tm trivial rfl (t_load ty3 rfl (by apply Cells.get (i := 2); (case h => assumption); rfl)) rfl ?_
   refine Rg.tm trivial rfl (t_load ty60 rfl (by first | assumption | (apply Cells.get (i := 0); (case h => assumption); rfl))) rfl ?_
   refine Rg.tm trivial rfl (t_nilCheck rfl) rfl ?_
   refine Rg.tm trivial rfl (t_fieldAddr fa87_1 rfl) rfl ?_
   refine Rg.tm trivial rfl (t_load ty82 rfl (by apply Cells.get (i := 1); (case h => assumption); rfl)) rfl ?_
   refine Rg.wdB trivial rfl (w_call Tryz.call103 rfl (revision_ok hD.ins)) rfl (fun _ _ h => by rw [h.2]; exact Below.refl _ _) ?_
   rintro _ _ ⟨rfl,rfl⟩
   first | refine Rg.tm trivial rfl (t_eqlT rfl rfl (by omega)) rfl ?_ | refine Rg.tm trivial rfl (t_eqlF rfl rfl (by omega)) rfl ?_ | refine Rg.tm trivial rfl (t_eql rfl rfl) rfl ?_
   refine Rg.tm trivial rfl (t_move rfl) rfl ?_
   first | refine Rg.tm ⟨_,rfl,rfl⟩ rfl (t_load ty60 rfl (by first | assumption | (apply Cells.get (i := 0); (case h => assumption); rfl))) rfl ?_ | refine Rg.so rfl rfl ?_
   first | refine Rg.tm ⟨_,rfl,rfl⟩ rfl (t_nilCheck rfl) rfl ?_ | refine Rg.so rfl rfl ?_
   first | refine Rg.tm ⟨_,rfl,rfl⟩ rfl (t_fieldAddr fa87_1 rfl) rfl ?_ | refine Rg.so rfl rfl ?_
   first | refine Rg.tm ⟨_,rfl,rfl⟩ rfl (t_load ty82 rfl (by apply Cells.get (i := 1); (case h => assumption); rfl)) rfl ?_ | refine Rg.so rfl rfl ?_
   first | refine Rg.tm ⟨_,rfl,rfl⟩ rfl (t_load ty137 rfl (by first | assumption | (apply Cells.get (i := 0); (case h => assumption); rfl))) rfl ?_ | refine Rg.so rfl rfl ?_
   first | refine Rg.tm ⟨_,rfl,rfl⟩ rfl (t_nilCheck rfl) rfl ?_ | refine Rg.so rfl rfl ?_
   first | refine Rg.tm ⟨_,rfl,rfl⟩ rfl (t_fieldAddr fa139_3 rfl) rfl ?_ | refine Rg.so rfl rfl ?_
   first | refine Rg.tm ⟨_,rfl,rfl⟩ rfl (t_load ty3 rfl (by apply Cells.get (i := 4); (case h => assumption); rfl)) rfl ?_ | refine Rg.so rfl rfl ?_
   first | refine Rg.tm ⟨_,rfl,rfl⟩ rfl (t_load ty137 rfl (by first | assumption | (apply Cells.get (i := 0); (case h => assumption); rfl))) rfl ?_ | refine Rg.so rfl rfl ?_
   first | refine Rg.tm ⟨_,rfl,rfl⟩ rfl (t_nilCheck rfl) rfl ?_ | refine Rg.so rfl rfl ?_
   first | refine Rg.tm ⟨_,rfl,rfl⟩ rfl (t_fieldAddr fa139_1 rfl) rfl ?_ | refine Rg.so rfl rfl ?_
   first | refine Rg.tm ⟨_,rfl,rfl⟩ rfl (t_load ty3 rfl (by apply Cells.get (i := 2); (case h => assumption); rfl)) rfl ?_ | refine Rg.so rfl rfl ?_
   refine Rg.wdB ⟨_,rfl,rfl⟩ rfl (w_call Tryz.call120 rfl (lastChange_ok hD.ins)) rfl (fun _ _ h => by rw [h.2]; exact Below.refl _ _) ?_
   rintro _ _ ⟨rfl,rfl⟩
   first | refine Rg.tm ⟨_,rfl,rfl⟩ rfl (t_leqT rfl rfl (by omega)) rfl ?_ | refine Rg.tm ⟨_,rfl,rfl⟩ rfl (t_leqF rfl rfl (by omega)) rfl ?_ | refine Rg.tm ⟨_,rfl,rfl⟩ rfl (t_leq rfl rfl) rfl ?_ | refine Rg.so rfl rfl ?_
   first | refine Rg.tm trivial rfl (t_pickT rfl rfl) rfl ?_ | refine Rg.tm trivial rfl (t_pickF rfl rfl) rfl ?_
   refine Rg.done ?_
   refine Wp.condF rfl ?_
   refine Wp.skip ?_
   refine Wp.seq (Wp.region ?_)
   obtain ⟨pd,cd,rfl⟩ := hrd.shape
   refine Rg.tm trivial rfl (t_load ty137 rfl (by first | assumption | (apply Cells.get (i := 0); (case h => assumption); rfl))) rfl ?_
   refine Rg.tm trivial rfl (t_nilCheck rfl) rfl ?_
   refine Rg.tm trivial rfl (t_fieldAddr fa139_4 rfl) rfl ?_
   refine Rg.tm trivial rfl (t_load ty106 rfl (by apply Cells.get (i := 5); (case h => assumption); rfl)) rfl ?_
   refine Rg.tm trivial rfl (t_makeFunc (vs := [_,_]) rfl) rfl ?_
   refine Rg.wd trivial (w_call Tryz.call121 rfl (containsFK_ok (q := fun k => decide (r.ver < (q.ins.get k).2)) hrd.slc (by omega) (enters_of Tryz.func122 (by kernel_rfl) rfl) (fun w5 a ha hx5 => valid1_ok (hD.ext hx5) (hv2.ext hx5) (hv3.ext hx5) (hr.ext hx5) (hz a ha)))) rfl ?_
   rintro _ w4 ⟨rfl,hx4⟩
   replace hx := hx.ext hx4
   replace hcD := hcD.ext hx4
   replace hcr := hcr.ext hx4
   replace hD := hD.ext hx4
   replace hrd := hrd.ext hx4
   replace hr := hr.ext hx4
   replace hv2 := hv2.ext hx4
   replace hc2 := hc2.ext hx4
   replace hv3 := hv3.ext hx4
   replace hc3 := hc3.ext hx4
   refine Rg.tm trivial rfl (t_notB rfl) rfl ?_
   refine Rg.tm trivial rfl (t_assign rfl) rfl ?_
   refine Rg.done ?_
   refine Wp.ret ?_
   refine ⟨[_],⟨rfl,trivial⟩,?_,hx⟩
   show Value.bool _ = _
   congr 1
   rw [okI,decide_eq_false h1,decide_eq_false h2]
   simp only [Bool.false_or]
   rw [Bool.eq_iff_iff]
   simp [Int.not_lt]
end Go.Proofs.YtliofpegbcegiaaGreatDoor
namespace Go.Proofs.YtliofpegbcegiaaGreatDoor
set_option maxRecDepth 20000
open Go.Gx Go.RowKit Go.Lib
theorem isLocal_ok {w : World} {k : Int} : Cl Tryz.prog 41 #[.int .i64 k] w (fun u w' => u = .bool (decide (isLoc k)) ∧ w = w') := by
 by_cases h2 : k = 2
 ·skip
  refine Cl.enter Tryz.func41 rfl Tryz.ntmps41 rfl rfl ?_
  refine Wp.seq (Wp.region ?_)
  refine Rg.tm trivial rfl (t_assign rfl) rfl ?_
  refine Rg.done ?_
  refine Wp.seq (Wp.region ?_)
  refine Rg.tm trivial rfl (t_move rfl) rfl ?_
  first | refine Rg.tm trivial rfl (t_eqlT rfl rfl (by omega)) rfl ?_ | refine Rg.tm trivial rfl (t_eqlF rfl rfl (by omega)) rfl ?_ | refine Rg.tm trivial rfl (t_eql rfl rfl) rfl ?_
  refine Rg.tm trivial rfl (t_move rfl) rfl ?_
  first | refine Rg.tm ⟨_,rfl,rfl⟩ rfl (t_move rfl) rfl ?_ | refine Rg.so rfl rfl ?_
  first | refine Rg.so rfl rfl ?_ | refine Rg.tm ⟨_,rfl,rfl⟩ rfl (t_eql rfl rfl) rfl ?_
  first | refine Rg.tm trivial rfl (t_pickT rfl rfl) rfl ?_ | refine Rg.tm trivial rfl (t_pickF rfl rfl) rfl ?_
  refine Rg.tm trivial rfl (t_assign rfl) rfl ?_
  refine Rg.done ?_
  refine Wp.ret ?_
  exact ⟨[_],⟨rfl,trivial⟩,by simp [isLoc,h2,tup],rfl⟩
 ·skip
  refine Cl.enter Tryz.func41 rfl Tryz.ntmps41 rfl rfl ?_
  refine Wp.seq (Wp.region ?_)
  refine Rg.tm trivial rfl (t_assign rfl) rfl ?_
  refine Rg.done ?_
  refine Wp.seq (Wp.region ?_)
  refine Rg.tm trivial rfl (t_move rfl) rfl ?_
  first | refine Rg.tm trivial rfl (t_eqlT rfl rfl (by omega)) rfl ?_ | refine Rg.tm trivial rfl (t_eqlF rfl rfl (by omega)) rfl ?_ | refine Rg.tm trivial rfl (t_eql rfl rfl) rfl ?_
  refine Rg.tm trivial rfl (t_move rfl) rfl ?_
  first | refine Rg.tm ⟨_,rfl,rfl⟩ rfl (t_move rfl) rfl ?_ | refine Rg.so rfl rfl ?_
  first | refine Rg.so rfl rfl ?_ | refine Rg.tm ⟨_,rfl,rfl⟩ rfl (t_eql rfl rfl) rfl ?_
  first | refine Rg.tm trivial rfl (t_pickT rfl rfl) rfl ?_ | refine Rg.tm trivial rfl (t_pickF rfl rfl) rfl ?_
  refine Rg.tm trivial rfl (t_assign rfl) rfl ?_
  refine Rg.done ?_
  refine Wp.ret ?_
  exact ⟨[_],⟨rfl,trivial⟩,by simp [isLoc,h2,tup],rfl⟩
theorem moduleIndex_ok {w : World} {v : Value} {l : List MD} {name : ByteArray} (hs0 : SlC w v 2 l.length (encs mc l)) (hl : l.length ≤ 1000) :
  Cl Tryz.prog 28 #[v,.string name] w (fun u w' => u = .int .i64 (idxM l name) ∧ Ext w w') := by
 have hx := Ext.refl w
 unfold idxM
 refine Cl.enter Tryz.func28 rfl Tryz.ntmps28 rfl rfl ?_
 refine Wp.seq (Wp.region ?_)
 refine Rg.tm trivial rfl (t_assign rfl) rfl ?_
 refine Rg.done ?_
 refine Wp.seq ?_
 refine Wp.seq (Wp.region ?_)
 refine Rg.tm trivial rfl (t_move rfl) rfl ?_
 refine Rg.tm trivial rfl (t_lenC hs0 Tryz.underlying49 rfl) rfl ?_
 refine Rg.tm trivial rfl (t_move rfl) rfl ?_
 refine Rg.done ?_
 refine Wp.block ?_
 refine Wp.loop (ι := Nat) (fun k => [(1,.string name),(7,v),(8,.int .i64 l.length),(9,.int .i64 k)])
  (fun k w' => k ≤ l.length ∧ (∀ i (hi : i < k) (hk : i < l.length),decide (l[i].1 = name) = false) ∧ Ext w w') (fun k => l.length - k) 0 (by repeat (first | exact .nil | refine .cons rfl ?_)) ⟨Nat.zero_le _,fun i hi => by omega,hx⟩ ?_
 clear hx
 rintro k w3 ⟨hk,hpre,hx⟩
 by_cases hlt : k < l.length
 ·skip
  refine Wp.seq (Wp.region ?_)
  first | refine Rg.tm trivial rfl (t_lssT rfl rfl (by omega)) rfl ?_ | refine Rg.tm trivial rfl (t_lssF rfl rfl (by omega)) rfl ?_ | refine Rg.tm trivial rfl (t_lss rfl rfl) rfl ?_
  refine Rg.done ?_
  refine Wp.seq ?_
  refine Wp.condT rfl ?_
  refine Wp.skip ?_
  refine Wp.seq ?_
  refine Wp.block ?_
  refine Wp.seq (Wp.region ?_)
  refine Rg.tm trivial rfl (t_move rfl) rfl ?_
  refine Rg.ix hs0 trivial rfl rfl Tryz.underlying49 ty52 (by omega) rfl ?_
  intro bt12 ot12 ht12
  replace ht12 := ht12.ext hx
  rw [Int.toNat_natCast,encs_at mc_len l k hlt] at ht12
  refine Rg.tm trivial rfl (t_loadA rfl ht12 ty52) rfl ?_
  refine Rg.wd trivial (w_new Tryz.zeroValue52 rfl) rfl ?_
  rintro _ wa ⟨b6,rfl,qb6,hxa,hva⟩
  refine Rg.tm trivial rfl (t_assign rfl) rfl ?_
  refine Rg.wn trivial (w_put hva rfl rfl rfl ty52 rfl rfl) ?_
  rintro _ w1 ⟨hu,hv6⟩
  have hx1 := hxa.upd hu (Nat.le_of_eq qb6.symm)
  replace hx := hx.ext hx1
  replace ht12 := ht12.ext hx1
  have hc6 := hv6.cells
  refine Rg.done ?_
  refine Wp.seq (Wp.region ?_)
  refine Rg.tm trivial rfl (t_fieldAddr fa52_0 rfl) rfl ?_
  refine Rg.tm trivial rfl (t_load ty9 rfl (by apply Cells.get (i := 0); (case h => assumption); rfl)) rfl ?_
  refine Rg.tm trivial rfl (t_move rfl) rfl ?_
  first | refine Rg.tm trivial rfl (t_seqlT rfl rfl (by first | with_reducible rfl | assumption)) rfl ?_ | refine Rg.tm trivial rfl (t_seqlF rfl rfl (by assumption)) rfl ?_ | refine Rg.tm trivial rfl (t_seql rfl rfl) rfl ?_
  refine Rg.done ?_
  cases hqk : decide (l[k].1 = name) with
  | true =>
   refine Wp.condT rfl ?_
   refine Wp.seq (Wp.region ?_)
   refine Rg.tm trivial rfl (t_move rfl) rfl ?_
   refine Rg.tm trivial rfl (t_assign rfl) rfl ?_
   refine Rg.done ?_
   refine Wp.ret ?_
   exact ⟨[_],⟨rfl,trivial⟩,by rw [idxF_step (fun m : MD => decide (m.1 = name)) l 0 k hlt (fun i hi => hpre i hi (by omega)) hqk]; simp [tup],hx⟩
  | false =>
   refine Wp.condF rfl ?_
   refine Wp.skip ?_
   refine Wp.region ?_
   first | refine Rg.tm trivial rfl (t_addI rfl rfl (by omega)) rfl ?_ | refine Rg.tm trivial rfl (t_add rfl rfl) rfl ?_
   refine Rg.tm trivial rfl (t_move rfl) rfl ?_
   refine Rg.done ?_
   refine ⟨k + 1,by repeat (first | exact .nil | refine .cons rfl ?_),⟨hlt,fun i hi hil => ?_,hx⟩,by omega⟩
   rcases Nat.lt_succ_iff_lt_or_eq.1 hi with h | h
   ·exact hpre i h hil
   ·subst h; exact hqk
 ·skip
  refine Wp.seq (Wp.region ?_)
  first | refine Rg.tm trivial rfl (t_lssT rfl rfl (by omega)) rfl ?_ | refine Rg.tm trivial rfl (t_lssF rfl rfl (by omega)) rfl ?_ | refine Rg.tm trivial rfl (t_lss rfl rfl) rfl ?_
  refine Rg.done ?_
  refine Wp.seq ?_
  refine Wp.condF rfl ?_
  refine Wp.exit ?_
  refine Wp.seq (Wp.region ?_)
  refine Rg.tm trivial rfl (t_assign rfl) rfl ?_
  refine Rg.done ?_
  refine Wp.ret ?_
  exact ⟨[_],⟨rfl,trivial⟩,by rw [idxF_neg (fun m : MD => decide (m.1 = name)) l 0 fun i hi => hpre i (by omega) hi]; rfl,hx⟩
theorem extract_min (s : ByteArray) (a : Int) (ha : 0 ≤ a) : s.extract 0 (min (s.size : Int) a).toNat = s.extract 0 (min s.size a.toNat) := by
 congr 1; omega
theorem sketch_ok {w : World} {v : Value} {l : List MD} {c0 i0 query arg : Int} {name : ByteArray} (hs0 : SlC w v 2 l.length (encs mc l)) (hl : l.length ≤ 20) :
  Cl Tryz.prog 13 #[v,.agg #[.int .i64 c0,.int .i64 i0,.int .i64 query,.int .i64 arg,.string name]] w (fun u w' => (∃ p c,u = .agg #[.int .i64 0,.int .i64 0,.int .i64 (sketch l query arg name).1,.int .i64 0,.slice p (sketch l query arg name).2.1.length c,.string (sketch l query arg name).2.2] ∧
   w'.ownsRow w.heap.size 3 1 (.slice p (sketch l query arg name).2.1.length c) (sketch l query arg name).2.1.length ((sketch l query arg name).2.1.map (.int .i64))) ∧ Ext w w') := by
 have hx := Ext.refl w
 obtain ⟨i3,hi3,hz3,hsi3,hby3⟩ := inf3
 obtain ⟨_,pv,cv,rfl,_⟩ := id hs0
 refine Cl.enter Tryz.func13 rfl Tryz.ntmps13 rfl rfl ?_
 by_cases hneg : idxM l name < 0 ∨ arg < 0
 ·have hsk : sketch l query arg name = (1,[],noB) := by unfold sketch; rw [if_pos hneg]
  rw [hsk]
  by_cases hi : idxM l name < 0
  ·skip
   refine Wp.seq (Wp.region ?_)
   refine Rg.wd trivial (w_boxed rfl rfl) rfl ?_
   rintro _ w1 ⟨b3,rfl,qb3,hx1,hv3⟩
   replace hx := hx.ext hx1
   have hc3 := hv3.cells
   have kb4 := hx.le
   refine Rg.wd trivial (w_new Tryz.zeroValue43 rfl) rfl ?_
   rintro _ w2 ⟨b4,rfl,qb4,hx2,hv4⟩
   replace hx := hx.ext hx2
   replace hv3 := hv3.ext hx2
   replace hc3 := hc3.ext hx2
   have k4 := hx.le
   refine Rg.done ?_
   refine Wp.seq (Wp.region ?_)
   refine Rg.tm trivial rfl (t_move rfl) rfl ?_
   refine Rg.tm trivial rfl (t_fieldAddr fa27_4 rfl) rfl ?_
   refine Rg.tm trivial rfl (t_load ty9 rfl (by apply Cells.get (i := 4); (case h => assumption); rfl)) rfl ?_
   refine Rg.wd trivial (w_call Tryz.call28 rfl (moduleIndex_ok (hs0.ext hx) (by omega))) rfl ?_
   rintro _ w3 ⟨rfl,hx3⟩
   replace hx := hx.ext hx3
   replace hv3 := hv3.ext hx3
   replace hc3 := hc3.ext hx3
   replace hv4 := hv4.ext hx3
   refine Rg.tm trivial rfl (t_assign rfl) rfl ?_
   refine Rg.done ?_
   refine Wp.seq ?_
   refine Wp.seq (Wp.region ?_)
   refine Rg.tm trivial rfl (t_move rfl) rfl ?_
   first | refine Rg.tm trivial rfl (t_lssT rfl rfl (by omega)) rfl ?_ | refine Rg.tm trivial rfl (t_lssF rfl rfl (by omega)) rfl ?_ | refine Rg.tm trivial rfl (t_lss rfl rfl) rfl ?_
   refine Rg.tm trivial rfl (t_move rfl) rfl ?_
   first | refine Rg.tm ⟨_,rfl,rfl⟩ rfl (t_fieldAddr fa27_3 rfl) rfl ?_ | refine Rg.so rfl rfl ?_
   first | refine Rg.tm ⟨_,rfl,rfl⟩ rfl (t_load ty3 rfl (by apply Cells.get (i := 3); (case h => assumption); rfl)) rfl ?_ | refine Rg.so rfl rfl ?_
   first | refine Rg.tm ⟨_,rfl,rfl⟩ rfl (t_lssT rfl rfl (by omega)) rfl ?_ | refine Rg.tm ⟨_,rfl,rfl⟩ rfl (t_lssF rfl rfl (by omega)) rfl ?_ | refine Rg.tm ⟨_,rfl,rfl⟩ rfl (t_lss rfl rfl) rfl ?_ | refine Rg.so rfl rfl ?_
   first | refine Rg.tm trivial rfl (t_pickT rfl rfl) rfl ?_ | refine Rg.tm trivial rfl (t_pickF rfl rfl) rfl ?_
   refine Rg.done ?_
   refine Wp.condT rfl ?_
   refine Wp.seq (Wp.region ?_)
   refine Rg.tm trivial rfl (t_build (bd43_2 _) rfl) rfl ?_
   refine Rg.wn trivial (w_put hv4 rfl rfl rfl ty43 rfl rfl) ?_
   rintro _ wd ⟨hu,hv4'⟩
   replace hx := hx.upd hu (by omega)
   refine Rg.done ?_
   refine Wp.ret ?_
   exact ⟨[_],⟨RV.cellA (vs := [_,_,_,_,_,_]) ty43 rfl hv4'.cells,trivial⟩,⟨none,0,rfl,own_nil _ _ _ _⟩,hx⟩
  ·skip
   have harg : arg < 0 := hneg.resolve_left hi
   refine Wp.seq (Wp.region ?_)
   refine Rg.wd trivial (w_boxed rfl rfl) rfl ?_
   rintro _ w1 ⟨b3,rfl,qb3,hx1,hv3⟩
   replace hx := hx.ext hx1
   have hc3 := hv3.cells
   have kb4 := hx.le
   refine Rg.wd trivial (w_new Tryz.zeroValue43 rfl) rfl ?_
   rintro _ w2 ⟨b4,rfl,qb4,hx2,hv4⟩
   replace hx := hx.ext hx2
   replace hv3 := hv3.ext hx2
   replace hc3 := hc3.ext hx2
   have k4 := hx.le
   refine Rg.done ?_
   refine Wp.seq (Wp.region ?_)
   refine Rg.tm trivial rfl (t_move rfl) rfl ?_
   refine Rg.tm trivial rfl (t_fieldAddr fa27_4 rfl) rfl ?_
   refine Rg.tm trivial rfl (t_load ty9 rfl (by apply Cells.get (i := 4); (case h => assumption); rfl)) rfl ?_
   refine Rg.wd trivial (w_call Tryz.call28 rfl (moduleIndex_ok (hs0.ext hx) (by omega))) rfl ?_
   rintro _ w3 ⟨rfl,hx3⟩
   replace hx := hx.ext hx3
   replace hv3 := hv3.ext hx3
   replace hc3 := hc3.ext hx3
   replace hv4 := hv4.ext hx3
   refine Rg.tm trivial rfl (t_assign rfl) rfl ?_
   refine Rg.done ?_
   refine Wp.seq ?_
   refine Wp.seq (Wp.region ?_)
   refine Rg.tm trivial rfl (t_move rfl) rfl ?_
   first | refine Rg.tm trivial rfl (t_lssT rfl rfl (by omega)) rfl ?_ | refine Rg.tm trivial rfl (t_lssF rfl rfl (by omega)) rfl ?_ | refine Rg.tm trivial rfl (t_lss rfl rfl) rfl ?_
   refine Rg.tm trivial rfl (t_move rfl) rfl ?_
   first | refine Rg.tm ⟨_,rfl,rfl⟩ rfl (t_fieldAddr fa27_3 rfl) rfl ?_ | refine Rg.so rfl rfl ?_
   first | refine Rg.tm ⟨_,rfl,rfl⟩ rfl (t_load ty3 rfl (by apply Cells.get (i := 3); (case h => assumption); rfl)) rfl ?_ | refine Rg.so rfl rfl ?_
   first | refine Rg.tm ⟨_,rfl,rfl⟩ rfl (t_lssT rfl rfl (by omega)) rfl ?_ | refine Rg.tm ⟨_,rfl,rfl⟩ rfl (t_lssF rfl rfl (by omega)) rfl ?_ | refine Rg.tm ⟨_,rfl,rfl⟩ rfl (t_lss rfl rfl) rfl ?_ | refine Rg.so rfl rfl ?_
   first | refine Rg.tm trivial rfl (t_pickT rfl rfl) rfl ?_ | refine Rg.tm trivial rfl (t_pickF rfl rfl) rfl ?_
   refine Rg.done ?_
   refine Wp.condT rfl ?_
   refine Wp.seq (Wp.region ?_)
   refine Rg.tm trivial rfl (t_build (bd43_2 _) rfl) rfl ?_
   refine Rg.wn trivial (w_put hv4 rfl rfl rfl ty43 rfl rfl) ?_
   rintro _ wd ⟨hu,hv4'⟩
   replace hx := hx.upd hu (by omega)
   refine Rg.done ?_
   refine Wp.ret ?_
   exact ⟨[_],⟨RV.cellA (vs := [_,_,_,_,_,_]) ty43 rfl hv4'.cells,trivial⟩,⟨none,0,rfl,own_nil _ _ _ _⟩,hx⟩
 ·have hi : ¬ idxM l name < 0 := fun h => hneg (.inl h)
  have harg : ¬ arg < 0 := fun h => hneg (.inr h)
  obtain ⟨ix,eix,hix⟩ := idxF_lt hi
  rw [Nat.zero_add] at eix
  change idxM l name = (ix : Int) at eix
  rw [eix] at hi
  have hmd : mdAt l ix = l[ix] := by unfold mdAt; rw [List.getElem?_eq_getElem hix]; rfl
  by_cases hloc : query = 2 ∨ query = 3
  ·have hsk : sketch l query arg name = (0,[query,(l[ix].2.size : Int)],l[ix].2.extract 0 (min (l[ix].2.size : Int) arg).toNat) := by
    unfold sketch; rw [if_neg hneg,if_pos hloc,eix,Int.toNat_natCast,hmd,extract_min _ _ (by omega)]
   rw [hsk]
   by_cases hq2 : query = 2
   ·skip
    refine Wp.seq (Wp.region ?_)
    refine Rg.wd trivial (w_boxed rfl rfl) rfl ?_
    rintro _ w1 ⟨b3,rfl,qb3,hx1,hv3⟩
    replace hx := hx.ext hx1
    have hc3 := hv3.cells
    have kb4 := hx.le
    refine Rg.wd trivial (w_new Tryz.zeroValue43 rfl) rfl ?_
    rintro _ w2 ⟨b4,rfl,qb4,hx2,hv4⟩
    replace hx := hx.ext hx2
    replace hv3 := hv3.ext hx2
    replace hc3 := hc3.ext hx2
    have k4 := hx.le
    refine Rg.done ?_
    refine Wp.seq (Wp.region ?_)
    refine Rg.tm trivial rfl (t_move rfl) rfl ?_
    refine Rg.tm trivial rfl (t_fieldAddr fa27_4 rfl) rfl ?_
    refine Rg.tm trivial rfl (t_load ty9 rfl (by apply Cells.get (i := 4); (case h => assumption); rfl)) rfl ?_
    refine Rg.wd trivial (w_call Tryz.call28 rfl (moduleIndex_ok (hs0.ext hx) (by omega))) rfl ?_
    rintro _ w3 ⟨rfl,hx3⟩
    replace hx := hx.ext hx3
    replace hv3 := hv3.ext hx3
    replace hc3 := hc3.ext hx3
    replace hv4 := hv4.ext hx3
    rw [eix]
    refine Rg.tm trivial rfl (t_assign rfl) rfl ?_
    refine Rg.done ?_
    refine Wp.seq ?_
    refine Wp.seq (Wp.region ?_)
    refine Rg.tm trivial rfl (t_move rfl) rfl ?_
    first | refine Rg.tm trivial rfl (t_lssT rfl rfl (by omega)) rfl ?_ | refine Rg.tm trivial rfl (t_lssF rfl rfl (by omega)) rfl ?_ | refine Rg.tm trivial rfl (t_lss rfl rfl) rfl ?_
    refine Rg.tm trivial rfl (t_move rfl) rfl ?_
    first | refine Rg.tm ⟨_,rfl,rfl⟩ rfl (t_fieldAddr fa27_3 rfl) rfl ?_ | refine Rg.so rfl rfl ?_
    first | refine Rg.tm ⟨_,rfl,rfl⟩ rfl (t_load ty3 rfl (by apply Cells.get (i := 3); (case h => assumption); rfl)) rfl ?_ | refine Rg.so rfl rfl ?_
    first | refine Rg.tm ⟨_,rfl,rfl⟩ rfl (t_lssT rfl rfl (by omega)) rfl ?_ | refine Rg.tm ⟨_,rfl,rfl⟩ rfl (t_lssF rfl rfl (by omega)) rfl ?_ | refine Rg.tm ⟨_,rfl,rfl⟩ rfl (t_lss rfl rfl) rfl ?_ | refine Rg.so rfl rfl ?_
    first | refine Rg.tm trivial rfl (t_pickT rfl rfl) rfl ?_ | refine Rg.tm trivial rfl (t_pickF rfl rfl) rfl ?_
    refine Rg.done ?_
    refine Wp.condF rfl ?_
    refine Wp.skip ?_
    refine Wp.seq (Wp.region ?_)
    refine Rg.tm trivial rfl (t_move rfl) rfl ?_
    refine Rg.tm trivial rfl (t_move rfl) rfl ?_
    refine Rg.ix hs0 trivial rfl rfl Tryz.underlying49 ty52 (by omega) rfl ?_
    intro bt24 ot24 ht24
    replace ht24 := ht24.ext hx
    rw [Int.toNat_natCast,encs_at mc_len l ix hix] at ht24
    refine Rg.tm trivial rfl (t_fieldAddr fa52_1 rfl) rfl ?_
    refine Rg.tm trivial rfl (t_load ty9 rfl (Cells.get (i := 1) ht24 rfl)) rfl ?_
    refine Rg.tm trivial rfl (t_assign rfl) rfl ?_
    refine Rg.done ?_
    refine Wp.seq ?_
    refine Wp.seq (Wp.region ?_)
    refine Rg.tm trivial rfl (t_fieldAddr fa27_2 rfl) rfl ?_
    refine Rg.tm trivial rfl (t_load ty3 rfl (by apply Cells.get (i := 2); (case h => assumption); rfl)) rfl ?_
    first | refine Rg.tm trivial rfl (t_eqlT rfl rfl (by omega)) rfl ?_ | refine Rg.tm trivial rfl (t_eqlF rfl rfl (by omega)) rfl ?_ | refine Rg.tm trivial rfl (t_eql rfl rfl) rfl ?_
    refine Rg.tm trivial rfl (t_move rfl) rfl ?_
    first | refine Rg.tm ⟨_,rfl,rfl⟩ rfl (t_fieldAddr fa27_2 rfl) rfl ?_ | refine Rg.so rfl rfl ?_
    first | refine Rg.tm ⟨_,rfl,rfl⟩ rfl (t_load ty3 rfl (by apply Cells.get (i := 2); (case h => assumption); rfl)) rfl ?_ | refine Rg.so rfl rfl ?_
    first | refine Rg.so rfl rfl ?_ | refine Rg.tm ⟨_,rfl,rfl⟩ rfl (t_eqlT rfl rfl (by omega)) rfl ?_
    first | refine Rg.tm trivial rfl (t_pickT rfl rfl) rfl ?_ | refine Rg.tm trivial rfl (t_pickF rfl rfl) rfl ?_
    refine Rg.done ?_
    refine Wp.condT rfl ?_
    refine Wp.seq (Wp.draw [0,1,2,3,5,6,7,8,9,10,11,4,12,13] [0] mixed (by kernel_rfl) (by kernel_rfl) ?_)
    intro w4 hx4 _
    replace hx := hx.ext hx4
    replace hv3 := hv3.ext hx4
    replace hc3 := hc3.ext hx4
    replace hv4 := hv4.ext hx4
    replace ht24 := ht24.ext hx4
    refine Rg.tm trivial rfl (t_fieldAddr fa27_2 rfl) rfl ?_
    refine Rg.tm trivial rfl (t_load ty3 rfl (by apply Cells.get (i := 2); (case h => assumption); rfl)) rfl ?_
    refine Rg.tm trivial rfl (t_move rfl) rfl ?_
    refine Rg.tm trivial rfl (t_len Tryz.underlying9 rfl) rfl ?_
    refine Rg.tm trivial rfl (t_move rfl) rfl ?_
    refine Rg.tm trivial rfl (t_move rfl) rfl ?_
    refine Rg.tm trivial rfl (t_len Tryz.underlying9 rfl) rfl ?_
    refine Rg.tm trivial rfl (t_fieldAddr fa27_3 rfl) rfl ?_
    refine Rg.tm trivial rfl (t_load ty3 rfl (by apply Cells.get (i := 3); (case h => assumption); rfl)) rfl ?_
    refine Rg.tm trivial rfl (t_minI rfl rfl) rfl ?_
    refine Rg.tm trivial rfl (t_sliceS Tryz.underlying9 rfl rfl rfl (by omega)) rfl ?_
    refine Rg.wdB trivial rfl (w_buildSlice (bs41_2 _ _) rfl) rfl (fun _ _ h => by obtain ⟨_,_,_,h,_⟩ := h; exact h) ?_
    rintro _ wb ⟨b39,rfl,q39,hx39,hv39⟩
    have k39 := hx.le
    replace hx := hx.ext hx39
    replace hc3 := hc3.ext hx39
    replace hv4 := hv4.ext hx39
    have ho39 : wb.ownsRow w.heap.size 3 1 (.slice (some ⟨b39,0,none⟩) 2 2) 2 [.int .i64 query,.int .i64 (l[ix].2.size : Int)] := own_of_varS hv39 (by omega) rfl (by unfold maxLen; omega)
    refine Rg.tm trivial rfl (t_build (bd43_4_5 _ _ _ _) rfl) rfl ?_
    refine Rg.wnB trivial rfl (w_put hv4 rfl rfl rfl ty43 rfl rfl) (by rfl) ?_
    rintro _ wd ⟨hu,hv4'⟩
    replace hx := hx.upd hu (by omega)
    replace ho39 := own_upd ho39 hv4 hu (by decide)
    refine Rg.done ?_
    refine Wp.ret ?_
    exact ⟨[_],⟨RV.cellA (vs := [_,_,_,_,_,_]) ty43 rfl hv4'.cells,trivial⟩,⟨_,_,rfl,ho39⟩,hx⟩
   ·skip
    have hq3 : query = 3 := hloc.resolve_left hq2
    refine Wp.seq (Wp.region ?_)
    refine Rg.wd trivial (w_boxed rfl rfl) rfl ?_
    rintro _ w1 ⟨b3,rfl,qb3,hx1,hv3⟩
    replace hx := hx.ext hx1
    have hc3 := hv3.cells
    have kb4 := hx.le
    refine Rg.wd trivial (w_new Tryz.zeroValue43 rfl) rfl ?_
    rintro _ w2 ⟨b4,rfl,qb4,hx2,hv4⟩
    replace hx := hx.ext hx2
    replace hv3 := hv3.ext hx2
    replace hc3 := hc3.ext hx2
    have k4 := hx.le
    refine Rg.done ?_
    refine Wp.seq (Wp.region ?_)
    refine Rg.tm trivial rfl (t_move rfl) rfl ?_
    refine Rg.tm trivial rfl (t_fieldAddr fa27_4 rfl) rfl ?_
    refine Rg.tm trivial rfl (t_load ty9 rfl (by apply Cells.get (i := 4); (case h => assumption); rfl)) rfl ?_
    refine Rg.wd trivial (w_call Tryz.call28 rfl (moduleIndex_ok (hs0.ext hx) (by omega))) rfl ?_
    rintro _ w3 ⟨rfl,hx3⟩
    replace hx := hx.ext hx3
    replace hv3 := hv3.ext hx3
    replace hc3 := hc3.ext hx3
    replace hv4 := hv4.ext hx3
    rw [eix]
    refine Rg.tm trivial rfl (t_assign rfl) rfl ?_
    refine Rg.done ?_
    refine Wp.seq ?_
    refine Wp.seq (Wp.region ?_)
    refine Rg.tm trivial rfl (t_move rfl) rfl ?_
    first | refine Rg.tm trivial rfl (t_lssT rfl rfl (by omega)) rfl ?_ | refine Rg.tm trivial rfl (t_lssF rfl rfl (by omega)) rfl ?_ | refine Rg.tm trivial rfl (t_lss rfl rfl) rfl ?_
    refine Rg.tm trivial rfl (t_move rfl) rfl ?_
    first | refine Rg.tm ⟨_,rfl,rfl⟩ rfl (t_fieldAddr fa27_3 rfl) rfl ?_ | refine Rg.so rfl rfl ?_
    first | refine Rg.tm ⟨_,rfl,rfl⟩ rfl (t_load ty3 rfl (by apply Cells.get (i := 3); (case h => assumption); rfl)) rfl ?_ | refine Rg.so rfl rfl ?_
    first | refine Rg.tm ⟨_,rfl,rfl⟩ rfl (t_lssT rfl rfl (by omega)) rfl ?_ | refine Rg.tm ⟨_,rfl,rfl⟩ rfl (t_lssF rfl rfl (by omega)) rfl ?_ | refine Rg.tm ⟨_,rfl,rfl⟩ rfl (t_lss rfl rfl) rfl ?_ | refine Rg.so rfl rfl ?_
    first | refine Rg.tm trivial rfl (t_pickT rfl rfl) rfl ?_ | refine Rg.tm trivial rfl (t_pickF rfl rfl) rfl ?_
    refine Rg.done ?_
    refine Wp.condF rfl ?_
    refine Wp.skip ?_
    refine Wp.seq (Wp.region ?_)
    refine Rg.tm trivial rfl (t_move rfl) rfl ?_
    refine Rg.tm trivial rfl (t_move rfl) rfl ?_
    refine Rg.ix hs0 trivial rfl rfl Tryz.underlying49 ty52 (by omega) rfl ?_
    intro bt24 ot24 ht24
    replace ht24 := ht24.ext hx
    rw [Int.toNat_natCast,encs_at mc_len l ix hix] at ht24
    refine Rg.tm trivial rfl (t_fieldAddr fa52_1 rfl) rfl ?_
    refine Rg.tm trivial rfl (t_load ty9 rfl (Cells.get (i := 1) ht24 rfl)) rfl ?_
    refine Rg.tm trivial rfl (t_assign rfl) rfl ?_
    refine Rg.done ?_
    refine Wp.seq ?_
    refine Wp.seq (Wp.region ?_)
    refine Rg.tm trivial rfl (t_fieldAddr fa27_2 rfl) rfl ?_
    refine Rg.tm trivial rfl (t_load ty3 rfl (by apply Cells.get (i := 2); (case h => assumption); rfl)) rfl ?_
    first | refine Rg.tm trivial rfl (t_eqlT rfl rfl (by omega)) rfl ?_ | refine Rg.tm trivial rfl (t_eqlF rfl rfl (by omega)) rfl ?_ | refine Rg.tm trivial rfl (t_eql rfl rfl) rfl ?_
    refine Rg.tm trivial rfl (t_move rfl) rfl ?_
    first | refine Rg.tm ⟨_,rfl,rfl⟩ rfl (t_fieldAddr fa27_2 rfl) rfl ?_ | refine Rg.so rfl rfl ?_
    first | refine Rg.tm ⟨_,rfl,rfl⟩ rfl (t_load ty3 rfl (by apply Cells.get (i := 2); (case h => assumption); rfl)) rfl ?_ | refine Rg.so rfl rfl ?_
    first | refine Rg.so rfl rfl ?_ | refine Rg.tm ⟨_,rfl,rfl⟩ rfl (t_eqlT rfl rfl (by omega)) rfl ?_
    first | refine Rg.tm trivial rfl (t_pickT rfl rfl) rfl ?_ | refine Rg.tm trivial rfl (t_pickF rfl rfl) rfl ?_
    refine Rg.done ?_
    refine Wp.condT rfl ?_
    refine Wp.seq (Wp.draw [0,1,2,3,5,6,7,8,9,10,11,4,12,13] [0] mixed (by kernel_rfl) (by kernel_rfl) ?_)
    intro w4 hx4 _
    replace hx := hx.ext hx4
    replace hv3 := hv3.ext hx4
    replace hc3 := hc3.ext hx4
    replace hv4 := hv4.ext hx4
    replace ht24 := ht24.ext hx4
    refine Rg.tm trivial rfl (t_fieldAddr fa27_2 rfl) rfl ?_
    refine Rg.tm trivial rfl (t_load ty3 rfl (by apply Cells.get (i := 2); (case h => assumption); rfl)) rfl ?_
    refine Rg.tm trivial rfl (t_move rfl) rfl ?_
    refine Rg.tm trivial rfl (t_len Tryz.underlying9 rfl) rfl ?_
    refine Rg.tm trivial rfl (t_move rfl) rfl ?_
    refine Rg.tm trivial rfl (t_move rfl) rfl ?_
    refine Rg.tm trivial rfl (t_len Tryz.underlying9 rfl) rfl ?_
    refine Rg.tm trivial rfl (t_fieldAddr fa27_3 rfl) rfl ?_
    refine Rg.tm trivial rfl (t_load ty3 rfl (by apply Cells.get (i := 3); (case h => assumption); rfl)) rfl ?_
    refine Rg.tm trivial rfl (t_minI rfl rfl) rfl ?_
    refine Rg.tm trivial rfl (t_sliceS Tryz.underlying9 rfl rfl rfl (by omega)) rfl ?_
    refine Rg.wdB trivial rfl (w_buildSlice (bs41_2 _ _) rfl) rfl (fun _ _ h => by obtain ⟨_,_,_,h,_⟩ := h; exact h) ?_
    rintro _ wb ⟨b39,rfl,q39,hx39,hv39⟩
    have k39 := hx.le
    replace hx := hx.ext hx39
    replace hc3 := hc3.ext hx39
    replace hv4 := hv4.ext hx39
    have ho39 : wb.ownsRow w.heap.size 3 1 (.slice (some ⟨b39,0,none⟩) 2 2) 2 [.int .i64 query,.int .i64 (l[ix].2.size : Int)] := own_of_varS hv39 (by omega) rfl (by unfold maxLen; omega)
    refine Rg.tm trivial rfl (t_build (bd43_4_5 _ _ _ _) rfl) rfl ?_
    refine Rg.wnB trivial rfl (w_put hv4 rfl rfl rfl ty43 rfl rfl) (by rfl) ?_
    rintro _ wd ⟨hu,hv4'⟩
    replace hx := hx.upd hu (by omega)
    replace ho39 := own_upd ho39 hv4 hu (by decide)
    refine Rg.done ?_
    refine Wp.ret ?_
    exact ⟨[_],⟨RV.cellA (vs := [_,_,_,_,_,_]) ty43 rfl hv4'.cells,trivial⟩,⟨_,_,rfl,ho39⟩,hx⟩
  ·have hsk : sketch l query arg name = (0,l.flatMap (fun m => [(m.2.size : Int),arg]),name) := by
    unfold sketch; rw [if_neg hneg,if_neg hloc]
   rw [hsk]
   have hq2 : ¬ query = 2 := fun h => hloc (.inl h)
   have hq3 : ¬ query = 3 := fun h => hloc (.inr h)
   refine Wp.seq (Wp.region ?_)
   refine Rg.wd trivial (w_boxed rfl rfl) rfl ?_
   rintro _ w1 ⟨b3,rfl,qb3,hx1,hv3⟩
   replace hx := hx.ext hx1
   have hc3 := hv3.cells
   have kb4 := hx.le
   refine Rg.wd trivial (w_new Tryz.zeroValue43 rfl) rfl ?_
   rintro _ w2 ⟨b4,rfl,qb4,hx2,hv4⟩
   replace hx := hx.ext hx2
   replace hv3 := hv3.ext hx2
   replace hc3 := hc3.ext hx2
   have k4 := hx.le
   refine Rg.done ?_
   refine Wp.seq (Wp.region ?_)
   refine Rg.tm trivial rfl (t_move rfl) rfl ?_
   refine Rg.tm trivial rfl (t_fieldAddr fa27_4 rfl) rfl ?_
   refine Rg.tm trivial rfl (t_load ty9 rfl (by apply Cells.get (i := 4); (case h => assumption); rfl)) rfl ?_
   refine Rg.wd trivial (w_call Tryz.call28 rfl (moduleIndex_ok (hs0.ext hx) (by omega))) rfl ?_
   rintro _ w3 ⟨rfl,hx3⟩
   replace hx := hx.ext hx3
   replace hv3 := hv3.ext hx3
   replace hc3 := hc3.ext hx3
   replace hv4 := hv4.ext hx3
   rw [eix]
   refine Rg.tm trivial rfl (t_assign rfl) rfl ?_
   refine Rg.done ?_
   refine Wp.seq ?_
   refine Wp.seq (Wp.region ?_)
   refine Rg.tm trivial rfl (t_move rfl) rfl ?_
   first | refine Rg.tm trivial rfl (t_lssT rfl rfl (by omega)) rfl ?_ | refine Rg.tm trivial rfl (t_lssF rfl rfl (by omega)) rfl ?_ | refine Rg.tm trivial rfl (t_lss rfl rfl) rfl ?_
   refine Rg.tm trivial rfl (t_move rfl) rfl ?_
   first | refine Rg.tm ⟨_,rfl,rfl⟩ rfl (t_fieldAddr fa27_3 rfl) rfl ?_ | refine Rg.so rfl rfl ?_
   first | refine Rg.tm ⟨_,rfl,rfl⟩ rfl (t_load ty3 rfl (by apply Cells.get (i := 3); (case h => assumption); rfl)) rfl ?_ | refine Rg.so rfl rfl ?_
   first | refine Rg.tm ⟨_,rfl,rfl⟩ rfl (t_lssT rfl rfl (by omega)) rfl ?_ | refine Rg.tm ⟨_,rfl,rfl⟩ rfl (t_lssF rfl rfl (by omega)) rfl ?_ | refine Rg.tm ⟨_,rfl,rfl⟩ rfl (t_lss rfl rfl) rfl ?_ | refine Rg.so rfl rfl ?_
   first | refine Rg.tm trivial rfl (t_pickT rfl rfl) rfl ?_ | refine Rg.tm trivial rfl (t_pickF rfl rfl) rfl ?_
   refine Rg.done ?_
   refine Wp.condF rfl ?_
   refine Wp.skip ?_
   refine Wp.seq (Wp.region ?_)
   refine Rg.tm trivial rfl (t_move rfl) rfl ?_
   refine Rg.tm trivial rfl (t_move rfl) rfl ?_
   refine Rg.ix hs0 trivial rfl rfl Tryz.underlying49 ty52 (by omega) rfl ?_
   intro bt24 ot24 ht24
   replace ht24 := ht24.ext hx
   rw [Int.toNat_natCast,encs_at mc_len l ix hix] at ht24
   refine Rg.tm trivial rfl (t_fieldAddr fa52_1 rfl) rfl ?_
   refine Rg.tm trivial rfl (t_load ty9 rfl (Cells.get (i := 1) ht24 rfl)) rfl ?_
   refine Rg.tm trivial rfl (t_assign rfl) rfl ?_
   refine Rg.done ?_
   refine Wp.seq ?_
   refine Wp.seq (Wp.region ?_)
   refine Rg.tm trivial rfl (t_fieldAddr fa27_2 rfl) rfl ?_
   refine Rg.tm trivial rfl (t_load ty3 rfl (by apply Cells.get (i := 2); (case h => assumption); rfl)) rfl ?_
   first | refine Rg.tm trivial rfl (t_eqlT rfl rfl (by omega)) rfl ?_ | refine Rg.tm trivial rfl (t_eqlF rfl rfl (by omega)) rfl ?_ | refine Rg.tm trivial rfl (t_eql rfl rfl) rfl ?_
   refine Rg.tm trivial rfl (t_move rfl) rfl ?_
   first | refine Rg.tm ⟨_,rfl,rfl⟩ rfl (t_fieldAddr fa27_2 rfl) rfl ?_ | refine Rg.so rfl rfl ?_
   first | refine Rg.tm ⟨_,rfl,rfl⟩ rfl (t_load ty3 rfl (by apply Cells.get (i := 2); (case h => assumption); rfl)) rfl ?_ | refine Rg.so rfl rfl ?_
   refine Rg.tm ⟨_,rfl,rfl⟩ rfl (t_eqlF rfl rfl (by omega)) rfl ?_
   first | refine Rg.tm trivial rfl (t_pickT rfl rfl) rfl ?_ | refine Rg.tm trivial rfl (t_pickF rfl rfl) rfl ?_
   refine Rg.done ?_
   refine Wp.condF rfl ?_
   refine Wp.skip ?_
   refine Wp.seq (Wp.region ?_)
   refine Rg.tm trivial rfl (t_fieldAddr fa27_4 rfl) rfl ?_
   refine Rg.tm trivial rfl (t_load ty9 rfl (by apply Cells.get (i := 4); (case h => assumption); rfl)) rfl ?_
   refine Rg.tm trivial rfl (t_build (bd43_5 _) rfl) rfl ?_
   refine Rg.wd trivial (w_new Tryz.zeroValue43 rfl) rfl ?_
   rintro _ wa ⟨b7,rfl,qb7,hxa,hva⟩
   have k7 := hx.le
   have kb4x : b4 ≠ b7 := by have := hv4.lt; omega
   refine Rg.wn trivial (w_put hva rfl rfl rfl ty43 rfl rfl) ?_
   rintro _ w4 ⟨hu,hv7⟩
   have hx4 := hxa.upd hu (Nat.le_of_eq qb7.symm)
   replace hx := hx.ext hx4
   replace hv3 := hv3.ext hx4
   replace hc3 := hc3.ext hx4
   replace hv4 := hv4.ext hx4
   replace ht24 := ht24.ext hx4
   refine Rg.done ?_
   refine Wp.seq ?_
   refine Wp.seq (Wp.region ?_)
   refine Rg.tm trivial rfl (t_move rfl) rfl ?_
   refine Rg.tm trivial rfl (t_lenC hs0 Tryz.underlying49 rfl) rfl ?_
   refine Rg.tm trivial rfl (t_move rfl) rfl ?_
   refine Rg.done ?_
   refine Wp.block ?_
   refine Wp.loop (ι := Nat × Option Addr × Nat) (fun k => [(3,.pointer (some ⟨b3,0,none⟩)),(4,.pointer (some ⟨b4,0,none⟩)),(7,.pointer (some ⟨b7,0,none⟩)),(51,.slice pv l.length cv),(52,.int .i64 l.length),(53,.int .i64 k.1)])
    (fun k w' => k.1 ≤ l.length ∧ Var w' b3 [.int .i64 c0,.int .i64 i0,.int .i64 query,.int .i64 arg,.string name] 27 ∧ Var w' b4 [.int .i64 0,.int .i64 0,.int .i64 0,.int .i64 0,.slice none 0 0,.string ⟨#[]⟩] 43 ∧
     Var w' b7 [.int .i64 0,.int .i64 0,.int .i64 0,.int .i64 0,.slice k.2.1 (k.1 * 2) k.2.2,.string name] 43 ∧ w'.ownsRow w.heap.size 3 1 (.slice k.2.1 (k.1 * 2) k.2.2) (k.1 * 2) (((l.take k.1).flatMap (fun m => [(m.2.size : Int),arg])).map (.int .i64)) ∧ Ext w w')
    (fun k => l.length - k.1) (0,none,0) (by repeat (first | exact .nil | refine .cons rfl ?_)) ⟨Nat.zero_le _,hv3,hv4,hv7,own_nil _ _ _ _,hx⟩ ?_
   clear hx hv3 hc3 hv4 hv7
   rintro ⟨k,pk,ck⟩ w3 ⟨hk,hv3,hv4,hv7,ho,hx⟩
   simp only at hk hv7 ho ⊢
   have hc3 := hv3.cells
   have hc7 := hv7.cells
   by_cases hlt : k < l.length
   ·have hleN := hx.le
    refine Wp.seq (Wp.region ?_)
    first | refine Rg.tm trivial rfl (t_lssT rfl rfl (by omega)) rfl ?_ | refine Rg.tm trivial rfl (t_lssF rfl rfl (by omega)) rfl ?_ | refine Rg.tm trivial rfl (t_lss rfl rfl) rfl ?_
    refine Rg.done ?_
    refine Wp.seq ?_
    refine Wp.condT rfl ?_
    refine Wp.skip ?_
    refine Wp.seq ?_
    refine Wp.block ?_
    refine Wp.seq (Wp.region ?_)
    refine Rg.ix hs0 trivial rfl rfl Tryz.underlying49 ty52 (by omega) rfl ?_
    intro bt55 ot55 ht55
    replace ht55 := ht55.ext hx
    rw [Int.toNat_natCast,encs_at mc_len l k hlt] at ht55
    refine Rg.tm trivial rfl (t_loadA rfl ht55 ty52) rfl ?_
    refine Rg.wd trivial (w_new Tryz.zeroValue52 rfl) rfl ?_
    rintro _ wb ⟨b9,rfl,qb9,hxb,hvb⟩
    refine Rg.wn trivial (w_put hvb rfl rfl rfl ty52 rfl rfl) ?_
    rintro _ w5 ⟨hu,hv9⟩
    have hx5 := hxb.upd hu (Nat.le_of_eq qb9.symm)
    replace hx := hx.ext hx5
    replace hv3 := hv3.ext hx5
    replace hc3 := hc3.ext hx5
    replace hv4 := hv4.ext hx5
    replace hv7 := hv7.ext hx5
    replace hc7 := hc7.ext hx5
    replace ht55 := ht55.ext hx5
    have hc9 := hv9.cells
    replace ho := own_ext ho hx5
    refine Rg.done ?_
    refine Wp.region ?_
    refine Rg.tm trivial rfl (t_fieldAddr fa43_4 rfl) rfl ?_
    refine Rg.tm trivial rfl (t_load ty41 rfl (Cells.get (i := 4) hc7 rfl)) rfl ?_
    refine Rg.tm trivial rfl (t_fieldAddr fa52_1 rfl) rfl ?_
    refine Rg.tm trivial rfl (t_load ty9 rfl (Cells.get (i := 1) hc9 rfl)) rfl ?_
    refine Rg.tm trivial rfl (t_len Tryz.underlying9 rfl) rfl ?_
    refine Rg.tm trivial rfl (t_fieldAddr fa27_3 rfl) rfl ?_
    refine Rg.tm trivial rfl (t_load ty3 rfl (Cells.get (i := 3) hc3 rfl)) rfl ?_
    refine Rg.wd trivial (w_buildSlice (bs41_2 _ _) rfl) rfl ?_
    rintro _ wc ⟨b64,rfl,q64,hx64,hv64⟩
    replace hx := hx.ext hx64
    replace hv3 := hv3.ext hx64
    replace hv4 := hv4.ext hx64
    replace hv7 := hv7.ext hx64
    replace ho := own_ext ho hx64
    have hs64 : SlC wc (.slice (some ⟨b64,0,none⟩) 2 2) 1 2 [.int .i64 (l[k].2.size : Int),.int .i64 arg] := slc_var hv64 rfl
    clear hc3 hc7 hc9
    refine Rg.wd trivial (w_appendC w.heap.size Tryz.underlying41 hi3 hz3 hsi3 hby3 rfl (by decide) rfl rfl ho hs64 (by simp [Value.oneCell']) (by unfold maxLen; omega) (by omega) hx.le) rfl ?_
    rintro v65 wd ⟨ho2,hgr,p65,l65,c65,rfl⟩
    obtain ⟨_,_,e65⟩ := own_shape ho2
    injection e65 with _ e65 _
    subst e65
    have hx' := own_ext3 hx ho hgr
    replace hv3 := hv3.grown ho hgr (by decide)
    replace hv4 := hv4.grown ho hgr (by decide)
    replace hv7 := hv7.grown ho hgr (by decide)
    clear hx ho
    have hx := hx'
    clear hx'
    refine Rg.tm trivial rfl (t_fieldAddr fa43_4 rfl) rfl ?_
    refine Rg.wn trivial (w_putF hv7 ty41 rfl rfl rfl rfl rfl) ?_
    rintro _ we ⟨hu,hv7'⟩
    replace ho2 := own_upd ho2 hv7 hu (by decide)
    replace hv3 := hv3.upd hu (hv3.ne hv7 (by decide))
    replace hv4 := hv4.upd hu (fun e => by rw [e] at kb4x; exact absurd rfl kb4x)
    replace hx := hx.upd hu (by omega)
    clear hv7
    simp only [List.set] at hv7'
    refine Rg.done ?_
    refine Wp.region ?_
    first | refine Rg.tm trivial rfl (t_addI rfl rfl (by omega)) rfl ?_ | refine Rg.tm trivial rfl (t_add rfl rfl) rfl ?_
    refine Rg.tm trivial rfl (t_move rfl) rfl ?_
    refine Rg.done ?_
    refine ⟨(k + 1,p65,c65),by repeat (first | exact .nil | refine .cons rfl ?_),⟨hlt,hv3,hv4,?_,?_,hx⟩,by simp only; omega⟩
    ·rw [show (k + 1) * 2 = k * 2 + 2 from by omega]; exact hv7'
    ·rw [show (k + 1) * 2 = k * 2 + 2 from by omega,List.take_succ_eq_append_getElem hlt,List.flatMap_append,List.map_append]
     simpa using ho2
   ·obtain rfl : k = l.length := by omega
    refine Wp.seq (Wp.region ?_)
    first | refine Rg.tm trivial rfl (t_lssT rfl rfl (by omega)) rfl ?_ | refine Rg.tm trivial rfl (t_lssF rfl rfl (by omega)) rfl ?_ | refine Rg.tm trivial rfl (t_lss rfl rfl) rfl ?_
    refine Rg.done ?_
    refine Wp.seq ?_
    refine Wp.condF rfl ?_
    refine Wp.exit ?_
    refine Wp.seq (Wp.region ?_)
    refine Rg.tm trivial rfl (t_loadA rfl hc7 ty43) rfl ?_
    refine Rg.wn trivial (w_put hv4 rfl rfl rfl ty43 rfl rfl) ?_
    rintro _ wd ⟨hu,hv4'⟩
    replace hx := hx.upd hu (by omega)
    replace ho := own_upd ho hv4 hu (by decide)
    refine Rg.done ?_
    refine Wp.ret ?_
    rw [List.take_length] at ho
    have hlen : (l.flatMap (fun m => [(m.2.size : Int),arg])).length = l.length * 2 := by have := ho.1; simpa using this
    exact ⟨[_],⟨RV.cellA (vs := [_,_,_,_,_,_]) ty43 rfl hv4'.cells,trivial⟩,⟨pk,ck,by rw [hlen]; rfl,by rw [hlen]; exact ho⟩,hx⟩
end Go.Proofs.YtliofpegbcegiaaGreatDoor
