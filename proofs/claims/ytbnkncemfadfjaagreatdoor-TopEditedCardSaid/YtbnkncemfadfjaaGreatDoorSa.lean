/- The walks of package inputs: the store's map, Equal, Clone, Set. Printed by r3/topf.py. -/
import Derived.Test.YtbnkncemfadfjaaGreatDoorCd
import Derived.Test.YtbnkncemfadfjaaGreatDoorGa
import Derived.Laws.StructEq
namespace Go.Proofs.YtbnkncemfadfjaaGreatDoor
set_option linter.unusedVariables false
set_option linter.unusedSimpArgs false
set_option maxRecDepth 20000
open Go.Gx Go.RowKit Go.Lib

theorem part3 (xs : Array Value) (v : Value) (o : Nat) (h : xs[o]? = some v) (w : World) : (part 3 xs o).run Tryz.prog w = .ok v w := by
  have h1 := ty3.ag w
  have h2 := ty3.sz w
  simp [part, h1, h2, h]
theorem fields64 : (Tryz.prog.fieldsOf 64).toList.map (fun f => (f.name != "_", f.type, f.offset)) = [(true, 3, 0), (true, 3, 1), (true, 3, 2)] := by kernel_rfl
theorem under64 : Tryz.prog.underlying 64 = some (.struct (Tryz.prog.fieldsOf 64)) := by kernel_rfl
theorem three64 : ∃ f0 f1 f2 : Field, (Tryz.prog.fieldsOf 64).toList = [f0, f1, f2] ∧ f0.name ≠ "_" ∧ f0.type = 3 ∧ f0.offset = 0 ∧ f1.name ≠ "_" ∧ f1.type = 3 ∧ f1.offset = 1 ∧ f2.name ≠ "_" ∧ f2.type = 3 ∧ f2.offset = 2 := by
  have hf := fields64
  generalize (Tryz.prog.fieldsOf 64).toList = fs at hf ⊢
  rcases fs with _ | ⟨f0, _ | ⟨f1, _ | ⟨f2, _ | ⟨f3, r⟩⟩⟩⟩
  · cases hf
  · simp at hf
  · simp at hf
  · simp only [List.map_cons, List.map_nil, List.cons.injEq, Prod.mk.injEq, and_true, bne_iff_ne, ne_eq] at hf
    obtain ⟨⟨n0, t0, o0⟩, ⟨n1, t1, o1⟩, n2, t2, o2⟩ := hf
    exact ⟨f0, f1, f2, rfl, n0, t0, o0, n1, t1, o1, n2, t2, o2⟩
  · simp at hf
def KQ (v : Value) : Prop := ∃ a b c : Int, v = .agg #[.int .i64 a, .int .i64 b, .int .i64 c]
theorem eq64 (a b c x y z : Int) (w : World) : (Op.equal 64 (.agg #[.int .i64 a, .int .i64 b, .int .i64 c]) (.agg #[.int .i64 x, .int .i64 y, .int .i64 z])).run Tryz.prog w = .ok (a == x && (b == y && c == z)) w := by
  obtain ⟨f0, f1, f2, hf, n0, t0, o0, n1, t1, o1, n2, t2, o2⟩ := three64
  unfold Op.equal
  rw [show Op.maxDepth = 9999 + 1 from rfl, run_equalIn_struct w 9999 64 _ _ under64 (by kernel_rfl), hf]
  have e1 : ∀ p q : Int, (Op.equalIn 9999 3 (.int .i64 p) (.int .i64 q)).run Tryz.prog w = .ok (p == q) w := fun p q => run_equalIn_int w 9998 3 .i64 .i64 p q Tryz.underlying3
  have p0 := part3 #[.int .i64 a, .int .i64 b, .int .i64 c] (.int .i64 a) 0 rfl w
  have p1 := part3 #[.int .i64 a, .int .i64 b, .int .i64 c] (.int .i64 b) 1 rfl w
  have p2 := part3 #[.int .i64 a, .int .i64 b, .int .i64 c] (.int .i64 c) 2 rfl w
  have q0 := part3 #[.int .i64 x, .int .i64 y, .int .i64 z] (.int .i64 x) 0 rfl w
  have q1 := part3 #[.int .i64 x, .int .i64 y, .int .i64 z] (.int .i64 y) 1 rfl w
  have q2 := part3 #[.int .i64 x, .int .i64 y, .int .i64 z] (.int .i64 z) 2 rfl w
  have ea := e1 a x
  have eb := e1 b y
  have ec := e1 c z
  generalize (a == x) = r1 at ea ⊢
  generalize (b == y) = r2 at eb ⊢
  generalize (c == z) = r3 at ec ⊢
  simp only [Op.eqFields, t0, t1, t2, o0, o1, o2, n0, n1, n2, ne_eq, not_false_eq_true, if_true, Sem.run_bind, p0, q0, Result.andThen_ok, ea]
  cases r1
  · simp
  · simp [p1, q1, eb]
    cases r2
    · simp
    · simp [p2, q2, ec]
      cases r3 <;> simp
theorem chk64 (a b c : Int) (em : Bool) (w : World) : (Instr.checkKey em 10000 64 (.agg #[.int .i64 a, .int .i64 b, .int .i64 c])).run Tryz.prog w = .ok () w := by
  obtain ⟨f0, f1, f2, hf, n0, t0, o0, n1, t1, o1, n2, t2, o2⟩ := three64
  have p0 := part3 #[.int .i64 a, .int .i64 b, .int .i64 c] (.int .i64 a) 0 rfl w
  have p1 := part3 #[.int .i64 a, .int .i64 b, .int .i64 c] (.int .i64 b) 1 rfl w
  have p2 := part3 #[.int .i64 a, .int .i64 b, .int .i64 c] (.int .i64 c) 2 rfl w
  have e1 : ∀ p : Int, (Instr.checkKey em 9999 3 (.int .i64 p)).run Tryz.prog w = .ok () w := fun p => by
    rw [show (9999 : Nat) = 9998 + 1 from rfl]
    generalize 9998 = dd
    simp [Instr.checkKey, run_underlying Tryz.underlying3]
  rw [show (10000 : Nat) = 9999 + 1 from rfl]
  generalize 9999 = dd at e1 ⊢
  unfold Instr.checkKey
  simp only [run_underlying under64, Sem.run_bind, Result.andThen_ok]
  rw [← Array.forIn_toList, hf]
  simp [n0, n1, n2, t0, t1, t2, o0, o1, o2, p0, p1, p2, e1]
theorem bits64 (a b c : Int) : Instr.sameBits 10000 (.agg #[.int .i64 a, .int .i64 b, .int .i64 c]) (.agg #[.int .i64 a, .int .i64 b, .int .i64 c]) = true := by
  rw [show (10000 : Nat) = 9999 + 1 from rfl]
  generalize 9999 = dd
  simp [Instr.sameBits]
theorem keyT : KeyT Tryz.prog 64 KQ where
  wide := by kernel_rfl
  chk := by
    rintro _ ⟨a, b, c, rfl⟩ em w
    exact chk64 a b c em w
  eq := by
    rintro _ _ ⟨a, b, c, rfl⟩ ⟨x, y, z, rfl⟩
    refine ⟨_, fun w => eq64 a b c x y z w, fun h => ?_⟩
    simp only [Bool.and_eq_true, beq_iff_eq] at h
    obtain ⟨rfl, rfl, rfl⟩ := h
    rfl
  bits := by
    rintro _ ⟨a, b, c, rfl⟩
    exact bits64 a b c

theorem eqInts_ok {w : World} {v1 v2 : Value} {n m : Nat} {xs ys : List Int} (hx0 : SlC w v1 1 n (xs.map (.int .i64))) (hy0 : SlC w v2 1 m (ys.map (.int .i64))) (hn : n ≤ 100) :
    Cl Tryz.prog 137 #[v1, v2] w (fun u w' => (∃ b, u = .bool b) ∧ Ext w w') := by
  have hx := Ext.refl w
  have lx : xs.length = n := by have := hx0.1; simpa using this
  have ly : ys.length = m := by have := hy0.1; simpa using this
  by_cases hnm : n = m
  · subst hnm
    refine Cl.enter Tryz.func137 rfl Tryz.ntmps137 rfl rfl ?_
    refine Wp.seq (Wp.region ?_)
    refine Rg.tm trivial rfl (t_assign rfl) rfl ?_
    refine Rg.done ?_
    refine Wp.seq ?_
    refine Wp.seq (Wp.region ?_)
    refine Rg.tm trivial rfl (t_move rfl) rfl ?_
    refine Rg.tm trivial rfl (t_lenC hx0 Tryz.underlying58 rfl) rfl ?_
    refine Rg.tm trivial rfl (t_move rfl) rfl ?_
    refine Rg.tm trivial rfl (t_lenC hy0 Tryz.underlying58 rfl) rfl ?_
    first | refine Rg.tm trivial rfl (t_neqT rfl rfl (by omega)) rfl ?_ | refine Rg.tm trivial rfl (t_neqF rfl rfl (by omega)) rfl ?_ | refine Rg.tm trivial rfl (t_neq rfl rfl) rfl ?_
    refine Rg.done ?_
    refine Wp.condF rfl ?_
    refine Wp.skip ?_
    refine Wp.seq ?_
    refine Wp.seq (Wp.region ?_)
    refine Rg.tm trivial rfl (t_move rfl) rfl ?_
    refine Rg.tm trivial rfl (t_lenC hx0 Tryz.underlying58 rfl) rfl ?_
    refine Rg.tm trivial rfl (t_move rfl) rfl ?_
    refine Rg.done ?_
    refine Wp.block ?_
    refine Wp.loop (ι := Nat) (fun k => [(0, v1), (1, v2), (12, .int .i64 n), (13, .int .i64 k)])
      (fun k w' => k ≤ n ∧ Ext w w') (fun k => n - k) 0 (by repeat (first | exact .nil | refine .cons rfl ?_)) ⟨Nat.zero_le _, hx⟩ ?_
    clear hx
    rintro k w3 ⟨hk, hx⟩
    by_cases hlt : k < n
    · by_cases heq : xs[k]'(by omega) = ys[k]'(by omega)
      · skip
        refine Wp.seq (Wp.region ?_)
        first | refine Rg.tm trivial rfl (t_lssT rfl rfl (by omega)) rfl ?_ | refine Rg.tm trivial rfl (t_lssF rfl rfl (by omega)) rfl ?_ | refine Rg.tm trivial rfl (t_lss rfl rfl) rfl ?_
        refine Rg.done ?_
        refine Wp.seq ?_
        refine Wp.condT rfl ?_
        refine Wp.skip ?_
        refine Wp.seq ?_
        refine Wp.block ?_
        refine Wp.seq (Wp.region ?_)
        refine Rg.tm trivial rfl (t_move rfl) rfl ?_
        refine Rg.tm trivial rfl (t_assign rfl) rfl ?_
        refine Rg.done ?_
        refine Wp.seq (Wp.draw [0, 1, 2, 3, 4, 5, 6, 7, 8] [] mixed (by kernel_rfl) (by kernel_rfl) ?_)
        intro w1 hx1 _
        replace hx := hx.ext hx1
        refine Rg.tm trivial rfl (t_move rfl) rfl ?_
        refine Rg.tm trivial rfl (t_move rfl) rfl ?_
        refine Rg.ix hx0 trivial rfl rfl Tryz.underlying58 ty3 (by omega) rfl ?_
        intro bt18 ot18 ht18
        replace ht18 := ht18.ext hx
        rw [Int.toNat_natCast, Nat.mul_one, List.drop_eq_getElem_cons (by simp; omega), List.getElem_map, List.take_succ_cons, List.take_zero] at ht18
        refine Rg.tm trivial rfl (t_load ty3 rfl (by first | assumption | (apply Cells.get (i := 0); (case h => assumption); rfl))) rfl ?_
        refine Rg.tm trivial rfl (t_move rfl) rfl ?_
        refine Rg.tm trivial rfl (t_move rfl) rfl ?_
        refine Rg.ix hy0 trivial rfl rfl Tryz.underlying58 ty3 (by omega) rfl ?_
        intro bt22 ot22 ht22
        replace ht22 := ht22.ext hx
        rw [Int.toNat_natCast, Nat.mul_one, List.drop_eq_getElem_cons (by simp; omega), List.getElem_map, List.take_succ_cons, List.take_zero] at ht22
        refine Rg.tm trivial rfl (t_load ty3 rfl (by first | assumption | (apply Cells.get (i := 0); (case h => assumption); rfl))) rfl ?_
        first | refine Rg.tm trivial rfl (t_neqT rfl rfl (by omega)) rfl ?_ | refine Rg.tm trivial rfl (t_neqF rfl rfl (by omega)) rfl ?_ | refine Rg.tm trivial rfl (t_neq rfl rfl) rfl ?_
        refine Rg.done ?_
        refine Wp.condF rfl ?_
        refine Wp.skip ?_
        refine Wp.region ?_
        first | refine Rg.tm trivial rfl (t_addI rfl rfl (by omega)) rfl ?_ | refine Rg.tm trivial rfl (t_add rfl rfl) rfl ?_
        refine Rg.tm trivial rfl (t_move rfl) rfl ?_
        refine Rg.done ?_
        exact ⟨k + 1, by repeat (first | exact .nil | refine .cons rfl ?_), ⟨hlt, hx⟩, by omega⟩
      · skip
        refine Wp.seq (Wp.region ?_)
        first | refine Rg.tm trivial rfl (t_lssT rfl rfl (by omega)) rfl ?_ | refine Rg.tm trivial rfl (t_lssF rfl rfl (by omega)) rfl ?_ | refine Rg.tm trivial rfl (t_lss rfl rfl) rfl ?_
        refine Rg.done ?_
        refine Wp.seq ?_
        refine Wp.condT rfl ?_
        refine Wp.skip ?_
        refine Wp.seq ?_
        refine Wp.block ?_
        refine Wp.seq (Wp.region ?_)
        refine Rg.tm trivial rfl (t_move rfl) rfl ?_
        refine Rg.tm trivial rfl (t_assign rfl) rfl ?_
        refine Rg.done ?_
        refine Wp.seq (Wp.draw [0, 1, 2, 3, 4, 5, 6, 7, 8] [] mixed (by kernel_rfl) (by kernel_rfl) ?_)
        intro w1 hx1 _
        replace hx := hx.ext hx1
        refine Rg.tm trivial rfl (t_move rfl) rfl ?_
        refine Rg.tm trivial rfl (t_move rfl) rfl ?_
        refine Rg.ix hx0 trivial rfl rfl Tryz.underlying58 ty3 (by omega) rfl ?_
        intro bt18 ot18 ht18
        replace ht18 := ht18.ext hx
        rw [Int.toNat_natCast, Nat.mul_one, List.drop_eq_getElem_cons (by simp; omega), List.getElem_map, List.take_succ_cons, List.take_zero] at ht18
        refine Rg.tm trivial rfl (t_load ty3 rfl (by first | assumption | (apply Cells.get (i := 0); (case h => assumption); rfl))) rfl ?_
        refine Rg.tm trivial rfl (t_move rfl) rfl ?_
        refine Rg.tm trivial rfl (t_move rfl) rfl ?_
        refine Rg.ix hy0 trivial rfl rfl Tryz.underlying58 ty3 (by omega) rfl ?_
        intro bt22 ot22 ht22
        replace ht22 := ht22.ext hx
        rw [Int.toNat_natCast, Nat.mul_one, List.drop_eq_getElem_cons (by simp; omega), List.getElem_map, List.take_succ_cons, List.take_zero] at ht22
        refine Rg.tm trivial rfl (t_load ty3 rfl (by first | assumption | (apply Cells.get (i := 0); (case h => assumption); rfl))) rfl ?_
        first | refine Rg.tm trivial rfl (t_neqT rfl rfl (by omega)) rfl ?_ | refine Rg.tm trivial rfl (t_neqF rfl rfl (by omega)) rfl ?_ | refine Rg.tm trivial rfl (t_neq rfl rfl) rfl ?_
        refine Rg.done ?_
        refine Wp.condT rfl ?_
        refine Wp.seq (Wp.region ?_)
        refine Rg.tm trivial rfl (t_assign rfl) rfl ?_
        refine Rg.done ?_
        refine Wp.ret ?_
        exact ⟨[_], ⟨rfl, trivial⟩, ⟨_, rfl⟩, hx⟩
    · skip
      refine Wp.seq (Wp.region ?_)
      first | refine Rg.tm trivial rfl (t_lssT rfl rfl (by omega)) rfl ?_ | refine Rg.tm trivial rfl (t_lssF rfl rfl (by omega)) rfl ?_ | refine Rg.tm trivial rfl (t_lss rfl rfl) rfl ?_
      refine Rg.done ?_
      refine Wp.seq ?_
      refine Wp.condF rfl ?_
      refine Wp.exit ?_
      refine Wp.seq (Wp.region ?_)
      refine Rg.tm trivial rfl (t_assign rfl) rfl ?_
      refine Rg.done ?_
      refine Wp.ret ?_
      exact ⟨[_], ⟨rfl, trivial⟩, ⟨_, rfl⟩, hx⟩
  · skip
    refine Cl.enter Tryz.func137 rfl Tryz.ntmps137 rfl rfl ?_
    refine Wp.seq (Wp.region ?_)
    refine Rg.tm trivial rfl (t_assign rfl) rfl ?_
    refine Rg.done ?_
    refine Wp.seq ?_
    refine Wp.seq (Wp.region ?_)
    refine Rg.tm trivial rfl (t_move rfl) rfl ?_
    refine Rg.tm trivial rfl (t_lenC hx0 Tryz.underlying58 rfl) rfl ?_
    refine Rg.tm trivial rfl (t_move rfl) rfl ?_
    refine Rg.tm trivial rfl (t_lenC hy0 Tryz.underlying58 rfl) rfl ?_
    first | refine Rg.tm trivial rfl (t_neqT rfl rfl (by omega)) rfl ?_ | refine Rg.tm trivial rfl (t_neqF rfl rfl (by omega)) rfl ?_ | refine Rg.tm trivial rfl (t_neq rfl rfl) rfl ?_
    refine Rg.done ?_
    refine Wp.condT rfl ?_
    refine Wp.seq (Wp.region ?_)
    refine Rg.tm trivial rfl (t_assign rfl) rfl ?_
    refine Rg.done ?_
    refine Wp.ret ?_
    exact ⟨[_], ⟨rfl, trivial⟩, ⟨_, rfl⟩, hx⟩
theorem cloneInts_ok {w : World} {v : Value} {n : Nat} {cs : List Value} (hs : SlC w v 1 n cs) (hone : ∀ u ∈ cs, u.oneCell' = true) (hlen : n ≤ 1000) :
    Cl Tryz.prog 40 #[v] w (fun u w' => w'.ownsRow w.heap.size 3 1 u n cs ∧ Ext w w') := by
  obtain ⟨i, hi, hz, hsi, hby⟩ := inf3
  have hx := Ext.refl w
  obtain ⟨hcl, p, cap, rfl, hc1, hc2⟩ := id hs
  cases p with
  | none =>
    have h0 : cap = 0 := hc2.elim id fun ⟨b, o, h, _⟩ => by cases h
    obtain rfl : n = 0 := by omega
    obtain rfl : cs = [] := List.length_eq_zero_iff.1 (by omega)
    subst h0
    refine Cl.enter Tryz.func40 rfl Tryz.ntmps40 rfl rfl ?_
    refine Wp.seq (Wp.region ?_)
    refine Rg.tm trivial rfl (t_assign rfl) rfl ?_
    refine Rg.done ?_
    refine Wp.seq ?_
    refine Wp.seq (Wp.region ?_)
    refine Rg.tm trivial rfl (t_move rfl) rfl ?_
    refine Rg.tm trivial rfl (t_slNil Tryz.underlying58 rfl rfl) rfl ?_
    refine Rg.done ?_
    refine Wp.condT rfl ?_
    refine Wp.seq (Wp.region ?_)
    refine Rg.tm trivial rfl (t_assign rfl) rfl ?_
    refine Rg.done ?_
    refine Wp.ret ?_
    exact ⟨[_], ⟨rfl, trivial⟩, own_nil _ _ _ _, hx⟩
  | some ad =>
    refine Cl.enter Tryz.func40 rfl Tryz.ntmps40 rfl rfl ?_
    refine Wp.seq (Wp.region ?_)
    refine Rg.tm trivial rfl (t_assign rfl) rfl ?_
    refine Rg.done ?_
    refine Wp.seq ?_
    refine Wp.seq (Wp.region ?_)
    refine Rg.tm trivial rfl (t_move rfl) rfl ?_
    refine Rg.tm trivial rfl (t_slNil Tryz.underlying58 rfl rfl) rfl ?_
    refine Rg.done ?_
    refine Wp.condF rfl ?_
    refine Wp.skip ?_
    refine Wp.seq (Wp.region ?_)
    refine Rg.wd trivial (w_buildSlice bs58_0 rfl) rfl ?_
    rintro _ wb ⟨bb, rfl, qb, hxb, hvb⟩
    replace hx := hx.ext hxb
    have hown : wb.ownsRow w.heap.size 3 1 (.slice (some ⟨bb, 0, none⟩) 0 0) 0 [] := own_of_varS hvb (Nat.le_of_eq qb.symm) rfl (Nat.zero_le _)
    replace hs := hs.ext hxb
    refine Rg.tm trivial rfl (t_move rfl) rfl ?_
    refine Rg.wd trivial (w_appendC w.heap.size Tryz.underlying58 hi hz hsi hby rfl (by decide) rfl rfl hown hs hone (by unfold maxLen; omega) (by omega) hx.le) rfl ?_
    rintro v2 wc ⟨hown2, hgr, p2, l2, c2, rfl⟩
    replace hx := own_ext3 hx hown hgr
    rw [Nat.zero_add, List.nil_append] at hown2
    refine Rg.tm trivial rfl (t_assign rfl) rfl ?_
    refine Rg.done ?_
    refine Wp.ret ?_
    exact ⟨[_], ⟨rfl, trivial⟩, hown2, hx⟩
theorem cloneMods_ok {w : World} {v : Value} {n : Nat} {cs : List Value} (hs : SlC w v 2 n cs) (hone : ∀ u ∈ cs, u.oneCell' = true) (hlen : n ≤ 1000) :
    Cl Tryz.prog 33 #[v] w (fun u w' => w'.ownsRow w.heap.size 45 2 u n cs ∧ Ext w w') := by
  obtain ⟨i, hi, hz, hsi, hby⟩ := inf45
  have hx := Ext.refl w
  obtain ⟨hcl, p, cap, rfl, hc1, hc2⟩ := id hs
  cases p with
  | none =>
    have h0 : cap = 0 := hc2.elim id fun ⟨b, o, h, _⟩ => by cases h
    obtain rfl : n = 0 := by omega
    obtain rfl : cs = [] := List.length_eq_zero_iff.1 (by omega)
    subst h0
    refine Cl.enter Tryz.func33 rfl Tryz.ntmps33 rfl rfl ?_
    refine Wp.seq (Wp.region ?_)
    refine Rg.tm trivial rfl (t_assign rfl) rfl ?_
    refine Rg.done ?_
    refine Wp.seq ?_
    refine Wp.seq (Wp.region ?_)
    refine Rg.tm trivial rfl (t_move rfl) rfl ?_
    refine Rg.tm trivial rfl (t_slNil Tryz.underlying46 rfl rfl) rfl ?_
    refine Rg.done ?_
    refine Wp.condT rfl ?_
    refine Wp.seq (Wp.region ?_)
    refine Rg.tm trivial rfl (t_assign rfl) rfl ?_
    refine Rg.done ?_
    refine Wp.ret ?_
    exact ⟨[_], ⟨rfl, trivial⟩, own_nil _ _ _ _, hx⟩
  | some ad =>
    refine Cl.enter Tryz.func33 rfl Tryz.ntmps33 rfl rfl ?_
    refine Wp.seq (Wp.region ?_)
    refine Rg.tm trivial rfl (t_assign rfl) rfl ?_
    refine Rg.done ?_
    refine Wp.seq ?_
    refine Wp.seq (Wp.region ?_)
    refine Rg.tm trivial rfl (t_move rfl) rfl ?_
    refine Rg.tm trivial rfl (t_slNil Tryz.underlying46 rfl rfl) rfl ?_
    refine Rg.done ?_
    refine Wp.condF rfl ?_
    refine Wp.skip ?_
    refine Wp.seq (Wp.region ?_)
    refine Rg.wd trivial (w_buildSlice bs46_0 rfl) rfl ?_
    rintro _ wb ⟨bb, rfl, qb, hxb, hvb⟩
    replace hx := hx.ext hxb
    have hown : wb.ownsRow w.heap.size 45 2 (.slice (some ⟨bb, 0, none⟩) 0 0) 0 [] := own_of_varS hvb (Nat.le_of_eq qb.symm) rfl (Nat.zero_le _)
    replace hs := hs.ext hxb
    refine Rg.tm trivial rfl (t_move rfl) rfl ?_
    refine Rg.wd trivial (w_appendC w.heap.size Tryz.underlying46 hi hz hsi hby rfl (by decide) rfl rfl hown hs hone (by unfold maxLen; omega) (by omega) hx.le) rfl ?_
    rintro v2 wc ⟨hown2, hgr, p2, l2, c2, rfl⟩
    replace hx := own_ext3 hx hown hgr
    rw [Nat.zero_add, List.nil_append] at hown2
    refine Rg.tm trivial rfl (t_assign rfl) rfl ?_
    refine Rg.done ?_
    refine Wp.ret ?_
    exact ⟨[_], ⟨rfl, trivial⟩, hown2, hx⟩

theorem ints_one (xs : List Int) : ∀ u ∈ xs.map (Value.int .i64), u.oneCell' = true := fun u hu => by
  obtain ⟨x, _, rfl⟩ := List.mem_map.1 hu
  rfl
theorem own_shape {w : World} {B e size n : Nat} {v : Value} {xs : List Value} (h : w.ownsRow B e size v n xs) : ∃ p c, v = .slice p n c := by
  rcases h.2 with ⟨rfl, rfl⟩ | ⟨g, cap, cur, rfl, _⟩
  · exact ⟨_, _, rfl⟩
  · exact ⟨_, _, rfl⟩
theorem own_mono0 {w : World} {B e size n : Nat} {v : Value} {xs : List Value} (h : w.ownsRow B e size v n xs) : w.ownsRow 0 e size v n xs := own_mono h (Nat.zero_le _)
/-- a value of the store's map -/
def GoodV (w : World) (v : Value) : Prop := ∃ (vn : Value) (xs : List Int) (t : ByteArray) (ca : Int), v = .agg #[vn, .string t, .int .i64 ca, .int .i64 0] ∧ w.ownsRow 0 3 1 vn xs.length (xs.map (.int .i64)) ∧ xs.length ≤ 1
theorem GoodV.ext {w w' : World} {v : Value} (h : GoodV w v) (k : Ext w w') : GoodV w' v := by
  obtain ⟨vn, xs, t, ca, h1, h2, h3⟩ := h
  exact ⟨vn, xs, t, ca, h1, own_ext h2 k, h3⟩
theorem GoodV.upd {w w' : World} {v : Value} {b t0 : Nat} {cs : List Value} (h : GoodV w v) (hv : Var w b cs t0) (hu : Upd b w w') (ht : t0 ≠ 3) : GoodV w' v := by
  obtain ⟨vn, xs, t, ca, h1, h2, h3⟩ := h
  exact ⟨vn, xs, t, ca, h1, own_upd h2 hv hu ht, h3⟩
theorem GoodV.map {w w' : World} {v : Value} {b : Nat} {es : Array MapEntry} (h : GoodV w v) (hm : MapA w b es) (hu : Upd b w w') : GoodV w' v := by
  obtain ⟨vn, xs, t, ca, h1, h2, h3⟩ := h
  exact ⟨vn, xs, t, ca, h1, own_map h2 hm hu, h3⟩
def GoodM (w : World) (bM : Nat) (es : Array MapEntry) : Prop := MapA w bM es ∧ ∀ e ∈ es.toList, KQ e.key ∧ GoodV w e.val
theorem GoodM.ext {w w' : World} {bM : Nat} {es : Array MapEntry} (h : GoodM w bM es) (k : Ext w w') : GoodM w' bM es := ⟨h.1.ext k, fun e he => ⟨(h.2 e he).1, (h.2 e he).2.ext k⟩⟩
theorem GoodM.upd {w w' : World} {bM b t0 : Nat} {cs : List Value} {es : Array MapEntry} (h : GoodM w bM es) (hv : Var w b cs t0) (hu : Upd b w w') (ht : t0 ≠ 3) : GoodM w' bM es := ⟨h.1.upd hv hu, fun e he => ⟨(h.2 e he).1, (h.2 e he).2.upd hv hu ht⟩⟩
/-- the store of inputs -/
def Inp (w : World) (bI bM : Nat) : Prop := ∃ (r a b c : Int) (es : Array MapEntry), Var w bI [.int .i64 r, .int .i64 a, .int .i64 b, .int .i64 c, .map (some bM)] 130 ∧ GoodM w bM es
theorem Inp.ext {w w' : World} {bI bM : Nat} (h : Inp w bI bM) (k : Ext w w') : Inp w' bI bM := by
  obtain ⟨r, a, b, c, es, h1, h2⟩ := h
  exact ⟨r, a, b, c, es, h1.ext k, h2.ext k⟩
theorem Inp.upd {w w' : World} {bI bM bb t0 : Nat} {cs : List Value} (h : Inp w bI bM) (hv : Var w bb cs t0) (hu : Upd bb w w') (ht : t0 ≠ 3) (ht2 : t0 ≠ 130) : Inp w' bI bM := by
  obtain ⟨r, a, b, c, es, h1, h2⟩ := h
  exact ⟨r, a, b, c, es, h1.upd hu (h1.ne hv (Ne.symm ht2)), h2.upd hv hu ht⟩
theorem zeroGood (w : World) : GoodV w (.agg #[.slice none 0 0, .string ⟨#[]⟩, .int .i64 0, .int .i64 0]) := ⟨_, [], _, _, rfl, own_nil _ _ _ _, Nat.zero_le _⟩
theorem cloneV_ok {w : World} {vn : Value} {xs : List Int} {t : ByteArray} (hn : w.ownsRow 0 3 1 vn xs.length (xs.map (.int .i64))) (hl : xs.length ≤ 1) :
    Cl Tryz.prog 96 #[.agg #[vn, .string t]] w (fun u w' => (∃ p c, u = .agg #[.slice p xs.length c, .string t] ∧ w'.ownsRow 0 3 1 (.slice p xs.length c) xs.length (xs.map (.int .i64))) ∧ Ext w w') := by
  have hx := Ext.refl w
  have hs := own_slice hn
  obtain ⟨pn, cn, rfl⟩ := own_shape hn
  refine Cl.enter Tryz.func96 rfl Tryz.ntmps96 rfl rfl ?_
  refine Wp.seq (Wp.region ?_)
  refine Rg.wd trivial (w_boxed rfl rfl) rfl ?_
  rintro _ w1 ⟨b1, rfl, qb1, hx1, hv1⟩
  replace hx := hx.ext hx1
  replace hs := hs.ext hx1
  have hc1 := hv1.cells
  have k1 := hx.le
  refine Rg.wd trivial (w_new Tryz.zeroValue67 rfl) rfl ?_
  rintro _ w2 ⟨b2, rfl, qb2, hx2, hv2⟩
  replace hx := hx.ext hx2
  replace hs := hs.ext hx2
  replace hv1 := hv1.ext hx2
  replace hc1 := hc1.ext hx2
  refine Rg.done ?_
  refine Wp.seq (Wp.draw [0, 1, 3, 4, 2, 5, 6] [0] mixed (by kernel_rfl) (by kernel_rfl) ?_)
  intro w3 hx3 _
  replace hx := hx.ext hx3
  replace hs := hs.ext hx3
  replace hv1 := hv1.ext hx3
  replace hc1 := hc1.ext hx3
  replace hv2 := hv2.ext hx3
  refine Rg.tm trivial rfl (t_fieldAddr fa67_0 rfl) rfl ?_
  refine Rg.tm trivial rfl (t_load ty58 rfl (by apply Cells.get (i := 0); (case h => assumption); rfl)) rfl ?_
  refine Rg.tm trivial rfl (t_fieldAddr fa67_1 rfl) rfl ?_
  refine Rg.tm trivial rfl (t_load ty9 rfl (by apply Cells.get (i := 1); (case h => assumption); rfl)) rfl ?_
  refine Rg.wdB trivial rfl (w_call Tryz.call40 rfl (cloneInts_ok hs (ints_one _) (by omega))) rfl (fun _ _ h => h.2) ?_
  rintro v5 w4 ⟨ho5, hx4⟩
  replace hx := hx.ext hx4
  replace hs := hs.ext hx4
  replace hv1 := hv1.ext hx4
  replace hc1 := hc1.ext hx4
  replace hv2 := hv2.ext hx4
  obtain ⟨p5, c5, rfl⟩ := own_shape ho5
  refine Rg.tm trivial rfl (t_build (bd67_0_1 _ _ _ _) rfl) rfl ?_
  refine Rg.wnB trivial rfl (w_put hv2 rfl rfl rfl ty67 rfl rfl) (by rfl) ?_
  rintro _ wd ⟨hu, hv2'⟩
  replace ho5 := own_upd ho5 hv2 hu (by decide)
  replace hx := hx.upd hu (by omega)
  refine Rg.done ?_
  refine Wp.ret ?_
  exact ⟨[_], ⟨RV.cellA (vs := [_, _]) ty67 rfl hv2'.cells, trivial⟩, ⟨p5, c5, rfl, own_mono0 ho5⟩, hx⟩

theorem equalV_ok {w : World} {vn vm : Value} {xs ys : List Int} {t s : ByteArray} (hn : w.ownsRow 0 3 1 vn xs.length (xs.map (.int .i64))) (hl : xs.length ≤ 1) (hm : w.ownsRow 0 3 1 vm ys.length (ys.map (.int .i64))) :
    Cl Tryz.prog 115 #[.agg #[vn, .string t], .agg #[vm, .string s]] w (fun u w' => (∃ b, u = .bool b) ∧ Ext w w') := by
  have hx := Ext.refl w
  have hs := own_slice hn
  have hs2 := own_slice hm
  by_cases hts : t = s
  · skip
    refine Cl.enter Tryz.func115 rfl Tryz.ntmps115 rfl rfl ?_
    refine Wp.seq (Wp.region ?_)
    refine Rg.wd trivial (w_boxed rfl rfl) rfl ?_
    rintro _ w1 ⟨b2, rfl, qb2, hx1, hv2⟩
    replace hx := hx.ext hx1
    replace hs := hs.ext hx1
    replace hs2 := hs2.ext hx1
    have hc2 := hv2.cells
    refine Rg.wd trivial (w_boxed rfl rfl) rfl ?_
    rintro _ w2 ⟨b3, rfl, qb3, hx2, hv3⟩
    replace hx := hx.ext hx2
    replace hs := hs.ext hx2
    replace hs2 := hs2.ext hx2
    replace hv2 := hv2.ext hx2
    replace hc2 := hc2.ext hx2
    have hc3 := hv3.cells
    refine Rg.tm trivial rfl (t_assign rfl) rfl ?_
    refine Rg.done ?_
    refine Wp.seq (Wp.region ?_)
    refine Rg.tm trivial rfl (t_fieldAddr fa67_1 rfl) rfl ?_
    refine Rg.tm trivial rfl (t_load ty9 rfl (by apply Cells.get (i := 1); (case h => assumption); rfl)) rfl ?_
    refine Rg.tm trivial rfl (t_fieldAddr fa67_1 rfl) rfl ?_
    refine Rg.tm trivial rfl (t_load ty9 rfl (by apply Cells.get (i := 1); (case h => assumption); rfl)) rfl ?_
    first | refine Rg.tm trivial rfl (t_seqlT rfl rfl (by first | with_reducible rfl | assumption)) rfl ?_ | refine Rg.tm trivial rfl (t_seqlF rfl rfl (by assumption)) rfl ?_ | refine Rg.tm trivial rfl (t_seql rfl rfl) rfl ?_
    refine Rg.tm trivial rfl (t_move rfl) rfl ?_
    first | refine Rg.tm ⟨_, rfl, rfl⟩ rfl (t_fieldAddr fa67_0 rfl) rfl ?_ | refine Rg.sk (.inl ⟨_, _, rfl, rfl, rfl⟩) rfl ?_ | refine Rg.sk (.inr ⟨_, rfl, rfl⟩) rfl ?_
    first | refine Rg.tm ⟨_, rfl, rfl⟩ rfl (t_load ty58 rfl (by apply Cells.get (i := 0); (case h => assumption); rfl)) rfl ?_ | refine Rg.sk (.inl ⟨_, _, rfl, rfl, rfl⟩) rfl ?_ | refine Rg.sk (.inr ⟨_, rfl, rfl⟩) rfl ?_
    first | refine Rg.tm ⟨_, rfl, rfl⟩ rfl (t_fieldAddr fa67_0 rfl) rfl ?_ | refine Rg.sk (.inl ⟨_, _, rfl, rfl, rfl⟩) rfl ?_ | refine Rg.sk (.inr ⟨_, rfl, rfl⟩) rfl ?_
    first | refine Rg.tm ⟨_, rfl, rfl⟩ rfl (t_load ty58 rfl (by apply Cells.get (i := 0); (case h => assumption); rfl)) rfl ?_ | refine Rg.sk (.inl ⟨_, _, rfl, rfl, rfl⟩) rfl ?_ | refine Rg.sk (.inr ⟨_, rfl, rfl⟩) rfl ?_
    refine Rg.wd ⟨_, rfl, rfl⟩ (w_call Tryz.call137 rfl (eqInts_ok hs hs2 (by omega))) rfl ?_
    rintro _ w3 ⟨⟨b15, rfl⟩, hx3⟩
    replace hx := hx.ext hx3
    replace hs := hs.ext hx3
    replace hs2 := hs2.ext hx3
    replace hv2 := hv2.ext hx3
    replace hc2 := hc2.ext hx3
    replace hv3 := hv3.ext hx3
    replace hc3 := hc3.ext hx3
    first | refine Rg.tm trivial rfl (t_pickT rfl rfl) rfl ?_ | refine Rg.tm trivial rfl (t_pickF rfl rfl) rfl ?_
    refine Rg.tm trivial rfl (t_assign rfl) rfl ?_
    refine Rg.done ?_
    refine Wp.ret ?_
    exact ⟨[_], ⟨rfl, trivial⟩, ⟨_, rfl⟩, hx⟩
  · skip
    refine Cl.enter Tryz.func115 rfl Tryz.ntmps115 rfl rfl ?_
    refine Wp.seq (Wp.region ?_)
    refine Rg.wd trivial (w_boxed rfl rfl) rfl ?_
    rintro _ w1 ⟨b2, rfl, qb2, hx1, hv2⟩
    replace hx := hx.ext hx1
    replace hs := hs.ext hx1
    replace hs2 := hs2.ext hx1
    have hc2 := hv2.cells
    refine Rg.wd trivial (w_boxed rfl rfl) rfl ?_
    rintro _ w2 ⟨b3, rfl, qb3, hx2, hv3⟩
    replace hx := hx.ext hx2
    replace hs := hs.ext hx2
    replace hs2 := hs2.ext hx2
    replace hv2 := hv2.ext hx2
    replace hc2 := hc2.ext hx2
    have hc3 := hv3.cells
    refine Rg.tm trivial rfl (t_assign rfl) rfl ?_
    refine Rg.done ?_
    refine Wp.seq (Wp.region ?_)
    refine Rg.tm trivial rfl (t_fieldAddr fa67_1 rfl) rfl ?_
    refine Rg.tm trivial rfl (t_load ty9 rfl (by apply Cells.get (i := 1); (case h => assumption); rfl)) rfl ?_
    refine Rg.tm trivial rfl (t_fieldAddr fa67_1 rfl) rfl ?_
    refine Rg.tm trivial rfl (t_load ty9 rfl (by apply Cells.get (i := 1); (case h => assumption); rfl)) rfl ?_
    first | refine Rg.tm trivial rfl (t_seqlT rfl rfl (by first | with_reducible rfl | assumption)) rfl ?_ | refine Rg.tm trivial rfl (t_seqlF rfl rfl (by assumption)) rfl ?_ | refine Rg.tm trivial rfl (t_seql rfl rfl) rfl ?_
    refine Rg.tm trivial rfl (t_move rfl) rfl ?_
    first | refine Rg.tm ⟨_, rfl, rfl⟩ rfl (t_fieldAddr fa67_0 rfl) rfl ?_ | refine Rg.sk (.inl ⟨_, _, rfl, rfl, rfl⟩) rfl ?_ | refine Rg.sk (.inr ⟨_, rfl, rfl⟩) rfl ?_
    first | refine Rg.tm ⟨_, rfl, rfl⟩ rfl (t_load ty58 rfl (by apply Cells.get (i := 0); (case h => assumption); rfl)) rfl ?_ | refine Rg.sk (.inl ⟨_, _, rfl, rfl, rfl⟩) rfl ?_ | refine Rg.sk (.inr ⟨_, rfl, rfl⟩) rfl ?_
    first | refine Rg.tm ⟨_, rfl, rfl⟩ rfl (t_fieldAddr fa67_0 rfl) rfl ?_ | refine Rg.sk (.inl ⟨_, _, rfl, rfl, rfl⟩) rfl ?_ | refine Rg.sk (.inr ⟨_, rfl, rfl⟩) rfl ?_
    first | refine Rg.tm ⟨_, rfl, rfl⟩ rfl (t_load ty58 rfl (by apply Cells.get (i := 0); (case h => assumption); rfl)) rfl ?_ | refine Rg.sk (.inl ⟨_, _, rfl, rfl, rfl⟩) rfl ?_ | refine Rg.sk (.inr ⟨_, rfl, rfl⟩) rfl ?_
    first | refine Rg.sk (.inl ⟨_, _, rfl, rfl, rfl⟩) rfl ?_ | refine Rg.sk (.inr ⟨_, rfl, rfl⟩) rfl ?_
    first | refine Rg.tm trivial rfl (t_pickT rfl rfl) rfl ?_ | refine Rg.tm trivial rfl (t_pickF rfl rfl) rfl ?_
    refine Rg.tm trivial rfl (t_assign rfl) rfl ?_
    refine Rg.done ?_
    refine Wp.ret ?_
    exact ⟨[_], ⟨rfl, trivial⟩, ⟨_, rfl⟩, hx⟩
end Go.Proofs.YtbnkncemfadfjaaGreatDoor
