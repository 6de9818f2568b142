/- The walk of the law RopeBalanced. Printed by ropeb.py. -/
import Derived.Test.YteopmfijfgaldaaRl
import Derived.Test.YteopmfijfgaldaaGv
namespace Go.Proofs.Yteopmfijfgaldaa
set_option linter.unusedVariables false
set_option linter.unusedSimpArgs false
open Go.Gx Go.RowKit Go.Lib

theorem Lies.sub {M M' : List Nat} {w : World} (hs : ∀ m ∈ M', m ∈ M) : ∀ {t : RT} {v : Value}, Lies M w v t → Lies M' w v t
  | .leaf _, _, ⟨c, o, h1, h2, h3⟩ => ⟨c, o, h1, fun h => h2 (hs _ h), h3⟩
  | .node _ _, _, ⟨c, o, pl, pr, h1, h2, h3, h4, h5⟩ => ⟨c, o, pl, pr, h1, fun h => h2 (hs _ h), h3, h4.sub hs, h5.sub hs⟩
theorem RopeV.sub {M M' : List Nat} {w : World} {v : Value} {t : Option RT} (h : RopeV M w v t) (hs : ∀ m ∈ M', m ∈ M) : RopeV M' w v t := by
  obtain ⟨p, h1, h2⟩ := h
  refine ⟨p, h1, ?_⟩
  cases t with
  | none => exact h2
  | some t => exact Lies.sub hs h2

theorem mod_ok {w : World} {a m : Int} (hm : 0 < m) (hm2 : m < 4611686018427387904) : Cl Try.prog 16 #[.int .i64 a, .int .i64 m] w (fun u w' => (∃ r, u = .int .i64 r ∧ 0 ≤ r ∧ r < m ∧ r = a % m) ∧ w = w') := by
  have e1 : a.tmod m = if 0 ≤ a ∨ a % m = 0 then a % m else a % m - m := by
    rw [Int.tmod_eq_emod]
    have hd : m ∣ a ↔ a % m = 0 := Int.dvd_iff_emod_eq_zero
    have habs : m.natAbs = m := by omega
    split <;> rename_i h <;> split <;> rename_i h' <;> simp_all <;> omega
  have e2 := Int.emod_nonneg a (by omega : m ≠ 0)
  have e3 := Int.emod_lt_of_pos a hm
  by_cases hneg : a.tmod m < 0
  · skip
    have e4 : a.tmod m + m = a % m := by split at e1 <;> omega
    refine Cl.enter Try.func16 rfl Try.ntmps16 rfl rfl ?_
    refine Wp.seq (Wp.region ?_)
    refine Rg.tm trivial rfl (t_assign rfl) rfl ?_
    refine Rg.done ?_
    refine Wp.seq (Wp.region ?_)
    refine Rg.tm trivial rfl (t_move rfl) rfl ?_
    refine Rg.tm trivial rfl (t_move rfl) rfl ?_
    refine Rg.tm trivial rfl (t_remI rfl rfl (by omega)) rfl ?_
    refine Rg.tm trivial rfl (t_assign rfl) rfl ?_
    refine Rg.done ?_
    refine Wp.seq ?_
    refine Wp.seq (Wp.region ?_)
    refine Rg.tm trivial rfl (t_move rfl) rfl ?_
    first | refine Rg.tm trivial rfl (t_lssT rfl rfl (by omega)) rfl ?_ | refine Rg.tm trivial rfl (t_lssF rfl rfl (by omega)) rfl ?_ | refine Rg.tm trivial rfl (t_lss rfl rfl) rfl ?_
    refine Rg.done ?_
    refine Wp.condT rfl ?_
    refine Wp.region ?_
    refine Rg.tm trivial rfl (t_move rfl) rfl ?_
    refine Rg.tm trivial rfl (t_move rfl) rfl ?_
    first | refine Rg.tm trivial rfl (t_addI rfl rfl (by omega)) rfl ?_ | refine Rg.tm trivial rfl (t_add rfl rfl) rfl ?_
    refine Rg.tm trivial rfl (t_assign rfl) rfl ?_
    refine Rg.done ?_
    refine Wp.seq (Wp.region ?_)
    refine Rg.tm trivial rfl (t_move rfl) rfl ?_
    refine Rg.tm trivial rfl (t_assign rfl) rfl ?_
    refine Rg.done ?_
    refine Wp.ret ?_
    exact ⟨[_], ⟨rfl, trivial⟩, ⟨_, rfl, by omega, by omega, by omega⟩, rfl⟩
  · skip
    have e4 : a.tmod m = a % m := by split at e1 <;> omega
    refine Cl.enter Try.func16 rfl Try.ntmps16 rfl rfl ?_
    refine Wp.seq (Wp.region ?_)
    refine Rg.tm trivial rfl (t_assign rfl) rfl ?_
    refine Rg.done ?_
    refine Wp.seq (Wp.region ?_)
    refine Rg.tm trivial rfl (t_move rfl) rfl ?_
    refine Rg.tm trivial rfl (t_move rfl) rfl ?_
    refine Rg.tm trivial rfl (t_remI rfl rfl (by omega)) rfl ?_
    refine Rg.tm trivial rfl (t_assign rfl) rfl ?_
    refine Rg.done ?_
    refine Wp.seq ?_
    refine Wp.seq (Wp.region ?_)
    refine Rg.tm trivial rfl (t_move rfl) rfl ?_
    first | refine Rg.tm trivial rfl (t_lssT rfl rfl (by omega)) rfl ?_ | refine Rg.tm trivial rfl (t_lssF rfl rfl (by omega)) rfl ?_ | refine Rg.tm trivial rfl (t_lss rfl rfl) rfl ?_
    refine Rg.done ?_
    refine Wp.condF rfl ?_
    refine Wp.skip ?_
    refine Wp.seq (Wp.region ?_)
    refine Rg.tm trivial rfl (t_move rfl) rfl ?_
    refine Rg.tm trivial rfl (t_assign rfl) rfl ?_
    refine Rg.done ?_
    refine Wp.ret ?_
    exact ⟨[_], ⟨rfl, trivial⟩, ⟨_, rfl, by omega, by omega, by omega⟩, rfl⟩

theorem balancedLaw {ss : List ByteArray} {zs : List Int} {w : World} {v v1 : Value} (hs0 : SlC w v 1 ss.length (ss.map .string)) (hlen : ss.length < 4611686018427387904) (hz0 : SlC w v1 1 zs.length (zs.map (.int .i64))) (hlz : zs.length < 4611686018427387904) :
    Cl Try.prog 5 #[v, v1] w (fun u w' => u = .bool true ∧ Ext w w') := by
  have hx := Ext.refl w
  have hM : In [] w := fun m hm => by cases hm
  obtain ⟨m, hm⟩ : ∃ m, min ss.length 20 = m := ⟨_, rfl⟩
  have e20 : (min (ss.length : Int) 20) = (m : Int) := by omega
  refine Cl.enter Try.func5 rfl Try.ntmps5 rfl rfl ?_
  refine Wp.seq (Wp.region ?_)
  refine Rg.tm trivial rfl (t_assign rfl) rfl ?_
  refine Rg.done ?_
  refine Wp.seq ?_
  refine Wp.seq (Wp.region ?_)
  refine Rg.wd trivial (w_call Try.call7 rfl example_ok) rfl ?_
  rintro _ w1 ⟨rfl, hx1⟩
  replace hx := hx.ext hx1
  replace hM := hM.ext hx1
  refine Rg.tm trivial rfl (t_notB rfl) rfl ?_
  refine Rg.done ?_
  refine Wp.condF rfl ?_
  refine Wp.skip ?_
  refine Wp.seq (Wp.region ?_)
  refine Rg.wd trivial (w_new Try.zeroValue27 rfl) rfl ?_
  rintro _ w2 ⟨b5, rfl, qb5, hx2, hv5⟩
  replace hx := hx.ext hx2
  replace hM := hM.ext hx2
  replace hM := hM.push hv5.lt
  have k5 := hx.le
  have lt5 := hv5.lt
  have kb5 : w.heap.size ≤ b5 := by have := hx1.le; omega
  refine Rg.done ?_
  refine Wp.seq ?_
  refine Wp.seq (Wp.region ?_)
  refine Rg.tm trivial rfl (t_move rfl) rfl ?_
  refine Rg.tm trivial rfl (t_move rfl) rfl ?_
  refine Rg.tm trivial rfl (t_lenC hs0 Try.underlying22 rfl) rfl ?_
  refine Rg.tm trivial rfl (t_minI rfl rfl) rfl ?_
  rw [e20]
  refine Rg.sl hs0 trivial rfl Try.underlying22 ty9 rfl rfl (by omega) rfl ?_
  intro vt17 ht170
  simp only [Int.toNat_natCast, show (0 : Int).toNat = 0 from rfl] at ht170
  replace ht170 := strs_sub (l := 0) (h := m) ht170 (by omega) (by omega)
  rw [List.drop_zero, Nat.sub_zero] at ht170
  rw [show (ss.take m).length = m from by simp; omega] at ht170
  refine Rg.tm trivial rfl (t_lenC ht170 Try.underlying22 rfl) rfl ?_
  refine Rg.tm trivial rfl (t_move rfl) rfl ?_
  refine Rg.done ?_
  refine Wp.block ?_
  refine Wp.loop (ι := Nat × Option Addr × Option RT) (fun j => [(1, v1), (5, .pointer (some ⟨b5, 0, none⟩)), (17, vt17), (18, .int .i64 m), (19, .int .i64 j.1)])
    (fun j w' => j.1 ≤ m ∧ RopeV [b5] w' (.agg #[.pointer j.2.1]) j.2.2 ∧ RT.Good j.2.2 ∧ RT.lenO j.2.2 ≤ 100 * j.1 ∧ Ext w w' ∧ In [b5] w' ∧ Var w' b5 [.pointer j.2.1] 27)
    (fun j => m - j.1) (0, none, none) (by repeat (first | exact .nil | refine .cons rfl ?_)) ⟨Nat.zero_le _, ⟨none, rfl, rfl⟩, trivial, Nat.le_refl _, hx, hM, hv5⟩ ?_
  clear hx hM hv5 hx1 hx2 k5
  rintro ⟨k, p, t⟩ w3 ⟨hk, hr, hg, hn, hx, hM, hv5⟩
  simp only at hk hr hg hn hv5 ⊢
  by_cases hlt : k < m
  · have hc5 := hv5.cells
    refine Wp.seq (Wp.region ?_)
    first | refine Rg.tm trivial rfl (t_lssT rfl rfl (by omega)) rfl ?_ | refine Rg.tm trivial rfl (t_lssF rfl rfl (by omega)) rfl ?_ | refine Rg.tm trivial rfl (t_lss rfl rfl) rfl ?_
    refine Rg.done ?_
    refine Wp.seq ?_
    refine Wp.condT rfl ?_
    refine Wp.skip ?_
    refine Wp.seq ?_
    refine Wp.block ?_
    refine Wp.seq (Wp.region ?_)
    refine Rg.tm trivial rfl (t_move rfl) rfl ?_
    refine Rg.ix ht170 trivial rfl rfl Try.underlying22 ty9 (by omega) rfl ?_
    intro bt22 ot22 ht22
    replace ht22 := ht22.ext hx
    rw [Int.toNat_natCast, strs_at (ss := ss.take m) (k := k) (by simp; omega)] at ht22
    rw [List.getElem_take] at ht22
    refine Rg.tm trivial rfl (t_load ty9 rfl (by first | assumption | (apply Cells.get (i := 0); (case h => assumption); rfl))) rfl ?_
    refine Rg.tm trivial rfl (t_assign rfl) rfl ?_
    refine Rg.tm trivial rfl (t_assign rfl) rfl ?_
    refine Rg.done ?_
    refine Wp.seq (Wp.draw [0, 1, 2, 3, 4, 5] [0] mixed (by kernel_rfl) (by kernel_rfl) ?_)
    intro w3 hx3 _
    replace hx := hx.ext hx3
    replace hM := hM.ext hx3
    replace hr := hr.ext hx3
    replace hv5 := hv5.ext hx3
    replace hc5 := hc5.ext hx3
    replace ht22 := ht22.ext hx3
    refine Rg.tm trivial rfl (t_loadA rfl (by assumption) (by exact ty27)) rfl ?_
    refine Rg.tm trivial rfl (t_move rfl) rfl ?_
    refine Rg.wdB trivial rfl (w_call Try.call8 rfl (short_ok (n := 100) (by decide))) rfl (fun _ _ h => h.2 ▸ Below.refl _ _) ?_
    rintro _ _ ⟨rfl, rfl⟩
    have i4 : (ss[k].extract 0 (100 : Int).toNat).size ≤ 100 := by rw [ByteArray.size_extract]; omega
    refine Rg.wdB trivial rfl (w_call Try.call15 rfl (new_ok hM (by omega))) rfl (fun _ _ h => h.2) ?_
    rintro u w4 ⟨⟨tn, gn, en, hn2⟩, hx4⟩
    replace hx := hx.ext hx4
    replace hM := hM.ext hx4
    replace hr := hr.ext hx4
    replace hv5 := hv5.ext hx4
    replace hc5 := hc5.ext hx4
    replace ht22 := ht22.ext hx4
    have ln : RT.lenO tn ≤ 100 := by rw [RT.lenO_val, en]; exact i4
    refine Rg.wdB trivial rfl (w_call Try.call14 rfl (concat_ok hM hr hn2 hg gn (by omega))) rfl (fun _ _ h => h.2) ?_
    rintro u2 w5 ⟨h2, hx5⟩
    replace hx := hx.ext hx5
    replace hM := hM.ext hx5
    replace hr := hr.ext hx5
    replace hv5 := hv5.ext hx5
    replace hc5 := hc5.ext hx5
    replace ht22 := ht22.ext hx5
    replace hn2 := hn2.ext hx5
    have g2 := RT.good_cat hg gn
    have n2 : RT.lenO (RT.catO t tn) ≤ 100 * (k + 1) := by rw [RT.len_cat]; omega
    obtain ⟨p2, rfl, h2'⟩ := id h2
    clear h2' 
    clear hc5 hn2 hr
    refine Rg.wnB trivial rfl (w_put hv5 rfl rfl rfl ty27 rfl rfl) (by rfl) ?_
    rintro _ w75 ⟨hu5, hv5'⟩
    replace hx := hx.upd hu5 (by omega)
    replace hM := hM.upd hu5
    replace h2 := h2.upd hu5 (by simp)
    clear hv5 hu5; have hv5 := hv5'; clear hv5'; have hc5 := hv5.cells; have lt5 := hv5.lt
    refine Rg.done ?_
    refine Wp.seq ?_
    generalize RT.catO t tn = t2 at *
    by_cases hcut : k < zs.length
    · have e0 := e20
      refine Wp.seq (Wp.region ?_)
      refine Rg.tm trivial rfl (t_move rfl) rfl ?_
      refine Rg.tm trivial rfl (t_move rfl) rfl ?_
      refine Rg.tm trivial rfl (t_lenC hz0 Try.underlying39 rfl) rfl ?_
      first | refine Rg.tm trivial rfl (t_lssT rfl rfl (by omega)) rfl ?_ | refine Rg.tm trivial rfl (t_lssF rfl rfl (by omega)) rfl ?_ | refine Rg.tm trivial rfl (t_lss rfl rfl) rfl ?_
      refine Rg.done ?_
      refine Wp.condT rfl ?_
      refine Wp.seq (Wp.drawA 16 mixed ?_)
      intro w6 hx6 _
      replace hx := hx.ext hx6
      replace hM := hM.ext hx6
      replace hv5 := hv5.ext hx6
      replace hc5 := hc5.ext hx6
      replace h2 := h2.ext hx6
      have hl2 := RT.lenO_val t2
      obtain ⟨rm, hrm⟩ : ∃ r, zs[k] % ((RT.lenO t2 : Int) + 1) = r := ⟨_, rfl⟩
      have hrm1 : 0 ≤ rm ∧ rm ≤ RT.lenO t2 := by
        have a1 := Int.emod_nonneg zs[k] (by omega : ((RT.lenO t2 : Int) + 1) ≠ 0)
        have a2 := Int.emod_lt_of_pos zs[k] (by omega : 0 < ((RT.lenO t2 : Int) + 1))
        omega
      obtain ⟨s1, s2⟩ := RT.good_splitO t2 rm.toNat g2
      obtain ⟨z1, z2⟩ := RT.val_splitO t2 rm.toNat
      have s3 : RT.lenO (RT.splitO t2 rm.toNat).1 + RT.lenO (RT.splitO t2 rm.toNat).2 = RT.lenO t2 := by
        rw [RT.lenO_val, RT.lenO_val, z1, z2, ByteArray.size_extract, ByteArray.size_extract]; omega
      clear z1 z2
      generalize hsp1 : (RT.splitO t2 rm.toNat).1 = ts1 at *
      generalize hsp2 : (RT.splitO t2 rm.toNat).2 = ts2 at *
      refine Ra.cutAt (ι := Nat × Nat × Option Addr × Option Addr) (fun j => [(1, v1), (5, .pointer (some ⟨b5, 0, none⟩)), (6, .int .i64 k), (17, vt17), (18, .int .i64 m), (19, .int .i64 k), (8, .pointer (some ⟨j.1, 0, none⟩)), (9, .pointer (some ⟨j.2.1, 0, none⟩)), (44, .agg #[.pointer j.2.2.1]), (45, .agg #[.pointer j.2.2.2]), (46, .int .i64 0)])
        (fun j w' => Ext w w' ∧ j.1 ≠ j.2.1 ∧ b5 < j.1 ∧ b5 < j.2.1 ∧ Var w' j.1 [.pointer none] 27 ∧ Var w' j.2.1 [.pointer none] 27 ∧ Var w' b5 [.pointer p2] 27 ∧ RopeV [j.2.1, j.1, b5] w' (.agg #[.pointer j.2.2.1]) ts1 ∧ RopeV [j.2.1, j.1, b5] w' (.agg #[.pointer j.2.2.2]) ts2)
        16 #[true, true, true, true, true, true, true, true, true, true, true, true, true, true, true, true, false, false, false] 3 ?_ ?_
      · clear hx hM hv5 hc5 h2 lt5
        rintro ⟨b8, b9, q1, q2⟩ w9 ⟨hx, ne, gt8, gt9, hv8, hv9, hv5, ha, hb⟩
        simp only at ne gt8 gt9 hv8 hv9 hv5 ha hb ⊢
        refine Ra.bar 16 17 rfl (by kernel_rfl) rfl trivial (w_put hv8 rfl rfl rfl ty27 rfl rfl) rfl ?_
        rintro _ wa ⟨hu, hv8'⟩
        replace hx := hx.upd hu (by omega)
        replace ha := ha.upd hu (by simp)
        replace hb := hb.upd hu (by simp)
        replace hv9 := hv9.upd hu (Ne.symm ne)
        replace hv5 := hv5.upd hu (by omega)
        clear hu
        refine Ra.bar 17 19 rfl (by kernel_rfl) rfl trivial (w_put hv9 rfl rfl rfl ty27 rfl rfl) rfl ?_
        rintro _ wb ⟨hu, hv9'⟩
        replace hx := hx.upd hu (by omega)
        replace ha := ha.upd hu (by simp)
        replace hb := hb.upd hu (by simp)
        replace hv8' := hv8'.upd hu ne
        replace hv5 := hv5.upd hu (by omega)
        clear hu
        refine Ra.tame (by kernel_rfl) 18 rfl (by kernel_rfl) trivial (t_assign rfl) rfl ?_
        refine Ra.done (by kernel_rfl) ?_
        have hM : In [b9, b8, b5] wb := by
          intro m hm
          simp only [List.mem_cons, List.not_mem_nil, or_false] at hm
          rcases hm with rfl | rfl | rfl
          · exact hv9'.lt
          · exact hv8'.lt
          · exact hv5.lt
        have hc8 := hv8'.cells
        have hc9 := hv9'.cells
        clear hv8 hv9 hv8' hv9' 
        refine Wp.seq ?_
        refine Wp.seq (Wp.region ?_)
        refine Rg.tm trivial rfl (t_move rfl) rfl ?_
        first | refine Rg.tm trivial rfl (t_neqT rfl rfl (by omega)) rfl ?_ | refine Rg.tm trivial rfl (t_neqF rfl rfl (by omega)) rfl ?_ | refine Rg.tm trivial rfl (t_neq rfl rfl) rfl ?_
        refine Rg.tm trivial rfl (t_move rfl) rfl ?_
        first | refine Rg.tm ⟨_, rfl, rfl⟩ rfl (t_loadA rfl (by assumption) (by exact ty27)) rfl ?_ | refine Rg.sk (.inl ⟨_, _, rfl, rfl, rfl⟩) rfl ?_ | refine Rg.sk (.inr ⟨_, rfl, rfl⟩) rfl ?_
        refine Rg.wd ⟨_, rfl, rfl⟩ (w_call Try.call17 rfl (balanced_ok ha s1 (by omega))) rfl ?_
        rintro _ w31 ⟨rfl, hx31⟩
        replace hx := hx.ext hx31
        replace ha := ha.ext hx31
        replace hb := hb.ext hx31
        replace hM := hM.ext hx31
        replace hc8 := hc8.ext hx31
        replace hc9 := hc9.ext hx31
        replace hv5 := hv5.ext hx31
        first | refine Rg.tm ⟨_, rfl, rfl⟩ rfl (t_notB rfl) rfl ?_ | refine Rg.sk (.inl ⟨_, _, rfl, rfl, rfl⟩) rfl ?_ | refine Rg.sk (.inr ⟨_, rfl, rfl⟩) rfl ?_
        first | refine Rg.tm trivial rfl (t_pickT rfl rfl) rfl ?_ | refine Rg.tm trivial rfl (t_pickF rfl rfl) rfl ?_
        refine Rg.tm trivial rfl (t_move rfl) rfl ?_
        first | refine Rg.tm ⟨_, rfl, rfl⟩ rfl (t_loadA rfl (by assumption) (by exact ty27)) rfl ?_ | refine Rg.sk (.inl ⟨_, _, rfl, rfl, rfl⟩) rfl ?_ | refine Rg.sk (.inr ⟨_, rfl, rfl⟩) rfl ?_
        refine Rg.wd ⟨_, rfl, rfl⟩ (w_call Try.call17 rfl (balanced_ok hb s2 (by omega))) rfl ?_
        rintro _ w32 ⟨rfl, hx32⟩
        replace hx := hx.ext hx32
        replace ha := ha.ext hx32
        replace hb := hb.ext hx32
        replace hM := hM.ext hx32
        replace hc8 := hc8.ext hx32
        replace hc9 := hc9.ext hx32
        replace hv5 := hv5.ext hx32
        first | refine Rg.tm ⟨_, rfl, rfl⟩ rfl (t_notB rfl) rfl ?_ | refine Rg.sk (.inl ⟨_, _, rfl, rfl, rfl⟩) rfl ?_ | refine Rg.sk (.inr ⟨_, rfl, rfl⟩) rfl ?_
        first | refine Rg.tm trivial rfl (t_pickT rfl rfl) rfl ?_ | refine Rg.tm trivial rfl (t_pickF rfl rfl) rfl ?_
        refine Rg.done ?_
        refine Wp.condF rfl ?_
        refine Wp.skip ?_
        refine Wp.region ?_
        refine Rg.tm trivial rfl (t_loadA rfl (by assumption) (by exact ty27)) rfl ?_
        refine Rg.tm trivial rfl (t_loadA rfl (by assumption) (by exact ty27)) rfl ?_
        refine Rg.wd trivial (w_call Try.call14 rfl (concat_ok hM hb ha s2 s1 (by omega))) rfl ?_
        rintro u3 w33 ⟨h3, hx33⟩
        replace hx := hx.ext hx33
        replace ha := ha.ext hx33
        replace hb := hb.ext hx33
        replace hM := hM.ext hx33
        replace hc8 := hc8.ext hx33
        replace hc9 := hc9.ext hx33
        replace hv5 := hv5.ext hx33
        have g3 := RT.good_cat s2 s1
        have n3 : RT.lenO (RT.catO ts2 ts1) ≤ 100 * (k + 1) := by rw [RT.len_cat]; omega
        obtain ⟨p3, rfl, h3'⟩ := id h3
        clear h3' hc8 hc9
        have lt5 := hv5.lt
        refine Rg.wn trivial (w_put hv5 rfl rfl rfl ty27 rfl rfl) ?_
        rintro _ wc ⟨hu5, hv5'⟩
        replace hx := hx.upd hu5 (by omega)
        replace hM := hM.upd hu5
        replace h3 := h3.upd hu5 (by simp)
        clear hu5 hv5
        have hv5 := hv5'
        clear hv5'
        have hc5 := hv5.cells
        refine Rg.done ?_
        refine Wp.seq (Wp.region ?_)
        refine Rg.tm trivial rfl (t_loadA rfl (by assumption) (by exact ty27)) rfl ?_
        refine Rg.wd trivial (w_call Try.call17 rfl (balanced_ok h3 g3 (by omega))) rfl ?_
        rintro _ w34 ⟨rfl, hx34⟩
        replace hx := hx.ext hx34
        replace hM := hM.ext hx34
        replace h3 := h3.ext hx34
        replace hv5 := hv5.ext hx34
        replace hc5 := hc5.ext hx34
        refine Rg.tm trivial rfl (t_notB rfl) rfl ?_
        refine Rg.done ?_
        refine Wp.condF rfl ?_
        refine Wp.skip ?_
        refine Wp.region ?_
        first | refine Rg.tm trivial rfl (t_addI rfl rfl (by omega)) rfl ?_ | refine Rg.tm trivial rfl (t_add rfl rfl) rfl ?_
        refine Rg.tm trivial rfl (t_move rfl) rfl ?_
        refine Rg.done ?_
        exact ⟨(k + 1, p3, _), by repeat (first | exact .nil | refine .cons rfl ?_), ⟨hlt, h3.sub (by simp), g3, n3, hx, fun m hm => hM m (by simp at hm ⊢; exact .inr (.inr hm)), hv5⟩, by simp only; omega⟩
      · intro hfin
        refine Ra.tame (by kernel_rfl) 0 rfl (by kernel_rfl) trivial (t_loadA rfl (by assumption) (by exact ty27)) rfl ?_
        refine Ra.tame (by kernel_rfl) 1 rfl (by kernel_rfl) trivial (t_move rfl) rfl ?_
        refine Ra.tame (by kernel_rfl) 2 rfl (by kernel_rfl) trivial (t_move rfl) rfl ?_
        obtain ⟨_, zp, zcap, rfl, hz2, hz3⟩ := id hz0
        obtain ⟨zb, zo, rfl, hzc⟩ : ∃ b o, zp = some ⟨b, o, none⟩ ∧ Cells w b o (zs.map (.int .i64)) := by
          rcases hz3 with h | h
          · omega
          · exact h
        have hzk : Cells w6 zb (zo + (k : Int).toNat * 1) [.int .i64 zs[k]] := fun i v hv => by
          match i, hv with
          | 0, hv =>
            simp at hv
            subst hv
            rw [Nat.add_zero, Int.toNat_natCast, Nat.mul_one]
            exact (hzc.ext hx) k _ (by simp [hcut])
        refine Ra.tame (by kernel_rfl) 3 rfl (by kernel_rfl) trivial (t_indexAddrL Try.underlying39 ty3 rfl rfl ⟨by omega, by omega⟩) rfl ?_
        refine Ra.tame (by kernel_rfl) 4 rfl (by kernel_rfl) trivial (t_load ty3 rfl (by first | assumption | (apply Cells.get (i := 0); (case h => assumption); rfl))) rfl ?_
        refine Ra.tame (by kernel_rfl) 5 rfl (by kernel_rfl) trivial (t_loadA rfl (by assumption) (by exact ty27)) rfl ?_
        refine Ra.alt3 (i := 6) (j := 14) (l := 15) (by kernel_rfl) ?_ ?_ ?_
        · skip
          refine ⟨_, _, rfl, rfl, trivial, w_call Try.call11 rfl (len_ok h2), rfl, ?_⟩
          rintro _ w7 ⟨rfl, hx7⟩
          replace hx := hx.ext hx7
          replace hM := hM.ext hx7
          replace hv5 := hv5.ext hx7
          replace hc5 := hc5.ext hx7
          replace h2 := h2.ext hx7
          replace hzk := hzk.ext hx7
          refine ⟨hx7.below, ?_⟩
          refine Ra.tame (by kernel_rfl) 7 rfl (by kernel_rfl) trivial (t_addI rfl rfl (by omega)) rfl ?_
          refine Ra.alt3 (i := 8) (j := 14) (l := 15) (by kernel_rfl) ?_ ?_ ?_
          · skip
            refine ⟨_, _, rfl, rfl, trivial, w_call Try.call16 rfl (mod_ok (by omega) (by omega)), rfl, ?_⟩
            rintro _ _ ⟨⟨rr, rfl, _, _, hrr⟩, rfl⟩
            refine ⟨Below.refl _ _, ?_⟩
            rw [hrm] at hrr
            subst hrr
            refine Ra.alt3 (i := 9) (j := 14) (l := 15) (by kernel_rfl) ?_ ?_ ?_
            · skip
              refine ⟨_, _, rfl, rfl, trivial, w_call Try.call12 rfl (ropeSplit_ok hM h2 g2 (by omega) hrm1), rfl, ?_⟩
              rintro _ w8 ⟨⟨ua, ub, rfl, ha, hb⟩, hx8⟩
              replace hx := hx.ext hx8
              replace hM := hM.ext hx8
              replace hv5 := hv5.ext hx8
              replace hc5 := hc5.ext hx8
              replace h2 := h2.ext hx8
              replace hzk := hzk.ext hx8
              refine ⟨hx8.below, ?_⟩
              rw [hsp1] at ha
              rw [hsp2] at hb
              obtain ⟨qa, rfl, ha'⟩ := id ha
              obtain ⟨qb, rfl, hb'⟩ := id hb
              clear ha' hb'
              refine Ra.tame (by kernel_rfl) 10 rfl (by kernel_rfl) trivial (t_move rfl) rfl ?_
              refine Ra.tame (by kernel_rfl) 11 rfl (by kernel_rfl) trivial (t_extract rfl rfl) rfl ?_
              refine Ra.tameW (by kernel_rfl) 12 rfl (by kernel_rfl) trivial (tw_extract rfl rfl) rfl ?_
              refine Ra.tameW (by kernel_rfl) 13 rfl (by kernel_rfl) trivial (tw_extract rfl rfl) rfl ?_
              refine Ra.alt2 (i := 14) (j := 15) (by kernel_rfl) ?_ ?_
              · skip
                refine ⟨_, _, rfl, rfl, trivial, w_new Try.zeroValue27 rfl, rfl, ?_⟩
                rintro _ w9 ⟨b8, rfl, qb8, hx9, hv8⟩
                replace h2 := h2.fresh (Nat.le_of_eq qb8.symm)
                replace ha := ha.fresh (Nat.le_of_eq qb8.symm)
                replace hb := hb.fresh (Nat.le_of_eq qb8.symm)
                have ab8 := hx.le; have a5b8 := hv5.lt
                replace hx := hx.ext hx9
                replace hM := hM.ext hx9
                replace hv5 := hv5.ext hx9
                replace hc5 := hc5.ext hx9
                replace h2 := h2.ext hx9
                replace hzk := hzk.ext hx9
                replace ha := ha.ext hx9
                replace hb := hb.ext hx9
                replace hM := hM.push hv8.lt
                refine ⟨hx9.below, ?_⟩
                refine Ra.alt1 (i := 15) (by kernel_rfl) ?_
                · skip
                  refine ⟨_, _, rfl, rfl, trivial, w_new Try.zeroValue27 rfl, rfl, ?_⟩
                  rintro _ w10 ⟨b9, rfl, qb9, hx10, hv9⟩
                  replace h2 := h2.fresh (Nat.le_of_eq qb9.symm)
                  replace ha := ha.fresh (Nat.le_of_eq qb9.symm)
                  replace hb := hb.fresh (Nat.le_of_eq qb9.symm)
                  have ab9 := hx.le; have a5b9 := hv5.lt
                  have cb9 := hv8.lt
                  replace hx := hx.ext hx10
                  replace hM := hM.ext hx10
                  replace hv5 := hv5.ext hx10
                  replace hc5 := hc5.ext hx10
                  replace h2 := h2.ext hx10
                  replace hzk := hzk.ext hx10
                  replace ha := ha.ext hx10
                  replace hb := hb.ext hx10
                  replace hv8 := hv8.ext hx10
                  replace hM := hM.push hv9.lt
                  refine ⟨hx10.below, ?_⟩
                  have ne : b8 ≠ b9 := by omega
                  have gt8 : b5 < b8 := by omega
                  have gt9 : b5 < b9 := by omega
                  exact Ra.canon (by kernel_rfl) (Ra.sub (by repeat (first | exact .nil | refine .cons rfl ?_)) (hfin (b8, b9, qa, qb) _ ⟨hx, ne, gt8, gt9, hv8, hv9, hv5, ha.sub (by simp), hb.sub (by simp)⟩))
              · skip
                refine ⟨_, _, rfl, rfl, trivial, w_new Try.zeroValue27 rfl, rfl, ?_⟩
                rintro _ w9 ⟨b9, rfl, qb9, hx9, hv9⟩
                replace h2 := h2.fresh (Nat.le_of_eq qb9.symm)
                replace ha := ha.fresh (Nat.le_of_eq qb9.symm)
                replace hb := hb.fresh (Nat.le_of_eq qb9.symm)
                have ab9 := hx.le; have a5b9 := hv5.lt
                replace hx := hx.ext hx9
                replace hM := hM.ext hx9
                replace hv5 := hv5.ext hx9
                replace hc5 := hc5.ext hx9
                replace h2 := h2.ext hx9
                replace hzk := hzk.ext hx9
                replace ha := ha.ext hx9
                replace hb := hb.ext hx9
                replace hM := hM.push hv9.lt
                refine ⟨hx9.below, ?_⟩
                refine Ra.alt1 (i := 14) (by kernel_rfl) ?_
                · skip
                  refine ⟨_, _, rfl, rfl, trivial, w_new Try.zeroValue27 rfl, rfl, ?_⟩
                  rintro _ w10 ⟨b8, rfl, qb8, hx10, hv8⟩
                  replace h2 := h2.fresh (Nat.le_of_eq qb8.symm)
                  replace ha := ha.fresh (Nat.le_of_eq qb8.symm)
                  replace hb := hb.fresh (Nat.le_of_eq qb8.symm)
                  have ab8 := hx.le; have a5b8 := hv5.lt
                  have cb8 := hv9.lt
                  replace hx := hx.ext hx10
                  replace hM := hM.ext hx10
                  replace hv5 := hv5.ext hx10
                  replace hc5 := hc5.ext hx10
                  replace h2 := h2.ext hx10
                  replace hzk := hzk.ext hx10
                  replace ha := ha.ext hx10
                  replace hb := hb.ext hx10
                  replace hv9 := hv9.ext hx10
                  replace hM := hM.push hv8.lt
                  refine ⟨hx10.below, ?_⟩
                  have ne : b8 ≠ b9 := by omega
                  have gt8 : b5 < b8 := by omega
                  have gt9 : b5 < b9 := by omega
                  exact Ra.canon (by kernel_rfl) (Ra.sub (by repeat (first | exact .nil | refine .cons rfl ?_)) (hfin (b8, b9, qa, qb) _ ⟨hx, ne, gt8, gt9, hv8, hv9, hv5, ha.sub (by simp), hb.sub (by simp)⟩))
            · skip
              refine ⟨_, _, rfl, rfl, trivial, w_new Try.zeroValue27 rfl, rfl, ?_⟩
              rintro _ w8 ⟨b8, rfl, qb8, hx8, hv8⟩
              replace h2 := h2.fresh (Nat.le_of_eq qb8.symm)
              have ab8 := hx.le; have a5b8 := hv5.lt
              replace hx := hx.ext hx8
              replace hM := hM.ext hx8
              replace hv5 := hv5.ext hx8
              replace hc5 := hc5.ext hx8
              replace h2 := h2.ext hx8
              replace hzk := hzk.ext hx8
              replace hM := hM.push hv8.lt
              refine ⟨hx8.below, ?_⟩
              refine Ra.alt2 (i := 9) (j := 15) (by kernel_rfl) ?_ ?_
              · skip
                refine ⟨_, _, rfl, rfl, trivial, w_call Try.call12 rfl (ropeSplit_ok hM h2 g2 (by omega) hrm1), rfl, ?_⟩
                rintro _ w9 ⟨⟨ua, ub, rfl, ha, hb⟩, hx9⟩
                replace hx := hx.ext hx9
                replace hM := hM.ext hx9
                replace hv5 := hv5.ext hx9
                replace hc5 := hc5.ext hx9
                replace h2 := h2.ext hx9
                replace hzk := hzk.ext hx9
                replace hv8 := hv8.ext hx9
                refine ⟨hx9.below, ?_⟩
                rw [hsp1] at ha
                rw [hsp2] at hb
                obtain ⟨qa, rfl, ha'⟩ := id ha
                obtain ⟨qb, rfl, hb'⟩ := id hb
                clear ha' hb'
                refine Ra.tame (by kernel_rfl) 10 rfl (by kernel_rfl) trivial (t_move rfl) rfl ?_
                refine Ra.tame (by kernel_rfl) 11 rfl (by kernel_rfl) trivial (t_extract rfl rfl) rfl ?_
                refine Ra.tameW (by kernel_rfl) 12 rfl (by kernel_rfl) trivial (tw_extract rfl rfl) rfl ?_
                refine Ra.tameW (by kernel_rfl) 13 rfl (by kernel_rfl) trivial (tw_extract rfl rfl) rfl ?_
                refine Ra.alt1 (i := 15) (by kernel_rfl) ?_
                · skip
                  refine ⟨_, _, rfl, rfl, trivial, w_new Try.zeroValue27 rfl, rfl, ?_⟩
                  rintro _ w10 ⟨b9, rfl, qb9, hx10, hv9⟩
                  replace h2 := h2.fresh (Nat.le_of_eq qb9.symm)
                  replace ha := ha.fresh (Nat.le_of_eq qb9.symm)
                  replace hb := hb.fresh (Nat.le_of_eq qb9.symm)
                  have ab9 := hx.le; have a5b9 := hv5.lt
                  have cb9 := hv8.lt
                  replace hx := hx.ext hx10
                  replace hM := hM.ext hx10
                  replace hv5 := hv5.ext hx10
                  replace hc5 := hc5.ext hx10
                  replace h2 := h2.ext hx10
                  replace hzk := hzk.ext hx10
                  replace hv8 := hv8.ext hx10
                  replace ha := ha.ext hx10
                  replace hb := hb.ext hx10
                  replace hM := hM.push hv9.lt
                  refine ⟨hx10.below, ?_⟩
                  have ne : b8 ≠ b9 := by omega
                  have gt8 : b5 < b8 := by omega
                  have gt9 : b5 < b9 := by omega
                  exact Ra.canon (by kernel_rfl) (Ra.sub (by repeat (first | exact .nil | refine .cons rfl ?_)) (hfin (b8, b9, qa, qb) _ ⟨hx, ne, gt8, gt9, hv8, hv9, hv5, ha.sub (by simp), hb.sub (by simp)⟩))
              · skip
                refine ⟨_, _, rfl, rfl, trivial, w_new Try.zeroValue27 rfl, rfl, ?_⟩
                rintro _ w9 ⟨b9, rfl, qb9, hx9, hv9⟩
                replace h2 := h2.fresh (Nat.le_of_eq qb9.symm)
                have ab9 := hx.le; have a5b9 := hv5.lt
                have cb9 := hv8.lt
                replace hx := hx.ext hx9
                replace hM := hM.ext hx9
                replace hv5 := hv5.ext hx9
                replace hc5 := hc5.ext hx9
                replace h2 := h2.ext hx9
                replace hzk := hzk.ext hx9
                replace hv8 := hv8.ext hx9
                replace hM := hM.push hv9.lt
                refine ⟨hx9.below, ?_⟩
                refine Ra.alt1 (i := 9) (by kernel_rfl) ?_
                · skip
                  refine ⟨_, _, rfl, rfl, trivial, w_call Try.call12 rfl (ropeSplit_ok hM h2 g2 (by omega) hrm1), rfl, ?_⟩
                  rintro _ w10 ⟨⟨ua, ub, rfl, ha, hb⟩, hx10⟩
                  replace hx := hx.ext hx10
                  replace hM := hM.ext hx10
                  replace hv5 := hv5.ext hx10
                  replace hc5 := hc5.ext hx10
                  replace h2 := h2.ext hx10
                  replace hzk := hzk.ext hx10
                  replace hv8 := hv8.ext hx10
                  replace hv9 := hv9.ext hx10
                  refine ⟨hx10.below, ?_⟩
                  rw [hsp1] at ha
                  rw [hsp2] at hb
                  obtain ⟨qa, rfl, ha'⟩ := id ha
                  obtain ⟨qb, rfl, hb'⟩ := id hb
                  clear ha' hb'
                  refine Ra.tame (by kernel_rfl) 10 rfl (by kernel_rfl) trivial (t_move rfl) rfl ?_
                  refine Ra.tame (by kernel_rfl) 11 rfl (by kernel_rfl) trivial (t_extract rfl rfl) rfl ?_
                  refine Ra.tameW (by kernel_rfl) 12 rfl (by kernel_rfl) trivial (tw_extract rfl rfl) rfl ?_
                  refine Ra.tameW (by kernel_rfl) 13 rfl (by kernel_rfl) trivial (tw_extract rfl rfl) rfl ?_
                  have ne : b8 ≠ b9 := by omega
                  have gt8 : b5 < b8 := by omega
                  have gt9 : b5 < b9 := by omega
                  exact Ra.canon (by kernel_rfl) (Ra.sub (by repeat (first | exact .nil | refine .cons rfl ?_)) (hfin (b8, b9, qa, qb) _ ⟨hx, ne, gt8, gt9, hv8, hv9, hv5, ha.sub (by simp), hb.sub (by simp)⟩))
            · skip
              refine ⟨_, _, rfl, rfl, trivial, w_new Try.zeroValue27 rfl, rfl, ?_⟩
              rintro _ w8 ⟨b9, rfl, qb9, hx8, hv9⟩
              replace h2 := h2.fresh (Nat.le_of_eq qb9.symm)
              have ab9 := hx.le; have a5b9 := hv5.lt
              replace hx := hx.ext hx8
              replace hM := hM.ext hx8
              replace hv5 := hv5.ext hx8
              replace hc5 := hc5.ext hx8
              replace h2 := h2.ext hx8
              replace hzk := hzk.ext hx8
              replace hM := hM.push hv9.lt
              refine ⟨hx8.below, ?_⟩
              refine Ra.alt2 (i := 9) (j := 14) (by kernel_rfl) ?_ ?_
              · skip
                refine ⟨_, _, rfl, rfl, trivial, w_call Try.call12 rfl (ropeSplit_ok hM h2 g2 (by omega) hrm1), rfl, ?_⟩
                rintro _ w9 ⟨⟨ua, ub, rfl, ha, hb⟩, hx9⟩
                replace hx := hx.ext hx9
                replace hM := hM.ext hx9
                replace hv5 := hv5.ext hx9
                replace hc5 := hc5.ext hx9
                replace h2 := h2.ext hx9
                replace hzk := hzk.ext hx9
                replace hv9 := hv9.ext hx9
                refine ⟨hx9.below, ?_⟩
                rw [hsp1] at ha
                rw [hsp2] at hb
                obtain ⟨qa, rfl, ha'⟩ := id ha
                obtain ⟨qb, rfl, hb'⟩ := id hb
                clear ha' hb'
                refine Ra.tame (by kernel_rfl) 10 rfl (by kernel_rfl) trivial (t_move rfl) rfl ?_
                refine Ra.tame (by kernel_rfl) 11 rfl (by kernel_rfl) trivial (t_extract rfl rfl) rfl ?_
                refine Ra.tameW (by kernel_rfl) 12 rfl (by kernel_rfl) trivial (tw_extract rfl rfl) rfl ?_
                refine Ra.tameW (by kernel_rfl) 13 rfl (by kernel_rfl) trivial (tw_extract rfl rfl) rfl ?_
                refine Ra.alt1 (i := 14) (by kernel_rfl) ?_
                · skip
                  refine ⟨_, _, rfl, rfl, trivial, w_new Try.zeroValue27 rfl, rfl, ?_⟩
                  rintro _ w10 ⟨b8, rfl, qb8, hx10, hv8⟩
                  replace h2 := h2.fresh (Nat.le_of_eq qb8.symm)
                  replace ha := ha.fresh (Nat.le_of_eq qb8.symm)
                  replace hb := hb.fresh (Nat.le_of_eq qb8.symm)
                  have ab8 := hx.le; have a5b8 := hv5.lt
                  have cb8 := hv9.lt
                  replace hx := hx.ext hx10
                  replace hM := hM.ext hx10
                  replace hv5 := hv5.ext hx10
                  replace hc5 := hc5.ext hx10
                  replace h2 := h2.ext hx10
                  replace hzk := hzk.ext hx10
                  replace hv9 := hv9.ext hx10
                  replace ha := ha.ext hx10
                  replace hb := hb.ext hx10
                  replace hM := hM.push hv8.lt
                  refine ⟨hx10.below, ?_⟩
                  have ne : b8 ≠ b9 := by omega
                  have gt8 : b5 < b8 := by omega
                  have gt9 : b5 < b9 := by omega
                  exact Ra.canon (by kernel_rfl) (Ra.sub (by repeat (first | exact .nil | refine .cons rfl ?_)) (hfin (b8, b9, qa, qb) _ ⟨hx, ne, gt8, gt9, hv8, hv9, hv5, ha.sub (by simp), hb.sub (by simp)⟩))
              · skip
                refine ⟨_, _, rfl, rfl, trivial, w_new Try.zeroValue27 rfl, rfl, ?_⟩
                rintro _ w9 ⟨b8, rfl, qb8, hx9, hv8⟩
                replace h2 := h2.fresh (Nat.le_of_eq qb8.symm)
                have ab8 := hx.le; have a5b8 := hv5.lt
                have cb8 := hv9.lt
                replace hx := hx.ext hx9
                replace hM := hM.ext hx9
                replace hv5 := hv5.ext hx9
                replace hc5 := hc5.ext hx9
                replace h2 := h2.ext hx9
                replace hzk := hzk.ext hx9
                replace hv9 := hv9.ext hx9
                replace hM := hM.push hv8.lt
                refine ⟨hx9.below, ?_⟩
                refine Ra.alt1 (i := 9) (by kernel_rfl) ?_
                · skip
                  refine ⟨_, _, rfl, rfl, trivial, w_call Try.call12 rfl (ropeSplit_ok hM h2 g2 (by omega) hrm1), rfl, ?_⟩
                  rintro _ w10 ⟨⟨ua, ub, rfl, ha, hb⟩, hx10⟩
                  replace hx := hx.ext hx10
                  replace hM := hM.ext hx10
                  replace hv5 := hv5.ext hx10
                  replace hc5 := hc5.ext hx10
                  replace h2 := h2.ext hx10
                  replace hzk := hzk.ext hx10
                  replace hv9 := hv9.ext hx10
                  replace hv8 := hv8.ext hx10
                  refine ⟨hx10.below, ?_⟩
                  rw [hsp1] at ha
                  rw [hsp2] at hb
                  obtain ⟨qa, rfl, ha'⟩ := id ha
                  obtain ⟨qb, rfl, hb'⟩ := id hb
                  clear ha' hb'
                  refine Ra.tame (by kernel_rfl) 10 rfl (by kernel_rfl) trivial (t_move rfl) rfl ?_
                  refine Ra.tame (by kernel_rfl) 11 rfl (by kernel_rfl) trivial (t_extract rfl rfl) rfl ?_
                  refine Ra.tameW (by kernel_rfl) 12 rfl (by kernel_rfl) trivial (tw_extract rfl rfl) rfl ?_
                  refine Ra.tameW (by kernel_rfl) 13 rfl (by kernel_rfl) trivial (tw_extract rfl rfl) rfl ?_
                  have ne : b8 ≠ b9 := by omega
                  have gt8 : b5 < b8 := by omega
                  have gt9 : b5 < b9 := by omega
                  exact Ra.canon (by kernel_rfl) (Ra.sub (by repeat (first | exact .nil | refine .cons rfl ?_)) (hfin (b8, b9, qa, qb) _ ⟨hx, ne, gt8, gt9, hv8, hv9, hv5, ha.sub (by simp), hb.sub (by simp)⟩))
          · skip
            refine ⟨_, _, rfl, rfl, trivial, w_new Try.zeroValue27 rfl, rfl, ?_⟩
            rintro _ w8 ⟨b8, rfl, qb8, hx8, hv8⟩
            replace h2 := h2.fresh (Nat.le_of_eq qb8.symm)
            have ab8 := hx.le; have a5b8 := hv5.lt
            replace hx := hx.ext hx8
            replace hM := hM.ext hx8
            replace hv5 := hv5.ext hx8
            replace hc5 := hc5.ext hx8
            replace h2 := h2.ext hx8
            replace hzk := hzk.ext hx8
            replace hM := hM.push hv8.lt
            refine ⟨hx8.below, ?_⟩
            refine Ra.alt2 (i := 8) (j := 15) (by kernel_rfl) ?_ ?_
            · skip
              refine ⟨_, _, rfl, rfl, trivial, w_call Try.call16 rfl (mod_ok (by omega) (by omega)), rfl, ?_⟩
              rintro _ _ ⟨⟨rr, rfl, _, _, hrr⟩, rfl⟩
              refine ⟨Below.refl _ _, ?_⟩
              rw [hrm] at hrr
              subst hrr
              refine Ra.alt2 (i := 9) (j := 15) (by kernel_rfl) ?_ ?_
              · skip
                refine ⟨_, _, rfl, rfl, trivial, w_call Try.call12 rfl (ropeSplit_ok hM h2 g2 (by omega) hrm1), rfl, ?_⟩
                rintro _ w9 ⟨⟨ua, ub, rfl, ha, hb⟩, hx9⟩
                replace hx := hx.ext hx9
                replace hM := hM.ext hx9
                replace hv5 := hv5.ext hx9
                replace hc5 := hc5.ext hx9
                replace h2 := h2.ext hx9
                replace hzk := hzk.ext hx9
                replace hv8 := hv8.ext hx9
                refine ⟨hx9.below, ?_⟩
                rw [hsp1] at ha
                rw [hsp2] at hb
                obtain ⟨qa, rfl, ha'⟩ := id ha
                obtain ⟨qb, rfl, hb'⟩ := id hb
                clear ha' hb'
                refine Ra.tame (by kernel_rfl) 10 rfl (by kernel_rfl) trivial (t_move rfl) rfl ?_
                refine Ra.tame (by kernel_rfl) 11 rfl (by kernel_rfl) trivial (t_extract rfl rfl) rfl ?_
                refine Ra.tameW (by kernel_rfl) 12 rfl (by kernel_rfl) trivial (tw_extract rfl rfl) rfl ?_
                refine Ra.tameW (by kernel_rfl) 13 rfl (by kernel_rfl) trivial (tw_extract rfl rfl) rfl ?_
                refine Ra.alt1 (i := 15) (by kernel_rfl) ?_
                · skip
                  refine ⟨_, _, rfl, rfl, trivial, w_new Try.zeroValue27 rfl, rfl, ?_⟩
                  rintro _ w10 ⟨b9, rfl, qb9, hx10, hv9⟩
                  replace h2 := h2.fresh (Nat.le_of_eq qb9.symm)
                  replace ha := ha.fresh (Nat.le_of_eq qb9.symm)
                  replace hb := hb.fresh (Nat.le_of_eq qb9.symm)
                  have ab9 := hx.le; have a5b9 := hv5.lt
                  have cb9 := hv8.lt
                  replace hx := hx.ext hx10
                  replace hM := hM.ext hx10
                  replace hv5 := hv5.ext hx10
                  replace hc5 := hc5.ext hx10
                  replace h2 := h2.ext hx10
                  replace hzk := hzk.ext hx10
                  replace hv8 := hv8.ext hx10
                  replace ha := ha.ext hx10
                  replace hb := hb.ext hx10
                  replace hM := hM.push hv9.lt
                  refine ⟨hx10.below, ?_⟩
                  have ne : b8 ≠ b9 := by omega
                  have gt8 : b5 < b8 := by omega
                  have gt9 : b5 < b9 := by omega
                  exact Ra.canon (by kernel_rfl) (Ra.sub (by repeat (first | exact .nil | refine .cons rfl ?_)) (hfin (b8, b9, qa, qb) _ ⟨hx, ne, gt8, gt9, hv8, hv9, hv5, ha.sub (by simp), hb.sub (by simp)⟩))
              · skip
                refine ⟨_, _, rfl, rfl, trivial, w_new Try.zeroValue27 rfl, rfl, ?_⟩
                rintro _ w9 ⟨b9, rfl, qb9, hx9, hv9⟩
                replace h2 := h2.fresh (Nat.le_of_eq qb9.symm)
                have ab9 := hx.le; have a5b9 := hv5.lt
                have cb9 := hv8.lt
                replace hx := hx.ext hx9
                replace hM := hM.ext hx9
                replace hv5 := hv5.ext hx9
                replace hc5 := hc5.ext hx9
                replace h2 := h2.ext hx9
                replace hzk := hzk.ext hx9
                replace hv8 := hv8.ext hx9
                replace hM := hM.push hv9.lt
                refine ⟨hx9.below, ?_⟩
                refine Ra.alt1 (i := 9) (by kernel_rfl) ?_
                · skip
                  refine ⟨_, _, rfl, rfl, trivial, w_call Try.call12 rfl (ropeSplit_ok hM h2 g2 (by omega) hrm1), rfl, ?_⟩
                  rintro _ w10 ⟨⟨ua, ub, rfl, ha, hb⟩, hx10⟩
                  replace hx := hx.ext hx10
                  replace hM := hM.ext hx10
                  replace hv5 := hv5.ext hx10
                  replace hc5 := hc5.ext hx10
                  replace h2 := h2.ext hx10
                  replace hzk := hzk.ext hx10
                  replace hv8 := hv8.ext hx10
                  replace hv9 := hv9.ext hx10
                  refine ⟨hx10.below, ?_⟩
                  rw [hsp1] at ha
                  rw [hsp2] at hb
                  obtain ⟨qa, rfl, ha'⟩ := id ha
                  obtain ⟨qb, rfl, hb'⟩ := id hb
                  clear ha' hb'
                  refine Ra.tame (by kernel_rfl) 10 rfl (by kernel_rfl) trivial (t_move rfl) rfl ?_
                  refine Ra.tame (by kernel_rfl) 11 rfl (by kernel_rfl) trivial (t_extract rfl rfl) rfl ?_
                  refine Ra.tameW (by kernel_rfl) 12 rfl (by kernel_rfl) trivial (tw_extract rfl rfl) rfl ?_
                  refine Ra.tameW (by kernel_rfl) 13 rfl (by kernel_rfl) trivial (tw_extract rfl rfl) rfl ?_
                  have ne : b8 ≠ b9 := by omega
                  have gt8 : b5 < b8 := by omega
                  have gt9 : b5 < b9 := by omega
                  exact Ra.canon (by kernel_rfl) (Ra.sub (by repeat (first | exact .nil | refine .cons rfl ?_)) (hfin (b8, b9, qa, qb) _ ⟨hx, ne, gt8, gt9, hv8, hv9, hv5, ha.sub (by simp), hb.sub (by simp)⟩))
            · skip
              refine ⟨_, _, rfl, rfl, trivial, w_new Try.zeroValue27 rfl, rfl, ?_⟩
              rintro _ w9 ⟨b9, rfl, qb9, hx9, hv9⟩
              replace h2 := h2.fresh (Nat.le_of_eq qb9.symm)
              have ab9 := hx.le; have a5b9 := hv5.lt
              have cb9 := hv8.lt
              replace hx := hx.ext hx9
              replace hM := hM.ext hx9
              replace hv5 := hv5.ext hx9
              replace hc5 := hc5.ext hx9
              replace h2 := h2.ext hx9
              replace hzk := hzk.ext hx9
              replace hv8 := hv8.ext hx9
              replace hM := hM.push hv9.lt
              refine ⟨hx9.below, ?_⟩
              refine Ra.alt1 (i := 8) (by kernel_rfl) ?_
              · skip
                refine ⟨_, _, rfl, rfl, trivial, w_call Try.call16 rfl (mod_ok (by omega) (by omega)), rfl, ?_⟩
                rintro _ _ ⟨⟨rr, rfl, _, _, hrr⟩, rfl⟩
                refine ⟨Below.refl _ _, ?_⟩
                rw [hrm] at hrr
                subst hrr
                refine Ra.alt1 (i := 9) (by kernel_rfl) ?_
                · skip
                  refine ⟨_, _, rfl, rfl, trivial, w_call Try.call12 rfl (ropeSplit_ok hM h2 g2 (by omega) hrm1), rfl, ?_⟩
                  rintro _ w10 ⟨⟨ua, ub, rfl, ha, hb⟩, hx10⟩
                  replace hx := hx.ext hx10
                  replace hM := hM.ext hx10
                  replace hv5 := hv5.ext hx10
                  replace hc5 := hc5.ext hx10
                  replace h2 := h2.ext hx10
                  replace hzk := hzk.ext hx10
                  replace hv8 := hv8.ext hx10
                  replace hv9 := hv9.ext hx10
                  refine ⟨hx10.below, ?_⟩
                  rw [hsp1] at ha
                  rw [hsp2] at hb
                  obtain ⟨qa, rfl, ha'⟩ := id ha
                  obtain ⟨qb, rfl, hb'⟩ := id hb
                  clear ha' hb'
                  refine Ra.tame (by kernel_rfl) 10 rfl (by kernel_rfl) trivial (t_move rfl) rfl ?_
                  refine Ra.tame (by kernel_rfl) 11 rfl (by kernel_rfl) trivial (t_extract rfl rfl) rfl ?_
                  refine Ra.tameW (by kernel_rfl) 12 rfl (by kernel_rfl) trivial (tw_extract rfl rfl) rfl ?_
                  refine Ra.tameW (by kernel_rfl) 13 rfl (by kernel_rfl) trivial (tw_extract rfl rfl) rfl ?_
                  have ne : b8 ≠ b9 := by omega
                  have gt8 : b5 < b8 := by omega
                  have gt9 : b5 < b9 := by omega
                  exact Ra.canon (by kernel_rfl) (Ra.sub (by repeat (first | exact .nil | refine .cons rfl ?_)) (hfin (b8, b9, qa, qb) _ ⟨hx, ne, gt8, gt9, hv8, hv9, hv5, ha.sub (by simp), hb.sub (by simp)⟩))
          · skip
            refine ⟨_, _, rfl, rfl, trivial, w_new Try.zeroValue27 rfl, rfl, ?_⟩
            rintro _ w8 ⟨b9, rfl, qb9, hx8, hv9⟩
            replace h2 := h2.fresh (Nat.le_of_eq qb9.symm)
            have ab9 := hx.le; have a5b9 := hv5.lt
            replace hx := hx.ext hx8
            replace hM := hM.ext hx8
            replace hv5 := hv5.ext hx8
            replace hc5 := hc5.ext hx8
            replace h2 := h2.ext hx8
            replace hzk := hzk.ext hx8
            replace hM := hM.push hv9.lt
            refine ⟨hx8.below, ?_⟩
            refine Ra.alt2 (i := 8) (j := 14) (by kernel_rfl) ?_ ?_
            · skip
              refine ⟨_, _, rfl, rfl, trivial, w_call Try.call16 rfl (mod_ok (by omega) (by omega)), rfl, ?_⟩
              rintro _ _ ⟨⟨rr, rfl, _, _, hrr⟩, rfl⟩
              refine ⟨Below.refl _ _, ?_⟩
              rw [hrm] at hrr
              subst hrr
              refine Ra.alt2 (i := 9) (j := 14) (by kernel_rfl) ?_ ?_
              · skip
                refine ⟨_, _, rfl, rfl, trivial, w_call Try.call12 rfl (ropeSplit_ok hM h2 g2 (by omega) hrm1), rfl, ?_⟩
                rintro _ w9 ⟨⟨ua, ub, rfl, ha, hb⟩, hx9⟩
                replace hx := hx.ext hx9
                replace hM := hM.ext hx9
                replace hv5 := hv5.ext hx9
                replace hc5 := hc5.ext hx9
                replace h2 := h2.ext hx9
                replace hzk := hzk.ext hx9
                replace hv9 := hv9.ext hx9
                refine ⟨hx9.below, ?_⟩
                rw [hsp1] at ha
                rw [hsp2] at hb
                obtain ⟨qa, rfl, ha'⟩ := id ha
                obtain ⟨qb, rfl, hb'⟩ := id hb
                clear ha' hb'
                refine Ra.tame (by kernel_rfl) 10 rfl (by kernel_rfl) trivial (t_move rfl) rfl ?_
                refine Ra.tame (by kernel_rfl) 11 rfl (by kernel_rfl) trivial (t_extract rfl rfl) rfl ?_
                refine Ra.tameW (by kernel_rfl) 12 rfl (by kernel_rfl) trivial (tw_extract rfl rfl) rfl ?_
                refine Ra.tameW (by kernel_rfl) 13 rfl (by kernel_rfl) trivial (tw_extract rfl rfl) rfl ?_
                refine Ra.alt1 (i := 14) (by kernel_rfl) ?_
                · skip
                  refine ⟨_, _, rfl, rfl, trivial, w_new Try.zeroValue27 rfl, rfl, ?_⟩
                  rintro _ w10 ⟨b8, rfl, qb8, hx10, hv8⟩
                  replace h2 := h2.fresh (Nat.le_of_eq qb8.symm)
                  replace ha := ha.fresh (Nat.le_of_eq qb8.symm)
                  replace hb := hb.fresh (Nat.le_of_eq qb8.symm)
                  have ab8 := hx.le; have a5b8 := hv5.lt
                  have cb8 := hv9.lt
                  replace hx := hx.ext hx10
                  replace hM := hM.ext hx10
                  replace hv5 := hv5.ext hx10
                  replace hc5 := hc5.ext hx10
                  replace h2 := h2.ext hx10
                  replace hzk := hzk.ext hx10
                  replace hv9 := hv9.ext hx10
                  replace ha := ha.ext hx10
                  replace hb := hb.ext hx10
                  replace hM := hM.push hv8.lt
                  refine ⟨hx10.below, ?_⟩
                  have ne : b8 ≠ b9 := by omega
                  have gt8 : b5 < b8 := by omega
                  have gt9 : b5 < b9 := by omega
                  exact Ra.canon (by kernel_rfl) (Ra.sub (by repeat (first | exact .nil | refine .cons rfl ?_)) (hfin (b8, b9, qa, qb) _ ⟨hx, ne, gt8, gt9, hv8, hv9, hv5, ha.sub (by simp), hb.sub (by simp)⟩))
              · skip
                refine ⟨_, _, rfl, rfl, trivial, w_new Try.zeroValue27 rfl, rfl, ?_⟩
                rintro _ w9 ⟨b8, rfl, qb8, hx9, hv8⟩
                replace h2 := h2.fresh (Nat.le_of_eq qb8.symm)
                have ab8 := hx.le; have a5b8 := hv5.lt
                have cb8 := hv9.lt
                replace hx := hx.ext hx9
                replace hM := hM.ext hx9
                replace hv5 := hv5.ext hx9
                replace hc5 := hc5.ext hx9
                replace h2 := h2.ext hx9
                replace hzk := hzk.ext hx9
                replace hv9 := hv9.ext hx9
                replace hM := hM.push hv8.lt
                refine ⟨hx9.below, ?_⟩
                refine Ra.alt1 (i := 9) (by kernel_rfl) ?_
                · skip
                  refine ⟨_, _, rfl, rfl, trivial, w_call Try.call12 rfl (ropeSplit_ok hM h2 g2 (by omega) hrm1), rfl, ?_⟩
                  rintro _ w10 ⟨⟨ua, ub, rfl, ha, hb⟩, hx10⟩
                  replace hx := hx.ext hx10
                  replace hM := hM.ext hx10
                  replace hv5 := hv5.ext hx10
                  replace hc5 := hc5.ext hx10
                  replace h2 := h2.ext hx10
                  replace hzk := hzk.ext hx10
                  replace hv9 := hv9.ext hx10
                  replace hv8 := hv8.ext hx10
                  refine ⟨hx10.below, ?_⟩
                  rw [hsp1] at ha
                  rw [hsp2] at hb
                  obtain ⟨qa, rfl, ha'⟩ := id ha
                  obtain ⟨qb, rfl, hb'⟩ := id hb
                  clear ha' hb'
                  refine Ra.tame (by kernel_rfl) 10 rfl (by kernel_rfl) trivial (t_move rfl) rfl ?_
                  refine Ra.tame (by kernel_rfl) 11 rfl (by kernel_rfl) trivial (t_extract rfl rfl) rfl ?_
                  refine Ra.tameW (by kernel_rfl) 12 rfl (by kernel_rfl) trivial (tw_extract rfl rfl) rfl ?_
                  refine Ra.tameW (by kernel_rfl) 13 rfl (by kernel_rfl) trivial (tw_extract rfl rfl) rfl ?_
                  have ne : b8 ≠ b9 := by omega
                  have gt8 : b5 < b8 := by omega
                  have gt9 : b5 < b9 := by omega
                  exact Ra.canon (by kernel_rfl) (Ra.sub (by repeat (first | exact .nil | refine .cons rfl ?_)) (hfin (b8, b9, qa, qb) _ ⟨hx, ne, gt8, gt9, hv8, hv9, hv5, ha.sub (by simp), hb.sub (by simp)⟩))
            · skip
              refine ⟨_, _, rfl, rfl, trivial, w_new Try.zeroValue27 rfl, rfl, ?_⟩
              rintro _ w9 ⟨b8, rfl, qb8, hx9, hv8⟩
              replace h2 := h2.fresh (Nat.le_of_eq qb8.symm)
              have ab8 := hx.le; have a5b8 := hv5.lt
              have cb8 := hv9.lt
              replace hx := hx.ext hx9
              replace hM := hM.ext hx9
              replace hv5 := hv5.ext hx9
              replace hc5 := hc5.ext hx9
              replace h2 := h2.ext hx9
              replace hzk := hzk.ext hx9
              replace hv9 := hv9.ext hx9
              replace hM := hM.push hv8.lt
              refine ⟨hx9.below, ?_⟩
              refine Ra.alt1 (i := 8) (by kernel_rfl) ?_
              · skip
                refine ⟨_, _, rfl, rfl, trivial, w_call Try.call16 rfl (mod_ok (by omega) (by omega)), rfl, ?_⟩
                rintro _ _ ⟨⟨rr, rfl, _, _, hrr⟩, rfl⟩
                refine ⟨Below.refl _ _, ?_⟩
                rw [hrm] at hrr
                subst hrr
                refine Ra.alt1 (i := 9) (by kernel_rfl) ?_
                · skip
                  refine ⟨_, _, rfl, rfl, trivial, w_call Try.call12 rfl (ropeSplit_ok hM h2 g2 (by omega) hrm1), rfl, ?_⟩
                  rintro _ w10 ⟨⟨ua, ub, rfl, ha, hb⟩, hx10⟩
                  replace hx := hx.ext hx10
                  replace hM := hM.ext hx10
                  replace hv5 := hv5.ext hx10
                  replace hc5 := hc5.ext hx10
                  replace h2 := h2.ext hx10
                  replace hzk := hzk.ext hx10
                  replace hv9 := hv9.ext hx10
                  replace hv8 := hv8.ext hx10
                  refine ⟨hx10.below, ?_⟩
                  rw [hsp1] at ha
                  rw [hsp2] at hb
                  obtain ⟨qa, rfl, ha'⟩ := id ha
                  obtain ⟨qb, rfl, hb'⟩ := id hb
                  clear ha' hb'
                  refine Ra.tame (by kernel_rfl) 10 rfl (by kernel_rfl) trivial (t_move rfl) rfl ?_
                  refine Ra.tame (by kernel_rfl) 11 rfl (by kernel_rfl) trivial (t_extract rfl rfl) rfl ?_
                  refine Ra.tameW (by kernel_rfl) 12 rfl (by kernel_rfl) trivial (tw_extract rfl rfl) rfl ?_
                  refine Ra.tameW (by kernel_rfl) 13 rfl (by kernel_rfl) trivial (tw_extract rfl rfl) rfl ?_
                  have ne : b8 ≠ b9 := by omega
                  have gt8 : b5 < b8 := by omega
                  have gt9 : b5 < b9 := by omega
                  exact Ra.canon (by kernel_rfl) (Ra.sub (by repeat (first | exact .nil | refine .cons rfl ?_)) (hfin (b8, b9, qa, qb) _ ⟨hx, ne, gt8, gt9, hv8, hv9, hv5, ha.sub (by simp), hb.sub (by simp)⟩))
        · skip
          refine ⟨_, _, rfl, rfl, trivial, w_new Try.zeroValue27 rfl, rfl, ?_⟩
          rintro _ w7 ⟨b8, rfl, qb8, hx7, hv8⟩
          replace h2 := h2.fresh (Nat.le_of_eq qb8.symm)
          have ab8 := hx.le; have a5b8 := hv5.lt
          replace hx := hx.ext hx7
          replace hM := hM.ext hx7
          replace hv5 := hv5.ext hx7
          replace hc5 := hc5.ext hx7
          replace h2 := h2.ext hx7
          replace hzk := hzk.ext hx7
          replace hM := hM.push hv8.lt
          refine ⟨hx7.below, ?_⟩
          refine Ra.alt2 (i := 6) (j := 15) (by kernel_rfl) ?_ ?_
          · skip
            refine ⟨_, _, rfl, rfl, trivial, w_call Try.call11 rfl (len_ok h2), rfl, ?_⟩
            rintro _ w8 ⟨rfl, hx8⟩
            replace hx := hx.ext hx8
            replace hM := hM.ext hx8
            replace hv5 := hv5.ext hx8
            replace hc5 := hc5.ext hx8
            replace h2 := h2.ext hx8
            replace hzk := hzk.ext hx8
            replace hv8 := hv8.ext hx8
            refine ⟨hx8.below, ?_⟩
            refine Ra.tame (by kernel_rfl) 7 rfl (by kernel_rfl) trivial (t_addI rfl rfl (by omega)) rfl ?_
            refine Ra.alt2 (i := 8) (j := 15) (by kernel_rfl) ?_ ?_
            · skip
              refine ⟨_, _, rfl, rfl, trivial, w_call Try.call16 rfl (mod_ok (by omega) (by omega)), rfl, ?_⟩
              rintro _ _ ⟨⟨rr, rfl, _, _, hrr⟩, rfl⟩
              refine ⟨Below.refl _ _, ?_⟩
              rw [hrm] at hrr
              subst hrr
              refine Ra.alt2 (i := 9) (j := 15) (by kernel_rfl) ?_ ?_
              · skip
                refine ⟨_, _, rfl, rfl, trivial, w_call Try.call12 rfl (ropeSplit_ok hM h2 g2 (by omega) hrm1), rfl, ?_⟩
                rintro _ w9 ⟨⟨ua, ub, rfl, ha, hb⟩, hx9⟩
                replace hx := hx.ext hx9
                replace hM := hM.ext hx9
                replace hv5 := hv5.ext hx9
                replace hc5 := hc5.ext hx9
                replace h2 := h2.ext hx9
                replace hzk := hzk.ext hx9
                replace hv8 := hv8.ext hx9
                refine ⟨hx9.below, ?_⟩
                rw [hsp1] at ha
                rw [hsp2] at hb
                obtain ⟨qa, rfl, ha'⟩ := id ha
                obtain ⟨qb, rfl, hb'⟩ := id hb
                clear ha' hb'
                refine Ra.tame (by kernel_rfl) 10 rfl (by kernel_rfl) trivial (t_move rfl) rfl ?_
                refine Ra.tame (by kernel_rfl) 11 rfl (by kernel_rfl) trivial (t_extract rfl rfl) rfl ?_
                refine Ra.tameW (by kernel_rfl) 12 rfl (by kernel_rfl) trivial (tw_extract rfl rfl) rfl ?_
                refine Ra.tameW (by kernel_rfl) 13 rfl (by kernel_rfl) trivial (tw_extract rfl rfl) rfl ?_
                refine Ra.alt1 (i := 15) (by kernel_rfl) ?_
                · skip
                  refine ⟨_, _, rfl, rfl, trivial, w_new Try.zeroValue27 rfl, rfl, ?_⟩
                  rintro _ w10 ⟨b9, rfl, qb9, hx10, hv9⟩
                  replace h2 := h2.fresh (Nat.le_of_eq qb9.symm)
                  replace ha := ha.fresh (Nat.le_of_eq qb9.symm)
                  replace hb := hb.fresh (Nat.le_of_eq qb9.symm)
                  have ab9 := hx.le; have a5b9 := hv5.lt
                  have cb9 := hv8.lt
                  replace hx := hx.ext hx10
                  replace hM := hM.ext hx10
                  replace hv5 := hv5.ext hx10
                  replace hc5 := hc5.ext hx10
                  replace h2 := h2.ext hx10
                  replace hzk := hzk.ext hx10
                  replace hv8 := hv8.ext hx10
                  replace ha := ha.ext hx10
                  replace hb := hb.ext hx10
                  replace hM := hM.push hv9.lt
                  refine ⟨hx10.below, ?_⟩
                  have ne : b8 ≠ b9 := by omega
                  have gt8 : b5 < b8 := by omega
                  have gt9 : b5 < b9 := by omega
                  exact Ra.canon (by kernel_rfl) (Ra.sub (by repeat (first | exact .nil | refine .cons rfl ?_)) (hfin (b8, b9, qa, qb) _ ⟨hx, ne, gt8, gt9, hv8, hv9, hv5, ha.sub (by simp), hb.sub (by simp)⟩))
              · skip
                refine ⟨_, _, rfl, rfl, trivial, w_new Try.zeroValue27 rfl, rfl, ?_⟩
                rintro _ w9 ⟨b9, rfl, qb9, hx9, hv9⟩
                replace h2 := h2.fresh (Nat.le_of_eq qb9.symm)
                have ab9 := hx.le; have a5b9 := hv5.lt
                have cb9 := hv8.lt
                replace hx := hx.ext hx9
                replace hM := hM.ext hx9
                replace hv5 := hv5.ext hx9
                replace hc5 := hc5.ext hx9
                replace h2 := h2.ext hx9
                replace hzk := hzk.ext hx9
                replace hv8 := hv8.ext hx9
                replace hM := hM.push hv9.lt
                refine ⟨hx9.below, ?_⟩
                refine Ra.alt1 (i := 9) (by kernel_rfl) ?_
                · skip
                  refine ⟨_, _, rfl, rfl, trivial, w_call Try.call12 rfl (ropeSplit_ok hM h2 g2 (by omega) hrm1), rfl, ?_⟩
                  rintro _ w10 ⟨⟨ua, ub, rfl, ha, hb⟩, hx10⟩
                  replace hx := hx.ext hx10
                  replace hM := hM.ext hx10
                  replace hv5 := hv5.ext hx10
                  replace hc5 := hc5.ext hx10
                  replace h2 := h2.ext hx10
                  replace hzk := hzk.ext hx10
                  replace hv8 := hv8.ext hx10
                  replace hv9 := hv9.ext hx10
                  refine ⟨hx10.below, ?_⟩
                  rw [hsp1] at ha
                  rw [hsp2] at hb
                  obtain ⟨qa, rfl, ha'⟩ := id ha
                  obtain ⟨qb, rfl, hb'⟩ := id hb
                  clear ha' hb'
                  refine Ra.tame (by kernel_rfl) 10 rfl (by kernel_rfl) trivial (t_move rfl) rfl ?_
                  refine Ra.tame (by kernel_rfl) 11 rfl (by kernel_rfl) trivial (t_extract rfl rfl) rfl ?_
                  refine Ra.tameW (by kernel_rfl) 12 rfl (by kernel_rfl) trivial (tw_extract rfl rfl) rfl ?_
                  refine Ra.tameW (by kernel_rfl) 13 rfl (by kernel_rfl) trivial (tw_extract rfl rfl) rfl ?_
                  have ne : b8 ≠ b9 := by omega
                  have gt8 : b5 < b8 := by omega
                  have gt9 : b5 < b9 := by omega
                  exact Ra.canon (by kernel_rfl) (Ra.sub (by repeat (first | exact .nil | refine .cons rfl ?_)) (hfin (b8, b9, qa, qb) _ ⟨hx, ne, gt8, gt9, hv8, hv9, hv5, ha.sub (by simp), hb.sub (by simp)⟩))
            · skip
              refine ⟨_, _, rfl, rfl, trivial, w_new Try.zeroValue27 rfl, rfl, ?_⟩
              rintro _ w9 ⟨b9, rfl, qb9, hx9, hv9⟩
              replace h2 := h2.fresh (Nat.le_of_eq qb9.symm)
              have ab9 := hx.le; have a5b9 := hv5.lt
              have cb9 := hv8.lt
              replace hx := hx.ext hx9
              replace hM := hM.ext hx9
              replace hv5 := hv5.ext hx9
              replace hc5 := hc5.ext hx9
              replace h2 := h2.ext hx9
              replace hzk := hzk.ext hx9
              replace hv8 := hv8.ext hx9
              replace hM := hM.push hv9.lt
              refine ⟨hx9.below, ?_⟩
              refine Ra.alt1 (i := 8) (by kernel_rfl) ?_
              · skip
                refine ⟨_, _, rfl, rfl, trivial, w_call Try.call16 rfl (mod_ok (by omega) (by omega)), rfl, ?_⟩
                rintro _ _ ⟨⟨rr, rfl, _, _, hrr⟩, rfl⟩
                refine ⟨Below.refl _ _, ?_⟩
                rw [hrm] at hrr
                subst hrr
                refine Ra.alt1 (i := 9) (by kernel_rfl) ?_
                · skip
                  refine ⟨_, _, rfl, rfl, trivial, w_call Try.call12 rfl (ropeSplit_ok hM h2 g2 (by omega) hrm1), rfl, ?_⟩
                  rintro _ w10 ⟨⟨ua, ub, rfl, ha, hb⟩, hx10⟩
                  replace hx := hx.ext hx10
                  replace hM := hM.ext hx10
                  replace hv5 := hv5.ext hx10
                  replace hc5 := hc5.ext hx10
                  replace h2 := h2.ext hx10
                  replace hzk := hzk.ext hx10
                  replace hv8 := hv8.ext hx10
                  replace hv9 := hv9.ext hx10
                  refine ⟨hx10.below, ?_⟩
                  rw [hsp1] at ha
                  rw [hsp2] at hb
                  obtain ⟨qa, rfl, ha'⟩ := id ha
                  obtain ⟨qb, rfl, hb'⟩ := id hb
                  clear ha' hb'
                  refine Ra.tame (by kernel_rfl) 10 rfl (by kernel_rfl) trivial (t_move rfl) rfl ?_
                  refine Ra.tame (by kernel_rfl) 11 rfl (by kernel_rfl) trivial (t_extract rfl rfl) rfl ?_
                  refine Ra.tameW (by kernel_rfl) 12 rfl (by kernel_rfl) trivial (tw_extract rfl rfl) rfl ?_
                  refine Ra.tameW (by kernel_rfl) 13 rfl (by kernel_rfl) trivial (tw_extract rfl rfl) rfl ?_
                  have ne : b8 ≠ b9 := by omega
                  have gt8 : b5 < b8 := by omega
                  have gt9 : b5 < b9 := by omega
                  exact Ra.canon (by kernel_rfl) (Ra.sub (by repeat (first | exact .nil | refine .cons rfl ?_)) (hfin (b8, b9, qa, qb) _ ⟨hx, ne, gt8, gt9, hv8, hv9, hv5, ha.sub (by simp), hb.sub (by simp)⟩))
          · skip
            refine ⟨_, _, rfl, rfl, trivial, w_new Try.zeroValue27 rfl, rfl, ?_⟩
            rintro _ w8 ⟨b9, rfl, qb9, hx8, hv9⟩
            replace h2 := h2.fresh (Nat.le_of_eq qb9.symm)
            have ab9 := hx.le; have a5b9 := hv5.lt
            have cb9 := hv8.lt
            replace hx := hx.ext hx8
            replace hM := hM.ext hx8
            replace hv5 := hv5.ext hx8
            replace hc5 := hc5.ext hx8
            replace h2 := h2.ext hx8
            replace hzk := hzk.ext hx8
            replace hv8 := hv8.ext hx8
            replace hM := hM.push hv9.lt
            refine ⟨hx8.below, ?_⟩
            refine Ra.alt1 (i := 6) (by kernel_rfl) ?_
            · skip
              refine ⟨_, _, rfl, rfl, trivial, w_call Try.call11 rfl (len_ok h2), rfl, ?_⟩
              rintro _ w9 ⟨rfl, hx9⟩
              replace hx := hx.ext hx9
              replace hM := hM.ext hx9
              replace hv5 := hv5.ext hx9
              replace hc5 := hc5.ext hx9
              replace h2 := h2.ext hx9
              replace hzk := hzk.ext hx9
              replace hv8 := hv8.ext hx9
              replace hv9 := hv9.ext hx9
              refine ⟨hx9.below, ?_⟩
              refine Ra.tame (by kernel_rfl) 7 rfl (by kernel_rfl) trivial (t_addI rfl rfl (by omega)) rfl ?_
              refine Ra.alt1 (i := 8) (by kernel_rfl) ?_
              · skip
                refine ⟨_, _, rfl, rfl, trivial, w_call Try.call16 rfl (mod_ok (by omega) (by omega)), rfl, ?_⟩
                rintro _ _ ⟨⟨rr, rfl, _, _, hrr⟩, rfl⟩
                refine ⟨Below.refl _ _, ?_⟩
                rw [hrm] at hrr
                subst hrr
                refine Ra.alt1 (i := 9) (by kernel_rfl) ?_
                · skip
                  refine ⟨_, _, rfl, rfl, trivial, w_call Try.call12 rfl (ropeSplit_ok hM h2 g2 (by omega) hrm1), rfl, ?_⟩
                  rintro _ w10 ⟨⟨ua, ub, rfl, ha, hb⟩, hx10⟩
                  replace hx := hx.ext hx10
                  replace hM := hM.ext hx10
                  replace hv5 := hv5.ext hx10
                  replace hc5 := hc5.ext hx10
                  replace h2 := h2.ext hx10
                  replace hzk := hzk.ext hx10
                  replace hv8 := hv8.ext hx10
                  replace hv9 := hv9.ext hx10
                  refine ⟨hx10.below, ?_⟩
                  rw [hsp1] at ha
                  rw [hsp2] at hb
                  obtain ⟨qa, rfl, ha'⟩ := id ha
                  obtain ⟨qb, rfl, hb'⟩ := id hb
                  clear ha' hb'
                  refine Ra.tame (by kernel_rfl) 10 rfl (by kernel_rfl) trivial (t_move rfl) rfl ?_
                  refine Ra.tame (by kernel_rfl) 11 rfl (by kernel_rfl) trivial (t_extract rfl rfl) rfl ?_
                  refine Ra.tameW (by kernel_rfl) 12 rfl (by kernel_rfl) trivial (tw_extract rfl rfl) rfl ?_
                  refine Ra.tameW (by kernel_rfl) 13 rfl (by kernel_rfl) trivial (tw_extract rfl rfl) rfl ?_
                  have ne : b8 ≠ b9 := by omega
                  have gt8 : b5 < b8 := by omega
                  have gt9 : b5 < b9 := by omega
                  exact Ra.canon (by kernel_rfl) (Ra.sub (by repeat (first | exact .nil | refine .cons rfl ?_)) (hfin (b8, b9, qa, qb) _ ⟨hx, ne, gt8, gt9, hv8, hv9, hv5, ha.sub (by simp), hb.sub (by simp)⟩))
        · skip
          refine ⟨_, _, rfl, rfl, trivial, w_new Try.zeroValue27 rfl, rfl, ?_⟩
          rintro _ w7 ⟨b9, rfl, qb9, hx7, hv9⟩
          replace h2 := h2.fresh (Nat.le_of_eq qb9.symm)
          have ab9 := hx.le; have a5b9 := hv5.lt
          replace hx := hx.ext hx7
          replace hM := hM.ext hx7
          replace hv5 := hv5.ext hx7
          replace hc5 := hc5.ext hx7
          replace h2 := h2.ext hx7
          replace hzk := hzk.ext hx7
          replace hM := hM.push hv9.lt
          refine ⟨hx7.below, ?_⟩
          refine Ra.alt2 (i := 6) (j := 14) (by kernel_rfl) ?_ ?_
          · skip
            refine ⟨_, _, rfl, rfl, trivial, w_call Try.call11 rfl (len_ok h2), rfl, ?_⟩
            rintro _ w8 ⟨rfl, hx8⟩
            replace hx := hx.ext hx8
            replace hM := hM.ext hx8
            replace hv5 := hv5.ext hx8
            replace hc5 := hc5.ext hx8
            replace h2 := h2.ext hx8
            replace hzk := hzk.ext hx8
            replace hv9 := hv9.ext hx8
            refine ⟨hx8.below, ?_⟩
            refine Ra.tame (by kernel_rfl) 7 rfl (by kernel_rfl) trivial (t_addI rfl rfl (by omega)) rfl ?_
            refine Ra.alt2 (i := 8) (j := 14) (by kernel_rfl) ?_ ?_
            · skip
              refine ⟨_, _, rfl, rfl, trivial, w_call Try.call16 rfl (mod_ok (by omega) (by omega)), rfl, ?_⟩
              rintro _ _ ⟨⟨rr, rfl, _, _, hrr⟩, rfl⟩
              refine ⟨Below.refl _ _, ?_⟩
              rw [hrm] at hrr
              subst hrr
              refine Ra.alt2 (i := 9) (j := 14) (by kernel_rfl) ?_ ?_
              · skip
                refine ⟨_, _, rfl, rfl, trivial, w_call Try.call12 rfl (ropeSplit_ok hM h2 g2 (by omega) hrm1), rfl, ?_⟩
                rintro _ w9 ⟨⟨ua, ub, rfl, ha, hb⟩, hx9⟩
                replace hx := hx.ext hx9
                replace hM := hM.ext hx9
                replace hv5 := hv5.ext hx9
                replace hc5 := hc5.ext hx9
                replace h2 := h2.ext hx9
                replace hzk := hzk.ext hx9
                replace hv9 := hv9.ext hx9
                refine ⟨hx9.below, ?_⟩
                rw [hsp1] at ha
                rw [hsp2] at hb
                obtain ⟨qa, rfl, ha'⟩ := id ha
                obtain ⟨qb, rfl, hb'⟩ := id hb
                clear ha' hb'
                refine Ra.tame (by kernel_rfl) 10 rfl (by kernel_rfl) trivial (t_move rfl) rfl ?_
                refine Ra.tame (by kernel_rfl) 11 rfl (by kernel_rfl) trivial (t_extract rfl rfl) rfl ?_
                refine Ra.tameW (by kernel_rfl) 12 rfl (by kernel_rfl) trivial (tw_extract rfl rfl) rfl ?_
                refine Ra.tameW (by kernel_rfl) 13 rfl (by kernel_rfl) trivial (tw_extract rfl rfl) rfl ?_
                refine Ra.alt1 (i := 14) (by kernel_rfl) ?_
                · skip
                  refine ⟨_, _, rfl, rfl, trivial, w_new Try.zeroValue27 rfl, rfl, ?_⟩
                  rintro _ w10 ⟨b8, rfl, qb8, hx10, hv8⟩
                  replace h2 := h2.fresh (Nat.le_of_eq qb8.symm)
                  replace ha := ha.fresh (Nat.le_of_eq qb8.symm)
                  replace hb := hb.fresh (Nat.le_of_eq qb8.symm)
                  have ab8 := hx.le; have a5b8 := hv5.lt
                  have cb8 := hv9.lt
                  replace hx := hx.ext hx10
                  replace hM := hM.ext hx10
                  replace hv5 := hv5.ext hx10
                  replace hc5 := hc5.ext hx10
                  replace h2 := h2.ext hx10
                  replace hzk := hzk.ext hx10
                  replace hv9 := hv9.ext hx10
                  replace ha := ha.ext hx10
                  replace hb := hb.ext hx10
                  replace hM := hM.push hv8.lt
                  refine ⟨hx10.below, ?_⟩
                  have ne : b8 ≠ b9 := by omega
                  have gt8 : b5 < b8 := by omega
                  have gt9 : b5 < b9 := by omega
                  exact Ra.canon (by kernel_rfl) (Ra.sub (by repeat (first | exact .nil | refine .cons rfl ?_)) (hfin (b8, b9, qa, qb) _ ⟨hx, ne, gt8, gt9, hv8, hv9, hv5, ha.sub (by simp), hb.sub (by simp)⟩))
              · skip
                refine ⟨_, _, rfl, rfl, trivial, w_new Try.zeroValue27 rfl, rfl, ?_⟩
                rintro _ w9 ⟨b8, rfl, qb8, hx9, hv8⟩
                replace h2 := h2.fresh (Nat.le_of_eq qb8.symm)
                have ab8 := hx.le; have a5b8 := hv5.lt
                have cb8 := hv9.lt
                replace hx := hx.ext hx9
                replace hM := hM.ext hx9
                replace hv5 := hv5.ext hx9
                replace hc5 := hc5.ext hx9
                replace h2 := h2.ext hx9
                replace hzk := hzk.ext hx9
                replace hv9 := hv9.ext hx9
                replace hM := hM.push hv8.lt
                refine ⟨hx9.below, ?_⟩
                refine Ra.alt1 (i := 9) (by kernel_rfl) ?_
                · skip
                  refine ⟨_, _, rfl, rfl, trivial, w_call Try.call12 rfl (ropeSplit_ok hM h2 g2 (by omega) hrm1), rfl, ?_⟩
                  rintro _ w10 ⟨⟨ua, ub, rfl, ha, hb⟩, hx10⟩
                  replace hx := hx.ext hx10
                  replace hM := hM.ext hx10
                  replace hv5 := hv5.ext hx10
                  replace hc5 := hc5.ext hx10
                  replace h2 := h2.ext hx10
                  replace hzk := hzk.ext hx10
                  replace hv9 := hv9.ext hx10
                  replace hv8 := hv8.ext hx10
                  refine ⟨hx10.below, ?_⟩
                  rw [hsp1] at ha
                  rw [hsp2] at hb
                  obtain ⟨qa, rfl, ha'⟩ := id ha
                  obtain ⟨qb, rfl, hb'⟩ := id hb
                  clear ha' hb'
                  refine Ra.tame (by kernel_rfl) 10 rfl (by kernel_rfl) trivial (t_move rfl) rfl ?_
                  refine Ra.tame (by kernel_rfl) 11 rfl (by kernel_rfl) trivial (t_extract rfl rfl) rfl ?_
                  refine Ra.tameW (by kernel_rfl) 12 rfl (by kernel_rfl) trivial (tw_extract rfl rfl) rfl ?_
                  refine Ra.tameW (by kernel_rfl) 13 rfl (by kernel_rfl) trivial (tw_extract rfl rfl) rfl ?_
                  have ne : b8 ≠ b9 := by omega
                  have gt8 : b5 < b8 := by omega
                  have gt9 : b5 < b9 := by omega
                  exact Ra.canon (by kernel_rfl) (Ra.sub (by repeat (first | exact .nil | refine .cons rfl ?_)) (hfin (b8, b9, qa, qb) _ ⟨hx, ne, gt8, gt9, hv8, hv9, hv5, ha.sub (by simp), hb.sub (by simp)⟩))
            · skip
              refine ⟨_, _, rfl, rfl, trivial, w_new Try.zeroValue27 rfl, rfl, ?_⟩
              rintro _ w9 ⟨b8, rfl, qb8, hx9, hv8⟩
              replace h2 := h2.fresh (Nat.le_of_eq qb8.symm)
              have ab8 := hx.le; have a5b8 := hv5.lt
              have cb8 := hv9.lt
              replace hx := hx.ext hx9
              replace hM := hM.ext hx9
              replace hv5 := hv5.ext hx9
              replace hc5 := hc5.ext hx9
              replace h2 := h2.ext hx9
              replace hzk := hzk.ext hx9
              replace hv9 := hv9.ext hx9
              replace hM := hM.push hv8.lt
              refine ⟨hx9.below, ?_⟩
              refine Ra.alt1 (i := 8) (by kernel_rfl) ?_
              · skip
                refine ⟨_, _, rfl, rfl, trivial, w_call Try.call16 rfl (mod_ok (by omega) (by omega)), rfl, ?_⟩
                rintro _ _ ⟨⟨rr, rfl, _, _, hrr⟩, rfl⟩
                refine ⟨Below.refl _ _, ?_⟩
                rw [hrm] at hrr
                subst hrr
                refine Ra.alt1 (i := 9) (by kernel_rfl) ?_
                · skip
                  refine ⟨_, _, rfl, rfl, trivial, w_call Try.call12 rfl (ropeSplit_ok hM h2 g2 (by omega) hrm1), rfl, ?_⟩
                  rintro _ w10 ⟨⟨ua, ub, rfl, ha, hb⟩, hx10⟩
                  replace hx := hx.ext hx10
                  replace hM := hM.ext hx10
                  replace hv5 := hv5.ext hx10
                  replace hc5 := hc5.ext hx10
                  replace h2 := h2.ext hx10
                  replace hzk := hzk.ext hx10
                  replace hv9 := hv9.ext hx10
                  replace hv8 := hv8.ext hx10
                  refine ⟨hx10.below, ?_⟩
                  rw [hsp1] at ha
                  rw [hsp2] at hb
                  obtain ⟨qa, rfl, ha'⟩ := id ha
                  obtain ⟨qb, rfl, hb'⟩ := id hb
                  clear ha' hb'
                  refine Ra.tame (by kernel_rfl) 10 rfl (by kernel_rfl) trivial (t_move rfl) rfl ?_
                  refine Ra.tame (by kernel_rfl) 11 rfl (by kernel_rfl) trivial (t_extract rfl rfl) rfl ?_
                  refine Ra.tameW (by kernel_rfl) 12 rfl (by kernel_rfl) trivial (tw_extract rfl rfl) rfl ?_
                  refine Ra.tameW (by kernel_rfl) 13 rfl (by kernel_rfl) trivial (tw_extract rfl rfl) rfl ?_
                  have ne : b8 ≠ b9 := by omega
                  have gt8 : b5 < b8 := by omega
                  have gt9 : b5 < b9 := by omega
                  exact Ra.canon (by kernel_rfl) (Ra.sub (by repeat (first | exact .nil | refine .cons rfl ?_)) (hfin (b8, b9, qa, qb) _ ⟨hx, ne, gt8, gt9, hv8, hv9, hv5, ha.sub (by simp), hb.sub (by simp)⟩))
          · skip
            refine ⟨_, _, rfl, rfl, trivial, w_new Try.zeroValue27 rfl, rfl, ?_⟩
            rintro _ w8 ⟨b8, rfl, qb8, hx8, hv8⟩
            replace h2 := h2.fresh (Nat.le_of_eq qb8.symm)
            have ab8 := hx.le; have a5b8 := hv5.lt
            have cb8 := hv9.lt
            replace hx := hx.ext hx8
            replace hM := hM.ext hx8
            replace hv5 := hv5.ext hx8
            replace hc5 := hc5.ext hx8
            replace h2 := h2.ext hx8
            replace hzk := hzk.ext hx8
            replace hv9 := hv9.ext hx8
            replace hM := hM.push hv8.lt
            refine ⟨hx8.below, ?_⟩
            refine Ra.alt1 (i := 6) (by kernel_rfl) ?_
            · skip
              refine ⟨_, _, rfl, rfl, trivial, w_call Try.call11 rfl (len_ok h2), rfl, ?_⟩
              rintro _ w9 ⟨rfl, hx9⟩
              replace hx := hx.ext hx9
              replace hM := hM.ext hx9
              replace hv5 := hv5.ext hx9
              replace hc5 := hc5.ext hx9
              replace h2 := h2.ext hx9
              replace hzk := hzk.ext hx9
              replace hv9 := hv9.ext hx9
              replace hv8 := hv8.ext hx9
              refine ⟨hx9.below, ?_⟩
              refine Ra.tame (by kernel_rfl) 7 rfl (by kernel_rfl) trivial (t_addI rfl rfl (by omega)) rfl ?_
              refine Ra.alt1 (i := 8) (by kernel_rfl) ?_
              · skip
                refine ⟨_, _, rfl, rfl, trivial, w_call Try.call16 rfl (mod_ok (by omega) (by omega)), rfl, ?_⟩
                rintro _ _ ⟨⟨rr, rfl, _, _, hrr⟩, rfl⟩
                refine ⟨Below.refl _ _, ?_⟩
                rw [hrm] at hrr
                subst hrr
                refine Ra.alt1 (i := 9) (by kernel_rfl) ?_
                · skip
                  refine ⟨_, _, rfl, rfl, trivial, w_call Try.call12 rfl (ropeSplit_ok hM h2 g2 (by omega) hrm1), rfl, ?_⟩
                  rintro _ w10 ⟨⟨ua, ub, rfl, ha, hb⟩, hx10⟩
                  replace hx := hx.ext hx10
                  replace hM := hM.ext hx10
                  replace hv5 := hv5.ext hx10
                  replace hc5 := hc5.ext hx10
                  replace h2 := h2.ext hx10
                  replace hzk := hzk.ext hx10
                  replace hv9 := hv9.ext hx10
                  replace hv8 := hv8.ext hx10
                  refine ⟨hx10.below, ?_⟩
                  rw [hsp1] at ha
                  rw [hsp2] at hb
                  obtain ⟨qa, rfl, ha'⟩ := id ha
                  obtain ⟨qb, rfl, hb'⟩ := id hb
                  clear ha' hb'
                  refine Ra.tame (by kernel_rfl) 10 rfl (by kernel_rfl) trivial (t_move rfl) rfl ?_
                  refine Ra.tame (by kernel_rfl) 11 rfl (by kernel_rfl) trivial (t_extract rfl rfl) rfl ?_
                  refine Ra.tameW (by kernel_rfl) 12 rfl (by kernel_rfl) trivial (tw_extract rfl rfl) rfl ?_
                  refine Ra.tameW (by kernel_rfl) 13 rfl (by kernel_rfl) trivial (tw_extract rfl rfl) rfl ?_
                  have ne : b8 ≠ b9 := by omega
                  have gt8 : b5 < b8 := by omega
                  have gt9 : b5 < b9 := by omega
                  exact Ra.canon (by kernel_rfl) (Ra.sub (by repeat (first | exact .nil | refine .cons rfl ?_)) (hfin (b8, b9, qa, qb) _ ⟨hx, ne, gt8, gt9, hv8, hv9, hv5, ha.sub (by simp), hb.sub (by simp)⟩))
    · have e0 := e20
      refine Wp.seq (Wp.region ?_)
      refine Rg.tm trivial rfl (t_move rfl) rfl ?_
      refine Rg.tm trivial rfl (t_move rfl) rfl ?_
      refine Rg.tm trivial rfl (t_lenC hz0 Try.underlying39 rfl) rfl ?_
      first | refine Rg.tm trivial rfl (t_lssT rfl rfl (by omega)) rfl ?_ | refine Rg.tm trivial rfl (t_lssF rfl rfl (by omega)) rfl ?_ | refine Rg.tm trivial rfl (t_lss rfl rfl) rfl ?_
      refine Rg.done ?_
      refine Wp.condF rfl ?_
      refine Wp.skip ?_
      refine Wp.seq (Wp.region ?_)
      refine Rg.tm trivial rfl (t_loadA rfl (by assumption) (by exact ty27)) rfl ?_
      refine Rg.wd trivial (w_call Try.call17 rfl (balanced_ok h2 g2 (by omega))) rfl ?_
      rintro _ w6 ⟨rfl, hx6⟩
      replace hx := hx.ext hx6
      replace hM := hM.ext hx6
      replace hv5 := hv5.ext hx6
      replace hc5 := hc5.ext hx6
      replace h2 := h2.ext hx6
      refine Rg.tm trivial rfl (t_notB rfl) rfl ?_
      refine Rg.done ?_
      refine Wp.condF rfl ?_
      refine Wp.skip ?_
      refine Wp.region ?_
      first | refine Rg.tm trivial rfl (t_addI rfl rfl (by omega)) rfl ?_ | refine Rg.tm trivial rfl (t_add rfl rfl) rfl ?_
      refine Rg.tm trivial rfl (t_move rfl) rfl ?_
      refine Rg.done ?_
      exact ⟨(k + 1, p2, t2), by repeat (first | exact .nil | refine .cons rfl ?_), ⟨hlt, h2, g2, n2, hx, hM, hv5⟩, by simp only; omega⟩
  · have hc5 := hv5.cells
    refine Wp.seq (Wp.region ?_)
    first | refine Rg.tm trivial rfl (t_lssT rfl rfl (by omega)) rfl ?_ | refine Rg.tm trivial rfl (t_lssF rfl rfl (by omega)) rfl ?_ | refine Rg.tm trivial rfl (t_lss rfl rfl) rfl ?_
    refine Rg.done ?_
    refine Wp.seq ?_
    refine Wp.condF rfl ?_
    refine Wp.exit ?_
    refine Wp.seq (Wp.region ?_)
    refine Rg.wd trivial (w_call Try.call7 rfl example_ok) rfl ?_
    rintro _ w3 ⟨rfl, hx3⟩
    replace hx := hx.ext hx3
    refine Rg.tm trivial rfl (t_assign rfl) rfl ?_
    refine Rg.done ?_
    refine Wp.ret ?_
    exact ⟨[_], ⟨rfl, trivial⟩, rfl, hx⟩
end Go.Proofs.Yteopmfijfgaldaa
