/- The walks of the laws RopeConcat and RopeSplit. Printed by ropel.py. -/
import Derived.Test.YteopmfijfgaldaaRv
namespace Go.Proofs.Yteopmfijfgaldaa
set_option linter.unusedVariables false
set_option linter.unusedSimpArgs false
open Go.Gx Go.RowKit Go.Lib

/-- the parts that the laws take, cut -/
def shs (ss : List ByteArray) (m : Nat) : List ByteArray := (ss.take m).map fun s => s.extract 0 100
theorem shs_length {ss : List ByteArray} {m : Nat} (h : m ≤ ss.length) : (shs ss m).length = m := by simp [shs]; omega
theorem cats_shs (ss : List ByteArray) (m : Nat) : (cats (shs ss m)).size ≤ 100 * m := by
  have h : ∀ l : List ByteArray, (cats (l.map fun s => s.extract 0 100)).size ≤ 100 * l.length := by
    intro l
    induction l with
    | nil => exact Nat.le_refl 0
    | cons a l ih => simp only [List.map_cons, cats, ByteArray.size_append, ByteArray.size_extract, List.length_cons]; omega
  have h2 := h (ss.take m)
  have h3 : (ss.take m).length ≤ m := by simp; omega
  unfold shs
  omega
theorem shs_at {ss : List ByteArray} {m k : Nat} (hk : k < (shs ss m).length) (h : k < ss.length) : (shs ss m)[k] = ss[k].extract 0 100 := by
  simp [shs]
theorem shs_succ {ss : List ByteArray} {m k : Nat} (hm : m ≤ ss.length) (hk : k < m) : (shs ss m).take (k + 1) = (shs ss m).take k ++ [ss[k].extract 0 100] := by
  rw [List.take_succ_eq_append_getElem (by rw [shs_length hm]; exact hk), shs_at _ (by omega)]
theorem own_ext2 {w w1 w2 : World} {v : Value} {row : List Value} {e size n : Nat} (hx : Ext w w1) (h : w1.ownsRow w.heap.size e size v n row) (hg : w1.grownBy w2 v.ownBlock) : Ext w w2 :=
  Below.trans hx (below_own h hg hx.le)

theorem concatLaw {ss : List ByteArray} {w : World} {v : Value} (hs0 : SlC w v 1 ss.length (ss.map .string)) (hlen : ss.length < 4611686018427387904) :
    Cl Try.prog 3 #[v] w (fun u w' => u = .bool true ∧ Ext w w') := by
  have hx := Ext.refl w
  have hM : In [] w := fun m hm => by cases hm
  obtain ⟨m, hm⟩ : ∃ m, min ss.length 20 = m := ⟨_, rfl⟩
  have e20 : (min (ss.length : Int) 20) = (m : Int) := by omega
  have hml := shs_length (ss := ss) (m := m) (by omega)
  have hcs := cats_shs ss m
  obtain ⟨i, hi, hz, hsi, hby⟩ := inf9
  refine Cl.enter Try.func3 rfl Try.ntmps3 rfl rfl ?_
  refine Wp.seq (Wp.region ?_)
  refine Rg.tm trivial rfl (t_assign rfl) rfl ?_
  refine Rg.done ?_
  refine Wp.seq ?_
  refine Wp.seq (Wp.region ?_)
  refine Rg.wd trivial (w_call Try.call7 rfl example_ok) rfl ?_
  rintro _ w1 ⟨rfl, hx1⟩
  replace hx := hx.ext hx1
  replace hM := hM.ext hx1
  refine Rg.tm trivial rfl (t_notB rfl) rfl ?_
  refine Rg.done ?_
  refine Wp.condF rfl ?_
  refine Wp.skip ?_
  refine Wp.seq (Wp.region ?_)
  refine Rg.tm trivial rfl (t_assign rfl) rfl ?_
  refine Rg.done ?_
  refine Wp.seq (Wp.region ?_)
  refine Rg.tm trivial rfl (t_assign rfl) rfl ?_
  refine Rg.done ?_
  refine Wp.seq ?_
  refine Wp.seq (Wp.region ?_)
  refine Rg.tm trivial rfl (t_move rfl) rfl ?_
  refine Rg.tm trivial rfl (t_move rfl) rfl ?_
  refine Rg.tm trivial rfl (t_lenC hs0 Try.underlying22 rfl) rfl ?_
  refine Rg.tm trivial rfl (t_minI rfl rfl) rfl ?_
  rw [e20]
  refine Rg.sl hs0 trivial rfl Try.underlying22 ty9 rfl rfl (by omega) rfl ?_
  intro vt15 ht150
  simp only [Int.toNat_natCast, show (0 : Int).toNat = 0 from rfl] at ht150
  replace ht150 := strs_sub (l := 0) (h := m) ht150 (by omega) (by omega)
  rw [List.drop_zero, Nat.sub_zero] at ht150
  rw [show (ss.take m).length = m from by simp; omega] at ht150
  refine Rg.tm trivial rfl (t_lenC ht150 Try.underlying22 rfl) rfl ?_
  refine Rg.tm trivial rfl (t_move rfl) rfl ?_
  refine Rg.done ?_
  refine Wp.block ?_
  refine Wp.loop (ι := Nat × Value) (fun i => [(3, i.2), (4, .string (cats ((shs ss m).take i.1))), (15, vt15), (16, .int .i64 m), (17, .int .i64 i.1)])
    (fun i w' => i.1 ≤ m ∧ w'.ownsRow w.heap.size 9 1 i.2 i.1 (((shs ss m).take i.1).map .string) ∧ Ext w w')
    (fun i => m - i.1) (0, .slice none 0 0) (by repeat (first | exact .nil | refine .cons rfl ?_)) ⟨Nat.zero_le _, own_nil _ _ _ _, hx⟩ ?_
  clear hx hM
  rintro ⟨k, cut⟩ w3 ⟨hk, hown, hx⟩
  simp only at hk hown ⊢
  by_cases hlt : k < m
  · skip
    refine Wp.seq (Wp.region ?_)
    first | refine Rg.tm trivial rfl (t_lssT rfl rfl (by omega)) rfl ?_ | refine Rg.tm trivial rfl (t_lssF rfl rfl (by omega)) rfl ?_ | refine Rg.tm trivial rfl (t_lss rfl rfl) rfl ?_
    refine Rg.done ?_
    refine Wp.seq ?_
    refine Wp.condT rfl ?_
    refine Wp.skip ?_
    refine Wp.seq ?_
    refine Wp.block ?_
    refine Wp.seq (Wp.region ?_)
    refine Rg.ix ht150 trivial rfl rfl Try.underlying22 ty9 (by omega) rfl ?_
    intro bt19 ot19 ht19
    replace ht19 := ht19.ext hx
    rw [Int.toNat_natCast, strs_at (ss := ss.take m) (k := k) (by simp; omega)] at ht19
    rw [List.getElem_take] at ht19
    refine Rg.tm trivial rfl (t_load ty9 rfl (by first | assumption | (apply Cells.get (i := 0); (case h => assumption); rfl))) rfl ?_
    refine Rg.tm trivial rfl (t_assign rfl) rfl ?_
    refine Rg.done ?_
    refine Wp.seq (Wp.region ?_)
    refine Rg.tm trivial rfl (t_move rfl) rfl ?_
    refine Rg.tm trivial rfl (t_move rfl) rfl ?_
    refine Rg.wd trivial (w_call Try.call8 rfl (short_ok (n := 100) (by decide))) rfl ?_
    rintro _ _ ⟨rfl, rfl⟩
    refine Rg.wd trivial (w_buildSlice (bs22_1 _) rfl) rfl ?_
    rintro _ wb ⟨bb, rfl, qb, hxb, hvb⟩
    replace hx := hx.ext hxb
    replace hown := own_ext hown hxb
    refine Rg.wd trivial (w_append w.heap.size Try.underlying22 hi hz hsi hby rfl (by decide) rfl rfl hown rfl (fun j u hu => by rw [addr_add]; exact hvb.cells j u hu) (by simp [Value.oneCell']) (by unfold maxLen; omega) (by omega) hx.le) rfl ?_
    rintro cut2 wc ⟨hown2, hgr, p2, l2, c2, rfl⟩
    replace hx := own_ext2 hx hown hgr
    refine Rg.tm trivial rfl (t_assign rfl) rfl ?_
    refine Rg.done ?_
    refine Wp.region ?_
    refine Rg.tm trivial rfl (t_move rfl) rfl ?_
    refine Rg.tm trivial rfl (t_move rfl) rfl ?_
    refine Rg.wd trivial (w_call Try.call8 rfl (short_ok (n := 100) (by decide))) rfl ?_
    rintro _ _ ⟨rfl, rfl⟩
    have i2 := cats_le (ss := shs ss m) (k := k)
    have i4 : (ss[k].extract 0 (100 : Int).toNat).size ≤ 100 := by rw [ByteArray.size_extract]; omega
    refine Rg.tm trivial rfl (t_sadd rfl rfl (by omega)) rfl ?_
    refine Rg.tm trivial rfl (t_assign rfl) rfl ?_
    refine Rg.done ?_
    refine Wp.region ?_
    first | refine Rg.tm trivial rfl (t_addI rfl rfl (by omega)) rfl ?_ | refine Rg.tm trivial rfl (t_add rfl rfl) rfl ?_
    refine Rg.tm trivial rfl (t_move rfl) rfl ?_
    refine Rg.done ?_
    have hown3 : wc.ownsRow w.heap.size 9 1 (.slice p2 l2 c2) (k + 1) (((shs ss m).take (k + 1)).map .string) := by
      rw [shs_succ (by omega) hlt, List.map_append]; exact hown2
    have e4 : cats ((shs ss m).take (k + 1)) = cats ((shs ss m).take k) ++ ss[k].extract 0 100 := by rw [shs_succ (by omega) hlt, cats_append, cats_one]
    refine ⟨(k + 1, .slice p2 l2 c2), ?_, ⟨hlt, hown3, hx⟩, by simp only; omega⟩
    simp only [e4]
    repeat (first | exact .nil | refine .cons rfl ?_)
  · have e0 : k = m := by omega
    subst e0
    have ecs : (shs ss k).take k = shs ss k := List.take_of_length_le (by omega)
    rw [ecs] at hown
    rw [ecs]
    have hM : In [] w3 := fun m hm => by cases hm
    have hsc : SlC w3 cut 1 (shs ss k).length ((shs ss k).map .string) := by rw [hml]; exact own_slice hown
    refine Wp.seq (Wp.region ?_)
    first | refine Rg.tm trivial rfl (t_lssT rfl rfl (by omega)) rfl ?_ | refine Rg.tm trivial rfl (t_lssF rfl rfl (by omega)) rfl ?_ | refine Rg.tm trivial rfl (t_lss rfl rfl) rfl ?_
    refine Rg.done ?_
    refine Wp.seq ?_
    refine Wp.condF rfl ?_
    refine Wp.exit ?_
    refine Wp.seq (Wp.region ?_)
    refine Rg.tm trivial rfl (t_move rfl) rfl ?_
    refine Rg.wd trivial (w_call Try.call9 rfl (from_ok (ss := shs ss k) _ (Nat.le_refl _) hM hsc (by omega) (by omega))) rfl ?_
    rintro ua w2 ⟨ha, hx2⟩
    replace hx := hx.ext hx2
    replace hM := hM.ext hx2
    replace hsc := hsc.ext hx2
    refine Rg.tm trivial rfl (t_move rfl) rfl ?_
    refine Rg.wd trivial (w_call Try.call9 rfl (from_ok (ss := shs ss k) _ (Nat.le_refl _) hM hsc (by omega) (by omega))) rfl ?_
    rintro ub w3 ⟨hb, hx3⟩
    replace hx := hx.ext hx3
    replace hM := hM.ext hx3
    replace hsc := hsc.ext hx3
    replace ha := ha.ext hx3
    obtain ⟨ta, ga, ea, ha⟩ := ha
    obtain ⟨tb, gb, eb, hb⟩ := hb
    have na : RT.lenO ta = (cats (shs ss k)).size := by rw [RT.lenO_val, ea]
    have nb : RT.lenO tb = (cats (shs ss k)).size := by rw [RT.lenO_val, eb]
    obtain ⟨pa, rfl, ha'⟩ := id ha
    obtain ⟨pb, rfl, hb'⟩ := id hb
    clear ha' hb' hsc
    have k0 := hx.le
    refine Rg.wd trivial (w_new Try.zeroValue27 rfl) rfl ?_
    rintro _ w4 ⟨b1, rfl, qb1, hx4, hv1⟩
    replace ha := ha.fresh (Nat.le_of_eq qb1.symm)
    replace hb := hb.fresh (Nat.le_of_eq qb1.symm)
    replace hx := hx.ext hx4
    replace hM := hM.ext hx4
    replace ha := ha.ext hx4
    replace hb := hb.ext hx4
    replace hM := hM.push hv1.lt
    have lt1 := hv1.lt
    refine Rg.wd trivial (w_new Try.zeroValue27 rfl) rfl ?_
    rintro _ w5 ⟨b2, rfl, qb2, hx5, hv2⟩
    replace ha := ha.fresh (Nat.le_of_eq qb2.symm)
    replace hb := hb.fresh (Nat.le_of_eq qb2.symm)
    replace hx := hx.ext hx5
    replace hM := hM.ext hx5
    replace ha := ha.ext hx5
    replace hb := hb.ext hx5
    replace hv1 := hv1.ext hx5
    replace hM := hM.push hv2.lt
    have lt2 := hv2.lt
    have k1 := hx.le
    refine Rg.wn trivial (w_put hv1 rfl rfl rfl ty27 rfl rfl) ?_
    rintro _ w51 ⟨hu5, hv1'⟩
    replace hx := hx.upd hu5 (by omega)
    replace hM := hM.upd hu5
    replace ha := ha.upd hu5 (by simp)
    replace hb := hb.upd hu5 (by simp)
    replace hv2 := hv2.upd hu5 (by omega)
    refine Rg.wn trivial (w_put hv2 rfl rfl rfl ty27 rfl rfl) ?_
    rintro _ w61 ⟨hu6, hv2'⟩
    replace hx := hx.upd hu6 (by omega)
    replace hM := hM.upd hu6
    replace ha := ha.upd hu6 (by simp)
    replace hb := hb.upd hu6 (by simp)
    replace hv1' := hv1'.upd hu6 (by omega)
    have hc1 := hv1'.cells
    have hc2 := hv2'.cells
    clear hv1 hv2 hv1' hv2'
    refine Rg.done ?_
    refine Wp.seq (Wp.region ?_)
    refine Rg.wd trivial (w_call Try.call7 rfl example_ok) rfl ?_
    rintro _ w6 ⟨rfl, hx6⟩
    replace hx := hx.ext hx6
    replace hM := hM.ext hx6
    replace ha := ha.ext hx6
    replace hb := hb.ext hx6
    replace hc1 := hc1.ext hx6
    replace hc2 := hc2.ext hx6
    refine Rg.tm trivial rfl (t_move rfl) rfl ?_
    first | refine Rg.tm ⟨_, rfl, rfl⟩ rfl (t_loadA rfl (by assumption) (by exact ty27)) rfl ?_ | refine Rg.sk (.inl ⟨_, _, rfl, rfl, rfl⟩) rfl ?_ | refine Rg.sk (.inr ⟨_, rfl, rfl⟩) rfl ?_
    refine Rg.wd ⟨_, rfl, rfl⟩ (w_call Try.call10 rfl (string_ok ha (by omega))) rfl ?_
    rintro _ w7 ⟨rfl, hx7⟩
    replace hx := hx.ext hx7
    replace hM := hM.ext hx7
    replace ha := ha.ext hx7
    replace hb := hb.ext hx7
    replace hc1 := hc1.ext hx7
    replace hc2 := hc2.ext hx7
    first | refine Rg.tm ⟨_, rfl, rfl⟩ rfl (t_move rfl) rfl ?_ | refine Rg.sk (.inl ⟨_, _, rfl, rfl, rfl⟩) rfl ?_ | refine Rg.sk (.inr ⟨_, rfl, rfl⟩) rfl ?_
    first | refine Rg.tm ⟨_, rfl, rfl⟩ rfl (t_seqlT rfl rfl (by assumption)) rfl ?_ | refine Rg.tm ⟨_, rfl, rfl⟩ rfl (t_seqlF rfl rfl (by assumption)) rfl ?_ | refine Rg.tm ⟨_, rfl, rfl⟩ rfl (t_seql rfl rfl) rfl ?_ | refine Rg.sk (.inl ⟨_, _, rfl, rfl, rfl⟩) rfl ?_ | refine Rg.sk (.inr ⟨_, rfl, rfl⟩) rfl ?_
    first | refine Rg.tm trivial rfl (t_pickT rfl rfl) rfl ?_ | refine Rg.tm trivial rfl (t_pickF rfl rfl) rfl ?_
    refine Rg.tm trivial rfl (t_move rfl) rfl ?_
    first | refine Rg.tm ⟨_, rfl, rfl⟩ rfl (t_loadA rfl (by assumption) (by exact ty27)) rfl ?_ | refine Rg.sk (.inl ⟨_, _, rfl, rfl, rfl⟩) rfl ?_ | refine Rg.sk (.inr ⟨_, rfl, rfl⟩) rfl ?_
    refine Rg.wd ⟨_, rfl, rfl⟩ (w_call Try.call10 rfl (string_ok hb (by omega))) rfl ?_
    rintro _ w8 ⟨rfl, hx8⟩
    replace hx := hx.ext hx8
    replace hM := hM.ext hx8
    replace ha := ha.ext hx8
    replace hb := hb.ext hx8
    replace hc1 := hc1.ext hx8
    replace hc2 := hc2.ext hx8
    first | refine Rg.tm ⟨_, rfl, rfl⟩ rfl (t_move rfl) rfl ?_ | refine Rg.sk (.inl ⟨_, _, rfl, rfl, rfl⟩) rfl ?_ | refine Rg.sk (.inr ⟨_, rfl, rfl⟩) rfl ?_
    first | refine Rg.tm ⟨_, rfl, rfl⟩ rfl (t_seqlT rfl rfl (by assumption)) rfl ?_ | refine Rg.tm ⟨_, rfl, rfl⟩ rfl (t_seqlF rfl rfl (by assumption)) rfl ?_ | refine Rg.tm ⟨_, rfl, rfl⟩ rfl (t_seql rfl rfl) rfl ?_ | refine Rg.sk (.inl ⟨_, _, rfl, rfl, rfl⟩) rfl ?_ | refine Rg.sk (.inr ⟨_, rfl, rfl⟩) rfl ?_
    first | refine Rg.tm trivial rfl (t_pickT rfl rfl) rfl ?_ | refine Rg.tm trivial rfl (t_pickF rfl rfl) rfl ?_
    refine Rg.tm trivial rfl (t_move rfl) rfl ?_
    first | refine Rg.tm ⟨_, rfl, rfl⟩ rfl (t_loadA rfl (by assumption) (by exact ty27)) rfl ?_ | refine Rg.sk (.inl ⟨_, _, rfl, rfl, rfl⟩) rfl ?_ | refine Rg.sk (.inr ⟨_, rfl, rfl⟩) rfl ?_
    refine Rg.wd ⟨_, rfl, rfl⟩ (w_call Try.call11 rfl (len_ok ha)) rfl ?_
    rintro _ w9 ⟨rfl, hx9⟩
    replace hx := hx.ext hx9
    replace hM := hM.ext hx9
    replace ha := ha.ext hx9
    replace hb := hb.ext hx9
    replace hc1 := hc1.ext hx9
    replace hc2 := hc2.ext hx9
    first | refine Rg.tm ⟨_, rfl, rfl⟩ rfl (t_move rfl) rfl ?_ | refine Rg.sk (.inl ⟨_, _, rfl, rfl, rfl⟩) rfl ?_ | refine Rg.sk (.inr ⟨_, rfl, rfl⟩) rfl ?_
    first | refine Rg.tm ⟨_, rfl, rfl⟩ rfl (t_len Try.underlying9 rfl) rfl ?_ | refine Rg.sk (.inl ⟨_, _, rfl, rfl, rfl⟩) rfl ?_ | refine Rg.sk (.inr ⟨_, rfl, rfl⟩) rfl ?_
    first | refine Rg.tm ⟨_, rfl, rfl⟩ rfl (t_eqlT rfl rfl (by omega)) rfl ?_ | refine Rg.tm ⟨_, rfl, rfl⟩ rfl (t_eqlF rfl rfl (by omega)) rfl ?_ | refine Rg.tm ⟨_, rfl, rfl⟩ rfl (t_eql rfl rfl) rfl ?_ | refine Rg.sk (.inl ⟨_, _, rfl, rfl, rfl⟩) rfl ?_ | refine Rg.sk (.inr ⟨_, rfl, rfl⟩) rfl ?_
    first | refine Rg.tm trivial rfl (t_pickT rfl rfl) rfl ?_ | refine Rg.tm trivial rfl (t_pickF rfl rfl) rfl ?_
    refine Rg.tm trivial rfl (t_move rfl) rfl ?_
    first | refine Rg.tm ⟨_, rfl, rfl⟩ rfl (t_loadA rfl (by assumption) (by exact ty27)) rfl ?_ | refine Rg.sk (.inl ⟨_, _, rfl, rfl, rfl⟩) rfl ?_ | refine Rg.sk (.inr ⟨_, rfl, rfl⟩) rfl ?_
    refine Rg.wd ⟨_, rfl, rfl⟩ (w_call Try.call11 rfl (len_ok hb)) rfl ?_
    rintro _ w10 ⟨rfl, hx10⟩
    replace hx := hx.ext hx10
    replace hM := hM.ext hx10
    replace ha := ha.ext hx10
    replace hb := hb.ext hx10
    replace hc1 := hc1.ext hx10
    replace hc2 := hc2.ext hx10
    first | refine Rg.tm ⟨_, rfl, rfl⟩ rfl (t_move rfl) rfl ?_ | refine Rg.sk (.inl ⟨_, _, rfl, rfl, rfl⟩) rfl ?_ | refine Rg.sk (.inr ⟨_, rfl, rfl⟩) rfl ?_
    first | refine Rg.tm ⟨_, rfl, rfl⟩ rfl (t_len Try.underlying9 rfl) rfl ?_ | refine Rg.sk (.inl ⟨_, _, rfl, rfl, rfl⟩) rfl ?_ | refine Rg.sk (.inr ⟨_, rfl, rfl⟩) rfl ?_
    first | refine Rg.tm ⟨_, rfl, rfl⟩ rfl (t_eqlT rfl rfl (by omega)) rfl ?_ | refine Rg.tm ⟨_, rfl, rfl⟩ rfl (t_eqlF rfl rfl (by omega)) rfl ?_ | refine Rg.tm ⟨_, rfl, rfl⟩ rfl (t_eql rfl rfl) rfl ?_ | refine Rg.sk (.inl ⟨_, _, rfl, rfl, rfl⟩) rfl ?_ | refine Rg.sk (.inr ⟨_, rfl, rfl⟩) rfl ?_
    first | refine Rg.tm trivial rfl (t_pickT rfl rfl) rfl ?_ | refine Rg.tm trivial rfl (t_pickF rfl rfl) rfl ?_
    refine Rg.tm trivial rfl (t_assign rfl) rfl ?_
    refine Rg.done ?_
    refine Wp.ret ?_
    exact ⟨[_], ⟨rfl, trivial⟩, rfl, hx⟩
end Go.Proofs.Yteopmfijfgaldaa
