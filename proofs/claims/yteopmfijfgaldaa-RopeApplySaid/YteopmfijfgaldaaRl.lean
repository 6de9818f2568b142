/- The walks of the laws RopeConcat and RopeSplit. Printed by ropel.py. -/
import Derived.Test.YteopmfijfgaldaaRv
namespace Go.Proofs.Yteopmfijfgaldaa
open Go.Gx Go.RowKit Go.Lib

/-- the parts that the laws take, cut -/
def shs (ss : List ByteArray) (m : Nat) : List ByteArray := (ss.take m).map fun s => s.extract 0 100
theorem shs_length {ss : List ByteArray} {m : Nat} (h : m ≤ ss.length) : (shs ss m).length = m := by simp [shs]; omega
theorem cats_shs (ss : List ByteArray) (m : Nat) : (cats (shs ss m)).size ≤ 100 * m := by
  have h : ∀ l : List ByteArray, (cats (l.map fun s => s.extract 0 100)).size ≤ 100 * l.length := by
    intro l
    induction l with
    | nil => exact Nat.le_refl 0
    | cons a l ih => simp only [List.map_cons, cats, ByteArray.size_append, ByteArray.size_extract, List.length_cons]; omega
  have h2 := h (ss.take m)
  have h3 : (ss.take m).length ≤ m := by simp; omega
  unfold shs
  omega
theorem shs_at {ss : List ByteArray} {m k : Nat} (hk : k < (shs ss m).length) (h : k < ss.length) : (shs ss m)[k] = ss[k].extract 0 100 := by
  simp [shs]
theorem shs_succ {ss : List ByteArray} {m k : Nat} (hm : m ≤ ss.length) (hk : k < m) : (shs ss m).take (k + 1) = (shs ss m).take k ++ [ss[k].extract 0 100] := by
  rw [List.take_succ_eq_append_getElem (by rw [shs_length hm]; exact hk), shs_at _ (by omega)]
theorem own_ext2 {w w1 w2 : World} {v : Value} {row : List Value} {e size n : Nat} (hx : Ext w w1) (h : w1.ownsRow w.heap.size e size v n row) (hg : w1.grownBy w2 v.ownBlock) : Ext w w2 :=
  Below.trans hx (below_own h hg hx.le)

theorem concatLaw {ss : List ByteArray} {w : World} {v : Value} (hs0 : SlC w v 1 ss.length (ss.map .string)) (hlen : ss.length < 4611686018427387904) :
    Cl Try.prog 3 #[v] w (fun u w' => u = .bool true ∧ Ext w w') := by
  have hx := Ext.refl w
  have hM : In [] w := fun m hm => by cases hm
  obtain ⟨m, hm⟩ : ∃ m, min ss.length 20 = m := ⟨_, rfl⟩
  have e20 : (min (ss.length : Int) 20) = (m : Int) := by omega
  have hml := shs_length (ss := ss) (m := m) (by omega)
  have hcs := cats_shs ss m
  obtain ⟨i, hi, hz, hsi, hby⟩ := inf9
  refine Cl.enter Try.func3 rfl Try.ntmps3 rfl rfl ?_
  refine Wp.seq (Wp.region ?_)
  refine Rg.tm trivial rfl (t_assign rfl) rfl ?_
  refine Rg.done ?_
  refine Wp.seq ?_
  refine Wp.seq (Wp.region ?_)
  refine Rg.wd trivial (w_call Try.call7 rfl example_ok) rfl ?_
  rintro _ w1 ⟨rfl, hx1⟩
  replace hx := hx.ext hx1
  replace hM := hM.ext hx1
  refine Rg.tm trivial rfl (t_notB rfl) rfl ?_
  refine Rg.done ?_
  refine Wp.condF rfl ?_
  refine Wp.skip ?_
  refine Wp.seq (Wp.region ?_)
  refine Rg.tm trivial rfl (t_assign rfl) rfl ?_
  refine Rg.done ?_
  refine Wp.seq (Wp.region ?_)
  refine Rg.tm trivial rfl (t_assign rfl) rfl ?_
  refine Rg.done ?_
  refine Wp.seq ?_
  refine Wp.seq (Wp.region ?_)
  refine Rg.tm trivial rfl (t_move rfl) rfl ?_
  refine Rg.tm trivial rfl (t_move rfl) rfl ?_
  refine Rg.tm trivial rfl (t_lenC hs0 Try.underlying22 rfl) rfl ?_
  refine Rg.tm trivial rfl (t_minI rfl rfl) rfl ?_
  rw [e20]
  refine Rg.sl hs0 trivial rfl Try.underlying22 ty9 rfl rfl (by omega) rfl ?_
  intro vt15 ht150
  simp only [Int.toNat_natCast, show (0 : Int).toNat = 0 from rfl] at ht150
  replace ht150 := strs_sub (l := 0) (h := m) ht150 (by omega) (by omega)
  rw [List.drop_zero, Nat.sub_zero] at ht150
  rw [show (ss.take m).length = m from by simp; omega] at ht150
  refine Rg.tm trivial rfl (t_lenC ht150 Try.underlying22 rfl) rfl ?_
  refine Rg.tm trivial rfl (t_move rfl) rfl ?_
  refine Rg.done ?_
  refine Wp.block ?_
  refine Wp.loop (ι := Nat × Value) (fun i => [(3, i.2), (4, .string (cats ((shs ss m).take i.1))), (15, vt15), (16, .int .i64 m), (17, .int .i64 i.1)])
    (fun i w' => i.1 ≤ m ∧ w'.ownsRow w.heap.size 9 1 i.2 i.1 (((shs ss m).take i.1).map .string) ∧ Ext w w')
    (fun i => m - i.1) (0, .slice none 0 0) (by repeat (first | exact .nil | refine .cons rfl ?_)) ⟨Nat.zero_le _, own_nil _ _ _ _, hx⟩ ?_
  clear hx hM
  rintro ⟨k, cut⟩ w3 ⟨hk, hown, hx⟩
  simp only at hk hown ⊢
  by_cases hlt : k < m
  · skip
    refine Wp.seq (Wp.region ?_)
    first | refine Rg.tm trivial rfl (t_lssT rfl rfl (by omega)) rfl ?_ | refine Rg.tm trivial rfl (t_lssF rfl rfl (by omega)) rfl ?_ | refine Rg.tm trivial rfl (t_lss rfl rfl) rfl ?_
    refine Rg.done ?_
    refine Wp.seq ?_
    refine Wp.condT rfl ?_
    refine Wp.skip ?_
    refine Wp.seq ?_
    refine Wp.block ?_
    refine Wp.seq (Wp.region ?_)
    refine Rg.ix ht150 trivial rfl rfl Try.underlying22 ty9 (by omega) rfl ?_
    intro bt19 ot19 ht19
    replace ht19 := ht19.ext hx
    rw [Int.toNat_natCast, strs_at (ss := ss.take m) (k := k) (by simp; omega)] at ht19
    rw [List.getElem_take] at ht19
    refine Rg.tm trivial rfl (t_load ty9 rfl (by first | assumption | (apply Cells.get (i := 0); (case h => assumption); rfl))) rfl ?_
    refine Rg.tm trivial rfl (t_assign rfl) rfl ?_
    refine Rg.done ?_
    refine Wp.seq (Wp.region ?_)
    refine Rg.tm trivial rfl (t_move rfl) rfl ?_
    refine Rg.tm trivial rfl (t_move rfl) rfl ?_
    refine Rg.wd trivial (w_call Try.call8 rfl (short_ok (n := 100) (by decide))) rfl ?_
    rintro _ _ ⟨rfl, rfl⟩
    refine Rg.wd trivial (w_buildSlice (bs22_1 _) rfl) rfl ?_
    rintro _ wb ⟨bb, rfl, qb, hxb, hvb⟩
    replace hx := hx.ext hxb
    replace hown := own_ext hown hxb
    refine Rg.wd trivial (w_append w.heap.size Try.underlying22 hi hz hsi hby rfl (by decide) rfl rfl hown rfl (fun j u hu => by rw [addr_add]; exact hvb.cells j u hu) (by simp [Value.oneCell']) (by unfold maxLen; omega) (by omega) hx.le) rfl ?_
    rintro cut2 wc ⟨hown2, hgr, p2, l2, c2, rfl⟩
    replace hx := own_ext2 hx hown hgr
    refine Rg.tm trivial rfl (t_assign rfl) rfl ?_
    refine Rg.done ?_
    refine Wp.region ?_
    refine Rg.tm trivial rfl (t_move rfl) rfl ?_
    refine Rg.tm trivial rfl (t_move rfl) rfl ?_
    refine Rg.wd trivial (w_call Try.call8 rfl (short_ok (n := 100) (by decide))) rfl ?_
    rintro _ _ ⟨rfl, rfl⟩
    have i2 := cats_le (ss := shs ss m) (k := k)
    have i4 : (ss[k].extract 0 (100 : Int).toNat).size ≤ 100 := by rw [ByteArray.size_extract]; omega
    refine Rg.tm trivial rfl (t_sadd rfl rfl (by omega)) rfl ?_
    refine Rg.tm trivial rfl (t_assign rfl) rfl ?_
    refine Rg.done ?_
    refine Wp.region ?_
    first | refine Rg.tm trivial rfl (t_addI rfl rfl (by omega)) rfl ?_ | refine Rg.tm trivial rfl (t_add rfl rfl) rfl ?_
    refine Rg.tm trivial rfl (t_move rfl) rfl ?_
    refine Rg.done ?_
    have hown3 : wc.ownsRow w.heap.size 9 1 (.slice p2 l2 c2) (k + 1) (((shs ss m).take (k + 1)).map .string) := by
      rw [shs_succ (by omega) hlt, List.map_append]; exact hown2
    have e4 : cats ((shs ss m).take (k + 1)) = cats ((shs ss m).take k) ++ ss[k].extract 0 100 := by rw [shs_succ (by omega) hlt, cats_append, cats_one]
    refine ⟨(k + 1, .slice p2 l2 c2), ?_, ⟨hlt, hown3, hx⟩, by simp only; omega⟩
    simp only [e4]
    repeat (first | exact .nil | refine .cons rfl ?_)
  · have e0 : k = m := by omega
    subst e0
    have ecs : (shs ss k).take k = shs ss k := List.take_of_length_le (by omega)
    rw [ecs] at hown
    rw [ecs]
    have hM : In [] w3 := fun m hm => by cases hm
    have hsc : SlC w3 cut 1 (shs ss k).length ((shs ss k).map .string) := by rw [hml]; exact own_slice hown
    refine Wp.seq (Wp.region ?_)
    first | refine Rg.tm trivial rfl (t_lssT rfl rfl (by omega)) rfl ?_ | refine Rg.tm trivial rfl (t_lssF rfl rfl (by omega)) rfl ?_ | refine Rg.tm trivial rfl (t_lss rfl rfl) rfl ?_
    refine Rg.done ?_
    refine Wp.seq ?_
    refine Wp.condF rfl ?_
    refine Wp.exit ?_
    refine Wp.seq (Wp.region ?_)
    refine Rg.tm trivial rfl (t_move rfl) rfl ?_
    refine Rg.wd trivial (w_call Try.call9 rfl (from_ok (ss := shs ss k) _ (Nat.le_refl _) hM hsc (by omega) (by omega))) rfl ?_
    rintro ua w2 ⟨ha, hx2⟩
    replace hx := hx.ext hx2
    replace hM := hM.ext hx2
    replace hsc := hsc.ext hx2
    refine Rg.tm trivial rfl (t_move rfl) rfl ?_
    refine Rg.wd trivial (w_call Try.call9 rfl (from_ok (ss := shs ss k) _ (Nat.le_refl _) hM hsc (by omega) (by omega))) rfl ?_
    rintro ub w3 ⟨hb, hx3⟩
    replace hx := hx.ext hx3
    replace hM := hM.ext hx3
    replace hsc := hsc.ext hx3
    replace ha := ha.ext hx3
    obtain ⟨ta, ga, ea, ha⟩ := ha
    obtain ⟨tb, gb, eb, hb⟩ := hb
    have na : RT.lenO ta = (cats (shs ss k)).size := by rw [RT.lenO_val, ea]
    have nb : RT.lenO tb = (cats (shs ss k)).size := by rw [RT.lenO_val, eb]
    obtain ⟨pa, rfl, ha'⟩ := id ha
    obtain ⟨pb, rfl, hb'⟩ := id hb
    clear ha' hb' hsc
    have k0 := hx.le
    refine Rg.wd trivial (w_new Try.zeroValue27 rfl) rfl ?_
    rintro _ w4 ⟨b1, rfl, qb1, hx4, hv1⟩
    replace ha := ha.fresh (Nat.le_of_eq qb1.symm)
    replace hb := hb.fresh (Nat.le_of_eq qb1.symm)
    replace hx := hx.ext hx4
    replace hM := hM.ext hx4
    replace ha := ha.ext hx4
    replace hb := hb.ext hx4
    replace hM := hM.push hv1.lt
    have lt1 := hv1.lt
    refine Rg.wd trivial (w_new Try.zeroValue27 rfl) rfl ?_
    rintro _ w5 ⟨b2, rfl, qb2, hx5, hv2⟩
    replace ha := ha.fresh (Nat.le_of_eq qb2.symm)
    replace hb := hb.fresh (Nat.le_of_eq qb2.symm)
    replace hx := hx.ext hx5
    replace hM := hM.ext hx5
    replace ha := ha.ext hx5
    replace hb := hb.ext hx5
    replace hv1 := hv1.ext hx5
    replace hM := hM.push hv2.lt
    have lt2 := hv2.lt
    have k1 := hx.le
    refine Rg.wn trivial (w_put hv1 rfl rfl rfl ty27 rfl rfl) ?_
    rintro _ w51 ⟨hu5, hv1'⟩
    replace hx := hx.upd hu5 (by omega)
    replace hM := hM.upd hu5
    replace ha := ha.upd hu5 (by simp)
    replace hb := hb.upd hu5 (by simp)
    replace hv2 := hv2.upd hu5 (by omega)
    refine Rg.wn trivial (w_put hv2 rfl rfl rfl ty27 rfl rfl) ?_
    rintro _ w61 ⟨hu6, hv2'⟩
    replace hx := hx.upd hu6 (by omega)
    replace hM := hM.upd hu6
    replace ha := ha.upd hu6 (by simp)
    replace hb := hb.upd hu6 (by simp)
    replace hv1' := hv1'.upd hu6 (by omega)
    have hc1 := hv1'.cells
    have hc2 := hv2'.cells
    clear hv1 hv2 hv1' hv2'
    refine Rg.done ?_
    refine Wp.seq (Wp.region ?_)
    refine Rg.wd trivial (w_call Try.call7 rfl example_ok) rfl ?_
    rintro _ w6 ⟨rfl, hx6⟩
    replace hx := hx.ext hx6
    replace hM := hM.ext hx6
    replace ha := ha.ext hx6
    replace hb := hb.ext hx6
    replace hc1 := hc1.ext hx6
    replace hc2 := hc2.ext hx6
    refine Rg.tm trivial rfl (t_move rfl) rfl ?_
    first | refine Rg.tm ⟨_, rfl, rfl⟩ rfl (t_loadA rfl (by assumption) (by exact ty27)) rfl ?_ | refine Rg.sk (.inl ⟨_, _, rfl, rfl, rfl⟩) rfl ?_ | refine Rg.sk (.inr ⟨_, rfl, rfl⟩) rfl ?_
    refine Rg.wd ⟨_, rfl, rfl⟩ (w_call Try.call10 rfl (string_ok ha (by omega))) rfl ?_
    rintro _ w7 ⟨rfl, hx7⟩
    replace hx := hx.ext hx7
    replace hM := hM.ext hx7
    replace ha := ha.ext hx7
    replace hb := hb.ext hx7
    replace hc1 := hc1.ext hx7
    replace hc2 := hc2.ext hx7
    first | refine Rg.tm ⟨_, rfl, rfl⟩ rfl (t_move rfl) rfl ?_ | refine Rg.sk (.inl ⟨_, _, rfl, rfl, rfl⟩) rfl ?_ | refine Rg.sk (.inr ⟨_, rfl, rfl⟩) rfl ?_
    first | refine Rg.tm ⟨_, rfl, rfl⟩ rfl (t_seqlT rfl rfl (by first | with_reducible rfl | assumption)) rfl ?_ | refine Rg.tm ⟨_, rfl, rfl⟩ rfl (t_seqlF rfl rfl (by assumption)) rfl ?_ | refine Rg.tm ⟨_, rfl, rfl⟩ rfl (t_seql rfl rfl) rfl ?_ | refine Rg.sk (.inl ⟨_, _, rfl, rfl, rfl⟩) rfl ?_ | refine Rg.sk (.inr ⟨_, rfl, rfl⟩) rfl ?_
    first | refine Rg.tm trivial rfl (t_pickT rfl rfl) rfl ?_ | refine Rg.tm trivial rfl (t_pickF rfl rfl) rfl ?_
    refine Rg.tm trivial rfl (t_move rfl) rfl ?_
    first | refine Rg.tm ⟨_, rfl, rfl⟩ rfl (t_loadA rfl (by assumption) (by exact ty27)) rfl ?_ | refine Rg.sk (.inl ⟨_, _, rfl, rfl, rfl⟩) rfl ?_ | refine Rg.sk (.inr ⟨_, rfl, rfl⟩) rfl ?_
    refine Rg.wd ⟨_, rfl, rfl⟩ (w_call Try.call10 rfl (string_ok hb (by omega))) rfl ?_
    rintro _ w8 ⟨rfl, hx8⟩
    replace hx := hx.ext hx8
    replace hM := hM.ext hx8
    replace ha := ha.ext hx8
    replace hb := hb.ext hx8
    replace hc1 := hc1.ext hx8
    replace hc2 := hc2.ext hx8
    first | refine Rg.tm ⟨_, rfl, rfl⟩ rfl (t_move rfl) rfl ?_ | refine Rg.sk (.inl ⟨_, _, rfl, rfl, rfl⟩) rfl ?_ | refine Rg.sk (.inr ⟨_, rfl, rfl⟩) rfl ?_
    first | refine Rg.tm ⟨_, rfl, rfl⟩ rfl (t_seqlT rfl rfl (by first | with_reducible rfl | assumption)) rfl ?_ | refine Rg.tm ⟨_, rfl, rfl⟩ rfl (t_seqlF rfl rfl (by assumption)) rfl ?_ | refine Rg.tm ⟨_, rfl, rfl⟩ rfl (t_seql rfl rfl) rfl ?_ | refine Rg.sk (.inl ⟨_, _, rfl, rfl, rfl⟩) rfl ?_ | refine Rg.sk (.inr ⟨_, rfl, rfl⟩) rfl ?_
    first | refine Rg.tm trivial rfl (t_pickT rfl rfl) rfl ?_ | refine Rg.tm trivial rfl (t_pickF rfl rfl) rfl ?_
    refine Rg.tm trivial rfl (t_move rfl) rfl ?_
    first | refine Rg.tm ⟨_, rfl, rfl⟩ rfl (t_loadA rfl (by assumption) (by exact ty27)) rfl ?_ | refine Rg.sk (.inl ⟨_, _, rfl, rfl, rfl⟩) rfl ?_ | refine Rg.sk (.inr ⟨_, rfl, rfl⟩) rfl ?_
    refine Rg.wd ⟨_, rfl, rfl⟩ (w_call Try.call11 rfl (len_ok ha)) rfl ?_
    rintro _ w9 ⟨rfl, hx9⟩
    replace hx := hx.ext hx9
    replace hM := hM.ext hx9
    replace ha := ha.ext hx9
    replace hb := hb.ext hx9
    replace hc1 := hc1.ext hx9
    replace hc2 := hc2.ext hx9
    first | refine Rg.tm ⟨_, rfl, rfl⟩ rfl (t_move rfl) rfl ?_ | refine Rg.sk (.inl ⟨_, _, rfl, rfl, rfl⟩) rfl ?_ | refine Rg.sk (.inr ⟨_, rfl, rfl⟩) rfl ?_
    first | refine Rg.tm ⟨_, rfl, rfl⟩ rfl (t_len Try.underlying9 rfl) rfl ?_ | refine Rg.sk (.inl ⟨_, _, rfl, rfl, rfl⟩) rfl ?_ | refine Rg.sk (.inr ⟨_, rfl, rfl⟩) rfl ?_
    first | refine Rg.tm ⟨_, rfl, rfl⟩ rfl (t_eqlT rfl rfl (by omega)) rfl ?_ | refine Rg.tm ⟨_, rfl, rfl⟩ rfl (t_eqlF rfl rfl (by omega)) rfl ?_ | refine Rg.tm ⟨_, rfl, rfl⟩ rfl (t_eql rfl rfl) rfl ?_ | refine Rg.sk (.inl ⟨_, _, rfl, rfl, rfl⟩) rfl ?_ | refine Rg.sk (.inr ⟨_, rfl, rfl⟩) rfl ?_
    first | refine Rg.tm trivial rfl (t_pickT rfl rfl) rfl ?_ | refine Rg.tm trivial rfl (t_pickF rfl rfl) rfl ?_
    refine Rg.tm trivial rfl (t_move rfl) rfl ?_
    first | refine Rg.tm ⟨_, rfl, rfl⟩ rfl (t_loadA rfl (by assumption) (by exact ty27)) rfl ?_ | refine Rg.sk (.inl ⟨_, _, rfl, rfl, rfl⟩) rfl ?_ | refine Rg.sk (.inr ⟨_, rfl, rfl⟩) rfl ?_
    refine Rg.wd ⟨_, rfl, rfl⟩ (w_call Try.call11 rfl (len_ok hb)) rfl ?_
    rintro _ w10 ⟨rfl, hx10⟩
    replace hx := hx.ext hx10
    replace hM := hM.ext hx10
    replace ha := ha.ext hx10
    replace hb := hb.ext hx10
    replace hc1 := hc1.ext hx10
    replace hc2 := hc2.ext hx10
    first | refine Rg.tm ⟨_, rfl, rfl⟩ rfl (t_move rfl) rfl ?_ | refine Rg.sk (.inl ⟨_, _, rfl, rfl, rfl⟩) rfl ?_ | refine Rg.sk (.inr ⟨_, rfl, rfl⟩) rfl ?_
    first | refine Rg.tm ⟨_, rfl, rfl⟩ rfl (t_len Try.underlying9 rfl) rfl ?_ | refine Rg.sk (.inl ⟨_, _, rfl, rfl, rfl⟩) rfl ?_ | refine Rg.sk (.inr ⟨_, rfl, rfl⟩) rfl ?_
    first | refine Rg.tm ⟨_, rfl, rfl⟩ rfl (t_eqlT rfl rfl (by omega)) rfl ?_ | refine Rg.tm ⟨_, rfl, rfl⟩ rfl (t_eqlF rfl rfl (by omega)) rfl ?_ | refine Rg.tm ⟨_, rfl, rfl⟩ rfl (t_eql rfl rfl) rfl ?_ | refine Rg.sk (.inl ⟨_, _, rfl, rfl, rfl⟩) rfl ?_ | refine Rg.sk (.inr ⟨_, rfl, rfl⟩) rfl ?_
    first | refine Rg.tm trivial rfl (t_pickT rfl rfl) rfl ?_ | refine Rg.tm trivial rfl (t_pickF rfl rfl) rfl ?_
    refine Rg.tm trivial rfl (t_assign rfl) rfl ?_
    refine Rg.done ?_
    refine Wp.ret ?_
    exact ⟨[_], ⟨rfl, trivial⟩, rfl, hx⟩

theorem bt_raw (s : ByteArray) (i : Nat) : ((s.data.toList.getD i 0).toNat : Int) = bt s i := rfl

theorem splitLaw {ss : List ByteArray} {w : World} {v : Value} {i : Int} (hs0 : SlC w v 1 ss.length (ss.map .string)) (hlen : ss.length < 4611686018427387904) :
    Cl Try.prog 4 #[v, .int .i64 i] w (fun u w' => u = .bool true ∧ Ext w w') := by
  have hx := Ext.refl w
  have hM : In [] w := fun m hm => by cases hm
  obtain ⟨m, hm⟩ : ∃ m, min ss.length 20 = m := ⟨_, rfl⟩
  have e20 : (min (ss.length : Int) 20) = (m : Int) := by omega
  have hml := shs_length (ss := ss) (m := m) (by omega)
  have hcs := cats_shs ss m
  obtain ⟨inf, hi, hz, hsi, hby⟩ := inf9
  refine Cl.enter Try.func4 rfl Try.ntmps4 rfl rfl ?_
  refine Wp.seq (Wp.region ?_)
  refine Rg.tm trivial rfl (t_assign rfl) rfl ?_
  refine Rg.done ?_
  refine Wp.seq ?_
  refine Wp.seq (Wp.region ?_)
  refine Rg.wd trivial (w_call Try.call7 rfl example_ok) rfl ?_
  rintro _ w1 ⟨rfl, hx1⟩
  replace hx := hx.ext hx1
  replace hM := hM.ext hx1
  refine Rg.tm trivial rfl (t_notB rfl) rfl ?_
  refine Rg.done ?_
  refine Wp.condF rfl ?_
  refine Wp.skip ?_
  refine Wp.seq (Wp.region ?_)
  refine Rg.tm trivial rfl (t_assign rfl) rfl ?_
  refine Rg.done ?_
  refine Wp.seq ?_
  refine Wp.seq (Wp.region ?_)
  refine Rg.tm trivial rfl (t_move rfl) rfl ?_
  refine Rg.tm trivial rfl (t_move rfl) rfl ?_
  refine Rg.tm trivial rfl (t_lenC hs0 Try.underlying22 rfl) rfl ?_
  refine Rg.tm trivial rfl (t_minI rfl rfl) rfl ?_
  rw [e20]
  refine Rg.sl hs0 trivial rfl Try.underlying22 ty9 rfl rfl (by omega) rfl ?_
  intro vt21 ht210
  simp only [Int.toNat_natCast, show (0 : Int).toNat = 0 from rfl] at ht210
  replace ht210 := strs_sub (l := 0) (h := m) ht210 (by omega) (by omega)
  rw [List.drop_zero, Nat.sub_zero] at ht210
  rw [show (ss.take m).length = m from by simp; omega] at ht210
  refine Rg.tm trivial rfl (t_lenC ht210 Try.underlying22 rfl) rfl ?_
  refine Rg.tm trivial rfl (t_move rfl) rfl ?_
  refine Rg.done ?_
  refine Wp.block ?_
  refine Wp.loop (ι := Nat × Value) (fun j => [(1, .int .i64 i), (5, j.2), (21, vt21), (22, .int .i64 m), (23, .int .i64 j.1)])
    (fun j w' => j.1 ≤ m ∧ w'.ownsRow w.heap.size 9 1 j.2 j.1 (((shs ss m).take j.1).map .string) ∧ Ext w w')
    (fun j => m - j.1) (0, .slice none 0 0) (by repeat (first | exact .nil | refine .cons rfl ?_)) ⟨Nat.zero_le _, own_nil _ _ _ _, hx⟩ ?_
  clear hx hM
  rintro ⟨k, cut⟩ w3 ⟨hk, hown, hx⟩
  simp only at hk hown ⊢
  by_cases hlt : k < m
  · skip
    refine Wp.seq (Wp.region ?_)
    first | refine Rg.tm trivial rfl (t_lssT rfl rfl (by omega)) rfl ?_ | refine Rg.tm trivial rfl (t_lssF rfl rfl (by omega)) rfl ?_ | refine Rg.tm trivial rfl (t_lss rfl rfl) rfl ?_
    refine Rg.done ?_
    refine Wp.seq ?_
    refine Wp.condT rfl ?_
    refine Wp.skip ?_
    refine Wp.seq ?_
    refine Wp.block ?_
    refine Wp.seq (Wp.region ?_)
    refine Rg.ix ht210 trivial rfl rfl Try.underlying22 ty9 (by omega) rfl ?_
    intro bt25 ot25 ht25
    replace ht25 := ht25.ext hx
    rw [Int.toNat_natCast, strs_at (ss := ss.take m) (k := k) (by simp; omega)] at ht25
    rw [List.getElem_take] at ht25
    refine Rg.tm trivial rfl (t_load ty9 rfl (by first | assumption | (apply Cells.get (i := 0); (case h => assumption); rfl))) rfl ?_
    refine Rg.tm trivial rfl (t_assign rfl) rfl ?_
    refine Rg.done ?_
    refine Wp.region ?_
    refine Rg.tm trivial rfl (t_move rfl) rfl ?_
    refine Rg.tm trivial rfl (t_move rfl) rfl ?_
    refine Rg.wd trivial (w_call Try.call8 rfl (short_ok (n := 100) (by decide))) rfl ?_
    rintro _ _ ⟨rfl, rfl⟩
    refine Rg.wd trivial (w_buildSlice (bs22_1 _) rfl) rfl ?_
    rintro _ wb ⟨bb, rfl, qb, hxb, hvb⟩
    replace hx := hx.ext hxb
    replace hown := own_ext hown hxb
    refine Rg.wd trivial (w_append w.heap.size Try.underlying22 hi hz hsi hby rfl (by decide) rfl rfl hown rfl (fun j u hu => by rw [addr_add]; exact hvb.cells j u hu) (by simp [Value.oneCell']) (by unfold maxLen; omega) (by omega) hx.le) rfl ?_
    rintro cut2 wc ⟨hown2, hgr, p2, l2, c2, rfl⟩
    replace hx := own_ext2 hx hown hgr
    refine Rg.tm trivial rfl (t_assign rfl) rfl ?_
    refine Rg.done ?_
    refine Wp.region ?_
    first | refine Rg.tm trivial rfl (t_addI rfl rfl (by omega)) rfl ?_ | refine Rg.tm trivial rfl (t_add rfl rfl) rfl ?_
    refine Rg.tm trivial rfl (t_move rfl) rfl ?_
    refine Rg.done ?_
    have hown3 : wc.ownsRow w.heap.size 9 1 (.slice p2 l2 c2) (k + 1) (((shs ss m).take (k + 1)).map .string) := by
      rw [shs_succ (by omega) hlt, List.map_append]; exact hown2
    exact ⟨(k + 1, .slice p2 l2 c2), by repeat (first | exact .nil | refine .cons rfl ?_), ⟨hlt, hown3, hx⟩, by simp only; omega⟩
  · have e0 : k = m := by omega
    subst e0
    have ecs : (shs ss k).take k = shs ss k := List.take_of_length_le (by omega)
    rw [ecs] at hown
    have hM : In [] w3 := fun m hm => by cases hm
    have hsc : SlC w3 cut 1 (shs ss k).length ((shs ss k).map .string) := by rw [hml]; exact own_slice hown
    refine Wp.seq (Wp.region ?_)
    first | refine Rg.tm trivial rfl (t_lssT rfl rfl (by omega)) rfl ?_ | refine Rg.tm trivial rfl (t_lssF rfl rfl (by omega)) rfl ?_ | refine Rg.tm trivial rfl (t_lss rfl rfl) rfl ?_
    refine Rg.done ?_
    refine Wp.seq ?_
    refine Wp.condF rfl ?_
    refine Wp.exit ?_
    refine Wp.seq (Wp.region ?_)
    refine Rg.tm trivial rfl (t_move rfl) rfl ?_
    refine Rg.wd trivial (w_call Try.call9 rfl (from_ok (ss := shs ss k) _ (Nat.le_refl _) hM hsc (by omega) (by omega))) rfl ?_
    rintro ua w2 ⟨ha, hx2⟩
    replace hx := hx.ext hx2
    replace hM := hM.ext hx2
    obtain ⟨ta, ga, ea, ha⟩ := ha
    have na : RT.lenO ta = (RT.valO ta).size := RT.lenO_val ta
    have nb : RT.lenO ta ≤ 2000 := by rw [na, ea]; omega
    clear ea hsc
    obtain ⟨pa, rfl, ha'⟩ := id ha
    clear ha'
    have k0 := hx.le
    refine Rg.wd trivial (w_new Try.zeroValue27 rfl) rfl ?_
    rintro _ w3 ⟨b8, rfl, qb8, hx3, hv8⟩
    replace ha := ha.fresh (Nat.le_of_eq qb8.symm)
    replace hx := hx.ext hx3
    replace hM := hM.ext hx3
    replace ha := ha.ext hx3
    replace hM := hM.push hv8.lt
    have lt8 := hv8.lt
    refine Rg.wn trivial (w_put hv8 rfl rfl rfl ty27 rfl rfl) ?_
    rintro _ w51 ⟨hu5, hv8'⟩
    replace hx := hx.upd hu5 (by omega)
    replace hM := hM.upd hu5
    replace ha := ha.upd hu5 (by simp)
    have hc8 := hv8'.cells
    have hv9 := hv8'
    clear hv8 hv8'
    refine Rg.done ?_
    refine Wp.seq (Wp.region ?_)
    refine Rg.tm trivial rfl (t_loadA rfl (by assumption) (by exact ty27)) rfl ?_
    refine Rg.wd trivial (w_call Try.call10 rfl (string_ok ha (by omega))) rfl ?_
    rintro _ w4 ⟨rfl, hx4⟩
    replace hx := hx.ext hx4
    replace hM := hM.ext hx4
    replace ha := ha.ext hx4
    replace hc8 := hc8.ext hx4
    replace hv9 := hv9.ext hx4
    have lt9 := hv9.lt
    refine Rg.tm trivial rfl (t_assign rfl) rfl ?_
    refine Rg.done ?_
    have hle9 := hx.le
    by_cases hin : 0 ≤ i ∧ i ≤ RT.lenO ta
    · obtain ⟨g1, g2⟩ := RT.good_splitO ta i.toNat ga
      obtain ⟨v1, v2⟩ := RT.val_splitO ta i.toNat
      have n1 : RT.lenO (RT.splitO ta i.toNat).1 + RT.lenO (RT.splitO ta i.toNat).2 = RT.lenO ta := by
        rw [RT.lenO_val, RT.lenO_val, v1, v2, ByteArray.size_extract, ByteArray.size_extract]; omega
      have hjoin : RT.valO (RT.splitO ta i.toNat).1 ++ RT.valO (RT.splitO ta i.toNat).2 = RT.valO ta := by
        rw [v1, v2, ← ByteArray.extract_eq_extract_append_extract _ (by omega) (by omega), ByteArray.extract_zero_size]
      refine Wp.seq (Wp.region ?_)
      refine Rg.tm trivial rfl (t_loadA rfl (by assumption) (by exact ty27)) rfl ?_
      refine Rg.tm trivial rfl (t_move rfl) rfl ?_
      refine Rg.wd trivial (w_call Try.call12 rfl (ropeSplit_ok hM ha ga (by omega) hin)) rfl ?_
      rintro _ w5 ⟨⟨ua, ub, rfl, h1, h2⟩, hx5⟩
      replace hx := hx.ext hx5
      replace hM := hM.ext hx5
      replace ha := ha.ext hx5
      replace hc8 := hc8.ext hx5
      replace hv9 := hv9.ext hx5
      generalize (RT.splitO ta i.toNat).1 = ts1 at *
      generalize (RT.splitO ta i.toNat).2 = ts2 at *
      have x1 := v1
      have x2 := v2
      obtain ⟨p1, rfl, h1'⟩ := id h1
      obtain ⟨p2, rfl, h2'⟩ := id h2
      clear h1' h2'
      have k1 := hx.le
      have k8 := hv9.lt
      refine Rg.tm trivial rfl (t_move rfl) rfl ?_
      refine Rg.tm trivial rfl (t_extract rfl rfl) rfl ?_
      refine Rg.tm trivial rfl (t_extract rfl rfl) rfl ?_
      refine Rg.tm trivial rfl (t_extract rfl rfl) rfl ?_
      refine Rg.wd trivial (w_new Try.zeroValue27 rfl) rfl ?_
      rintro _ w6 ⟨b1, rfl, qb1, hx6, hv1⟩
      replace ha := ha.fresh (Nat.le_of_eq qb1.symm)
      replace h1 := h1.fresh (Nat.le_of_eq qb1.symm)
      replace h2 := h2.fresh (Nat.le_of_eq qb1.symm)
      replace hx := hx.ext hx6
      replace hM := hM.ext hx6
      replace ha := ha.ext hx6
      replace hc8 := hc8.ext hx6
      replace hv9 := hv9.ext hx6
      replace h1 := h1.ext hx6
      replace h2 := h2.ext hx6
      replace hM := hM.push hv1.lt
      have lt1 := hv1.lt
      refine Rg.wd trivial (w_new Try.zeroValue27 rfl) rfl ?_
      rintro _ w7 ⟨b2, rfl, qb2, hx7, hv2⟩
      replace ha := ha.fresh (Nat.le_of_eq qb2.symm)
      replace h1 := h1.fresh (Nat.le_of_eq qb2.symm)
      replace h2 := h2.fresh (Nat.le_of_eq qb2.symm)
      replace hx := hx.ext hx7
      replace hM := hM.ext hx7
      replace ha := ha.ext hx7
      replace hc8 := hc8.ext hx7
      replace hv9 := hv9.ext hx7
      replace h1 := h1.ext hx7
      replace h2 := h2.ext hx7
      replace hv1 := hv1.ext hx7
      replace hM := hM.push hv2.lt
      have lt2 := hv2.lt
      refine Rg.wn trivial (w_put hv1 rfl rfl rfl ty27 rfl rfl) ?_
      rintro _ w52 ⟨hu5, hv1'⟩
      replace hx := hx.upd hu5 (by omega)
      replace hM := hM.upd hu5
      replace hc8 := hc8.upd hu5 (by omega)
      replace hv2 := hv2.upd hu5 (by omega)
      replace ha := ha.upd hu5 (by simp)
      replace h1 := h1.upd hu5 (by simp)
      replace h2 := h2.upd hu5 (by simp)
      refine Rg.wn trivial (w_put hv2 rfl rfl rfl ty27 rfl rfl) ?_
      rintro _ w62 ⟨hu6, hv2'⟩
      replace hx := hx.upd hu6 (by omega)
      replace hM := hM.upd hu6
      replace hc8 := hc8.upd hu6 (by omega)
      replace hv1' := hv1'.upd hu6 (by omega)
      replace ha := ha.upd hu6 (by simp)
      replace h1 := h1.upd hu6 (by simp)
      replace h2 := h2.upd hu6 (by simp)
      have hc1 := hv1'.cells
      have hc2 := hv2'.cells
      clear hv1 hv2 hv1' hv2' hv9
      refine Rg.tm trivial rfl (t_assign rfl) rfl ?_
      refine Rg.done ?_
      by_cases hlast : i < RT.lenO ta
      · obtain ⟨t, rfl⟩ : ∃ t, ta = some t := by
          cases ta with
          | none => simp [RT.lenO] at hlast; omega
          | some t => exact ⟨t, rfl⟩
        refine Wp.seq (Wp.region ?_)
        refine Rg.tm trivial rfl (t_loadA rfl (by assumption) (by exact ty27)) rfl ?_
        refine Rg.tm trivial rfl (t_move rfl) rfl ?_
        refine Rg.wd trivial (w_call Try.call13 rfl (byteAt_ok ha ga.1 (by simp only [RT.lenO] at *; omega) ⟨hin.1, hlast⟩)) rfl ?_
        rintro _ w8 ⟨rfl, hx8⟩
        replace hx := hx.ext hx8
        replace hM := hM.ext hx8
        replace hc8 := hc8.ext hx8
        replace hc1 := hc1.ext hx8
        replace hc2 := hc2.ext hx8
        replace ha := ha.ext hx8
        replace h1 := h1.ext hx8
        replace h2 := h2.ext hx8
        refine Rg.tm trivial rfl (t_move rfl) rfl ?_
        refine Rg.tm trivial rfl (t_extract rfl rfl) rfl ?_
        refine Rg.tm trivial rfl (t_extract rfl rfl) rfl ?_
        refine Rg.tm trivial rfl (t_assign rfl) rfl ?_
        refine Rg.tm trivial rfl (t_assign rfl) rfl ?_
        refine Rg.done ?_
        refine Wp.seq ?_
        refine Wp.seq (Wp.region ?_)
        refine Rg.tm trivial rfl (t_move rfl) rfl ?_
        first | refine Rg.tm trivial rfl (t_lssT rfl rfl (by omega)) rfl ?_ | refine Rg.tm trivial rfl (t_lssF rfl rfl (by omega)) rfl ?_ | refine Rg.tm trivial rfl (t_lss rfl rfl) rfl ?_
        refine Rg.tm trivial rfl (t_move rfl) rfl ?_
        first | refine Rg.tm ⟨_, rfl, rfl⟩ rfl (t_move rfl) rfl ?_ | refine Rg.sk (.inl ⟨_, _, rfl, rfl, rfl⟩) rfl ?_ | refine Rg.sk (.inr ⟨_, rfl, rfl⟩) rfl ?_
        first | refine Rg.tm ⟨_, rfl, rfl⟩ rfl (t_move rfl) rfl ?_ | refine Rg.sk (.inl ⟨_, _, rfl, rfl, rfl⟩) rfl ?_ | refine Rg.sk (.inr ⟨_, rfl, rfl⟩) rfl ?_
        first | refine Rg.tm ⟨_, rfl, rfl⟩ rfl (t_len Try.underlying9 rfl) rfl ?_ | refine Rg.sk (.inl ⟨_, _, rfl, rfl, rfl⟩) rfl ?_ | refine Rg.sk (.inr ⟨_, rfl, rfl⟩) rfl ?_
        first | refine Rg.tm ⟨_, rfl, rfl⟩ rfl (t_gtrT rfl rfl (by omega)) rfl ?_ | refine Rg.tm ⟨_, rfl, rfl⟩ rfl (t_gtrF rfl rfl (by omega)) rfl ?_ | refine Rg.tm ⟨_, rfl, rfl⟩ rfl (t_gtr rfl rfl) rfl ?_ | refine Rg.sk (.inl ⟨_, _, rfl, rfl, rfl⟩) rfl ?_ | refine Rg.sk (.inr ⟨_, rfl, rfl⟩) rfl ?_
        first | refine Rg.tm trivial rfl (t_pickT rfl rfl) rfl ?_ | refine Rg.tm trivial rfl (t_pickF rfl rfl) rfl ?_
        refine Rg.done ?_
        refine Wp.condF rfl ?_
        refine Wp.skip ?_
        refine Wp.seq ?_
        refine Wp.seq (Wp.region ?_)
        refine Rg.tm trivial rfl (t_move rfl) rfl ?_
        refine Rg.tm trivial rfl (t_move rfl) rfl ?_
        refine Rg.tm trivial rfl (t_len Try.underlying9 rfl) rfl ?_
        first | refine Rg.tm trivial rfl (t_lssT rfl rfl (by omega)) rfl ?_ | refine Rg.tm trivial rfl (t_lssF rfl rfl (by omega)) rfl ?_ | refine Rg.tm trivial rfl (t_lss rfl rfl) rfl ?_
        refine Rg.tm trivial rfl (t_move rfl) rfl ?_
        first | refine Rg.tm ⟨_, rfl, rfl⟩ rfl (t_move rfl) rfl ?_ | refine Rg.sk (.inl ⟨_, _, rfl, rfl, rfl⟩) rfl ?_ | refine Rg.sk (.inr ⟨_, rfl, rfl⟩) rfl ?_
        first | refine Rg.tm ⟨_, rfl, rfl⟩ rfl (t_move rfl) rfl ?_ | refine Rg.sk (.inl ⟨_, _, rfl, rfl, rfl⟩) rfl ?_ | refine Rg.sk (.inr ⟨_, rfl, rfl⟩) rfl ?_
        first | refine Rg.tm ⟨_, rfl, rfl⟩ rfl (t_move rfl) rfl ?_ | refine Rg.sk (.inl ⟨_, _, rfl, rfl, rfl⟩) rfl ?_ | refine Rg.sk (.inr ⟨_, rfl, rfl⟩) rfl ?_
        first | refine Rg.tm ⟨_, rfl, rfl⟩ rfl (t_index Try.underlying9 rfl rfl (by omega)) rfl ?_ | refine Rg.sk (.inl ⟨_, _, rfl, rfl, rfl⟩) rfl ?_ | refine Rg.sk (.inr ⟨_, rfl, rfl⟩) rfl ?_
        refine Rg.tm ⟨_, rfl, rfl⟩ rfl (t_neqF rfl rfl rfl) rfl ?_
        first | refine Rg.tm ⟨_, rfl, rfl⟩ rfl (t_move rfl) rfl ?_ | refine Rg.sk (.inl ⟨_, _, rfl, rfl, rfl⟩) rfl ?_ | refine Rg.sk (.inr ⟨_, rfl, rfl⟩) rfl ?_
        first | refine Rg.tm ⟨_, rfl, rfl⟩ rfl (t_move rfl) rfl ?_ | refine Rg.sk (.inl ⟨_, _, rfl, rfl, rfl⟩) rfl ?_ | refine Rg.sk (.inr ⟨_, rfl, rfl⟩) rfl ?_
        first | refine Rg.tm ⟨_, rfl, rfl⟩ rfl (t_neqT rfl rfl (by omega)) rfl ?_ | refine Rg.tm ⟨_, rfl, rfl⟩ rfl (t_neqF rfl rfl (by omega)) rfl ?_ | refine Rg.tm ⟨_, rfl, rfl⟩ rfl (t_neq rfl rfl) rfl ?_ | refine Rg.sk (.inl ⟨_, _, rfl, rfl, rfl⟩) rfl ?_ | refine Rg.sk (.inr ⟨_, rfl, rfl⟩) rfl ?_
        first | refine Rg.tm ⟨_, rfl, rfl⟩ rfl (t_pickT rfl rfl) rfl ?_ | refine Rg.tm ⟨_, rfl, rfl⟩ rfl (t_pickF rfl rfl) rfl ?_ | refine Rg.sk (.inl ⟨_, _, rfl, rfl, rfl⟩) rfl ?_ | refine Rg.sk (.inr ⟨_, rfl, rfl⟩) rfl ?_
        first | refine Rg.tm trivial rfl (t_pickT rfl rfl) rfl ?_ | refine Rg.tm trivial rfl (t_pickF rfl rfl) rfl ?_
        refine Rg.tm trivial rfl (t_move rfl) rfl ?_
        first | refine Rg.tm ⟨_, rfl, rfl⟩ rfl (t_move rfl) rfl ?_ | refine Rg.sk (.inl ⟨_, _, rfl, rfl, rfl⟩) rfl ?_ | refine Rg.sk (.inr ⟨_, rfl, rfl⟩) rfl ?_
        first | refine Rg.tm ⟨_, rfl, rfl⟩ rfl (t_move rfl) rfl ?_ | refine Rg.sk (.inl ⟨_, _, rfl, rfl, rfl⟩) rfl ?_ | refine Rg.sk (.inr ⟨_, rfl, rfl⟩) rfl ?_
        first | refine Rg.tm ⟨_, rfl, rfl⟩ rfl (t_len Try.underlying9 rfl) rfl ?_ | refine Rg.sk (.inl ⟨_, _, rfl, rfl, rfl⟩) rfl ?_ | refine Rg.sk (.inr ⟨_, rfl, rfl⟩) rfl ?_
        first | refine Rg.tm ⟨_, rfl, rfl⟩ rfl (t_eqlT rfl rfl (by omega)) rfl ?_ | refine Rg.tm ⟨_, rfl, rfl⟩ rfl (t_eqlF rfl rfl (by omega)) rfl ?_ | refine Rg.tm ⟨_, rfl, rfl⟩ rfl (t_eql rfl rfl) rfl ?_ | refine Rg.sk (.inl ⟨_, _, rfl, rfl, rfl⟩) rfl ?_ | refine Rg.sk (.inr ⟨_, rfl, rfl⟩) rfl ?_
        first | refine Rg.tm ⟨_, rfl, rfl⟩ rfl (t_move rfl) rfl ?_ | refine Rg.sk (.inl ⟨_, _, rfl, rfl, rfl⟩) rfl ?_ | refine Rg.sk (.inr ⟨_, rfl, rfl⟩) rfl ?_
        first | refine Rg.tm ⟨_, rfl, rfl⟩ rfl (t_move rfl) rfl ?_ | refine Rg.sk (.inl ⟨_, _, rfl, rfl, rfl⟩) rfl ?_ | refine Rg.sk (.inr ⟨_, rfl, rfl⟩) rfl ?_
        first | refine Rg.tm ⟨_, rfl, rfl⟩ rfl (t_neqT rfl rfl (by omega)) rfl ?_ | refine Rg.tm ⟨_, rfl, rfl⟩ rfl (t_neqF rfl rfl (by omega)) rfl ?_ | refine Rg.tm ⟨_, rfl, rfl⟩ rfl (t_neq rfl rfl) rfl ?_ | refine Rg.sk (.inl ⟨_, _, rfl, rfl, rfl⟩) rfl ?_ | refine Rg.sk (.inr ⟨_, rfl, rfl⟩) rfl ?_
        first | refine Rg.tm ⟨_, rfl, rfl⟩ rfl (t_pickT rfl rfl) rfl ?_ | refine Rg.tm ⟨_, rfl, rfl⟩ rfl (t_pickF rfl rfl) rfl ?_ | refine Rg.sk (.inl ⟨_, _, rfl, rfl, rfl⟩) rfl ?_ | refine Rg.sk (.inr ⟨_, rfl, rfl⟩) rfl ?_
        first | refine Rg.tm trivial rfl (t_pickT rfl rfl) rfl ?_ | refine Rg.tm trivial rfl (t_pickF rfl rfl) rfl ?_
        refine Rg.done ?_
        refine Wp.condF rfl ?_
        refine Wp.skip ?_
        have y1 : RT.valO ts1 = (RT.valO (some t)).extract (0 : Int).toNat i.toNat := v1
        have y2 : RT.valO ts2 = (RT.valO (some t)).extract i.toNat (RT.valO (some t)).size := v2
        have y3 : RT.valO (RT.catO ts1 ts2) = RT.valO (some t) := by rw [RT.val_cat]; exact hjoin
        have y4 : RT.lenO (RT.catO ts1 ts2) ≤ 2000 := by rw [RT.len_cat]; omega
        refine Wp.seq (Wp.draw [0, 1, 2, 3, 4, 5, 6, 8, 9, 10, 7, 11, 12, 13, 14, 16, 17, 18, 15, 19, 20, 21, 22, 23, 26, 24, 25, 27, 28, 29, 30, 32, 31, 33, 34, 35] [] mixed (by kernel_rfl) (by kernel_rfl) ?_)
        intro w9 hx9 _
        replace hx := hx.ext hx9
        replace hM := hM.ext hx9
        replace hc8 := hc8.ext hx9
        replace hc1 := hc1.ext hx9
        replace hc2 := hc2.ext hx9
        replace ha := ha.ext hx9
        replace h1 := h1.ext hx9
        replace h2 := h2.ext hx9
        refine Rg.wdB trivial rfl (w_call Try.call7 rfl example_ok) rfl (fun _ _ h => h.2) ?_
        rintro _ w10 ⟨rfl, hx10⟩
        replace hx := hx.ext hx10
        replace hM := hM.ext hx10
        replace hc8 := hc8.ext hx10
        replace hc1 := hc1.ext hx10
        replace hc2 := hc2.ext hx10
        replace ha := ha.ext hx10
        replace h1 := h1.ext hx10
        replace h2 := h2.ext hx10
        refine Rg.tm trivial rfl (t_move rfl) rfl ?_
        first | refine Rg.tm ⟨_, rfl, rfl⟩ rfl (t_move rfl) rfl ?_ | refine Rg.sk (.inl ⟨_, _, rfl, rfl, rfl⟩) rfl ?_ | refine Rg.sk (.inr ⟨_, rfl, rfl⟩) rfl ?_
        first | refine Rg.tm ⟨_, rfl, rfl⟩ rfl (t_eqlT rfl rfl (by omega)) rfl ?_ | refine Rg.tm ⟨_, rfl, rfl⟩ rfl (t_eqlF rfl rfl (by omega)) rfl ?_ | refine Rg.tm ⟨_, rfl, rfl⟩ rfl (t_eql rfl rfl) rfl ?_ | refine Rg.sk (.inl ⟨_, _, rfl, rfl, rfl⟩) rfl ?_ | refine Rg.sk (.inr ⟨_, rfl, rfl⟩) rfl ?_
        first | refine Rg.tm trivial rfl (t_pickT rfl rfl) rfl ?_ | refine Rg.tm trivial rfl (t_pickF rfl rfl) rfl ?_
        refine Rg.tm trivial rfl (t_move rfl) rfl ?_
        first | refine Rg.tm ⟨_, rfl, rfl⟩ rfl (t_loadA rfl (by assumption) (by exact ty27)) rfl ?_ | refine Rg.sk (.inl ⟨_, _, rfl, rfl, rfl⟩) rfl ?_ | refine Rg.sk (.inr ⟨_, rfl, rfl⟩) rfl ?_
        first | refine Rg.tm ⟨_, rfl, rfl⟩ rfl (t_move rfl) rfl ?_ | refine Rg.sk (.inl ⟨_, _, rfl, rfl, rfl⟩) rfl ?_ | refine Rg.sk (.inr ⟨_, rfl, rfl⟩) rfl ?_
        first | refine Rg.tm ⟨_, rfl, rfl⟩ rfl (t_move rfl) rfl ?_ | refine Rg.sk (.inl ⟨_, _, rfl, rfl, rfl⟩) rfl ?_ | refine Rg.sk (.inr ⟨_, rfl, rfl⟩) rfl ?_
        first | refine Rg.tm ⟨_, rfl, rfl⟩ rfl (t_sliceS Try.underlying9 rfl rfl rfl (by omega)) rfl ?_ | refine Rg.sk (.inl ⟨_, _, rfl, rfl, rfl⟩) rfl ?_ | refine Rg.sk (.inr ⟨_, rfl, rfl⟩) rfl ?_
        refine Rg.wdB ⟨_, rfl, rfl⟩ rfl (w_call Try.call10 rfl (string_ok h1 (by omega))) rfl (fun _ _ h => h.2) ?_
        rintro _ w11 ⟨rfl, hx11⟩
        replace hx := hx.ext hx11
        replace hM := hM.ext hx11
        replace hc8 := hc8.ext hx11
        replace hc1 := hc1.ext hx11
        replace hc2 := hc2.ext hx11
        replace ha := ha.ext hx11
        replace h1 := h1.ext hx11
        replace h2 := h2.ext hx11
        first | refine Rg.tm ⟨_, rfl, rfl⟩ rfl (t_seqlT rfl rfl (by first | with_reducible rfl | assumption)) rfl ?_ | refine Rg.tm ⟨_, rfl, rfl⟩ rfl (t_seqlF rfl rfl (by assumption)) rfl ?_ | refine Rg.tm ⟨_, rfl, rfl⟩ rfl (t_seql rfl rfl) rfl ?_ | refine Rg.sk (.inl ⟨_, _, rfl, rfl, rfl⟩) rfl ?_ | refine Rg.sk (.inr ⟨_, rfl, rfl⟩) rfl ?_
        first | refine Rg.tm trivial rfl (t_pickT rfl rfl) rfl ?_ | refine Rg.tm trivial rfl (t_pickF rfl rfl) rfl ?_
        refine Rg.tm trivial rfl (t_move rfl) rfl ?_
        first | refine Rg.tm ⟨_, rfl, rfl⟩ rfl (t_loadA rfl (by assumption) (by exact ty27)) rfl ?_ | refine Rg.sk (.inl ⟨_, _, rfl, rfl, rfl⟩) rfl ?_ | refine Rg.sk (.inr ⟨_, rfl, rfl⟩) rfl ?_
        first | refine Rg.tm ⟨_, rfl, rfl⟩ rfl (t_move rfl) rfl ?_ | refine Rg.sk (.inl ⟨_, _, rfl, rfl, rfl⟩) rfl ?_ | refine Rg.sk (.inr ⟨_, rfl, rfl⟩) rfl ?_
        first | refine Rg.tm ⟨_, rfl, rfl⟩ rfl (t_move rfl) rfl ?_ | refine Rg.sk (.inl ⟨_, _, rfl, rfl, rfl⟩) rfl ?_ | refine Rg.sk (.inr ⟨_, rfl, rfl⟩) rfl ?_
        first | refine Rg.tm ⟨_, rfl, rfl⟩ rfl (t_sliceS Try.underlying9 rfl rfl rfl (by omega)) rfl ?_ | refine Rg.sk (.inl ⟨_, _, rfl, rfl, rfl⟩) rfl ?_ | refine Rg.sk (.inr ⟨_, rfl, rfl⟩) rfl ?_
        refine Rg.wdB ⟨_, rfl, rfl⟩ rfl (w_call Try.call10 rfl (string_ok h2 (by omega))) rfl (fun _ _ h => h.2) ?_
        rintro _ w12 ⟨rfl, hx12⟩
        replace hx := hx.ext hx12
        replace hM := hM.ext hx12
        replace hc8 := hc8.ext hx12
        replace hc1 := hc1.ext hx12
        replace hc2 := hc2.ext hx12
        replace ha := ha.ext hx12
        replace h1 := h1.ext hx12
        replace h2 := h2.ext hx12
        first | refine Rg.tm ⟨_, rfl, rfl⟩ rfl (t_seqlT rfl rfl (by first | with_reducible rfl | assumption)) rfl ?_ | refine Rg.tm ⟨_, rfl, rfl⟩ rfl (t_seqlF rfl rfl (by assumption)) rfl ?_ | refine Rg.tm ⟨_, rfl, rfl⟩ rfl (t_seql rfl rfl) rfl ?_ | refine Rg.sk (.inl ⟨_, _, rfl, rfl, rfl⟩) rfl ?_ | refine Rg.sk (.inr ⟨_, rfl, rfl⟩) rfl ?_
        first | refine Rg.tm trivial rfl (t_pickT rfl rfl) rfl ?_ | refine Rg.tm trivial rfl (t_pickF rfl rfl) rfl ?_
        refine Rg.tm trivial rfl (t_move rfl) rfl ?_
        first | refine Rg.tm ⟨_, rfl, rfl⟩ rfl (t_loadA rfl (by assumption) (by exact ty27)) rfl ?_ | refine Rg.sk (.inl ⟨_, _, rfl, rfl, rfl⟩) rfl ?_ | refine Rg.sk (.inr ⟨_, rfl, rfl⟩) rfl ?_
        first | refine Rg.tm ⟨_, rfl, rfl⟩ rfl (t_loadA rfl (by assumption) (by exact ty27)) rfl ?_ | refine Rg.sk (.inl ⟨_, _, rfl, rfl, rfl⟩) rfl ?_ | refine Rg.sk (.inr ⟨_, rfl, rfl⟩) rfl ?_
        first | refine Rg.tm ⟨_, rfl, rfl⟩ rfl (t_move rfl) rfl ?_ | refine Rg.sk (.inl ⟨_, _, rfl, rfl, rfl⟩) rfl ?_ | refine Rg.sk (.inr ⟨_, rfl, rfl⟩) rfl ?_
        refine Rg.wdB ⟨_, rfl, rfl⟩ rfl (w_call Try.call14 rfl (concat_ok hM h1 h2 g1 g2 (by omega))) rfl (fun _ _ h => h.2) ?_
        rintro uc w13 ⟨hcc, hx13⟩
        replace hx := hx.ext hx13
        replace hM := hM.ext hx13
        replace hc8 := hc8.ext hx13
        replace hc1 := hc1.ext hx13
        replace hc2 := hc2.ext hx13
        replace ha := ha.ext hx13
        replace h1 := h1.ext hx13
        replace h2 := h2.ext hx13
        refine Rg.wdB ⟨_, rfl, rfl⟩ rfl (w_call Try.call10 rfl (string_ok hcc (by omega))) rfl (fun _ _ h => h.2) ?_
        rintro _ w14 ⟨rfl, hx14⟩
        replace hx := hx.ext hx14
        replace hM := hM.ext hx14
        replace hc8 := hc8.ext hx14
        replace hc1 := hc1.ext hx14
        replace hc2 := hc2.ext hx14
        replace ha := ha.ext hx14
        replace h1 := h1.ext hx14
        replace h2 := h2.ext hx14
        replace hcc := hcc.ext hx14
        first | refine Rg.tm ⟨_, rfl, rfl⟩ rfl (t_seqlT rfl rfl (by first | with_reducible rfl | assumption)) rfl ?_ | refine Rg.tm ⟨_, rfl, rfl⟩ rfl (t_seqlF rfl rfl (by assumption)) rfl ?_ | refine Rg.tm ⟨_, rfl, rfl⟩ rfl (t_seql rfl rfl) rfl ?_ | refine Rg.sk (.inl ⟨_, _, rfl, rfl, rfl⟩) rfl ?_ | refine Rg.sk (.inr ⟨_, rfl, rfl⟩) rfl ?_
        first | refine Rg.tm trivial rfl (t_pickT rfl rfl) rfl ?_ | refine Rg.tm trivial rfl (t_pickF rfl rfl) rfl ?_
        refine Rg.tm trivial rfl (t_move rfl) rfl ?_
        first | refine Rg.tm ⟨_, rfl, rfl⟩ rfl (t_loadA rfl (by assumption) (by exact ty27)) rfl ?_ | refine Rg.sk (.inl ⟨_, _, rfl, rfl, rfl⟩) rfl ?_ | refine Rg.sk (.inr ⟨_, rfl, rfl⟩) rfl ?_
        first | refine Rg.tm ⟨_, rfl, rfl⟩ rfl (t_move rfl) rfl ?_ | refine Rg.sk (.inl ⟨_, _, rfl, rfl, rfl⟩) rfl ?_ | refine Rg.sk (.inr ⟨_, rfl, rfl⟩) rfl ?_
        refine Rg.wdB ⟨_, rfl, rfl⟩ rfl (w_call Try.call10 rfl (string_ok ha (by omega))) rfl (fun _ _ h => h.2) ?_
        rintro _ w15 ⟨rfl, hx15⟩
        replace hx := hx.ext hx15
        replace hM := hM.ext hx15
        replace hc8 := hc8.ext hx15
        replace hc1 := hc1.ext hx15
        replace hc2 := hc2.ext hx15
        replace ha := ha.ext hx15
        replace h1 := h1.ext hx15
        replace h2 := h2.ext hx15
        replace hcc := hcc.ext hx15
        first | refine Rg.tm ⟨_, rfl, rfl⟩ rfl (t_seqlT rfl rfl (by first | with_reducible rfl | assumption)) rfl ?_ | refine Rg.tm ⟨_, rfl, rfl⟩ rfl (t_seqlF rfl rfl (by assumption)) rfl ?_ | refine Rg.tm ⟨_, rfl, rfl⟩ rfl (t_seql rfl rfl) rfl ?_ | refine Rg.sk (.inl ⟨_, _, rfl, rfl, rfl⟩) rfl ?_ | refine Rg.sk (.inr ⟨_, rfl, rfl⟩) rfl ?_
        first | refine Rg.tm trivial rfl (t_pickT rfl rfl) rfl ?_ | refine Rg.tm trivial rfl (t_pickF rfl rfl) rfl ?_
        refine Rg.tm trivial rfl (t_assign rfl) rfl ?_
        refine Rg.done ?_
        refine Wp.ret ?_
        exact ⟨[_], ⟨rfl, trivial⟩, rfl, hx⟩
      · skip
        refine Wp.seq (Wp.region ?_)
        refine Rg.tm trivial rfl (t_loadA rfl (by assumption) (by exact ty27)) rfl ?_
        refine Rg.tm trivial rfl (t_move rfl) rfl ?_
        refine Rg.wd trivial (w_call Try.call13 rfl (byteAt_no ha (.inr (by omega)))) rfl ?_
        rintro _ w8 ⟨rfl, hx8⟩
        replace hx := hx.ext hx8
        replace hM := hM.ext hx8
        replace hc8 := hc8.ext hx8
        replace hc1 := hc1.ext hx8
        replace hc2 := hc2.ext hx8
        replace ha := ha.ext hx8
        replace h1 := h1.ext hx8
        replace h2 := h2.ext hx8
        refine Rg.tm trivial rfl (t_move rfl) rfl ?_
        refine Rg.tm trivial rfl (t_extract rfl rfl) rfl ?_
        refine Rg.tm trivial rfl (t_extract rfl rfl) rfl ?_
        refine Rg.tm trivial rfl (t_assign rfl) rfl ?_
        refine Rg.tm trivial rfl (t_assign rfl) rfl ?_
        refine Rg.done ?_
        refine Wp.seq ?_
        refine Wp.seq (Wp.region ?_)
        refine Rg.tm trivial rfl (t_move rfl) rfl ?_
        first | refine Rg.tm trivial rfl (t_lssT rfl rfl (by omega)) rfl ?_ | refine Rg.tm trivial rfl (t_lssF rfl rfl (by omega)) rfl ?_ | refine Rg.tm trivial rfl (t_lss rfl rfl) rfl ?_
        refine Rg.tm trivial rfl (t_move rfl) rfl ?_
        first | refine Rg.tm ⟨_, rfl, rfl⟩ rfl (t_move rfl) rfl ?_ | refine Rg.sk (.inl ⟨_, _, rfl, rfl, rfl⟩) rfl ?_ | refine Rg.sk (.inr ⟨_, rfl, rfl⟩) rfl ?_
        first | refine Rg.tm ⟨_, rfl, rfl⟩ rfl (t_move rfl) rfl ?_ | refine Rg.sk (.inl ⟨_, _, rfl, rfl, rfl⟩) rfl ?_ | refine Rg.sk (.inr ⟨_, rfl, rfl⟩) rfl ?_
        first | refine Rg.tm ⟨_, rfl, rfl⟩ rfl (t_len Try.underlying9 rfl) rfl ?_ | refine Rg.sk (.inl ⟨_, _, rfl, rfl, rfl⟩) rfl ?_ | refine Rg.sk (.inr ⟨_, rfl, rfl⟩) rfl ?_
        first | refine Rg.tm ⟨_, rfl, rfl⟩ rfl (t_gtrT rfl rfl (by omega)) rfl ?_ | refine Rg.tm ⟨_, rfl, rfl⟩ rfl (t_gtrF rfl rfl (by omega)) rfl ?_ | refine Rg.tm ⟨_, rfl, rfl⟩ rfl (t_gtr rfl rfl) rfl ?_ | refine Rg.sk (.inl ⟨_, _, rfl, rfl, rfl⟩) rfl ?_ | refine Rg.sk (.inr ⟨_, rfl, rfl⟩) rfl ?_
        first | refine Rg.tm trivial rfl (t_pickT rfl rfl) rfl ?_ | refine Rg.tm trivial rfl (t_pickF rfl rfl) rfl ?_
        refine Rg.done ?_
        refine Wp.condF rfl ?_
        refine Wp.skip ?_
        refine Wp.seq ?_
        refine Wp.seq (Wp.region ?_)
        refine Rg.tm trivial rfl (t_move rfl) rfl ?_
        refine Rg.tm trivial rfl (t_move rfl) rfl ?_
        refine Rg.tm trivial rfl (t_len Try.underlying9 rfl) rfl ?_
        first | refine Rg.tm trivial rfl (t_lssT rfl rfl (by omega)) rfl ?_ | refine Rg.tm trivial rfl (t_lssF rfl rfl (by omega)) rfl ?_ | refine Rg.tm trivial rfl (t_lss rfl rfl) rfl ?_
        refine Rg.tm trivial rfl (t_move rfl) rfl ?_
        first | refine Rg.tm ⟨_, rfl, rfl⟩ rfl (t_move rfl) rfl ?_ | refine Rg.sk (.inl ⟨_, _, rfl, rfl, rfl⟩) rfl ?_ | refine Rg.sk (.inr ⟨_, rfl, rfl⟩) rfl ?_
        first | refine Rg.tm ⟨_, rfl, rfl⟩ rfl (t_move rfl) rfl ?_ | refine Rg.sk (.inl ⟨_, _, rfl, rfl, rfl⟩) rfl ?_ | refine Rg.sk (.inr ⟨_, rfl, rfl⟩) rfl ?_
        first | refine Rg.tm ⟨_, rfl, rfl⟩ rfl (t_move rfl) rfl ?_ | refine Rg.sk (.inl ⟨_, _, rfl, rfl, rfl⟩) rfl ?_ | refine Rg.sk (.inr ⟨_, rfl, rfl⟩) rfl ?_
        first | refine Rg.tm ⟨_, rfl, rfl⟩ rfl (t_index Try.underlying9 rfl rfl (by omega)) rfl ?_ | refine Rg.sk (.inl ⟨_, _, rfl, rfl, rfl⟩) rfl ?_ | refine Rg.sk (.inr ⟨_, rfl, rfl⟩) rfl ?_
        first | refine Rg.tm ⟨_, rfl, rfl⟩ rfl (t_neqT rfl rfl (by omega)) rfl ?_ | refine Rg.tm ⟨_, rfl, rfl⟩ rfl (t_neqF rfl rfl (by omega)) rfl ?_ | refine Rg.tm ⟨_, rfl, rfl⟩ rfl (t_neq rfl rfl) rfl ?_ | refine Rg.sk (.inl ⟨_, _, rfl, rfl, rfl⟩) rfl ?_ | refine Rg.sk (.inr ⟨_, rfl, rfl⟩) rfl ?_
        first | refine Rg.tm ⟨_, rfl, rfl⟩ rfl (t_move rfl) rfl ?_ | refine Rg.sk (.inl ⟨_, _, rfl, rfl, rfl⟩) rfl ?_ | refine Rg.sk (.inr ⟨_, rfl, rfl⟩) rfl ?_
        first | refine Rg.tm ⟨_, rfl, rfl⟩ rfl (t_move rfl) rfl ?_ | refine Rg.sk (.inl ⟨_, _, rfl, rfl, rfl⟩) rfl ?_ | refine Rg.sk (.inr ⟨_, rfl, rfl⟩) rfl ?_
        first | refine Rg.tm ⟨_, rfl, rfl⟩ rfl (t_neqT rfl rfl (by omega)) rfl ?_ | refine Rg.tm ⟨_, rfl, rfl⟩ rfl (t_neqF rfl rfl (by omega)) rfl ?_ | refine Rg.tm ⟨_, rfl, rfl⟩ rfl (t_neq rfl rfl) rfl ?_ | refine Rg.sk (.inl ⟨_, _, rfl, rfl, rfl⟩) rfl ?_ | refine Rg.sk (.inr ⟨_, rfl, rfl⟩) rfl ?_
        first | refine Rg.tm ⟨_, rfl, rfl⟩ rfl (t_pickT rfl rfl) rfl ?_ | refine Rg.tm ⟨_, rfl, rfl⟩ rfl (t_pickF rfl rfl) rfl ?_ | refine Rg.sk (.inl ⟨_, _, rfl, rfl, rfl⟩) rfl ?_ | refine Rg.sk (.inr ⟨_, rfl, rfl⟩) rfl ?_
        first | refine Rg.tm trivial rfl (t_pickT rfl rfl) rfl ?_ | refine Rg.tm trivial rfl (t_pickF rfl rfl) rfl ?_
        refine Rg.tm trivial rfl (t_move rfl) rfl ?_
        first | refine Rg.tm ⟨_, rfl, rfl⟩ rfl (t_move rfl) rfl ?_ | refine Rg.sk (.inl ⟨_, _, rfl, rfl, rfl⟩) rfl ?_ | refine Rg.sk (.inr ⟨_, rfl, rfl⟩) rfl ?_
        first | refine Rg.tm ⟨_, rfl, rfl⟩ rfl (t_move rfl) rfl ?_ | refine Rg.sk (.inl ⟨_, _, rfl, rfl, rfl⟩) rfl ?_ | refine Rg.sk (.inr ⟨_, rfl, rfl⟩) rfl ?_
        first | refine Rg.tm ⟨_, rfl, rfl⟩ rfl (t_len Try.underlying9 rfl) rfl ?_ | refine Rg.sk (.inl ⟨_, _, rfl, rfl, rfl⟩) rfl ?_ | refine Rg.sk (.inr ⟨_, rfl, rfl⟩) rfl ?_
        first | refine Rg.tm ⟨_, rfl, rfl⟩ rfl (t_eqlT rfl rfl (by omega)) rfl ?_ | refine Rg.tm ⟨_, rfl, rfl⟩ rfl (t_eqlF rfl rfl (by omega)) rfl ?_ | refine Rg.tm ⟨_, rfl, rfl⟩ rfl (t_eql rfl rfl) rfl ?_ | refine Rg.sk (.inl ⟨_, _, rfl, rfl, rfl⟩) rfl ?_ | refine Rg.sk (.inr ⟨_, rfl, rfl⟩) rfl ?_
        first | refine Rg.tm ⟨_, rfl, rfl⟩ rfl (t_move rfl) rfl ?_ | refine Rg.sk (.inl ⟨_, _, rfl, rfl, rfl⟩) rfl ?_ | refine Rg.sk (.inr ⟨_, rfl, rfl⟩) rfl ?_
        first | refine Rg.tm ⟨_, rfl, rfl⟩ rfl (t_move rfl) rfl ?_ | refine Rg.sk (.inl ⟨_, _, rfl, rfl, rfl⟩) rfl ?_ | refine Rg.sk (.inr ⟨_, rfl, rfl⟩) rfl ?_
        first | refine Rg.tm ⟨_, rfl, rfl⟩ rfl (t_neqT rfl rfl (by omega)) rfl ?_ | refine Rg.tm ⟨_, rfl, rfl⟩ rfl (t_neqF rfl rfl (by omega)) rfl ?_ | refine Rg.tm ⟨_, rfl, rfl⟩ rfl (t_neq rfl rfl) rfl ?_ | refine Rg.sk (.inl ⟨_, _, rfl, rfl, rfl⟩) rfl ?_ | refine Rg.sk (.inr ⟨_, rfl, rfl⟩) rfl ?_
        first | refine Rg.tm ⟨_, rfl, rfl⟩ rfl (t_pickT rfl rfl) rfl ?_ | refine Rg.tm ⟨_, rfl, rfl⟩ rfl (t_pickF rfl rfl) rfl ?_ | refine Rg.sk (.inl ⟨_, _, rfl, rfl, rfl⟩) rfl ?_ | refine Rg.sk (.inr ⟨_, rfl, rfl⟩) rfl ?_
        first | refine Rg.tm trivial rfl (t_pickT rfl rfl) rfl ?_ | refine Rg.tm trivial rfl (t_pickF rfl rfl) rfl ?_
        refine Rg.done ?_
        refine Wp.condF rfl ?_
        refine Wp.skip ?_
        have y1 : RT.valO ts1 = (RT.valO ta).extract (0 : Int).toNat i.toNat := v1
        have y2 : RT.valO ts2 = (RT.valO ta).extract i.toNat (RT.valO ta).size := v2
        have y3 : RT.valO (RT.catO ts1 ts2) = RT.valO ta := by rw [RT.val_cat]; exact hjoin
        have y4 : RT.lenO (RT.catO ts1 ts2) ≤ 2000 := by rw [RT.len_cat]; omega
        refine Wp.seq (Wp.draw [0, 1, 2, 3, 4, 5, 6, 8, 9, 10, 7, 11, 12, 13, 14, 16, 17, 18, 15, 19, 20, 21, 22, 23, 26, 24, 25, 27, 28, 29, 30, 32, 31, 33, 34, 35] [] mixed (by kernel_rfl) (by kernel_rfl) ?_)
        intro w9 hx9 _
        replace hx := hx.ext hx9
        replace hM := hM.ext hx9
        replace hc8 := hc8.ext hx9
        replace hc1 := hc1.ext hx9
        replace hc2 := hc2.ext hx9
        replace ha := ha.ext hx9
        replace h1 := h1.ext hx9
        replace h2 := h2.ext hx9
        refine Rg.wdB trivial rfl (w_call Try.call7 rfl example_ok) rfl (fun _ _ h => h.2) ?_
        rintro _ w10 ⟨rfl, hx10⟩
        replace hx := hx.ext hx10
        replace hM := hM.ext hx10
        replace hc8 := hc8.ext hx10
        replace hc1 := hc1.ext hx10
        replace hc2 := hc2.ext hx10
        replace ha := ha.ext hx10
        replace h1 := h1.ext hx10
        replace h2 := h2.ext hx10
        refine Rg.tm trivial rfl (t_move rfl) rfl ?_
        first | refine Rg.tm ⟨_, rfl, rfl⟩ rfl (t_move rfl) rfl ?_ | refine Rg.sk (.inl ⟨_, _, rfl, rfl, rfl⟩) rfl ?_ | refine Rg.sk (.inr ⟨_, rfl, rfl⟩) rfl ?_
        first | refine Rg.tm ⟨_, rfl, rfl⟩ rfl (t_eqlT rfl rfl (by omega)) rfl ?_ | refine Rg.tm ⟨_, rfl, rfl⟩ rfl (t_eqlF rfl rfl (by omega)) rfl ?_ | refine Rg.tm ⟨_, rfl, rfl⟩ rfl (t_eql rfl rfl) rfl ?_ | refine Rg.sk (.inl ⟨_, _, rfl, rfl, rfl⟩) rfl ?_ | refine Rg.sk (.inr ⟨_, rfl, rfl⟩) rfl ?_
        first | refine Rg.tm trivial rfl (t_pickT rfl rfl) rfl ?_ | refine Rg.tm trivial rfl (t_pickF rfl rfl) rfl ?_
        refine Rg.tm trivial rfl (t_move rfl) rfl ?_
        first | refine Rg.tm ⟨_, rfl, rfl⟩ rfl (t_loadA rfl (by assumption) (by exact ty27)) rfl ?_ | refine Rg.sk (.inl ⟨_, _, rfl, rfl, rfl⟩) rfl ?_ | refine Rg.sk (.inr ⟨_, rfl, rfl⟩) rfl ?_
        first | refine Rg.tm ⟨_, rfl, rfl⟩ rfl (t_move rfl) rfl ?_ | refine Rg.sk (.inl ⟨_, _, rfl, rfl, rfl⟩) rfl ?_ | refine Rg.sk (.inr ⟨_, rfl, rfl⟩) rfl ?_
        first | refine Rg.tm ⟨_, rfl, rfl⟩ rfl (t_move rfl) rfl ?_ | refine Rg.sk (.inl ⟨_, _, rfl, rfl, rfl⟩) rfl ?_ | refine Rg.sk (.inr ⟨_, rfl, rfl⟩) rfl ?_
        first | refine Rg.tm ⟨_, rfl, rfl⟩ rfl (t_sliceS Try.underlying9 rfl rfl rfl (by omega)) rfl ?_ | refine Rg.sk (.inl ⟨_, _, rfl, rfl, rfl⟩) rfl ?_ | refine Rg.sk (.inr ⟨_, rfl, rfl⟩) rfl ?_
        refine Rg.wdB ⟨_, rfl, rfl⟩ rfl (w_call Try.call10 rfl (string_ok h1 (by omega))) rfl (fun _ _ h => h.2) ?_
        rintro _ w11 ⟨rfl, hx11⟩
        replace hx := hx.ext hx11
        replace hM := hM.ext hx11
        replace hc8 := hc8.ext hx11
        replace hc1 := hc1.ext hx11
        replace hc2 := hc2.ext hx11
        replace ha := ha.ext hx11
        replace h1 := h1.ext hx11
        replace h2 := h2.ext hx11
        first | refine Rg.tm ⟨_, rfl, rfl⟩ rfl (t_seqlT rfl rfl (by first | with_reducible rfl | assumption)) rfl ?_ | refine Rg.tm ⟨_, rfl, rfl⟩ rfl (t_seqlF rfl rfl (by assumption)) rfl ?_ | refine Rg.tm ⟨_, rfl, rfl⟩ rfl (t_seql rfl rfl) rfl ?_ | refine Rg.sk (.inl ⟨_, _, rfl, rfl, rfl⟩) rfl ?_ | refine Rg.sk (.inr ⟨_, rfl, rfl⟩) rfl ?_
        first | refine Rg.tm trivial rfl (t_pickT rfl rfl) rfl ?_ | refine Rg.tm trivial rfl (t_pickF rfl rfl) rfl ?_
        refine Rg.tm trivial rfl (t_move rfl) rfl ?_
        first | refine Rg.tm ⟨_, rfl, rfl⟩ rfl (t_loadA rfl (by assumption) (by exact ty27)) rfl ?_ | refine Rg.sk (.inl ⟨_, _, rfl, rfl, rfl⟩) rfl ?_ | refine Rg.sk (.inr ⟨_, rfl, rfl⟩) rfl ?_
        first | refine Rg.tm ⟨_, rfl, rfl⟩ rfl (t_move rfl) rfl ?_ | refine Rg.sk (.inl ⟨_, _, rfl, rfl, rfl⟩) rfl ?_ | refine Rg.sk (.inr ⟨_, rfl, rfl⟩) rfl ?_
        first | refine Rg.tm ⟨_, rfl, rfl⟩ rfl (t_move rfl) rfl ?_ | refine Rg.sk (.inl ⟨_, _, rfl, rfl, rfl⟩) rfl ?_ | refine Rg.sk (.inr ⟨_, rfl, rfl⟩) rfl ?_
        first | refine Rg.tm ⟨_, rfl, rfl⟩ rfl (t_sliceS Try.underlying9 rfl rfl rfl (by omega)) rfl ?_ | refine Rg.sk (.inl ⟨_, _, rfl, rfl, rfl⟩) rfl ?_ | refine Rg.sk (.inr ⟨_, rfl, rfl⟩) rfl ?_
        refine Rg.wdB ⟨_, rfl, rfl⟩ rfl (w_call Try.call10 rfl (string_ok h2 (by omega))) rfl (fun _ _ h => h.2) ?_
        rintro _ w12 ⟨rfl, hx12⟩
        replace hx := hx.ext hx12
        replace hM := hM.ext hx12
        replace hc8 := hc8.ext hx12
        replace hc1 := hc1.ext hx12
        replace hc2 := hc2.ext hx12
        replace ha := ha.ext hx12
        replace h1 := h1.ext hx12
        replace h2 := h2.ext hx12
        first | refine Rg.tm ⟨_, rfl, rfl⟩ rfl (t_seqlT rfl rfl (by first | with_reducible rfl | assumption)) rfl ?_ | refine Rg.tm ⟨_, rfl, rfl⟩ rfl (t_seqlF rfl rfl (by assumption)) rfl ?_ | refine Rg.tm ⟨_, rfl, rfl⟩ rfl (t_seql rfl rfl) rfl ?_ | refine Rg.sk (.inl ⟨_, _, rfl, rfl, rfl⟩) rfl ?_ | refine Rg.sk (.inr ⟨_, rfl, rfl⟩) rfl ?_
        first | refine Rg.tm trivial rfl (t_pickT rfl rfl) rfl ?_ | refine Rg.tm trivial rfl (t_pickF rfl rfl) rfl ?_
        refine Rg.tm trivial rfl (t_move rfl) rfl ?_
        first | refine Rg.tm ⟨_, rfl, rfl⟩ rfl (t_loadA rfl (by assumption) (by exact ty27)) rfl ?_ | refine Rg.sk (.inl ⟨_, _, rfl, rfl, rfl⟩) rfl ?_ | refine Rg.sk (.inr ⟨_, rfl, rfl⟩) rfl ?_
        first | refine Rg.tm ⟨_, rfl, rfl⟩ rfl (t_loadA rfl (by assumption) (by exact ty27)) rfl ?_ | refine Rg.sk (.inl ⟨_, _, rfl, rfl, rfl⟩) rfl ?_ | refine Rg.sk (.inr ⟨_, rfl, rfl⟩) rfl ?_
        first | refine Rg.tm ⟨_, rfl, rfl⟩ rfl (t_move rfl) rfl ?_ | refine Rg.sk (.inl ⟨_, _, rfl, rfl, rfl⟩) rfl ?_ | refine Rg.sk (.inr ⟨_, rfl, rfl⟩) rfl ?_
        refine Rg.wdB ⟨_, rfl, rfl⟩ rfl (w_call Try.call14 rfl (concat_ok hM h1 h2 g1 g2 (by omega))) rfl (fun _ _ h => h.2) ?_
        rintro uc w13 ⟨hcc, hx13⟩
        replace hx := hx.ext hx13
        replace hM := hM.ext hx13
        replace hc8 := hc8.ext hx13
        replace hc1 := hc1.ext hx13
        replace hc2 := hc2.ext hx13
        replace ha := ha.ext hx13
        replace h1 := h1.ext hx13
        replace h2 := h2.ext hx13
        refine Rg.wdB ⟨_, rfl, rfl⟩ rfl (w_call Try.call10 rfl (string_ok hcc (by omega))) rfl (fun _ _ h => h.2) ?_
        rintro _ w14 ⟨rfl, hx14⟩
        replace hx := hx.ext hx14
        replace hM := hM.ext hx14
        replace hc8 := hc8.ext hx14
        replace hc1 := hc1.ext hx14
        replace hc2 := hc2.ext hx14
        replace ha := ha.ext hx14
        replace h1 := h1.ext hx14
        replace h2 := h2.ext hx14
        replace hcc := hcc.ext hx14
        first | refine Rg.tm ⟨_, rfl, rfl⟩ rfl (t_seqlT rfl rfl (by first | with_reducible rfl | assumption)) rfl ?_ | refine Rg.tm ⟨_, rfl, rfl⟩ rfl (t_seqlF rfl rfl (by assumption)) rfl ?_ | refine Rg.tm ⟨_, rfl, rfl⟩ rfl (t_seql rfl rfl) rfl ?_ | refine Rg.sk (.inl ⟨_, _, rfl, rfl, rfl⟩) rfl ?_ | refine Rg.sk (.inr ⟨_, rfl, rfl⟩) rfl ?_
        first | refine Rg.tm trivial rfl (t_pickT rfl rfl) rfl ?_ | refine Rg.tm trivial rfl (t_pickF rfl rfl) rfl ?_
        refine Rg.tm trivial rfl (t_move rfl) rfl ?_
        first | refine Rg.tm ⟨_, rfl, rfl⟩ rfl (t_loadA rfl (by assumption) (by exact ty27)) rfl ?_ | refine Rg.sk (.inl ⟨_, _, rfl, rfl, rfl⟩) rfl ?_ | refine Rg.sk (.inr ⟨_, rfl, rfl⟩) rfl ?_
        first | refine Rg.tm ⟨_, rfl, rfl⟩ rfl (t_move rfl) rfl ?_ | refine Rg.sk (.inl ⟨_, _, rfl, rfl, rfl⟩) rfl ?_ | refine Rg.sk (.inr ⟨_, rfl, rfl⟩) rfl ?_
        refine Rg.wdB ⟨_, rfl, rfl⟩ rfl (w_call Try.call10 rfl (string_ok ha (by omega))) rfl (fun _ _ h => h.2) ?_
        rintro _ w15 ⟨rfl, hx15⟩
        replace hx := hx.ext hx15
        replace hM := hM.ext hx15
        replace hc8 := hc8.ext hx15
        replace hc1 := hc1.ext hx15
        replace hc2 := hc2.ext hx15
        replace ha := ha.ext hx15
        replace h1 := h1.ext hx15
        replace h2 := h2.ext hx15
        replace hcc := hcc.ext hx15
        first | refine Rg.tm ⟨_, rfl, rfl⟩ rfl (t_seqlT rfl rfl (by first | with_reducible rfl | assumption)) rfl ?_ | refine Rg.tm ⟨_, rfl, rfl⟩ rfl (t_seqlF rfl rfl (by assumption)) rfl ?_ | refine Rg.tm ⟨_, rfl, rfl⟩ rfl (t_seql rfl rfl) rfl ?_ | refine Rg.sk (.inl ⟨_, _, rfl, rfl, rfl⟩) rfl ?_ | refine Rg.sk (.inr ⟨_, rfl, rfl⟩) rfl ?_
        first | refine Rg.tm trivial rfl (t_pickT rfl rfl) rfl ?_ | refine Rg.tm trivial rfl (t_pickF rfl rfl) rfl ?_
        refine Rg.tm trivial rfl (t_assign rfl) rfl ?_
        refine Rg.done ?_
        refine Wp.ret ?_
        exact ⟨[_], ⟨rfl, trivial⟩, rfl, hx⟩
    · have hout : i < 0 ∨ (RT.lenO ta : Int) < i := by omega
      have hout2 : i < 0 ∨ (RT.lenO ta : Int) ≤ i := by omega
      refine Wp.seq (Wp.region ?_)
      refine Rg.tm trivial rfl (t_loadA rfl (by assumption) (by exact ty27)) rfl ?_
      refine Rg.tm trivial rfl (t_move rfl) rfl ?_
      refine Rg.wd trivial (w_call Try.call12 rfl (ropeSplit_no hM ha (by omega) hout)) rfl ?_
      rintro _ w5 ⟨rfl, hx5⟩
      replace hx := hx.ext hx5
      replace hM := hM.ext hx5
      replace ha := ha.ext hx5
      replace hc8 := hc8.ext hx5
      replace hv9 := hv9.ext hx5
      have k1 := hx.le
      have k8 := hv9.lt
      refine Rg.tm trivial rfl (t_move rfl) rfl ?_
      refine Rg.tm trivial rfl (t_extract rfl rfl) rfl ?_
      refine Rg.tm trivial rfl (t_extract rfl rfl) rfl ?_
      refine Rg.tm trivial rfl (t_extract rfl rfl) rfl ?_
      refine Rg.wd trivial (w_new Try.zeroValue27 rfl) rfl ?_
      rintro _ w6 ⟨b1, rfl, qb1, hx6, hv1⟩
      replace ha := ha.fresh (Nat.le_of_eq qb1.symm)
      replace hx := hx.ext hx6
      replace hM := hM.ext hx6
      replace ha := ha.ext hx6
      replace hc8 := hc8.ext hx6
      replace hv9 := hv9.ext hx6
      replace hM := hM.push hv1.lt
      have lt1 := hv1.lt
      refine Rg.wd trivial (w_new Try.zeroValue27 rfl) rfl ?_
      rintro _ w7 ⟨b2, rfl, qb2, hx7, hv2⟩
      replace ha := ha.fresh (Nat.le_of_eq qb2.symm)
      replace hx := hx.ext hx7
      replace hM := hM.ext hx7
      replace ha := ha.ext hx7
      replace hc8 := hc8.ext hx7
      replace hv9 := hv9.ext hx7
      replace hv1 := hv1.ext hx7
      replace hM := hM.push hv2.lt
      have lt2 := hv2.lt
      refine Rg.wn trivial (w_put hv1 rfl rfl rfl ty27 rfl rfl) ?_
      rintro _ w52 ⟨hu5, hv1'⟩
      replace hx := hx.upd hu5 (by omega)
      replace hM := hM.upd hu5
      replace hc8 := hc8.upd hu5 (by omega)
      replace hv2 := hv2.upd hu5 (by omega)
      replace ha := ha.upd hu5 (by simp)
      refine Rg.wn trivial (w_put hv2 rfl rfl rfl ty27 rfl rfl) ?_
      rintro _ w62 ⟨hu6, hv2'⟩
      replace hx := hx.upd hu6 (by omega)
      replace hM := hM.upd hu6
      replace hc8 := hc8.upd hu6 (by omega)
      replace hv1' := hv1'.upd hu6 (by omega)
      replace ha := ha.upd hu6 (by simp)
      have hc1 := hv1'.cells
      have hc2 := hv2'.cells
      clear hv1 hv2 hv1' hv2' hv9
      refine Rg.tm trivial rfl (t_assign rfl) rfl ?_
      refine Rg.done ?_
      refine Wp.seq (Wp.region ?_)
      refine Rg.tm trivial rfl (t_loadA rfl (by assumption) (by exact ty27)) rfl ?_
      refine Rg.tm trivial rfl (t_move rfl) rfl ?_
      refine Rg.wd trivial (w_call Try.call13 rfl (byteAt_no ha hout2)) rfl ?_
      rintro _ w8 ⟨rfl, hx8⟩
      replace hx := hx.ext hx8
      replace hM := hM.ext hx8
      replace hc8 := hc8.ext hx8
      replace hc1 := hc1.ext hx8
      replace hc2 := hc2.ext hx8
      replace ha := ha.ext hx8
      refine Rg.tm trivial rfl (t_move rfl) rfl ?_
      refine Rg.tm trivial rfl (t_extract rfl rfl) rfl ?_
      refine Rg.tm trivial rfl (t_extract rfl rfl) rfl ?_
      refine Rg.tm trivial rfl (t_assign rfl) rfl ?_
      refine Rg.tm trivial rfl (t_assign rfl) rfl ?_
      refine Rg.done ?_
      refine Wp.seq ?_
      by_cases hneg : i < 0
      all_goals
        refine Wp.seq (Wp.region ?_)
        refine Rg.tm trivial rfl (t_move rfl) rfl ?_
        first | refine Rg.tm trivial rfl (t_lssT rfl rfl (by omega)) rfl ?_ | refine Rg.tm trivial rfl (t_lssF rfl rfl (by omega)) rfl ?_ | refine Rg.tm trivial rfl (t_lss rfl rfl) rfl ?_
        refine Rg.tm trivial rfl (t_move rfl) rfl ?_
        first | refine Rg.tm ⟨_, rfl, rfl⟩ rfl (t_move rfl) rfl ?_ | refine Rg.sk (.inl ⟨_, _, rfl, rfl, rfl⟩) rfl ?_ | refine Rg.sk (.inr ⟨_, rfl, rfl⟩) rfl ?_
        first | refine Rg.tm ⟨_, rfl, rfl⟩ rfl (t_move rfl) rfl ?_ | refine Rg.sk (.inl ⟨_, _, rfl, rfl, rfl⟩) rfl ?_ | refine Rg.sk (.inr ⟨_, rfl, rfl⟩) rfl ?_
        first | refine Rg.tm ⟨_, rfl, rfl⟩ rfl (t_len Try.underlying9 rfl) rfl ?_ | refine Rg.sk (.inl ⟨_, _, rfl, rfl, rfl⟩) rfl ?_ | refine Rg.sk (.inr ⟨_, rfl, rfl⟩) rfl ?_
        first | refine Rg.tm ⟨_, rfl, rfl⟩ rfl (t_gtrT rfl rfl (by omega)) rfl ?_ | refine Rg.tm ⟨_, rfl, rfl⟩ rfl (t_gtrF rfl rfl (by omega)) rfl ?_ | refine Rg.tm ⟨_, rfl, rfl⟩ rfl (t_gtr rfl rfl) rfl ?_ | refine Rg.sk (.inl ⟨_, _, rfl, rfl, rfl⟩) rfl ?_ | refine Rg.sk (.inr ⟨_, rfl, rfl⟩) rfl ?_
        first | refine Rg.tm trivial rfl (t_pickT rfl rfl) rfl ?_ | refine Rg.tm trivial rfl (t_pickF rfl rfl) rfl ?_
        refine Rg.done ?_
        refine Wp.condT rfl ?_
        refine Wp.seq (Wp.draw [0, 1, 2, 3, 4, 5, 6, 7, 8, 9, 10, 12, 11, 13, 14, 15, 16, 17] [] mixed (by kernel_rfl) (by kernel_rfl) ?_)
        intro w9 hx9 _
        replace hx := hx.ext hx9
        replace hM := hM.ext hx9
        replace hc8 := hc8.ext hx9
        replace hc1 := hc1.ext hx9
        replace hc2 := hc2.ext hx9
        replace ha := ha.ext hx9
        refine Rg.wdB trivial rfl (w_call Try.call7 rfl example_ok) rfl (fun _ _ h => h.2) ?_
        rintro _ w10 ⟨rfl, hx10⟩
        replace hx := hx.ext hx10
        replace hM := hM.ext hx10
        replace hc8 := hc8.ext hx10
        replace hc1 := hc1.ext hx10
        replace hc2 := hc2.ext hx10
        replace ha := ha.ext hx10
        refine Rg.tm trivial rfl (t_move rfl) rfl ?_
        first | refine Rg.tm ⟨_, rfl, rfl⟩ rfl (t_move rfl) rfl ?_ | refine Rg.sk (.inl ⟨_, _, rfl, rfl, rfl⟩) rfl ?_ | refine Rg.sk (.inr ⟨_, rfl, rfl⟩) rfl ?_
        first | refine Rg.tm ⟨_, rfl, rfl⟩ rfl (t_eqlT rfl rfl (by omega)) rfl ?_ | refine Rg.tm ⟨_, rfl, rfl⟩ rfl (t_eqlF rfl rfl (by omega)) rfl ?_ | refine Rg.tm ⟨_, rfl, rfl⟩ rfl (t_eql rfl rfl) rfl ?_ | refine Rg.sk (.inl ⟨_, _, rfl, rfl, rfl⟩) rfl ?_ | refine Rg.sk (.inr ⟨_, rfl, rfl⟩) rfl ?_
        first | refine Rg.tm trivial rfl (t_pickT rfl rfl) rfl ?_ | refine Rg.tm trivial rfl (t_pickF rfl rfl) rfl ?_
        refine Rg.tm trivial rfl (t_move rfl) rfl ?_
        first | refine Rg.tm ⟨_, rfl, rfl⟩ rfl (t_move rfl) rfl ?_ | refine Rg.sk (.inl ⟨_, _, rfl, rfl, rfl⟩) rfl ?_ | refine Rg.sk (.inr ⟨_, rfl, rfl⟩) rfl ?_
        first | refine Rg.tm ⟨_, rfl, rfl⟩ rfl (t_eqlT rfl rfl (by omega)) rfl ?_ | refine Rg.tm ⟨_, rfl, rfl⟩ rfl (t_eqlF rfl rfl (by omega)) rfl ?_ | refine Rg.tm ⟨_, rfl, rfl⟩ rfl (t_eql rfl rfl) rfl ?_ | refine Rg.sk (.inl ⟨_, _, rfl, rfl, rfl⟩) rfl ?_ | refine Rg.sk (.inr ⟨_, rfl, rfl⟩) rfl ?_
        first | refine Rg.tm trivial rfl (t_pickT rfl rfl) rfl ?_ | refine Rg.tm trivial rfl (t_pickF rfl rfl) rfl ?_
        refine Rg.tm trivial rfl (t_move rfl) rfl ?_
        first | refine Rg.tm ⟨_, rfl, rfl⟩ rfl (t_loadA rfl (by assumption) (by exact ty27)) rfl ?_ | refine Rg.sk (.inl ⟨_, _, rfl, rfl, rfl⟩) rfl ?_ | refine Rg.sk (.inr ⟨_, rfl, rfl⟩) rfl ?_
        first | refine Rg.tm ⟨_, rfl, rfl⟩ rfl (t_loadA rfl (by assumption) (by exact ty27)) rfl ?_ | refine Rg.sk (.inl ⟨_, _, rfl, rfl, rfl⟩) rfl ?_ | refine Rg.sk (.inr ⟨_, rfl, rfl⟩) rfl ?_
        refine Rg.wdB ⟨_, rfl, rfl⟩ rfl (w_call Try.call11 rfl (len_ok (M := []) (t := none) ⟨none, rfl, rfl⟩)) rfl (fun _ _ h => h.2) ?_
        rintro _ w11 ⟨rfl, hx11⟩
        replace hx := hx.ext hx11
        replace hM := hM.ext hx11
        replace hc8 := hc8.ext hx11
        replace hc1 := hc1.ext hx11
        replace hc2 := hc2.ext hx11
        replace ha := ha.ext hx11
        refine Rg.wdB ⟨_, rfl, rfl⟩ rfl (w_call Try.call11 rfl (len_ok (M := []) (t := none) ⟨none, rfl, rfl⟩)) rfl (fun _ _ h => h.2) ?_
        rintro _ w12 ⟨rfl, hx12⟩
        replace hx := hx.ext hx12
        replace hM := hM.ext hx12
        replace hc8 := hc8.ext hx12
        replace hc1 := hc1.ext hx12
        replace hc2 := hc2.ext hx12
        replace ha := ha.ext hx12
        first | refine Rg.tm ⟨_, rfl, rfl⟩ rfl (t_addI rfl rfl (by omega)) rfl ?_ | refine Rg.tm ⟨_, rfl, rfl⟩ rfl (t_add rfl rfl) rfl ?_ | refine Rg.sk (.inl ⟨_, _, rfl, rfl, rfl⟩) rfl ?_ | refine Rg.sk (.inr ⟨_, rfl, rfl⟩) rfl ?_
        first | refine Rg.tm ⟨_, rfl, rfl⟩ rfl (t_eqlT rfl rfl (by omega)) rfl ?_ | refine Rg.tm ⟨_, rfl, rfl⟩ rfl (t_eqlF rfl rfl (by omega)) rfl ?_ | refine Rg.tm ⟨_, rfl, rfl⟩ rfl (t_eql rfl rfl) rfl ?_ | refine Rg.sk (.inl ⟨_, _, rfl, rfl, rfl⟩) rfl ?_ | refine Rg.sk (.inr ⟨_, rfl, rfl⟩) rfl ?_
        first | refine Rg.tm trivial rfl (t_pickT rfl rfl) rfl ?_ | refine Rg.tm trivial rfl (t_pickF rfl rfl) rfl ?_
        refine Rg.tm trivial rfl (t_assign rfl) rfl ?_
        refine Rg.done ?_
        refine Wp.ret ?_
        exact ⟨[_], ⟨rfl, trivial⟩, rfl, hx⟩
end Go.Proofs.Yteopmfijfgaldaa
