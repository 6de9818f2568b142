/- The walks of package rope, fourth part: ByteAt, and the helpers of the laws. Printed by ropez.py. -/
import Derived.Test.YteopmfijfgaldaaRy
import Derived.Test.YteopmfijfgaldaaGt
namespace Go.Proofs.Yteopmfijfgaldaa
set_option linter.unusedVariables false
set_option linter.unusedSimpArgs false
open Go.Gx Go.RowKit Go.Lib

/-- the byte at i, as Go's index gives it -/
def bt (s : ByteArray) (i : Nat) : Int := ((s.data.toList.getD i 0).toNat : Int)
theorem bt_left {a b : ByteArray} {i : Nat} (h : i < a.size) : bt (a ++ b) i = bt a i := by
  have h' : i < a.data.toList.length := by rw [Array.length_toList]; exact h
  unfold bt
  rw [ByteArray.data_append, Array.toList_append, List.getD_eq_getElem?_getD, List.getD_eq_getElem?_getD, List.getElem?_append_left h']
theorem bt_right {a b : ByteArray} {i : Nat} (h : a.size ≤ i) : bt (a ++ b) i = bt b (i - a.size) := by
  have h' : a.data.toList.length ≤ i := by rw [Array.length_toList]; exact h
  unfold bt
  rw [ByteArray.data_append, Array.toList_append, List.getD_eq_getElem?_getD, List.getD_eq_getElem?_getD, List.getElem?_append_right h', Array.length_toList]
  rfl

theorem short_ok {w : World} {s : ByteArray} {n : Int} (h : 0 ≤ n) : Cl Try.prog 8 #[.string s, .int .i64 n] w (fun u w' => u = .string (s.extract 0 n.toNat) ∧ w = w') := by
  have e : s.extract (0 : Int).toNat (min (s.size : Int) n).toNat = s.extract 0 n.toNat := by
    by_cases h1 : (s.size : Int) ≤ n
    · have : (min (s.size : Int) n).toNat = s.size := by omega
      rw [this, RT.extract_all (s := s) (i := n.toNat) (by omega)]; exact ByteArray.extract_zero_size
    · have : (min (s.size : Int) n).toNat = n.toNat := by omega
      rw [this]; rfl
  refine Cl.enter Try.func8 rfl Try.ntmps8 rfl rfl ?_
  refine Wp.seq (Wp.region ?_)
  refine Rg.tm trivial rfl (t_assign rfl) rfl ?_
  refine Rg.done ?_
  refine Wp.seq (Wp.region ?_)
  refine Rg.tm trivial rfl (t_move rfl) rfl ?_
  refine Rg.tm trivial rfl (t_move rfl) rfl ?_
  refine Rg.tm trivial rfl (t_len Try.underlying9 rfl) rfl ?_
  refine Rg.tm trivial rfl (t_move rfl) rfl ?_
  refine Rg.tm trivial rfl (t_minI rfl rfl) rfl ?_
  refine Rg.tm trivial rfl (t_sliceS Try.underlying9 rfl rfl rfl (by omega)) rfl ?_
  refine Rg.tm trivial rfl (t_assign rfl) rfl ?_
  refine Rg.done ?_
  refine Wp.ret ?_
  exact ⟨[_], ⟨rfl, trivial⟩, by rw [← e]; rfl, rfl⟩

theorem byteAt_ok {M : List Nat} {w : World} {v : Value} {t : RT} {i : Int} (hl : RopeV M w v (some t)) (ft : t.Full) (hb : t.len < 4611686018427387904) (hi : 0 ≤ i ∧ i < t.len) :
    Cl Try.prog 13 #[v, .int .i64 i] w (fun u w' => u = .tuple #[.int .u8 (bt t.val i.toNat), .int .i64 0] ∧ Ext w w') := by
  have hr := hl
  obtain ⟨p, rfl, hl⟩ := hl
  have hx := Ext.refl w
  have e0 : RT.lenO (some t) = t.len := rfl
  refine Cl.enter Try.func13 rfl Try.ntmps13 rfl rfl ?_
  refine Wp.seq (Wp.region ?_)
  refine Rg.wd trivial (w_boxed rfl rfl) rfl ?_
  rintro _ w1 ⟨b2, rfl, qb2, hx1, hv2⟩
  replace hx := hx.ext hx1
  replace hl := hl.ext hx1
  replace hr := hr.ext hx1
  have hc2 := hv2.cells
  refine Rg.tm trivial rfl (t_assign rfl) rfl ?_
  refine Rg.tm trivial rfl (t_assign rfl) rfl ?_
  refine Rg.done ?_
  refine Wp.seq ?_
  refine Wp.seq (Wp.region ?_)
  refine Rg.tm trivial rfl (t_move rfl) rfl ?_
  first | refine Rg.tm trivial rfl (t_lssT rfl rfl (by omega)) rfl ?_ | refine Rg.tm trivial rfl (t_lssF rfl rfl (by omega)) rfl ?_ | refine Rg.tm trivial rfl (t_lss rfl rfl) rfl ?_
  refine Rg.tm trivial rfl (t_move rfl) rfl ?_
  first | refine Rg.tm ⟨_, rfl, rfl⟩ rfl (t_move rfl) rfl ?_ | refine Rg.sk (.inl ⟨_, _, rfl, rfl, rfl⟩) rfl ?_ | refine Rg.sk (.inr ⟨_, rfl, rfl⟩) rfl ?_
  first | refine Rg.tm ⟨_, rfl, rfl⟩ rfl (t_loadA rfl (by assumption) (by exact ty27)) rfl ?_ | refine Rg.sk (.inl ⟨_, _, rfl, rfl, rfl⟩) rfl ?_ | refine Rg.sk (.inr ⟨_, rfl, rfl⟩) rfl ?_
  refine Rg.wd ⟨_, rfl, rfl⟩ (w_call Try.call11 rfl (len_ok hr)) rfl ?_
  rintro _ w2 ⟨rfl, hx2⟩
  replace hx := hx.ext hx2
  replace hl := hl.ext hx2
  replace hr := hr.ext hx2
  replace hv2 := hv2.ext hx2
  replace hc2 := hc2.ext hx2
  first | refine Rg.tm ⟨_, rfl, rfl⟩ rfl (t_geqT rfl rfl (by omega)) rfl ?_ | refine Rg.tm ⟨_, rfl, rfl⟩ rfl (t_geqF rfl rfl (by omega)) rfl ?_ | refine Rg.tm ⟨_, rfl, rfl⟩ rfl (t_geq rfl rfl) rfl ?_ | refine Rg.sk (.inl ⟨_, _, rfl, rfl, rfl⟩) rfl ?_ | refine Rg.sk (.inr ⟨_, rfl, rfl⟩) rfl ?_
  first | refine Rg.tm trivial rfl (t_pickT rfl rfl) rfl ?_ | refine Rg.tm trivial rfl (t_pickF rfl rfl) rfl ?_
  refine Rg.done ?_
  refine Wp.condF rfl ?_
  refine Wp.skip ?_
  refine Wp.seq (Wp.region ?_)
  refine Rg.tm trivial rfl (t_fieldAddr fa27_0 rfl) rfl ?_
  refine Rg.tm trivial rfl (t_load ty25 rfl (by apply Cells.get (i := 0); (case h => assumption); rfl)) rfl ?_
  refine Rg.tm trivial rfl (t_assign rfl) rfl ?_
  refine Rg.done ?_
  refine Wp.seq ?_
  refine Wp.block ?_
  refine Wp.loop (ι := Value × RT × Int) (fun j => [(1, .int .i64 j.2.2), (6, j.1)])
    (fun j w' => Lies M w' j.1 j.2.1 ∧ j.2.1.Full ∧ (0 ≤ j.2.2 ∧ j.2.2 < j.2.1.len) ∧ bt j.2.1.val j.2.2.toNat = bt t.val i.toNat ∧ Ext w w' ∧ j.2.1.len ≤ t.len)
    (fun j => j.2.1.nodes) (.pointer p, t, i) (.cons rfl (.cons rfl .nil)) ⟨hl, ft, hi, rfl, hx, Nat.le_refl _⟩ ?_
  clear hx hl hr hc2 hv2 hx2 hi ft
  rintro ⟨v, u, j⟩ w3 ⟨hl, ft, hi, hbt, hx, hle⟩
  simp only at hl ft hi hbt hle ⊢
  have f1 := RT.lvs_le u ft
  have f2 := u.hgt_lt
  cases u with
  | leaf s =>
    obtain ⟨c, o, p1, q1, rfl, m, cl⟩ := hl.top
    have e1 : (RT.leaf s).hgt = 0 := rfl
    have e2 : (RT.leaf s).len = s.size := rfl
    have e3 : (RT.leaf s).txt.size = s.size := rfl
    refine Wp.seq ?_
    refine Wp.seq (Wp.region ?_)
    refine Rg.tm trivial rfl (t_move rfl) rfl ?_
    refine Rg.tm trivial rfl (t_nilCheck rfl) rfl ?_
    refine Rg.tm trivial rfl (t_fieldAddr fa56_4 rfl) rfl ?_
    refine Rg.tm trivial rfl (t_load ty3 rfl (by apply Cells.get (i := 4); (case h => assumption); rfl)) rfl ?_
    first | refine Rg.tm trivial rfl (t_gtrT rfl rfl (by omega)) rfl ?_ | refine Rg.tm trivial rfl (t_gtrF rfl rfl (by omega)) rfl ?_ | refine Rg.tm trivial rfl (t_gtr rfl rfl) rfl ?_
    refine Rg.done ?_
    refine Wp.condF rfl ?_
    refine Wp.exit ?_
    refine Wp.seq (Wp.region ?_)
    refine Rg.tm trivial rfl (t_move rfl) rfl ?_
    refine Rg.tm trivial rfl (t_nilCheck rfl) rfl ?_
    refine Rg.tm trivial rfl (t_fieldAddr fa56_2 rfl) rfl ?_
    refine Rg.tm trivial rfl (t_load ty9 rfl (by apply Cells.get (i := 2); (case h => assumption); rfl)) rfl ?_
    refine Rg.tm trivial rfl (t_move rfl) rfl ?_
    refine Rg.tm trivial rfl (t_index Try.underlying9 rfl rfl (by omega)) rfl ?_
    refine Rg.tm trivial rfl (t_assign rfl) rfl ?_
    refine Rg.tm trivial rfl (t_assign rfl) rfl ?_
    refine Rg.done ?_
    refine Wp.ret ?_
    exact ⟨[_, _], ⟨rfl, rfl, trivial⟩, by rw [← hbt]; rfl, hx⟩
  | node l r =>
    obtain ⟨c, o, pl, pr, rfl, m, cl, hll, hlr⟩ := hl
    obtain ⟨fl, fr⟩ := ft
    have e1 : (RT.node l r).hgt ≠ 0 := by simp [RT.hgt]
    have e2 : (RT.node l r).len = l.len + r.len := rfl
    have e3 := RT.len_val l
    obtain ⟨c2, o2, p2, q2, ⟨⟩, m2, cl2⟩ := hll.top
    by_cases hlt : j < l.len
    · skip
      refine Wp.seq ?_
      refine Wp.seq (Wp.region ?_)
      refine Rg.tm trivial rfl (t_move rfl) rfl ?_
      refine Rg.tm trivial rfl (t_nilCheck rfl) rfl ?_
      refine Rg.tm trivial rfl (t_fieldAddr fa56_4 rfl) rfl ?_
      refine Rg.tm trivial rfl (t_load ty3 rfl (by apply Cells.get (i := 4); (case h => assumption); rfl)) rfl ?_
      first | refine Rg.tm trivial rfl (t_gtrT rfl rfl (by omega)) rfl ?_ | refine Rg.tm trivial rfl (t_gtrF rfl rfl (by omega)) rfl ?_ | refine Rg.tm trivial rfl (t_gtr rfl rfl) rfl ?_
      refine Rg.done ?_
      refine Wp.condT rfl ?_
      refine Wp.skip ?_
      refine Wp.block ?_
      refine Wp.seq (Wp.region ?_)
      refine Rg.tm trivial rfl (t_move rfl) rfl ?_
      refine Rg.tm trivial rfl (t_move rfl) rfl ?_
      refine Rg.tm trivial rfl (t_nilCheck rfl) rfl ?_
      refine Rg.tm trivial rfl (t_fieldAddr fa56_0 rfl) rfl ?_
      refine Rg.tm trivial rfl (t_load ty25 rfl (by apply Cells.get (i := 0); (case h => assumption); rfl)) rfl ?_
      refine Rg.tm trivial rfl (t_nilCheck rfl) rfl ?_
      refine Rg.tm trivial rfl (t_fieldAddr fa56_3 rfl) rfl ?_
      refine Rg.tm trivial rfl (t_load ty3 rfl (by apply Cells.get (i := 3); (case h => assumption); rfl)) rfl ?_
      first | refine Rg.tm trivial rfl (t_lssT rfl rfl (by omega)) rfl ?_ | refine Rg.tm trivial rfl (t_lssF rfl rfl (by omega)) rfl ?_ | refine Rg.tm trivial rfl (t_lss rfl rfl) rfl ?_
      refine Rg.done ?_
      refine Wp.condT rfl ?_
      refine Wp.region ?_
      refine Rg.tm trivial rfl (t_move rfl) rfl ?_
      refine Rg.tm trivial rfl (t_nilCheck rfl) rfl ?_
      refine Rg.tm trivial rfl (t_fieldAddr fa56_0 rfl) rfl ?_
      refine Rg.tm trivial rfl (t_load ty25 rfl (by apply Cells.get (i := 0); (case h => assumption); rfl)) rfl ?_
      refine Rg.tm trivial rfl (t_assign rfl) rfl ?_
      refine Rg.done ?_
      exact ⟨(_, l, j), .cons rfl (.cons rfl .nil), ⟨hll, fl, by simp only; omega, by rw [← hbt]; exact (bt_left (by simp only; omega)).symm, hx, by simp only; omega⟩, by simp only [RT.nodes]; omega⟩
    · skip
      refine Wp.seq ?_
      refine Wp.seq (Wp.region ?_)
      refine Rg.tm trivial rfl (t_move rfl) rfl ?_
      refine Rg.tm trivial rfl (t_nilCheck rfl) rfl ?_
      refine Rg.tm trivial rfl (t_fieldAddr fa56_4 rfl) rfl ?_
      refine Rg.tm trivial rfl (t_load ty3 rfl (by apply Cells.get (i := 4); (case h => assumption); rfl)) rfl ?_
      first | refine Rg.tm trivial rfl (t_gtrT rfl rfl (by omega)) rfl ?_ | refine Rg.tm trivial rfl (t_gtrF rfl rfl (by omega)) rfl ?_ | refine Rg.tm trivial rfl (t_gtr rfl rfl) rfl ?_
      refine Rg.done ?_
      refine Wp.condT rfl ?_
      refine Wp.skip ?_
      refine Wp.block ?_
      refine Wp.seq (Wp.region ?_)
      refine Rg.tm trivial rfl (t_move rfl) rfl ?_
      refine Rg.tm trivial rfl (t_move rfl) rfl ?_
      refine Rg.tm trivial rfl (t_nilCheck rfl) rfl ?_
      refine Rg.tm trivial rfl (t_fieldAddr fa56_0 rfl) rfl ?_
      refine Rg.tm trivial rfl (t_load ty25 rfl (by apply Cells.get (i := 0); (case h => assumption); rfl)) rfl ?_
      refine Rg.tm trivial rfl (t_nilCheck rfl) rfl ?_
      refine Rg.tm trivial rfl (t_fieldAddr fa56_3 rfl) rfl ?_
      refine Rg.tm trivial rfl (t_load ty3 rfl (by apply Cells.get (i := 3); (case h => assumption); rfl)) rfl ?_
      first | refine Rg.tm trivial rfl (t_lssT rfl rfl (by omega)) rfl ?_ | refine Rg.tm trivial rfl (t_lssF rfl rfl (by omega)) rfl ?_ | refine Rg.tm trivial rfl (t_lss rfl rfl) rfl ?_
      refine Rg.done ?_
      refine Wp.condF rfl ?_
      refine Wp.seq (Wp.region ?_)
      refine Rg.tm trivial rfl (t_move rfl) rfl ?_
      refine Rg.tm trivial rfl (t_move rfl) rfl ?_
      refine Rg.tm trivial rfl (t_nilCheck rfl) rfl ?_
      refine Rg.tm trivial rfl (t_fieldAddr fa56_0 rfl) rfl ?_
      refine Rg.tm trivial rfl (t_load ty25 rfl (by apply Cells.get (i := 0); (case h => assumption); rfl)) rfl ?_
      refine Rg.tm trivial rfl (t_nilCheck rfl) rfl ?_
      refine Rg.tm trivial rfl (t_fieldAddr fa56_3 rfl) rfl ?_
      refine Rg.tm trivial rfl (t_load ty3 rfl (by apply Cells.get (i := 3); (case h => assumption); rfl)) rfl ?_
      first | refine Rg.tm trivial rfl (t_subI rfl rfl (by omega)) rfl ?_ | refine Rg.tm trivial rfl (t_sub rfl rfl) rfl ?_
      refine Rg.tm trivial rfl (t_assign rfl) rfl ?_
      refine Rg.done ?_
      refine Wp.region ?_
      refine Rg.tm trivial rfl (t_move rfl) rfl ?_
      refine Rg.tm trivial rfl (t_nilCheck rfl) rfl ?_
      refine Rg.tm trivial rfl (t_fieldAddr fa56_1 rfl) rfl ?_
      refine Rg.tm trivial rfl (t_load ty25 rfl (by apply Cells.get (i := 1); (case h => assumption); rfl)) rfl ?_
      refine Rg.tm trivial rfl (t_assign rfl) rfl ?_
      refine Rg.done ?_
      refine ⟨(_, r, j - l.len), .cons rfl (.cons rfl .nil), ⟨hlr, fr, by simp only; omega, ?_, hx, by simp only; omega⟩, by simp only [RT.nodes]; omega⟩
      have e4 : (j - l.len).toNat = j.toNat - l.val.size := by omega
      rw [← hbt, e4]; exact (bt_right (by omega)).symm

theorem byteAt_no {M : List Nat} {w : World} {v : Value} {t : Option RT} {i : Int} (hl : RopeV M w v t) (hi : i < 0 ∨ RT.lenO t ≤ i) :
    Cl Try.prog 13 #[v, .int .i64 i] w (fun u w' => u = .tuple #[.int .u8 0, .int .i64 1] ∧ Ext w w') := by
  have hr := hl
  obtain ⟨p, rfl, hl⟩ := hl
  have hx := Ext.refl w
  by_cases h0 : i < 0
  · skip
    refine Cl.enter Try.func13 rfl Try.ntmps13 rfl rfl ?_
    refine Wp.seq (Wp.region ?_)
    refine Rg.wd trivial (w_boxed rfl rfl) rfl ?_
    rintro _ w1 ⟨b2, rfl, qb2, hx1, hv2⟩
    replace hx := hx.ext hx1
    replace hl := hl.ext hx1
    replace hr := hr.ext hx1
    have hc2 := hv2.cells
    refine Rg.tm trivial rfl (t_assign rfl) rfl ?_
    refine Rg.tm trivial rfl (t_assign rfl) rfl ?_
    refine Rg.done ?_
    refine Wp.seq ?_
    refine Wp.seq (Wp.region ?_)
    refine Rg.tm trivial rfl (t_move rfl) rfl ?_
    first | refine Rg.tm trivial rfl (t_lssT rfl rfl (by omega)) rfl ?_ | refine Rg.tm trivial rfl (t_lssF rfl rfl (by omega)) rfl ?_ | refine Rg.tm trivial rfl (t_lss rfl rfl) rfl ?_
    refine Rg.tm trivial rfl (t_move rfl) rfl ?_
    first | refine Rg.tm ⟨_, rfl, rfl⟩ rfl (t_move rfl) rfl ?_ | refine Rg.sk (.inl ⟨_, _, rfl, rfl, rfl⟩) rfl ?_ | refine Rg.sk (.inr ⟨_, rfl, rfl⟩) rfl ?_
    first | refine Rg.tm ⟨_, rfl, rfl⟩ rfl (t_loadA rfl (by assumption) (by exact ty27)) rfl ?_ | refine Rg.sk (.inl ⟨_, _, rfl, rfl, rfl⟩) rfl ?_ | refine Rg.sk (.inr ⟨_, rfl, rfl⟩) rfl ?_
    first | refine Rg.sk (.inl ⟨_, _, rfl, rfl, rfl⟩) rfl ?_ | refine Rg.sk (.inr ⟨_, rfl, rfl⟩) rfl ?_
    first | refine Rg.tm ⟨_, rfl, rfl⟩ rfl (t_geqT rfl rfl (by omega)) rfl ?_ | refine Rg.tm ⟨_, rfl, rfl⟩ rfl (t_geqF rfl rfl (by omega)) rfl ?_ | refine Rg.tm ⟨_, rfl, rfl⟩ rfl (t_geq rfl rfl) rfl ?_ | refine Rg.sk (.inl ⟨_, _, rfl, rfl, rfl⟩) rfl ?_ | refine Rg.sk (.inr ⟨_, rfl, rfl⟩) rfl ?_
    first | refine Rg.tm trivial rfl (t_pickT rfl rfl) rfl ?_ | refine Rg.tm trivial rfl (t_pickF rfl rfl) rfl ?_
    refine Rg.done ?_
    refine Wp.condT rfl ?_
    refine Wp.seq (Wp.region ?_)
    refine Rg.tm trivial rfl (t_assign rfl) rfl ?_
    refine Rg.tm trivial rfl (t_assign rfl) rfl ?_
    refine Rg.done ?_
    refine Wp.ret ?_
    exact ⟨[_, _], ⟨rfl, rfl, trivial⟩, rfl, hx⟩
  · skip
    refine Cl.enter Try.func13 rfl Try.ntmps13 rfl rfl ?_
    refine Wp.seq (Wp.region ?_)
    refine Rg.wd trivial (w_boxed rfl rfl) rfl ?_
    rintro _ w1 ⟨b2, rfl, qb2, hx1, hv2⟩
    replace hx := hx.ext hx1
    replace hl := hl.ext hx1
    replace hr := hr.ext hx1
    have hc2 := hv2.cells
    refine Rg.tm trivial rfl (t_assign rfl) rfl ?_
    refine Rg.tm trivial rfl (t_assign rfl) rfl ?_
    refine Rg.done ?_
    refine Wp.seq ?_
    refine Wp.seq (Wp.region ?_)
    refine Rg.tm trivial rfl (t_move rfl) rfl ?_
    first | refine Rg.tm trivial rfl (t_lssT rfl rfl (by omega)) rfl ?_ | refine Rg.tm trivial rfl (t_lssF rfl rfl (by omega)) rfl ?_ | refine Rg.tm trivial rfl (t_lss rfl rfl) rfl ?_
    refine Rg.tm trivial rfl (t_move rfl) rfl ?_
    first | refine Rg.tm ⟨_, rfl, rfl⟩ rfl (t_move rfl) rfl ?_ | refine Rg.sk (.inl ⟨_, _, rfl, rfl, rfl⟩) rfl ?_ | refine Rg.sk (.inr ⟨_, rfl, rfl⟩) rfl ?_
    first | refine Rg.tm ⟨_, rfl, rfl⟩ rfl (t_loadA rfl (by assumption) (by exact ty27)) rfl ?_ | refine Rg.sk (.inl ⟨_, _, rfl, rfl, rfl⟩) rfl ?_ | refine Rg.sk (.inr ⟨_, rfl, rfl⟩) rfl ?_
    refine Rg.wd ⟨_, rfl, rfl⟩ (w_call Try.call11 rfl (len_ok hr)) rfl ?_
    rintro _ w2 ⟨rfl, hx2⟩
    replace hx := hx.ext hx2
    replace hl := hl.ext hx2
    replace hr := hr.ext hx2
    replace hv2 := hv2.ext hx2
    replace hc2 := hc2.ext hx2
    first | refine Rg.tm ⟨_, rfl, rfl⟩ rfl (t_geqT rfl rfl (by omega)) rfl ?_ | refine Rg.tm ⟨_, rfl, rfl⟩ rfl (t_geqF rfl rfl (by omega)) rfl ?_ | refine Rg.tm ⟨_, rfl, rfl⟩ rfl (t_geq rfl rfl) rfl ?_ | refine Rg.sk (.inl ⟨_, _, rfl, rfl, rfl⟩) rfl ?_ | refine Rg.sk (.inr ⟨_, rfl, rfl⟩) rfl ?_
    first | refine Rg.tm trivial rfl (t_pickT rfl rfl) rfl ?_ | refine Rg.tm trivial rfl (t_pickF rfl rfl) rfl ?_
    refine Rg.done ?_
    refine Wp.condT rfl ?_
    refine Wp.seq (Wp.region ?_)
    refine Rg.tm trivial rfl (t_assign rfl) rfl ?_
    refine Rg.tm trivial rfl (t_assign rfl) rfl ?_
    refine Rg.done ?_
    refine Wp.ret ?_
    exact ⟨[_, _], ⟨rfl, rfl, trivial⟩, rfl, hx⟩

/-! ### the numbers of leaves -/
def fb : Nat → Nat
  | 0 => 1
  | 1 => 1
  | n + 2 => fb n + fb (n + 1)
theorem fb_pos : ∀ n, 0 < fb n
  | 0 => Nat.one_pos
  | 1 => Nat.one_pos
  | n + 2 => by have := fb_pos n; simp only [fb]; omega
theorem fb_succ (n : Nat) : fb n ≤ fb (n + 1) := by
  match n with
  | 0 => exact Nat.le_refl _
  | n + 1 => simp only [fb]; omega
theorem fb_mono {a b : Nat} (h : a ≤ b) : fb a ≤ fb b := by
  induction h with
  | refl => exact Nat.le_refl _
  | step _ ih => exact Nat.le_trans ih (fb_succ _)
theorem fb_61 : 1099511627776 < fb 61 := by decide +kernel
theorem RT.fb_lvs : ∀ t : RT, t.Bal → fb (t.hgt + 1) ≤ t.lvs
  | .leaf _, _ => Nat.le_refl _
  | .node l r, h => by
    obtain ⟨h1, h2, h3, h4⟩ := h
    have i1 := fb_lvs l h1
    have i2 := fb_lvs r h2
    have k := RT.hgt_node l r
    simp only [RT.lvs]
    obtain ⟨m, hm⟩ : ∃ m, (RT.node l r).hgt = m + 1 := ⟨(RT.node l r).hgt - 1, by omega⟩
    rw [hm]
    show fb m + fb (m + 1) ≤ _
    have a1 : fb (m + 1) ≤ fb (l.hgt + 1) ∨ fb (m + 1) ≤ fb (r.hgt + 1) := by
      rcases k.2.2 with e | e
      · exact .inl (fb_mono (by omega))
      · exact .inr (fb_mono (by omega))
    have a2 : fb m ≤ fb (l.hgt + 1) := fb_mono (by omega)
    have a3 : fb m ≤ fb (r.hgt + 1) := fb_mono (by omega)
    omega
theorem RT.hgt_60 {t : RT} (hf : t.Full) (hb : t.Bal) (h : t.len ≤ 1099511627776) : t.hgt < 60 := by
  rcases Nat.lt_or_ge t.hgt 60 with h1 | h1
  · exact h1
  · have a := RT.fb_lvs t hb
    have b := RT.lvs_le t hf
    have c := fb_mono (show 61 ≤ t.hgt + 1 by omega)
    have e := fb_61
    omega
def hgtO : Option RT → Nat
  | none => 0
  | some t => t.hgt
def lvsO : Option RT → Nat
  | none => 0
  | some t => t.lvs
theorem shape_ok2 {M : List Nat} {w : World} {v : Value} {t : Option RT} (hl : RopeV M w v t) :
    Cl Try.prog 25 #[v] w (fun u w' => u = .tuple #[.int .i64 (hgtO t), .int .i64 (lvsO t)] ∧ Ext w w') := by
  have h := shape_ok hl
  cases t <;> exact h

theorem balanced_ok {M : List Nat} {w : World} {v : Value} {t : Option RT} (hl : RopeV M w v t) (g : RT.Good t) (hb : RT.lenO t ≤ 1099511627776) :
    Cl Try.prog 17 #[v] w (fun u w' => u = .bool true ∧ Ext w w') := by
  have hr := hl
  obtain ⟨p, rfl, hl⟩ := hl
  have hx := Ext.refl w
  have hh : hgtO t < 60 := by
    cases t with
    | none => decide
    | some t => exact RT.hgt_60 g.1 g.2 hb
  have hfb : t ≠ none → fb (hgtO t + 1) ≤ lvsO t ∧ lvsO t ≤ RT.lenO t ∧ 0 < lvsO t := fun hne => by
    cases t with
    | none => exact absurd rfl hne
    | some t => exact ⟨RT.fb_lvs t g.2, RT.lvs_le t g.1, RT.lvs_pos t⟩
  have hlim : fb 61 ≤ 9000000000000 := by decide +kernel
  refine Cl.enter Try.func17 rfl Try.ntmps17 rfl rfl ?_
  refine Wp.seq (Wp.region ?_)
  refine Rg.wd trivial (w_boxed rfl rfl) rfl ?_
  rintro _ w1 ⟨b1, rfl, qb1, hx1, hv1⟩
  replace hx := hx.ext hx1
  replace hl := hl.ext hx1
  replace hr := hr.ext hx1
  have hc1 := hv1.cells
  refine Rg.tm trivial rfl (t_assign rfl) rfl ?_
  refine Rg.done ?_
  refine Wp.seq (Wp.region ?_)
  refine Rg.tm trivial rfl (t_loadA rfl (by assumption) (by exact ty27)) rfl ?_
  refine Rg.wd trivial (w_call Try.call25 rfl (shape_ok2 hr)) rfl ?_
  rintro _ w2 ⟨rfl, hx2⟩
  replace hx := hx.ext hx2
  replace hl := hl.ext hx2
  replace hr := hr.ext hx2
  replace hv1 := hv1.ext hx2
  replace hc1 := hc1.ext hx2
  refine Rg.tm trivial rfl (t_move rfl) rfl ?_
  refine Rg.tm trivial rfl (t_extract rfl rfl) rfl ?_
  refine Rg.tm trivial rfl (t_extract rfl rfl) rfl ?_
  refine Rg.tm trivial rfl (t_assign rfl) rfl ?_
  refine Rg.tm trivial rfl (t_assign rfl) rfl ?_
  refine Rg.done ?_
  refine Wp.seq (Wp.region ?_)
  refine Rg.tm trivial rfl (t_assign rfl) rfl ?_
  refine Rg.tm trivial rfl (t_assign rfl) rfl ?_
  refine Rg.done ?_
  refine Wp.seq ?_
  refine Wp.seq (Wp.region ?_)
  refine Rg.tm trivial rfl (t_move rfl) rfl ?_
  refine Rg.tm trivial rfl (t_move rfl) rfl ?_
  refine Rg.done ?_
  refine Wp.block ?_
  refine Wp.loop (ι := Nat) (fun k => [(1, .pointer (some ⟨b1, 0, none⟩)), (3, .int .i64 (hgtO t)), (4, .int .i64 (lvsO t)), (5, .int .i64 (fb k)), (6, .int .i64 (fb (k + 1))), (12, .int .i64 (hgtO t)), (13, .int .i64 k)])
    (fun k w' => k ≤ hgtO t ∧ Ext w w' ∧ Cells w' b1 0 [.pointer p] ∧ RopeV M w' (.agg #[.pointer p]) t)
    (fun k => hgtO t - k) 0 (by repeat (first | exact .nil | refine .cons rfl ?_)) ⟨Nat.zero_le _, hx, hc1, hr⟩ ?_
  clear hx hl hr hc1 hv1 hx1 hx2
  rintro k w3 ⟨hk, hx, hc1, hr⟩
  have m1 := fb_mono (show k + 2 ≤ 61 by omega)
  have m2 := fb_mono (show k + 1 ≤ 61 by omega)
  have m3 : fb (k + 2) = fb k + fb (k + 1) := rfl
  by_cases hlt : k < hgtO t
  · skip
    refine Wp.seq (Wp.region ?_)
    first | refine Rg.tm trivial rfl (t_lssT rfl rfl (by omega)) rfl ?_ | refine Rg.tm trivial rfl (t_lssF rfl rfl (by omega)) rfl ?_ | refine Rg.tm trivial rfl (t_lss rfl rfl) rfl ?_
    refine Rg.done ?_
    refine Wp.seq ?_
    refine Wp.condT rfl ?_
    refine Wp.skip ?_
    refine Wp.seq ?_
    refine Wp.block ?_
    refine Wp.region ?_
    refine Rg.tm trivial rfl (t_move rfl) rfl ?_
    refine Rg.tm trivial rfl (t_move rfl) rfl ?_
    refine Rg.tm trivial rfl (t_move rfl) rfl ?_
    first | refine Rg.tm trivial rfl (t_addI rfl rfl (by omega)) rfl ?_ | refine Rg.tm trivial rfl (t_add rfl rfl) rfl ?_
    refine Rg.tm trivial rfl (t_assign rfl) rfl ?_
    refine Rg.tm trivial rfl (t_assign rfl) rfl ?_
    refine Rg.done ?_
    refine Wp.region ?_
    first | refine Rg.tm trivial rfl (t_addI rfl rfl (by omega)) rfl ?_ | refine Rg.tm trivial rfl (t_add rfl rfl) rfl ?_
    refine Rg.tm trivial rfl (t_move rfl) rfl ?_
    refine Rg.done ?_
    exact ⟨k + 1, by repeat (first | exact .nil | refine .cons rfl ?_), ⟨hlt, hx, hc1, hr⟩, by omega⟩
  · have hke : k = hgtO t := by omega
    cases t with
    | none =>
      have z1 : hgtO none = 0 := rfl
      have z2 : lvsO none = 0 := rfl
      have z3 : RT.lenO none = 0 := rfl
      refine Wp.seq (Wp.region ?_)
      first | refine Rg.tm trivial rfl (t_lssT rfl rfl (by omega)) rfl ?_ | refine Rg.tm trivial rfl (t_lssF rfl rfl (by omega)) rfl ?_ | refine Rg.tm trivial rfl (t_lss rfl rfl) rfl ?_
      refine Rg.done ?_
      refine Wp.seq ?_
      refine Wp.condF rfl ?_
      refine Wp.exit ?_
      refine Wp.seq (Wp.region ?_)
      refine Rg.tm trivial rfl (t_move rfl) rfl ?_
      first | refine Rg.tm trivial rfl (t_lssT rfl rfl (by omega)) rfl ?_ | refine Rg.tm trivial rfl (t_lssF rfl rfl (by omega)) rfl ?_ | refine Rg.tm trivial rfl (t_lss rfl rfl) rfl ?_
      refine Rg.tm trivial rfl (t_move rfl) rfl ?_
      first | refine Rg.tm ⟨_, rfl, rfl⟩ rfl (t_loadA rfl (by assumption) (by exact ty27)) rfl ?_ | refine Rg.sk (.inl ⟨_, _, rfl, rfl, rfl⟩) rfl ?_ | refine Rg.sk (.inr ⟨_, rfl, rfl⟩) rfl ?_
      refine Rg.wd ⟨_, rfl, rfl⟩ (w_call Try.call11 rfl (len_ok hr)) rfl ?_
      rintro _ w3 ⟨rfl, hx3⟩
      replace hx := hx.ext hx3
      replace hc1 := hc1.ext hx3
      replace hr := hr.ext hx3
      first | refine Rg.tm ⟨_, rfl, rfl⟩ rfl (t_eqlT rfl rfl (by omega)) rfl ?_ | refine Rg.tm ⟨_, rfl, rfl⟩ rfl (t_eqlF rfl rfl (by omega)) rfl ?_ | refine Rg.tm ⟨_, rfl, rfl⟩ rfl (t_eql rfl rfl) rfl ?_ | refine Rg.sk (.inl ⟨_, _, rfl, rfl, rfl⟩) rfl ?_ | refine Rg.sk (.inr ⟨_, rfl, rfl⟩) rfl ?_
      first | refine Rg.tm ⟨_, rfl, rfl⟩ rfl (t_move rfl) rfl ?_ | refine Rg.sk (.inl ⟨_, _, rfl, rfl, rfl⟩) rfl ?_ | refine Rg.sk (.inr ⟨_, rfl, rfl⟩) rfl ?_
      first | refine Rg.tm ⟨_, rfl, rfl⟩ rfl (t_move rfl) rfl ?_ | refine Rg.sk (.inl ⟨_, _, rfl, rfl, rfl⟩) rfl ?_ | refine Rg.sk (.inr ⟨_, rfl, rfl⟩) rfl ?_
      first | refine Rg.tm ⟨_, rfl, rfl⟩ rfl (t_eqlT rfl rfl (by omega)) rfl ?_ | refine Rg.tm ⟨_, rfl, rfl⟩ rfl (t_eqlF rfl rfl (by omega)) rfl ?_ | refine Rg.tm ⟨_, rfl, rfl⟩ rfl (t_eql rfl rfl) rfl ?_ | refine Rg.sk (.inl ⟨_, _, rfl, rfl, rfl⟩) rfl ?_ | refine Rg.sk (.inr ⟨_, rfl, rfl⟩) rfl ?_
      first | refine Rg.tm ⟨_, rfl, rfl⟩ rfl (t_pickT rfl rfl) rfl ?_ | refine Rg.tm ⟨_, rfl, rfl⟩ rfl (t_pickF rfl rfl) rfl ?_ | refine Rg.sk (.inl ⟨_, _, rfl, rfl, rfl⟩) rfl ?_ | refine Rg.sk (.inr ⟨_, rfl, rfl⟩) rfl ?_
      first | refine Rg.tm ⟨_, rfl, rfl⟩ rfl (t_move rfl) rfl ?_ | refine Rg.sk (.inl ⟨_, _, rfl, rfl, rfl⟩) rfl ?_ | refine Rg.sk (.inr ⟨_, rfl, rfl⟩) rfl ?_
      first | refine Rg.tm ⟨_, rfl, rfl⟩ rfl (t_move rfl) rfl ?_ | refine Rg.sk (.inl ⟨_, _, rfl, rfl, rfl⟩) rfl ?_ | refine Rg.sk (.inr ⟨_, rfl, rfl⟩) rfl ?_
      first | refine Rg.tm ⟨_, rfl, rfl⟩ rfl (t_eqlT rfl rfl (by omega)) rfl ?_ | refine Rg.tm ⟨_, rfl, rfl⟩ rfl (t_eqlF rfl rfl (by omega)) rfl ?_ | refine Rg.tm ⟨_, rfl, rfl⟩ rfl (t_eql rfl rfl) rfl ?_ | refine Rg.sk (.inl ⟨_, _, rfl, rfl, rfl⟩) rfl ?_ | refine Rg.sk (.inr ⟨_, rfl, rfl⟩) rfl ?_
      first | refine Rg.tm ⟨_, rfl, rfl⟩ rfl (t_pickT rfl rfl) rfl ?_ | refine Rg.tm ⟨_, rfl, rfl⟩ rfl (t_pickF rfl rfl) rfl ?_ | refine Rg.sk (.inl ⟨_, _, rfl, rfl, rfl⟩) rfl ?_ | refine Rg.sk (.inr ⟨_, rfl, rfl⟩) rfl ?_
      first | refine Rg.tm ⟨_, rfl, rfl⟩ rfl (t_move rfl) rfl ?_ | refine Rg.sk (.inl ⟨_, _, rfl, rfl, rfl⟩) rfl ?_ | refine Rg.sk (.inr ⟨_, rfl, rfl⟩) rfl ?_
      first | refine Rg.tm ⟨_, rfl, rfl⟩ rfl (t_move rfl) rfl ?_ | refine Rg.sk (.inl ⟨_, _, rfl, rfl, rfl⟩) rfl ?_ | refine Rg.sk (.inr ⟨_, rfl, rfl⟩) rfl ?_
      first | refine Rg.tm ⟨_, rfl, rfl⟩ rfl (t_move rfl) rfl ?_ | refine Rg.sk (.inl ⟨_, _, rfl, rfl, rfl⟩) rfl ?_ | refine Rg.sk (.inr ⟨_, rfl, rfl⟩) rfl ?_
      first | refine Rg.tm ⟨_, rfl, rfl⟩ rfl (t_geqT rfl rfl (by omega)) rfl ?_ | refine Rg.tm ⟨_, rfl, rfl⟩ rfl (t_geqF rfl rfl (by omega)) rfl ?_ | refine Rg.tm ⟨_, rfl, rfl⟩ rfl (t_geq rfl rfl) rfl ?_ | refine Rg.sk (.inl ⟨_, _, rfl, rfl, rfl⟩) rfl ?_ | refine Rg.sk (.inr ⟨_, rfl, rfl⟩) rfl ?_
      first | refine Rg.tm ⟨_, rfl, rfl⟩ rfl (t_move rfl) rfl ?_ | refine Rg.sk (.inl ⟨_, _, rfl, rfl, rfl⟩) rfl ?_ | refine Rg.sk (.inr ⟨_, rfl, rfl⟩) rfl ?_
      first | refine Rg.tm ⟨_, rfl, rfl⟩ rfl (t_move rfl) rfl ?_ | refine Rg.sk (.inl ⟨_, _, rfl, rfl, rfl⟩) rfl ?_ | refine Rg.sk (.inr ⟨_, rfl, rfl⟩) rfl ?_
      first | refine Rg.tm ⟨_, rfl, rfl⟩ rfl (t_loadA rfl (by assumption) (by exact ty27)) rfl ?_ | refine Rg.sk (.inl ⟨_, _, rfl, rfl, rfl⟩) rfl ?_ | refine Rg.sk (.inr ⟨_, rfl, rfl⟩) rfl ?_
      first | refine Rg.sk (.inl ⟨_, _, rfl, rfl, rfl⟩) rfl ?_ | refine Rg.sk (.inr ⟨_, rfl, rfl⟩) rfl ?_
      first | refine Rg.tm ⟨_, rfl, rfl⟩ rfl (t_leqT rfl rfl (by omega)) rfl ?_ | refine Rg.tm ⟨_, rfl, rfl⟩ rfl (t_leqF rfl rfl (by omega)) rfl ?_ | refine Rg.tm ⟨_, rfl, rfl⟩ rfl (t_leq rfl rfl) rfl ?_ | refine Rg.sk (.inl ⟨_, _, rfl, rfl, rfl⟩) rfl ?_ | refine Rg.sk (.inr ⟨_, rfl, rfl⟩) rfl ?_
      first | refine Rg.tm ⟨_, rfl, rfl⟩ rfl (t_pickT rfl rfl) rfl ?_ | refine Rg.tm ⟨_, rfl, rfl⟩ rfl (t_pickF rfl rfl) rfl ?_ | refine Rg.sk (.inl ⟨_, _, rfl, rfl, rfl⟩) rfl ?_ | refine Rg.sk (.inr ⟨_, rfl, rfl⟩) rfl ?_
      first | refine Rg.tm ⟨_, rfl, rfl⟩ rfl (t_pickT rfl rfl) rfl ?_ | refine Rg.tm ⟨_, rfl, rfl⟩ rfl (t_pickF rfl rfl) rfl ?_ | refine Rg.sk (.inl ⟨_, _, rfl, rfl, rfl⟩) rfl ?_ | refine Rg.sk (.inr ⟨_, rfl, rfl⟩) rfl ?_
      first | refine Rg.tm trivial rfl (t_pickT rfl rfl) rfl ?_ | refine Rg.tm trivial rfl (t_pickF rfl rfl) rfl ?_
      refine Rg.tm trivial rfl (t_assign rfl) rfl ?_
      refine Rg.done ?_
      refine Wp.ret ?_
      exact ⟨[_], ⟨rfl, trivial⟩, rfl, hx⟩
    | some t =>
      obtain ⟨n1, n2, n3⟩ := hfb (by simp)
      have n4 : fb (k + 1) ≤ lvsO (some t) := by rw [hke]; exact n1
      refine Wp.seq (Wp.region ?_)
      first | refine Rg.tm trivial rfl (t_lssT rfl rfl (by omega)) rfl ?_ | refine Rg.tm trivial rfl (t_lssF rfl rfl (by omega)) rfl ?_ | refine Rg.tm trivial rfl (t_lss rfl rfl) rfl ?_
      refine Rg.done ?_
      refine Wp.seq ?_
      refine Wp.condF rfl ?_
      refine Wp.exit ?_
      refine Wp.seq (Wp.region ?_)
      refine Rg.tm trivial rfl (t_move rfl) rfl ?_
      first | refine Rg.tm trivial rfl (t_lssT rfl rfl (by omega)) rfl ?_ | refine Rg.tm trivial rfl (t_lssF rfl rfl (by omega)) rfl ?_ | refine Rg.tm trivial rfl (t_lss rfl rfl) rfl ?_
      refine Rg.tm trivial rfl (t_move rfl) rfl ?_
      first | refine Rg.tm ⟨_, rfl, rfl⟩ rfl (t_loadA rfl (by assumption) (by exact ty27)) rfl ?_ | refine Rg.sk (.inl ⟨_, _, rfl, rfl, rfl⟩) rfl ?_ | refine Rg.sk (.inr ⟨_, rfl, rfl⟩) rfl ?_
      refine Rg.wd ⟨_, rfl, rfl⟩ (w_call Try.call11 rfl (len_ok hr)) rfl ?_
      rintro _ w3 ⟨rfl, hx3⟩
      replace hx := hx.ext hx3
      replace hc1 := hc1.ext hx3
      replace hr := hr.ext hx3
      first | refine Rg.tm ⟨_, rfl, rfl⟩ rfl (t_eqlT rfl rfl (by omega)) rfl ?_ | refine Rg.tm ⟨_, rfl, rfl⟩ rfl (t_eqlF rfl rfl (by omega)) rfl ?_ | refine Rg.tm ⟨_, rfl, rfl⟩ rfl (t_eql rfl rfl) rfl ?_ | refine Rg.sk (.inl ⟨_, _, rfl, rfl, rfl⟩) rfl ?_ | refine Rg.sk (.inr ⟨_, rfl, rfl⟩) rfl ?_
      first | refine Rg.tm ⟨_, rfl, rfl⟩ rfl (t_move rfl) rfl ?_ | refine Rg.sk (.inl ⟨_, _, rfl, rfl, rfl⟩) rfl ?_ | refine Rg.sk (.inr ⟨_, rfl, rfl⟩) rfl ?_
      first | refine Rg.tm ⟨_, rfl, rfl⟩ rfl (t_move rfl) rfl ?_ | refine Rg.sk (.inl ⟨_, _, rfl, rfl, rfl⟩) rfl ?_ | refine Rg.sk (.inr ⟨_, rfl, rfl⟩) rfl ?_
      first | refine Rg.tm ⟨_, rfl, rfl⟩ rfl (t_eqlT rfl rfl (by omega)) rfl ?_ | refine Rg.tm ⟨_, rfl, rfl⟩ rfl (t_eqlF rfl rfl (by omega)) rfl ?_ | refine Rg.tm ⟨_, rfl, rfl⟩ rfl (t_eql rfl rfl) rfl ?_ | refine Rg.sk (.inl ⟨_, _, rfl, rfl, rfl⟩) rfl ?_ | refine Rg.sk (.inr ⟨_, rfl, rfl⟩) rfl ?_
      first | refine Rg.tm ⟨_, rfl, rfl⟩ rfl (t_pickT rfl rfl) rfl ?_ | refine Rg.tm ⟨_, rfl, rfl⟩ rfl (t_pickF rfl rfl) rfl ?_ | refine Rg.sk (.inl ⟨_, _, rfl, rfl, rfl⟩) rfl ?_ | refine Rg.sk (.inr ⟨_, rfl, rfl⟩) rfl ?_
      first | refine Rg.tm ⟨_, rfl, rfl⟩ rfl (t_move rfl) rfl ?_ | refine Rg.sk (.inl ⟨_, _, rfl, rfl, rfl⟩) rfl ?_ | refine Rg.sk (.inr ⟨_, rfl, rfl⟩) rfl ?_
      first | refine Rg.tm ⟨_, rfl, rfl⟩ rfl (t_move rfl) rfl ?_ | refine Rg.sk (.inl ⟨_, _, rfl, rfl, rfl⟩) rfl ?_ | refine Rg.sk (.inr ⟨_, rfl, rfl⟩) rfl ?_
      first | refine Rg.tm ⟨_, rfl, rfl⟩ rfl (t_eqlT rfl rfl (by omega)) rfl ?_ | refine Rg.tm ⟨_, rfl, rfl⟩ rfl (t_eqlF rfl rfl (by omega)) rfl ?_ | refine Rg.tm ⟨_, rfl, rfl⟩ rfl (t_eql rfl rfl) rfl ?_ | refine Rg.sk (.inl ⟨_, _, rfl, rfl, rfl⟩) rfl ?_ | refine Rg.sk (.inr ⟨_, rfl, rfl⟩) rfl ?_
      first | refine Rg.tm ⟨_, rfl, rfl⟩ rfl (t_pickT rfl rfl) rfl ?_ | refine Rg.tm ⟨_, rfl, rfl⟩ rfl (t_pickF rfl rfl) rfl ?_ | refine Rg.sk (.inl ⟨_, _, rfl, rfl, rfl⟩) rfl ?_ | refine Rg.sk (.inr ⟨_, rfl, rfl⟩) rfl ?_
      first | refine Rg.tm ⟨_, rfl, rfl⟩ rfl (t_move rfl) rfl ?_ | refine Rg.sk (.inl ⟨_, _, rfl, rfl, rfl⟩) rfl ?_ | refine Rg.sk (.inr ⟨_, rfl, rfl⟩) rfl ?_
      first | refine Rg.tm ⟨_, rfl, rfl⟩ rfl (t_move rfl) rfl ?_ | refine Rg.sk (.inl ⟨_, _, rfl, rfl, rfl⟩) rfl ?_ | refine Rg.sk (.inr ⟨_, rfl, rfl⟩) rfl ?_
      first | refine Rg.tm ⟨_, rfl, rfl⟩ rfl (t_move rfl) rfl ?_ | refine Rg.sk (.inl ⟨_, _, rfl, rfl, rfl⟩) rfl ?_ | refine Rg.sk (.inr ⟨_, rfl, rfl⟩) rfl ?_
      first | refine Rg.tm ⟨_, rfl, rfl⟩ rfl (t_geqT rfl rfl (by omega)) rfl ?_ | refine Rg.tm ⟨_, rfl, rfl⟩ rfl (t_geqF rfl rfl (by omega)) rfl ?_ | refine Rg.tm ⟨_, rfl, rfl⟩ rfl (t_geq rfl rfl) rfl ?_ | refine Rg.sk (.inl ⟨_, _, rfl, rfl, rfl⟩) rfl ?_ | refine Rg.sk (.inr ⟨_, rfl, rfl⟩) rfl ?_
      first | refine Rg.tm ⟨_, rfl, rfl⟩ rfl (t_move rfl) rfl ?_ | refine Rg.sk (.inl ⟨_, _, rfl, rfl, rfl⟩) rfl ?_ | refine Rg.sk (.inr ⟨_, rfl, rfl⟩) rfl ?_
      first | refine Rg.tm ⟨_, rfl, rfl⟩ rfl (t_move rfl) rfl ?_ | refine Rg.sk (.inl ⟨_, _, rfl, rfl, rfl⟩) rfl ?_ | refine Rg.sk (.inr ⟨_, rfl, rfl⟩) rfl ?_
      first | refine Rg.tm ⟨_, rfl, rfl⟩ rfl (t_loadA rfl (by assumption) (by exact ty27)) rfl ?_ | refine Rg.sk (.inl ⟨_, _, rfl, rfl, rfl⟩) rfl ?_ | refine Rg.sk (.inr ⟨_, rfl, rfl⟩) rfl ?_
      refine Rg.wd ⟨_, rfl, rfl⟩ (w_call Try.call11 rfl (len_ok hr)) rfl ?_
      rintro _ w4 ⟨rfl, hx4⟩
      replace hx := hx.ext hx4
      replace hc1 := hc1.ext hx4
      replace hr := hr.ext hx4
      first | refine Rg.tm ⟨_, rfl, rfl⟩ rfl (t_leqT rfl rfl (by omega)) rfl ?_ | refine Rg.tm ⟨_, rfl, rfl⟩ rfl (t_leqF rfl rfl (by omega)) rfl ?_ | refine Rg.tm ⟨_, rfl, rfl⟩ rfl (t_leq rfl rfl) rfl ?_ | refine Rg.sk (.inl ⟨_, _, rfl, rfl, rfl⟩) rfl ?_ | refine Rg.sk (.inr ⟨_, rfl, rfl⟩) rfl ?_
      first | refine Rg.tm ⟨_, rfl, rfl⟩ rfl (t_pickT rfl rfl) rfl ?_ | refine Rg.tm ⟨_, rfl, rfl⟩ rfl (t_pickF rfl rfl) rfl ?_ | refine Rg.sk (.inl ⟨_, _, rfl, rfl, rfl⟩) rfl ?_ | refine Rg.sk (.inr ⟨_, rfl, rfl⟩) rfl ?_
      first | refine Rg.tm ⟨_, rfl, rfl⟩ rfl (t_pickT rfl rfl) rfl ?_ | refine Rg.tm ⟨_, rfl, rfl⟩ rfl (t_pickF rfl rfl) rfl ?_ | refine Rg.sk (.inl ⟨_, _, rfl, rfl, rfl⟩) rfl ?_ | refine Rg.sk (.inr ⟨_, rfl, rfl⟩) rfl ?_
      first | refine Rg.tm trivial rfl (t_pickT rfl rfl) rfl ?_ | refine Rg.tm trivial rfl (t_pickF rfl rfl) rfl ?_
      refine Rg.tm trivial rfl (t_assign rfl) rfl ?_
      refine Rg.done ?_
      refine Wp.ret ?_
      exact ⟨[_], ⟨rfl, trivial⟩, rfl, hx⟩
end Go.Proofs.Yteopmfijfgaldaa
