/- The walks of the laws RelexSequence and RelexIdentity. Printed by doort.py. -/
import Derived.Test.YteopmfijfgaldaaDoorLu
namespace Go.Proofs.YteopmfijfgaldaaDoor
set_option linter.unusedVariables false
set_option linter.unusedSimpArgs false
set_option maxRecDepth 20000
open Go.Gx Go.RowKit Go.Lib

theorem splice_ok {w : World} {s t : ByteArray} {a b : Nat} (hs : s.size ≤ 2000) (ht : t.size ≤ 2000) (hab : a ≤ b) (hb : b ≤ s.size) :
    Cl Tryd.prog 25 #[.string s, .agg #[.int .i64 a, .int .i64 b, .string t]] w (fun u w' => u = .string (spl s a b t) ∧ Ext w w') := by
  have hx := Ext.refl w
  have hz := spl_size (s := s) (t := t) hab hb
  have z1 : (s.extract (0 : Int).toNat (a : Int).toNat).size ≤ 2000 := by rw [ByteArray.size_extract]; omega
  have z2 : (s.extract (b : Int).toNat s.size).size ≤ 2000 := by rw [ByteArray.size_extract]; omega
  have z3 : (s.extract (0 : Int).toNat (a : Int).toNat ++ t).size ≤ 4000 := by rw [ByteArray.size_append]; omega
  refine Cl.enter Tryd.func25 rfl Tryd.ntmps25 rfl rfl ?_
  refine Wp.seq (Wp.region ?_)
  refine Rg.wd trivial (w_boxed rfl rfl) rfl ?_
  rintro _ w1 ⟨b3, rfl, qb3, hx1, hv3⟩
  replace hx := hx.ext hx1
  have hc3 := hv3.cells
  refine Rg.tm trivial rfl (t_assign rfl) rfl ?_
  refine Rg.done ?_
  refine Wp.seq (Wp.draw [0, 1, 2, 3, 4, 5, 6, 7, 8, 9, 10, 11, 12] [] mixed (by kernel_rfl) (by kernel_rfl) ?_)
  intro w2 hx2 _
  replace hx := hx.ext hx2
  replace hv3 := hv3.ext hx2
  replace hc3 := hc3.ext hx2
  refine Rg.tm trivial rfl (t_move rfl) rfl ?_
  refine Rg.tm trivial rfl (t_fieldAddr fa48_0 rfl) rfl ?_
  refine Rg.tm trivial rfl (t_load ty3 rfl (by apply Cells.get (i := 0); (case h => assumption); rfl)) rfl ?_
  refine Rg.tm trivial rfl (t_sliceS Tryd.underlying9 rfl rfl rfl (by omega)) rfl ?_
  refine Rg.tm trivial rfl (t_fieldAddr fa48_2 rfl) rfl ?_
  refine Rg.tm trivial rfl (t_load ty9 rfl (by apply Cells.get (i := 2); (case h => assumption); rfl)) rfl ?_
  refine Rg.tm trivial rfl (t_sadd rfl rfl (by omega)) rfl ?_
  refine Rg.tm trivial rfl (t_move rfl) rfl ?_
  refine Rg.tm trivial rfl (t_fieldAddr fa48_1 rfl) rfl ?_
  refine Rg.tm trivial rfl (t_load ty3 rfl (by apply Cells.get (i := 1); (case h => assumption); rfl)) rfl ?_
  refine Rg.tm trivial rfl (t_sliceS Tryd.underlying9 rfl rfl rfl (by omega)) rfl ?_
  refine Rg.tm trivial rfl (t_sadd rfl rfl (by simp only [Int.toNat_natCast] at z2 z3 ⊢; omega)) rfl ?_
  refine Rg.tm trivial rfl (t_assign rfl) rfl ?_
  refine Rg.done ?_
  refine Wp.ret ?_
  exact ⟨[_], ⟨rfl, trivial⟩, rfl, hx⟩

theorem spl_same {s : ByteArray} {a b : Nat} (h1 : a ≤ b) (h2 : b ≤ s.size) : spl s a b (s.extract a b) = s := by
  unfold spl
  apply by_list
  rw [list_app, list_app, list_front, list_cut, list_tail]
  have e1 : (s.data.toList.drop a).take (b - a) ++ s.data.toList.drop b = s.data.toList.drop a := by
    have h3 := List.take_append_drop (b - a) (s.data.toList.drop a)
    rw [List.drop_drop, show a + (b - a) = b from by omega] at h3
    exact h3
  rw [List.append_assoc, e1, List.take_append_drop]
theorem identityLaw {w : World} {s0 : ByteArray} {x y : Int} (hA : Asc w) : Cl Tryd.prog 10 #[.string s0, .int .i64 x, .int .i64 y] w (fun u w' => u = .bool true ∧ Ext w w') := by
  have hx := Ext.refl w
  obtain ⟨s, hs0⟩ : ∃ z, s0.extract 0 (300 : Int).toNat = z := ⟨_, rfl⟩
  have hs : s.size ≤ 300 := by rw [← hs0, ByteArray.size_extract]; omega
  have htl := toks_length s
  refine Cl.enter Tryd.func10 rfl Tryd.ntmps10 rfl rfl ?_
  refine Wp.seq (Wp.region ?_)
  refine Rg.tm trivial rfl (t_assign rfl) rfl ?_
  refine Rg.done ?_
  refine Wp.seq ?_
  refine Wp.seq (Wp.region ?_)
  refine Rg.wd trivial (w_call Tryd.call18 rfl (lexample_ok (hA.ext hx))) rfl ?_
  rintro _ w1 ⟨rfl, hx1⟩
  replace hx := hx.ext hx1
  refine Rg.tm trivial rfl (t_notB rfl) rfl ?_
  refine Rg.done ?_
  refine Wp.condF rfl ?_
  refine Wp.skip ?_
  refine Wp.seq (Wp.region ?_)
  refine Rg.tm trivial rfl (t_move rfl) rfl ?_
  refine Rg.wd trivial (w_call Tryd.call12 rfl (short_ok (n := 300) (by decide))) rfl ?_
  rintro _ _ ⟨rfl, rfl⟩
  rw [hs0]
  refine Rg.tm trivial rfl (t_assign rfl) rfl ?_
  refine Rg.done ?_
  refine Wp.seq (Wp.region ?_)
  refine Rg.tm trivial rfl (t_move rfl) rfl ?_
  refine Rg.wd trivial (w_call Tryd.call19 rfl (tokenize_ok (by omega) (hA.ext hx))) rfl ?_
  rintro _ w2 ⟨⟨v7, rfl, hv7⟩, hx2⟩
  replace hx := hx.ext hx2
  refine Rg.tm trivial rfl (t_move rfl) rfl ?_
  refine Rg.tm trivial rfl (t_extract rfl rfl) rfl ?_
  refine Rg.tm trivial rfl (t_extract rfl rfl) rfl ?_
  refine Rg.tm trivial rfl (t_assign rfl) rfl ?_
  refine Rg.tm trivial rfl (t_assign rfl) rfl ?_
  refine Rg.done ?_
  refine Wp.seq (Wp.region ?_)
  refine Rg.tm trivial rfl (t_move rfl) rfl ?_
  refine Rg.tm trivial rfl (t_move rfl) rfl ?_
  refine Rg.tm trivial rfl (t_len Tryd.underlying9 rfl) rfl ?_
  first | refine Rg.tm trivial rfl (t_addI rfl rfl (by omega)) rfl ?_ | refine Rg.tm trivial rfl (t_add rfl rfl) rfl ?_
  refine Rg.wd trivial (w_call Tryd.call21 rfl (mod_ok (by omega) (by omega))) rfl ?_
  rintro _ _ ⟨⟨a, rfl, ha, _⟩, rfl⟩
  refine Rg.tm trivial rfl (t_assign rfl) rfl ?_
  refine Rg.done ?_
  refine Wp.seq (Wp.region ?_)
  refine Rg.tm trivial rfl (t_move rfl) rfl ?_
  refine Rg.tm trivial rfl (t_move rfl) rfl ?_
  refine Rg.tm trivial rfl (t_move rfl) rfl ?_
  refine Rg.tm trivial rfl (t_len Tryd.underlying9 rfl) rfl ?_
  refine Rg.tm trivial rfl (t_move rfl) rfl ?_
  first | refine Rg.tm trivial rfl (t_subI rfl rfl (by omega)) rfl ?_ | refine Rg.tm trivial rfl (t_sub rfl rfl) rfl ?_
  first | refine Rg.tm trivial rfl (t_addI rfl rfl (by omega)) rfl ?_ | refine Rg.tm trivial rfl (t_add rfl rfl) rfl ?_
  refine Rg.wd trivial (w_call Tryd.call21 rfl (mod_ok (by omega) (by omega))) rfl ?_
  rintro _ _ ⟨⟨c, rfl, hc, _⟩, rfl⟩
  first | refine Rg.tm trivial rfl (t_addI rfl rfl (by omega)) rfl ?_ | refine Rg.tm trivial rfl (t_add rfl rfl) rfl ?_
  rw [show (a : Int) + (c : Nat) = ((a + c : Nat) : Int) from rfl]
  have es := spl_same (s := s) (a := a) (b := a + c) (by omega) (by omega)
  refine Rg.tm trivial rfl (t_assign rfl) rfl ?_
  refine Rg.done ?_
  refine Wp.seq (Wp.region ?_)
  refine Rg.tm trivial rfl (t_move rfl) rfl ?_
  refine Rg.tm trivial rfl (t_move rfl) rfl ?_
  refine Rg.tm trivial rfl (t_move rfl) rfl ?_
  refine Rg.tm trivial rfl (t_move rfl) rfl ?_
  refine Rg.tm trivial rfl (t_move rfl) rfl ?_
  refine Rg.tm trivial rfl (t_move rfl) rfl ?_
  refine Rg.tm trivial rfl (t_move rfl) rfl ?_
  refine Rg.tm trivial rfl (t_sliceS Tryd.underlying9 rfl rfl rfl (by omega)) rfl ?_
  refine Rg.tm trivial rfl (t_build (bd48_0_1_2 _ _ _) rfl) rfl ?_
  simp only [Int.toNat_natCast]
  refine Rg.wd trivial (w_call Tryd.call24 rfl (update_ok (hA.ext hx) (by omega) (Nat.le_add_right a c) (by omega) (by rw [es]; omega) hv7)) rfl ?_
  rintro _ w3 ⟨⟨v11, n, rfl, h11, hn1, hn2⟩, hx3⟩
  replace hx := hx.ext hx3
  replace hv7 := hv7.ext hx3
  rw [es] at h11
  refine Rg.tm trivial rfl (t_move rfl) rfl ?_
  refine Rg.tm trivial rfl (t_extract rfl rfl) rfl ?_
  refine Rg.tm trivial rfl (t_extract rfl rfl) rfl ?_
  refine Rg.tm trivial rfl (t_extract rfl rfl) rfl ?_
  refine Rg.tm trivial rfl (t_assign rfl) rfl ?_
  refine Rg.tm trivial rfl (t_assign rfl) rfl ?_
  refine Rg.tm trivial rfl (t_assign rfl) rfl ?_
  refine Rg.done ?_
  refine Wp.seq (Wp.region ?_)
  refine Rg.wd trivial (w_call Tryd.call18 rfl (lexample_ok (hA.ext hx))) rfl ?_
  rintro _ w4 ⟨rfl, hx4⟩
  replace hx := hx.ext hx4
  replace hv7 := hv7.ext hx4
  replace h11 := h11.ext hx4
  refine Rg.tm trivial rfl (t_move rfl) rfl ?_
  first | refine Rg.tm ⟨_, rfl, rfl⟩ rfl (t_move rfl) rfl ?_ | refine Rg.sk (.inl ⟨_, _, rfl, rfl, rfl⟩) rfl ?_ | refine Rg.sk (.inr ⟨_, rfl, rfl⟩) rfl ?_
  first | refine Rg.tm ⟨_, rfl, rfl⟩ rfl (t_eqlT rfl rfl (by omega)) rfl ?_ | refine Rg.tm ⟨_, rfl, rfl⟩ rfl (t_eqlF rfl rfl (by omega)) rfl ?_ | refine Rg.tm ⟨_, rfl, rfl⟩ rfl (t_eql rfl rfl) rfl ?_ | refine Rg.sk (.inl ⟨_, _, rfl, rfl, rfl⟩) rfl ?_ | refine Rg.sk (.inr ⟨_, rfl, rfl⟩) rfl ?_
  first | refine Rg.tm trivial rfl (t_pickT rfl rfl) rfl ?_ | refine Rg.tm trivial rfl (t_pickF rfl rfl) rfl ?_
  refine Rg.tm trivial rfl (t_move rfl) rfl ?_
  first | refine Rg.tm ⟨_, rfl, rfl⟩ rfl (t_move rfl) rfl ?_ | refine Rg.sk (.inl ⟨_, _, rfl, rfl, rfl⟩) rfl ?_ | refine Rg.sk (.inr ⟨_, rfl, rfl⟩) rfl ?_
  first | refine Rg.tm ⟨_, rfl, rfl⟩ rfl (t_eqlT rfl rfl (by omega)) rfl ?_ | refine Rg.tm ⟨_, rfl, rfl⟩ rfl (t_eqlF rfl rfl (by omega)) rfl ?_ | refine Rg.tm ⟨_, rfl, rfl⟩ rfl (t_eql rfl rfl) rfl ?_ | refine Rg.sk (.inl ⟨_, _, rfl, rfl, rfl⟩) rfl ?_ | refine Rg.sk (.inr ⟨_, rfl, rfl⟩) rfl ?_
  first | refine Rg.tm trivial rfl (t_pickT rfl rfl) rfl ?_ | refine Rg.tm trivial rfl (t_pickF rfl rfl) rfl ?_
  refine Rg.tm trivial rfl (t_move rfl) rfl ?_
  first | refine Rg.tm ⟨_, rfl, rfl⟩ rfl (t_move rfl) rfl ?_ | refine Rg.sk (.inl ⟨_, _, rfl, rfl, rfl⟩) rfl ?_ | refine Rg.sk (.inr ⟨_, rfl, rfl⟩) rfl ?_
  first | refine Rg.tm ⟨_, rfl, rfl⟩ rfl (t_move rfl) rfl ?_ | refine Rg.sk (.inl ⟨_, _, rfl, rfl, rfl⟩) rfl ?_ | refine Rg.sk (.inr ⟨_, rfl, rfl⟩) rfl ?_
  refine Rg.wd ⟨_, rfl, rfl⟩ (w_call Tryd.call22 rfl (equal_ok h11 hv7 (by omega))) rfl ?_
  rintro _ w5 ⟨rfl, hx5⟩
  replace hx := hx.ext hx5
  replace hv7 := hv7.ext hx5
  replace h11 := h11.ext hx5
  first | refine Rg.tm trivial rfl (t_pickT rfl rfl) rfl ?_ | refine Rg.tm trivial rfl (t_pickF rfl rfl) rfl ?_
  refine Rg.tm trivial rfl (t_assign rfl) rfl ?_
  refine Rg.done ?_
  refine Wp.ret ?_
  exact ⟨[_], ⟨rfl, trivial⟩, rfl, hx⟩

theorem tes_take (es : List TE) (m : Nat) : (tes es).take (m * 3) = tes (es.take m) := by
  induction m generalizing es with
  | zero => simp [tes]
  | succ m ih =>
    cases es with
    | nil => simp [tes]
    | cons e es =>
      rw [List.take_succ_cons, show (m + 1) * 3 = m * 3 + 1 + 1 + 1 from by omega]
      show [_, _, _] ++ (tes es).take (m * 3) = _
      rw [ih]
      rfl
theorem sequenceLaw {w : World} {s0 : ByteArray} {es : List TE} {v1 : Value} (hA : Asc w) (hs0 : SlC w v1 3 es.length (tes es)) (hlen : es.length < 4611686018427387904) (hb : ∀ e ∈ es, (e.s.size : Int) ≤ 140737488355328) : Cl Tryd.prog 9 #[.string s0, v1] w (fun u w' => u = .bool true ∧ Ext w w') := by
  have hx := Ext.refl w
  obtain ⟨s, hsc⟩ : ∃ z, s0.extract 0 (200 : Int).toNat = z := ⟨_, rfl⟩
  have hs : s.size ≤ 200 := by rw [← hsc, ByteArray.size_extract]; omega
  obtain ⟨m, hm⟩ : ∃ m, min es.length 6 = m := ⟨_, rfl⟩
  have e6 : (min (es.length : Int) 6) = (m : Int) := by omega
  refine Cl.enter Tryd.func9 rfl Tryd.ntmps9 rfl rfl ?_
  refine Wp.seq (Wp.region ?_)
  refine Rg.tm trivial rfl (t_assign rfl) rfl ?_
  refine Rg.done ?_
  refine Wp.seq ?_
  refine Wp.seq (Wp.region ?_)
  refine Rg.wd trivial (w_call Tryd.call18 rfl (lexample_ok (hA.ext hx))) rfl ?_
  rintro _ w1 ⟨rfl, hx1⟩
  replace hx := hx.ext hx1
  refine Rg.tm trivial rfl (t_notB rfl) rfl ?_
  refine Rg.done ?_
  refine Wp.condF rfl ?_
  refine Wp.skip ?_
  refine Wp.seq (Wp.region ?_)
  refine Rg.tm trivial rfl (t_move rfl) rfl ?_
  refine Rg.wd trivial (w_call Tryd.call12 rfl (short_ok (n := 200) (by decide))) rfl ?_
  rintro _ _ ⟨rfl, rfl⟩
  rw [hsc]
  refine Rg.tm trivial rfl (t_assign rfl) rfl ?_
  refine Rg.done ?_
  refine Wp.seq (Wp.region ?_)
  refine Rg.tm trivial rfl (t_move rfl) rfl ?_
  refine Rg.wd trivial (w_call Tryd.call19 rfl (tokenize_ok (by omega) (hA.ext hx))) rfl ?_
  rintro _ w2 ⟨⟨v5, rfl, hv5⟩, hx2⟩
  replace hx := hx.ext hx2
  refine Rg.tm trivial rfl (t_move rfl) rfl ?_
  refine Rg.tm trivial rfl (t_extract rfl rfl) rfl ?_
  refine Rg.tm trivial rfl (t_extract rfl rfl) rfl ?_
  refine Rg.tm trivial rfl (t_assign rfl) rfl ?_
  refine Rg.tm trivial rfl (t_assign rfl) rfl ?_
  refine Rg.done ?_
  refine Wp.seq ?_
  refine Wp.seq (Wp.region ?_)
  refine Rg.tm trivial rfl (t_move rfl) rfl ?_
  first | refine Rg.tm trivial rfl (t_neqT rfl rfl (by omega)) rfl ?_ | refine Rg.tm trivial rfl (t_neqF rfl rfl (by omega)) rfl ?_ | refine Rg.tm trivial rfl (t_neq rfl rfl) rfl ?_
  refine Rg.done ?_
  refine Wp.condF rfl ?_
  refine Wp.skip ?_
  refine Wp.seq ?_
  refine Wp.seq (Wp.region ?_)
  refine Rg.tm trivial rfl (t_move rfl) rfl ?_
  refine Rg.tm trivial rfl (t_move rfl) rfl ?_
  refine Rg.tm trivial rfl (t_lenC hs0 Tryd.underlying46 rfl) rfl ?_
  refine Rg.tm trivial rfl (t_minI rfl rfl) rfl ?_
  rw [e6]
  refine Rg.sl hs0 trivial rfl Tryd.underlying46 ty48 rfl rfl (by omega) rfl ?_
  intro vt28 ht280
  simp only [Int.toNat_natCast, show (0 : Int).toNat = 0 from rfl, Nat.zero_mul, List.drop_zero, Nat.sub_zero] at ht280
  rw [tes_take] at ht280
  refine Rg.tm trivial rfl (t_lenC ht280 Tryd.underlying46 rfl) rfl ?_
  refine Rg.tm trivial rfl (t_move rfl) rfl ?_
  refine Rg.done ?_
  refine Wp.block ?_
  refine Wp.loop (ι := Nat × ByteArray × Value) (fun j => [(0, .string j.2.1), (5, j.2.2), (28, vt28), (29, .int .i64 m), (30, .int .i64 j.1)])
    (fun j w' => j.1 ≤ m ∧ j.2.1.size ≤ 200 + 40 * j.1 ∧ SlC w' j.2.2 2 (toks j.2.1).length (tcs (toks j.2.1)) ∧ Ext w w')
    (fun j => m - j.1) (0, s, v5) (by repeat (first | exact .nil | refine .cons rfl ?_)) ⟨Nat.zero_le _, by simp only; omega, hv5, hx⟩ ?_
  clear hx hv5
  rintro ⟨k, s, v5⟩ w3 ⟨hk, hs, hv50, hx0⟩
  simp only at hk hs hv50 ⊢
  have htl := toks_length s
  have hy := Ext.refl w3
  by_cases hlt : k < m
  · have hx := hx0
    refine Wp.seq (Wp.region ?_)
    first | refine Rg.tm trivial rfl (t_lssT rfl rfl (by omega)) rfl ?_ | refine Rg.tm trivial rfl (t_lssF rfl rfl (by omega)) rfl ?_ | refine Rg.tm trivial rfl (t_lss rfl rfl) rfl ?_
    refine Rg.done ?_
    refine Wp.seq ?_
    refine Wp.condT rfl ?_
    refine Wp.skip ?_
    refine Wp.seq ?_
    refine Wp.block ?_
    refine Wp.seq (Wp.region ?_)
    refine Rg.ix ht280 trivial rfl rfl Tryd.underlying46 ty48 (by omega) rfl ?_
    intro bt32 ot32 ht32
    replace ht32 := ht32.ext hx
    rw [Int.toNat_natCast, tes_at (es.take m) k (by rw [List.length_take]; omega)] at ht32
    obtain ⟨e, he⟩ : ∃ e, (es.take m)[k]'(by rw [List.length_take]; omega) = e := ⟨_, rfl⟩
    rw [he] at ht32
    unfold TE.cells at ht32
    refine Rg.tm trivial rfl (t_loadA rfl ht32 ty48) rfl ?_
    refine Rg.wd trivial (w_new Tryd.zeroValue48 rfl) rfl ?_
    rintro _ wa ⟨b8, rfl, qb8, hxa, hva⟩
    refine Rg.wn trivial (w_put hva rfl rfl rfl ty48 rfl rfl) ?_
    rintro _ w3 ⟨hu, hv8⟩
    have hx3 := hxa.upd hu (Nat.le_of_eq qb8.symm)
    replace hx := hx.ext hx3
    replace hy := hy.ext hx3
    have hc8 := hv8.cells
    clear hva hu
    refine Rg.done ?_
    refine Wp.seq (Wp.region ?_)
    refine Rg.tm trivial rfl (t_fieldAddr fa48_0 rfl) rfl ?_
    refine Rg.tm trivial rfl (t_load ty3 rfl (by apply Cells.get (i := 0); (case h => assumption); rfl)) rfl ?_
    refine Rg.tm trivial rfl (t_move rfl) rfl ?_
    refine Rg.tm trivial rfl (t_len Tryd.underlying9 rfl) rfl ?_
    first | refine Rg.tm trivial rfl (t_addI rfl rfl (by omega)) rfl ?_ | refine Rg.tm trivial rfl (t_add rfl rfl) rfl ?_
    refine Rg.wd trivial (w_call Tryd.call21 rfl (mod_ok (by omega) (by omega))) rfl ?_
    rintro _ _ ⟨⟨a, rfl, ha, _⟩, rfl⟩
    refine Rg.tm trivial rfl (t_fieldAddr fa48_0 rfl) rfl ?_
    refine Rg.wn trivial (w_putF hv8 ty3 rfl rfl rfl rfl rfl) ?_
    rintro _ w4 ⟨hu, hv8'⟩
    replace hx := hx.upd hu (by have := hx0.le; omega)
    replace hy := hy.upd hu (Nat.le_of_eq qb8.symm)
    clear hc8 hv8 hu
    have hv8 := hv8'
    clear hv8'
    have hc8 := hv8.cells
    simp only [List.set] at hv8 hc8
    refine Rg.done ?_
    refine Wp.seq (Wp.draw [0, 1, 2, 3, 4, 5, 6, 7, 8, 9, 10, 11, 12, 13] [0] mixed (by kernel_rfl) (by kernel_rfl) ?_)
    intro w5 hx5 _
    replace hx := hx.ext hx5
    replace hy := hy.ext hx5
    replace hv8 := hv8.ext hx5
    replace hc8 := hc8.ext hx5
    refine Rg.tm trivial rfl (t_fieldAddr fa48_0 rfl) rfl ?_
    refine Rg.tm trivial rfl (t_load ty3 rfl (by apply Cells.get (i := 0); (case h => assumption); rfl)) rfl ?_
    refine Rg.tm trivial rfl (t_fieldAddr fa48_1 rfl) rfl ?_
    refine Rg.tm trivial rfl (t_load ty3 rfl (by apply Cells.get (i := 1); (case h => assumption); rfl)) rfl ?_
    refine Rg.tm trivial rfl (t_move rfl) rfl ?_
    refine Rg.tm trivial rfl (t_len Tryd.underlying9 rfl) rfl ?_
    refine Rg.tm trivial rfl (t_fieldAddr fa48_0 rfl) rfl ?_
    refine Rg.tm trivial rfl (t_load ty3 rfl (by apply Cells.get (i := 0); (case h => assumption); rfl)) rfl ?_
    first | refine Rg.tm trivial rfl (t_subI rfl rfl (by omega)) rfl ?_ | refine Rg.tm trivial rfl (t_sub rfl rfl) rfl ?_
    first | refine Rg.tm trivial rfl (t_addI rfl rfl (by omega)) rfl ?_ | refine Rg.tm trivial rfl (t_add rfl rfl) rfl ?_
    refine Rg.wdB trivial rfl (w_call Tryd.call21 rfl (mod_ok (by omega) (by omega))) rfl (fun _ _ h => h.2 ▸ Below.refl _ _) ?_
    rintro _ _ ⟨⟨c, rfl, hc, _⟩, rfl⟩
    first | refine Rg.tm trivial rfl (t_addI rfl rfl (by omega)) rfl ?_ | refine Rg.tm trivial rfl (t_add rfl rfl) rfl ?_
    rw [show (a : Int) + (c : Nat) = ((a + c : Nat) : Int) from rfl]
    refine Rg.tm trivial rfl (t_fieldAddr fa48_1 rfl) rfl ?_
    refine Rg.wnB trivial rfl (w_putF hv8 ty3 rfl rfl rfl rfl rfl) (by rfl) ?_
    rintro _ w6 ⟨hu, hv8'⟩
    replace hx := hx.upd hu (by have := hx0.le; omega)
    replace hy := hy.upd hu (Nat.le_of_eq qb8.symm)
    clear hc8 hv8 hu
    have hv8 := hv8'
    clear hv8'
    have hc8 := hv8.cells
    simp only [List.set] at hv8 hc8
    refine Rg.done ?_
    refine Wp.seq (Wp.region ?_)
    refine Rg.tm trivial rfl (t_fieldAddr fa48_2 rfl) rfl ?_
    refine Rg.tm trivial rfl (t_load ty9 rfl (by apply Cells.get (i := 2); (case h => assumption); rfl)) rfl ?_
    refine Rg.wd trivial (w_call Tryd.call12 rfl (short_ok (n := 40) (by decide))) rfl ?_
    rintro _ _ ⟨rfl, rfl⟩
    obtain ⟨t, ht⟩ : ∃ z, e.s.extract 0 (40 : Int).toNat = z := ⟨_, rfl⟩
    have htz : t.size ≤ 40 := by rw [← ht, ByteArray.size_extract]; omega
    rw [ht]
    have hz := spl_size (s := s) (t := t) (a := a) (b := a + c) (by omega) (by omega)
    have hzl := toks_length (spl s a (a + c) t)
    refine Rg.tm trivial rfl (t_fieldAddr fa48_2 rfl) rfl ?_
    refine Rg.wn trivial (w_putF hv8 ty9 rfl rfl rfl rfl rfl) ?_
    rintro _ w7 ⟨hu, hv8'⟩
    replace hx := hx.upd hu (by have := hx0.le; omega)
    replace hy := hy.upd hu (Nat.le_of_eq qb8.symm)
    clear hc8 hv8 hu
    have hv8 := hv8'
    clear hv8'
    have hc8 := hv8.cells
    simp only [List.set] at hv8 hc8
    refine Rg.done ?_
    refine Wp.seq (Wp.region ?_)
    refine Rg.tm trivial rfl (t_move rfl) rfl ?_
    refine Rg.tm trivial rfl (t_move rfl) rfl ?_
    refine Rg.tm trivial rfl (t_loadA rfl (by assumption) (by exact ty48)) rfl ?_
    refine Rg.wd trivial (w_call Tryd.call24 rfl (update_ok (hA.ext hx) (by omega) (Nat.le_add_right a c) (by omega) (by omega) (hv50.ext hy))) rfl ?_
    rintro _ w8 ⟨⟨v9, n, rfl, h9, hn1, hn2⟩, hx8⟩
    replace hx := hx.ext hx8
    replace hy := hy.ext hx8
    replace hv8 := hv8.ext hx8
    replace hc8 := hc8.ext hx8
    refine Rg.tm trivial rfl (t_move rfl) rfl ?_
    refine Rg.tm trivial rfl (t_extract rfl rfl) rfl ?_
    refine Rg.tm trivial rfl (t_extract rfl rfl) rfl ?_
    refine Rg.tm trivial rfl (t_extract rfl rfl) rfl ?_
    refine Rg.tm trivial rfl (t_assign rfl) rfl ?_
    refine Rg.tm trivial rfl (t_assign rfl) rfl ?_
    refine Rg.tm trivial rfl (t_assign rfl) rfl ?_
    refine Rg.done ?_
    refine Wp.seq ?_
    refine Wp.seq (Wp.region ?_)
    refine Rg.tm trivial rfl (t_move rfl) rfl ?_
    first | refine Rg.tm trivial rfl (t_neqT rfl rfl (by omega)) rfl ?_ | refine Rg.tm trivial rfl (t_neqF rfl rfl (by omega)) rfl ?_ | refine Rg.tm trivial rfl (t_neq rfl rfl) rfl ?_
    refine Rg.tm trivial rfl (t_move rfl) rfl ?_
    first | refine Rg.tm ⟨_, rfl, rfl⟩ rfl (t_move rfl) rfl ?_ | refine Rg.sk (.inl ⟨_, _, rfl, rfl, rfl⟩) rfl ?_ | refine Rg.sk (.inr ⟨_, rfl, rfl⟩) rfl ?_
    first | refine Rg.tm ⟨_, rfl, rfl⟩ rfl (t_lssT rfl rfl (by omega)) rfl ?_ | refine Rg.tm ⟨_, rfl, rfl⟩ rfl (t_lssF rfl rfl (by omega)) rfl ?_ | refine Rg.tm ⟨_, rfl, rfl⟩ rfl (t_lss rfl rfl) rfl ?_ | refine Rg.sk (.inl ⟨_, _, rfl, rfl, rfl⟩) rfl ?_ | refine Rg.sk (.inr ⟨_, rfl, rfl⟩) rfl ?_
    first | refine Rg.tm trivial rfl (t_pickT rfl rfl) rfl ?_ | refine Rg.tm trivial rfl (t_pickF rfl rfl) rfl ?_
    refine Rg.tm trivial rfl (t_move rfl) rfl ?_
    first | refine Rg.tm ⟨_, rfl, rfl⟩ rfl (t_move rfl) rfl ?_ | refine Rg.sk (.inl ⟨_, _, rfl, rfl, rfl⟩) rfl ?_ | refine Rg.sk (.inr ⟨_, rfl, rfl⟩) rfl ?_
    first | refine Rg.tm ⟨_, rfl, rfl⟩ rfl (t_move rfl) rfl ?_ | refine Rg.sk (.inl ⟨_, _, rfl, rfl, rfl⟩) rfl ?_ | refine Rg.sk (.inr ⟨_, rfl, rfl⟩) rfl ?_
    first | refine Rg.tm ⟨_, rfl, rfl⟩ rfl (t_lenC hv50 Tryd.underlying35 rfl) rfl ?_ | refine Rg.sk (.inl ⟨_, _, rfl, rfl, rfl⟩) rfl ?_ | refine Rg.sk (.inr ⟨_, rfl, rfl⟩) rfl ?_
    first | refine Rg.tm ⟨_, rfl, rfl⟩ rfl (t_gtrT rfl rfl (by omega)) rfl ?_ | refine Rg.tm ⟨_, rfl, rfl⟩ rfl (t_gtrF rfl rfl (by omega)) rfl ?_ | refine Rg.tm ⟨_, rfl, rfl⟩ rfl (t_gtr rfl rfl) rfl ?_ | refine Rg.sk (.inl ⟨_, _, rfl, rfl, rfl⟩) rfl ?_ | refine Rg.sk (.inr ⟨_, rfl, rfl⟩) rfl ?_
    first | refine Rg.tm trivial rfl (t_pickT rfl rfl) rfl ?_ | refine Rg.tm trivial rfl (t_pickF rfl rfl) rfl ?_
    refine Rg.tm trivial rfl (t_move rfl) rfl ?_
    first | refine Rg.tm ⟨_, rfl, rfl⟩ rfl (t_move rfl) rfl ?_ | refine Rg.sk (.inl ⟨_, _, rfl, rfl, rfl⟩) rfl ?_ | refine Rg.sk (.inr ⟨_, rfl, rfl⟩) rfl ?_
    first | refine Rg.tm ⟨_, rfl, rfl⟩ rfl (t_move rfl) rfl ?_ | refine Rg.sk (.inl ⟨_, _, rfl, rfl, rfl⟩) rfl ?_ | refine Rg.sk (.inr ⟨_, rfl, rfl⟩) rfl ?_
    first | refine Rg.tm ⟨_, rfl, rfl⟩ rfl (t_lenC h9 Tryd.underlying35 rfl) rfl ?_ | refine Rg.sk (.inl ⟨_, _, rfl, rfl, rfl⟩) rfl ?_ | refine Rg.sk (.inr ⟨_, rfl, rfl⟩) rfl ?_
    first | refine Rg.tm ⟨_, rfl, rfl⟩ rfl (t_gtrT rfl rfl (by omega)) rfl ?_ | refine Rg.tm ⟨_, rfl, rfl⟩ rfl (t_gtrF rfl rfl (by omega)) rfl ?_ | refine Rg.tm ⟨_, rfl, rfl⟩ rfl (t_gtr rfl rfl) rfl ?_ | refine Rg.sk (.inl ⟨_, _, rfl, rfl, rfl⟩) rfl ?_ | refine Rg.sk (.inr ⟨_, rfl, rfl⟩) rfl ?_
    first | refine Rg.tm trivial rfl (t_pickT rfl rfl) rfl ?_ | refine Rg.tm trivial rfl (t_pickF rfl rfl) rfl ?_
    refine Rg.done ?_
    refine Wp.condF rfl ?_
    refine Wp.skip ?_
    refine Wp.region ?_
    refine Rg.tm trivial rfl (t_move rfl) rfl ?_
    refine Rg.tm trivial rfl (t_loadA rfl (by assumption) (by exact ty48)) rfl ?_
    refine Rg.wd trivial (w_call Tryd.call25 rfl (splice_ok (by omega) (by omega) (Nat.le_add_right a c) (by omega))) rfl ?_
    rintro _ w9 ⟨rfl, hx9⟩
    replace hx := hx.ext hx9
    replace hy := hy.ext hx9
    replace hv8 := hv8.ext hx9
    replace hc8 := hc8.ext hx9
    replace h9 := h9.ext hx9
    refine Rg.tm trivial rfl (t_move rfl) rfl ?_
    refine Rg.tm trivial rfl (t_assign rfl) rfl ?_
    refine Rg.tm trivial rfl (t_assign rfl) rfl ?_
    refine Rg.done ?_
    refine Wp.region ?_
    first | refine Rg.tm trivial rfl (t_addI rfl rfl (by omega)) rfl ?_ | refine Rg.tm trivial rfl (t_add rfl rfl) rfl ?_
    refine Rg.tm trivial rfl (t_move rfl) rfl ?_
    refine Rg.done ?_
    exact ⟨(k + 1, spl s a (a + c) t, v9), by repeat (first | exact .nil | refine .cons rfl ?_), ⟨hlt, by simp only; omega, h9, hx⟩, by simp only; omega⟩
  · have hx := hx0
    have hv5 := hv50
    refine Wp.seq (Wp.region ?_)
    first | refine Rg.tm trivial rfl (t_lssT rfl rfl (by omega)) rfl ?_ | refine Rg.tm trivial rfl (t_lssF rfl rfl (by omega)) rfl ?_ | refine Rg.tm trivial rfl (t_lss rfl rfl) rfl ?_
    refine Rg.done ?_
    refine Wp.seq ?_
    refine Wp.condF rfl ?_
    refine Wp.exit ?_
    refine Wp.seq (Wp.region ?_)
    refine Rg.tm trivial rfl (t_move rfl) rfl ?_
    refine Rg.wd trivial (w_call Tryd.call19 rfl (tokenize_ok (by omega) (hA.ext hx))) rfl ?_
    rintro _ w3 ⟨⟨v12, rfl, hv12⟩, hx3⟩
    replace hx := hx.ext hx3
    replace hv5 := hv5.ext hx3
    refine Rg.tm trivial rfl (t_move rfl) rfl ?_
    refine Rg.tm trivial rfl (t_extract rfl rfl) rfl ?_
    refine Rg.tm trivial rfl (t_extract rfl rfl) rfl ?_
    refine Rg.tm trivial rfl (t_assign rfl) rfl ?_
    refine Rg.tm trivial rfl (t_assign rfl) rfl ?_
    refine Rg.done ?_
    refine Wp.seq (Wp.region ?_)
    refine Rg.wd trivial (w_call Tryd.call18 rfl (lexample_ok (hA.ext hx))) rfl ?_
    rintro _ w4 ⟨rfl, hx4⟩
    replace hx := hx.ext hx4
    replace hv5 := hv5.ext hx4
    replace hv12 := hv12.ext hx4
    refine Rg.tm trivial rfl (t_move rfl) rfl ?_
    first | refine Rg.tm ⟨_, rfl, rfl⟩ rfl (t_move rfl) rfl ?_ | refine Rg.sk (.inl ⟨_, _, rfl, rfl, rfl⟩) rfl ?_ | refine Rg.sk (.inr ⟨_, rfl, rfl⟩) rfl ?_
    first | refine Rg.tm ⟨_, rfl, rfl⟩ rfl (t_eqlT rfl rfl (by omega)) rfl ?_ | refine Rg.tm ⟨_, rfl, rfl⟩ rfl (t_eqlF rfl rfl (by omega)) rfl ?_ | refine Rg.tm ⟨_, rfl, rfl⟩ rfl (t_eql rfl rfl) rfl ?_ | refine Rg.sk (.inl ⟨_, _, rfl, rfl, rfl⟩) rfl ?_ | refine Rg.sk (.inr ⟨_, rfl, rfl⟩) rfl ?_
    first | refine Rg.tm trivial rfl (t_pickT rfl rfl) rfl ?_ | refine Rg.tm trivial rfl (t_pickF rfl rfl) rfl ?_
    refine Rg.tm trivial rfl (t_move rfl) rfl ?_
    first | refine Rg.tm ⟨_, rfl, rfl⟩ rfl (t_move rfl) rfl ?_ | refine Rg.sk (.inl ⟨_, _, rfl, rfl, rfl⟩) rfl ?_ | refine Rg.sk (.inr ⟨_, rfl, rfl⟩) rfl ?_
    first | refine Rg.tm ⟨_, rfl, rfl⟩ rfl (t_move rfl) rfl ?_ | refine Rg.sk (.inl ⟨_, _, rfl, rfl, rfl⟩) rfl ?_ | refine Rg.sk (.inr ⟨_, rfl, rfl⟩) rfl ?_
    refine Rg.wd ⟨_, rfl, rfl⟩ (w_call Tryd.call22 rfl (equal_ok hv5 hv12 (by omega))) rfl ?_
    rintro _ w5 ⟨rfl, hx5⟩
    replace hx := hx.ext hx5
    replace hv5 := hv5.ext hx5
    replace hv12 := hv12.ext hx5
    first | refine Rg.tm trivial rfl (t_pickT rfl rfl) rfl ?_ | refine Rg.tm trivial rfl (t_pickF rfl rfl) rfl ?_
    refine Rg.tm trivial rfl (t_assign rfl) rfl ?_
    refine Rg.done ?_
    refine Wp.ret ?_
    exact ⟨[_], ⟨rfl, trivial⟩, rfl, hx⟩
end Go.Proofs.YteopmfijfgaldaaDoor
