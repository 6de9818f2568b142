/- The walks of package rope, fifth part: ropeFrom, ropeExample. Printed by ropev.py. -/
import Derived.Test.YteopmfijfgaldaaRz
namespace Go.Proofs.Yteopmfijfgaldaa
set_option linter.unusedVariables false
set_option linter.unusedSimpArgs false
open Go.Gx Go.RowKit Go.Lib

def cats : List ByteArray → ByteArray
  | [] => ⟨#[]⟩
  | a :: r => a ++ cats r
theorem cats_append : ∀ a b : List ByteArray, cats (a ++ b) = cats a ++ cats b
  | [], b => (ByteArray.empty_append (b := cats b)).symm
  | x :: a, b => by simp only [cats, List.cons_append, cats_append a b, ByteArray.append_assoc]
theorem cats_one (a : ByteArray) : cats [a] = a := ByteArray.append_empty
theorem cats_succ {ss : List ByteArray} {k : Nat} (h : k < ss.length) : cats (ss.take (k + 1)) = cats (ss.take k) ++ ss[k] := by
  rw [List.take_succ_eq_append_getElem h, cats_append, cats_one]
theorem cats_le {ss : List ByteArray} {k : Nat} : (cats (ss.take k)).size ≤ (cats ss).size := by
  have : cats ss = cats (ss.take k) ++ cats (ss.drop k) := by rw [← cats_append, List.take_append_drop]
  rw [this, ByteArray.size_append]; omega
theorem cats_mem {ss : List ByteArray} {k : Nat} (h : k < ss.length) : ss[k].size ≤ (cats ss).size := by
  have := cats_le (ss := ss) (k := k + 1)
  rw [cats_succ h, ByteArray.size_append] at this; omega

theorem strs_at {ss : List ByteArray} {k : Nat} (h : k < ss.length) : ((ss.map Value.string).drop (k * 1)).take 1 = [.string ss[k]] := by
  rw [Nat.mul_one, List.drop_eq_getElem_cons (by simpa using h)]
  simp
theorem strs_sub {w : World} {v : Value} {ss : List ByteArray} {l h : Nat} (hs : SlC w v 1 (h - l) (((ss.map Value.string).drop (l * 1)).take ((h - l) * 1))) (h1 : l ≤ h) (h2 : h ≤ ss.length) :
    SlC w v 1 ((ss.drop l).take (h - l)).length (((ss.drop l).take (h - l)).map .string) := by
  have e : ((ss.drop l).take (h - l)).length = h - l := by rw [List.length_take, List.length_drop]; omega
  rw [e, List.map_take, List.map_drop]
  simpa using hs

def FromR (M : List Nat) (ss : List ByteArray) (u : Value) (w : World) : Prop := ∃ t, RT.Good t ∧ RT.valO t = cats ss ∧ RopeV M w u t
theorem FromR.ext {M : List Nat} {ss : List ByteArray} {u : Value} {w w' : World} (h : FromR M ss u w) (k : Ext w w') : FromR M ss u w' := by
  obtain ⟨t, h1, h2, h3⟩ := h; exact ⟨t, h1, h2, h3.ext k⟩

theorem new_ok2 {M : List Nat} {w : World} {s : ByteArray} (hM : In M w) (hs : s.size < 4611686018427387904) :
    Cl Try.prog 15 #[.string s] w (fun v w' => FromR M [s] v w' ∧ Ext w w') :=
  (new_ok hM hs).mono fun v w' h => ⟨by obtain ⟨⟨t, h1, h2, h3⟩, _⟩ := h; exact ⟨t, h1, by rw [h2, cats_one], h3⟩, h.2⟩
theorem concat_ok2 {M : List Nat} {w : World} {va vb : Value} {a b : List ByteArray} (hM : In M w) (ha : FromR M a va w) (hb : FromR M b vb w) (hn : (cats a).size + (cats b).size < 4611686018427387904) :
    Cl Try.prog 14 #[va, vb] w (fun u w' => FromR M (a ++ b) u w' ∧ Ext w w') := by
  obtain ⟨s, a1, a2, a3⟩ := ha
  obtain ⟨t, b1, b2, b3⟩ := hb
  refine (concat_ok hM a3 b3 a1 b1 (by rw [RT.lenO_val, RT.lenO_val, a2, b2]; exact hn)).mono fun u w' h => ⟨⟨_, RT.good_cat a1 b1, by rw [RT.val_cat, a2, b2, cats_append], h.1⟩, h.2⟩
theorem FromR.fresh {M : List Nat} {w : World} {v : Value} {b : Nat} {ss : List ByteArray} (h : FromR M ss v w) (k : w.heap.size ≤ b) : FromR (b :: M) ss v w := by
  obtain ⟨t, h1, h2, h3⟩ := h; exact ⟨t, h1, h2, h3.fresh k⟩
theorem FromR.upd {M : List Nat} {w w' : World} {v : Value} {b : Nat} {ss : List ByteArray} (h : FromR M ss v w) (k : Upd b w w') (hb : b ∈ M) : FromR M ss v w' := by
  obtain ⟨t, h1, h2, h3⟩ := h; exact ⟨t, h1, h2, h3.upd k hb⟩
theorem FromR.drop {M : List Nat} {w : World} {v : Value} {b : Nat} {ss : List ByteArray} (h : FromR (b :: M) ss v w) : FromR M ss v w := by
  obtain ⟨t, h1, h2, h3⟩ := h; exact ⟨t, h1, h2, h3.drop⟩
theorem FromR.form {M : List Nat} {w : World} {v : Value} {ss : List ByteArray} (h : FromR M ss v w) : ∃ p, v = .agg #[.pointer p] := by
  obtain ⟨t, h1, h2, p, h3, _⟩ := h; exact ⟨p, h3⟩

theorem from_loop {ss : List ByteArray} {M : List Nat} {w : World} {v : Value} {h : Bool} (hM : In M w) (hs : SlC w v 1 ss.length (ss.map .string)) (hb : (cats ss).size < 1099511627776) (hc : h = true → ss.length ≤ 1) (hlen : ss.length < 4611686018427387904) :
    Cl Try.prog 9 #[v, .bool h] w (fun u w' => FromR M ss u w' ∧ Ext w w') := by
  have hx := Ext.refl w
  cases h
  all_goals
    simp only [true_implies, Bool.false_eq_true, false_implies] at hc
    have hs0 := hs
    refine Cl.enter Try.func9 rfl Try.ntmps9 rfl rfl ?_
    refine Wp.seq (Wp.region ?_)
    refine Rg.wd trivial (w_new Try.zeroValue27 rfl) rfl ?_
    rintro _ w1 ⟨b4, rfl, qb4, hx1, hv4⟩
    replace hx := hx.ext hx1
    replace hs := hs.ext hx1
    replace hM := hM.ext hx1
    replace hM := hM.push hv4.lt
    have lt4 := hv4.lt
    refine Rg.done ?_
    refine Wp.seq ?_
    refine Wp.seq (Wp.region ?_)
    refine Rg.tm trivial rfl (t_move rfl) rfl ?_
    refine Rg.tm trivial rfl (t_move rfl) rfl ?_
    first | refine Rg.tm ⟨_, rfl, rfl⟩ rfl (t_move rfl) rfl ?_ | refine Rg.sk (.inl ⟨_, _, rfl, rfl, rfl⟩) rfl ?_ | refine Rg.sk (.inr ⟨_, rfl, rfl⟩) rfl ?_
    first | refine Rg.tm ⟨_, rfl, rfl⟩ rfl (t_lenC hs Try.underlying22 rfl) rfl ?_ | refine Rg.sk (.inl ⟨_, _, rfl, rfl, rfl⟩) rfl ?_ | refine Rg.sk (.inr ⟨_, rfl, rfl⟩) rfl ?_
    first | refine Rg.tm ⟨_, rfl, rfl⟩ rfl (t_gtrT rfl rfl (by omega)) rfl ?_ | refine Rg.tm ⟨_, rfl, rfl⟩ rfl (t_gtrF rfl rfl (by omega)) rfl ?_ | refine Rg.tm ⟨_, rfl, rfl⟩ rfl (t_gtr rfl rfl) rfl ?_ | refine Rg.sk (.inl ⟨_, _, rfl, rfl, rfl⟩) rfl ?_ | refine Rg.sk (.inr ⟨_, rfl, rfl⟩) rfl ?_
    first | refine Rg.tm trivial rfl (t_pickT rfl rfl) rfl ?_ | refine Rg.tm trivial rfl (t_pickF rfl rfl) rfl ?_
    refine Rg.done ?_
    refine Wp.condF rfl ?_
    refine Wp.skip ?_
    refine Wp.seq (Wp.region ?_)
    refine Rg.wd trivial (w_new Try.zeroValue27 rfl) rfl ?_
    rintro _ w2 ⟨b6, rfl, qb6, hx2, hv6⟩
    replace hx := hx.ext hx2
    replace hs := hs.ext hx2
    replace hM := hM.ext hx2
    replace hv4 := hv4.ext hx2
    replace hM := hM.push hv6.lt
    have lt6 := hv6.lt
    refine Rg.done ?_
    refine Wp.seq ?_
    refine Wp.seq (Wp.region ?_)
    refine Rg.tm trivial rfl (t_move rfl) rfl ?_
    refine Rg.tm trivial rfl (t_lenC hs Try.underlying22 rfl) rfl ?_
    refine Rg.tm trivial rfl (t_move rfl) rfl ?_
    refine Rg.done ?_
    refine Wp.block ?_
    refine Wp.loop (ι := Nat × Option Addr) (fun i => [(4, .pointer (some ⟨b4, 0, none⟩)), (6, .pointer (some ⟨b6, 0, none⟩)), (27, v), (28, .int .i64 ss.length), (29, .int .i64 i.1)])
      (fun i w' => i.1 ≤ ss.length ∧ FromR (b6 :: b4 :: M) (ss.take i.1) (.agg #[.pointer i.2]) w' ∧ Ext w w' ∧ In (b6 :: b4 :: M) w' ∧ Var w' b6 [.pointer i.2] 27 ∧ Var w' b4 [.pointer none] 27)
      (fun i => ss.length - i.1) (0, none) (by repeat (first | exact .nil | refine .cons rfl ?_)) ⟨Nat.zero_le _, ⟨none, trivial, rfl, none, rfl, rfl⟩, hx, hM, hv6, hv4⟩ ?_
    have k46 : b4 < b6 ∧ w.heap.size ≤ b4 := by have := hx1.le; omega
    clear hx hM hv6 hv4 hs
    rintro ⟨k, p⟩ w3 ⟨hk, hl, hx, hM, hv6, hv4⟩
    simp only at hk hl hv6 ⊢
    have hs := hs0.ext hx
    by_cases hlt : k < ss.length
    · have hc6 := hv6.cells
      have i1 := cats_mem hlt
      have i2 := cats_le (ss := ss) (k := k)
      have i3 := cats_le (ss := ss) (k := k + 1)
      rw [cats_succ hlt, ByteArray.size_append] at i3
      refine Wp.seq (Wp.region ?_)
      first | refine Rg.tm trivial rfl (t_lssT rfl rfl (by omega)) rfl ?_ | refine Rg.tm trivial rfl (t_lssF rfl rfl (by omega)) rfl ?_ | refine Rg.tm trivial rfl (t_lss rfl rfl) rfl ?_
      refine Rg.done ?_
      refine Wp.seq ?_
      refine Wp.condT rfl ?_
      refine Wp.skip ?_
      refine Wp.seq ?_
      refine Wp.block ?_
      refine Wp.seq (Wp.region ?_)
      refine Rg.ix hs trivial rfl rfl Try.underlying22 ty9 (by omega) rfl ?_
      intro bt31 ot31 ht31
      rw [Int.toNat_natCast, strs_at hlt] at ht31
      refine Rg.tm trivial rfl (t_load ty9 rfl (by first | assumption | (apply Cells.get (i := 0); (case h => assumption); rfl))) rfl ?_
      refine Rg.tm trivial rfl (t_assign rfl) rfl ?_
      refine Rg.done ?_
      refine Wp.draw [0, 1, 2, 3, 4] [0] mixed (by kernel_rfl) (by kernel_rfl) ?_
      intro w3 hx3 _
      replace hx := hx.ext hx3
      replace hM := hM.ext hx3
      replace hl := hl.ext hx3
      replace hv6 := hv6.ext hx3
      replace hv4 := hv4.ext hx3
      replace hs := hs.ext hx3
      replace hc6 := hc6.ext hx3
      replace ht31 := ht31.ext hx3
      refine Rg.tm trivial rfl (t_loadA rfl (by assumption) (by exact ty27)) rfl ?_
      refine Rg.tm trivial rfl (t_move rfl) rfl ?_
      refine Rg.wdB trivial rfl (w_call Try.call15 rfl (new_ok2 hM (by omega))) rfl (fun _ _ h => h.2) ?_
      rintro u w4 ⟨hu, hx4⟩
      replace hx := hx.ext hx4
      replace hM := hM.ext hx4
      replace hl := hl.ext hx4
      replace hv6 := hv6.ext hx4
      replace hv4 := hv4.ext hx4
      replace hs := hs.ext hx4
      replace hc6 := hc6.ext hx4
      replace ht31 := ht31.ext hx4
      refine Rg.wdB trivial rfl (w_call Try.call14 rfl (concat_ok2 hM hl hu (by rw [cats_one]; omega))) rfl (fun _ _ h => h.2) ?_
      rintro u2 w5 ⟨hu2, hx5⟩
      replace hx := hx.ext hx5
      replace hM := hM.ext hx5
      replace hl := hl.ext hx5
      replace hv6 := hv6.ext hx5
      replace hv4 := hv4.ext hx5
      replace hs := hs.ext hx5
      replace hc6 := hc6.ext hx5
      replace ht31 := ht31.ext hx5
      replace hu := hu.ext hx5
      obtain ⟨p2, rfl⟩ := hu2.form
      refine Rg.wnB trivial rfl (w_put hv6 rfl rfl rfl ty27 rfl rfl) (by rfl) ?_
      rintro _ w9 ⟨hu9, hv6'⟩
      refine Rg.done ?_
      refine Wp.region ?_
      first | refine Rg.tm trivial rfl (t_addI rfl rfl (by omega)) rfl ?_ | refine Rg.tm trivial rfl (t_add rfl rfl) rfl ?_
      refine Rg.tm trivial rfl (t_move rfl) rfl ?_
      refine Rg.done ?_
      refine ⟨(k + 1, p2), by repeat (first | exact .nil | refine .cons rfl ?_), ⟨hlt, ?_, hx.upd hu9 (by omega), hM.upd hu9, hv6', hv4.upd hu9 (by omega)⟩, by simp only; omega⟩
      have h9 := hu2.upd hu9 (by simp)
      simp only
      rw [List.take_succ_eq_append_getElem hlt]
      exact h9
    · have hc6 := hv6.cells
      have e0 : k = ss.length := by omega
      rw [e0, List.take_length] at hl
      refine Wp.seq (Wp.region ?_)
      first | refine Rg.tm trivial rfl (t_lssT rfl rfl (by omega)) rfl ?_ | refine Rg.tm trivial rfl (t_lssF rfl rfl (by omega)) rfl ?_ | refine Rg.tm trivial rfl (t_lss rfl rfl) rfl ?_
      refine Rg.done ?_
      refine Wp.seq ?_
      refine Wp.condF rfl ?_
      refine Wp.exit ?_
      refine Wp.seq (Wp.region ?_)
      refine Rg.tm trivial rfl (t_loadA rfl (by assumption) (by exact ty27)) rfl ?_
      refine Rg.wn trivial (w_put hv4 rfl rfl rfl ty27 rfl rfl) ?_
      rintro _ w9 ⟨hu9, hv4'⟩
      refine Rg.done ?_
      refine Wp.ret ?_
      exact ⟨[_], ⟨RV.cellA (vs := [_]) ty27 rfl hv4'.cells, trivial⟩, (hl.upd hu9 (by simp)).drop.drop, hx.upd hu9 (by omega)⟩

theorem from_ok : ∀ (n : Nat) {ss : List ByteArray}, ss.length ≤ n → ∀ {M : List Nat} {w : World} {v : Value} {h : Bool} (hM : In M w) (hs : SlC w v 1 ss.length (ss.map .string)) (hb : (cats ss).size < 1099511627776) (hlen : ss.length < 4611686018427387904),
    Cl Try.prog 9 #[v, .bool h] w (fun u w' => FromR M ss u w' ∧ Ext w w') := by
  intro n
  induction n with
  | zero => intro ss hn M w v h hM hs hb hlen; exact from_loop hM hs hb (by omega) hlen
  | succ n ih =>
  intro ss hn M w v h hM hs hb hlen
  by_cases hc : h = true → ss.length ≤ 1
  · exact from_loop hM hs hb hc hlen
  · simp only [Classical.not_imp] at hc
    obtain ⟨rfl, hc⟩ := hc
    have hx := Ext.refl w
    refine Cl.enter Try.func9 rfl Try.ntmps9 rfl rfl ?_
    refine Wp.seq (Wp.region ?_)
    refine Rg.wd trivial (w_new Try.zeroValue27 rfl) rfl ?_
    rintro _ w1 ⟨b4, rfl, qb4, hx1, hv4⟩
    replace hx := hx.ext hx1
    replace hs := hs.ext hx1
    replace hM := hM.ext hx1
    replace hM := hM.push hv4.lt
    have lt4 := hv4.lt
    refine Rg.done ?_
    refine Wp.seq ?_
    refine Wp.seq (Wp.region ?_)
    refine Rg.tm trivial rfl (t_move rfl) rfl ?_
    refine Rg.tm trivial rfl (t_move rfl) rfl ?_
    first | refine Rg.tm ⟨_, rfl, rfl⟩ rfl (t_move rfl) rfl ?_ | refine Rg.sk (.inl ⟨_, _, rfl, rfl, rfl⟩) rfl ?_ | refine Rg.sk (.inr ⟨_, rfl, rfl⟩) rfl ?_
    first | refine Rg.tm ⟨_, rfl, rfl⟩ rfl (t_lenC hs Try.underlying22 rfl) rfl ?_ | refine Rg.sk (.inl ⟨_, _, rfl, rfl, rfl⟩) rfl ?_ | refine Rg.sk (.inr ⟨_, rfl, rfl⟩) rfl ?_
    first | refine Rg.tm ⟨_, rfl, rfl⟩ rfl (t_gtrT rfl rfl (by omega)) rfl ?_ | refine Rg.tm ⟨_, rfl, rfl⟩ rfl (t_gtrF rfl rfl (by omega)) rfl ?_ | refine Rg.tm ⟨_, rfl, rfl⟩ rfl (t_gtr rfl rfl) rfl ?_ | refine Rg.sk (.inl ⟨_, _, rfl, rfl, rfl⟩) rfl ?_ | refine Rg.sk (.inr ⟨_, rfl, rfl⟩) rfl ?_
    first | refine Rg.tm trivial rfl (t_pickT rfl rfl) rfl ?_ | refine Rg.tm trivial rfl (t_pickF rfl rfl) rfl ?_
    refine Rg.done ?_
    refine Wp.condT rfl ?_
    refine Wp.seq (Wp.region ?_)
    refine Rg.tm trivial rfl (t_move rfl) rfl ?_
    refine Rg.tm trivial rfl (t_lenC hs Try.underlying22 rfl) rfl ?_
    refine Rg.tm trivial rfl (t_quoN (u := ss.length) (v := 2) rfl rfl (by omega) (by omega)) rfl ?_
    refine Rg.tm trivial rfl (t_assign rfl) rfl ?_
    refine Rg.done ?_
    obtain ⟨m, hm⟩ : ∃ m, ss.length / 2 = m := ⟨_, rfl⟩
    have hm1 : 0 < m ∧ m < ss.length := by omega
    have c1 : cats ((ss.drop 0).take (m - 0)) ++ cats ((ss.drop m).take (ss.length - m)) = cats ss := by
      rw [← cats_append, List.drop_zero, Nat.sub_zero]
      have : (ss.drop m).take (ss.length - m) = ss.drop m := List.take_of_length_le (by simp)
      rw [this, List.take_append_drop]
    have c2 : (cats ((ss.drop 0).take (m - 0))).size + (cats ((ss.drop m).take (ss.length - m))).size = (cats ss).size := by rw [← c1, ByteArray.size_append]
    have l1 : ((ss.drop 0).take (m - 0)).length = m := by simp; omega
    have l2 : ((ss.drop m).take (ss.length - m)).length = ss.length - m := by simp
    rw [hm]
    refine Wp.seq (Wp.draw [0, 1, 2, 4, 5, 6, 3, 7, 8, 9] [0] mixed (by kernel_rfl) (by kernel_rfl) ?_)
    intro w2 hx2 _
    replace hx := hx.ext hx2
    replace hs := hs.ext hx2
    replace hM := hM.ext hx2
    replace hv4 := hv4.ext hx2
    refine Rg.tm trivial rfl (t_move rfl) rfl ?_
    refine Rg.tm trivial rfl (t_move rfl) rfl ?_
    refine Rg.sl hs trivial rfl Try.underlying22 ty9 rfl rfl (by omega) rfl ?_
    intro vt20 ht20
    replace ht20 := strs_sub (l := 0) (h := m) ht20 (by omega) (by omega)
    refine Rg.tm trivial rfl (t_move rfl) rfl ?_
    refine Rg.tm trivial rfl (t_move rfl) rfl ?_
    refine Rg.sl hs trivial rfl Try.underlying22 ty9 rfl rfl (by omega) rfl ?_
    intro vt24 ht24
    replace ht24 := strs_sub (l := m) (h := ss.length) ht24 (by omega) (by omega)
    refine Rg.wdB trivial rfl (w_call Try.call9 rfl (ih (by omega) hM ht20 (by omega) (by omega))) rfl (fun _ _ h => h.2) ?_
    rintro u1 w3 ⟨hu1, hx3⟩
    replace hx := hx.ext hx3
    replace hs := hs.ext hx3
    replace hM := hM.ext hx3
    replace hv4 := hv4.ext hx3
    replace ht20 := ht20.ext hx3
    replace ht24 := ht24.ext hx3
    refine Rg.wdB trivial rfl (w_call Try.call9 rfl (ih (by omega) hM ht24 (by omega) (by omega))) rfl (fun _ _ h => h.2) ?_
    rintro u2 w4 ⟨hu2, hx4⟩
    replace hx := hx.ext hx4
    replace hs := hs.ext hx4
    replace hM := hM.ext hx4
    replace hv4 := hv4.ext hx4
    replace ht20 := ht20.ext hx4
    replace ht24 := ht24.ext hx4
    replace hu1 := hu1.ext hx4
    refine Rg.wdB trivial rfl (w_call Try.call14 rfl (concat_ok2 hM hu1 hu2 (by omega))) rfl (fun _ _ h => h.2) ?_
    rintro u3 w5 ⟨hu3, hx5⟩
    replace hx := hx.ext hx5
    replace hs := hs.ext hx5
    replace hM := hM.ext hx5
    replace hv4 := hv4.ext hx5
    replace ht20 := ht20.ext hx5
    replace ht24 := ht24.ext hx5
    replace hu1 := hu1.ext hx5
    replace hu2 := hu2.ext hx5
    obtain ⟨p3, rfl⟩ := hu3.form
    refine Rg.wnB trivial rfl (w_put hv4 rfl rfl rfl ty27 rfl rfl) (by rfl) ?_
    rintro _ w9 ⟨hu9, hv4'⟩
    refine Rg.done ?_
    refine Wp.ret ?_
    refine ⟨[_], ⟨RV.cellA (vs := [_]) ty27 rfl hv4'.cells, trivial⟩, ?_, hx.upd hu9 (by omega)⟩
    have h9 := (hu3.upd hu9 (by simp)).drop
    obtain ⟨t, g1, g2, g3⟩ := h9
    exact ⟨t, g1, by rw [g2, cats_append, c1], g3⟩

theorem example_ok {w : World} : Cl Try.prog 7 #[] w (fun u w' => u = .bool true ∧ Ext w w') := by
  have hx := Ext.refl w
  have hM : In [] w := fun m hm => by cases hm
  refine Cl.enter Try.func7 rfl Try.ntmps7 rfl rfl ?_
  have hz : RopeV [] w (.agg #[.pointer none]) none := ⟨none, rfl, rfl⟩
  refine Wp.seq (Wp.region ?_)
  refine Rg.tm trivial rfl (t_assign rfl) rfl ?_
  refine Rg.done ?_
  refine Wp.seq (Wp.region ?_)
  refine Rg.wd trivial (w_call Try.call15 rfl (new_ok hM (by decide))) rfl ?_
  rintro u1 w1 ⟨⟨t1, g1, e1, h1⟩, hx1⟩
  replace hx := hx.ext hx1
  replace hM := hM.ext hx1
  have n1 : RT.lenO t1 = 3 := by rw [RT.lenO_val, e1]; rfl
  refine Rg.wd trivial (w_call Try.call12 rfl (ropeSplit_ok hM h1 g1 (by omega) (by omega))) rfl ?_
  rintro _ w2 ⟨⟨ua, ub, rfl, ha, hb⟩, hx2⟩
  replace hx := hx.ext hx2
  replace hM := hM.ext hx2
  replace h1 := h1.ext hx2
  have ea := (RT.val_splitO t1 (2 : Int).toNat).1
  have eb := (RT.val_splitO t1 (2 : Int).toNat).2
  obtain ⟨ga, gb⟩ := RT.good_splitO t1 (2 : Int).toNat g1
  rw [e1] at ea eb
  generalize (RT.splitO t1 (2 : Int).toNat).1 = ta at *
  generalize (RT.splitO t1 (2 : Int).toNat).2 = tb at *
  replace ea : RT.valO ta = ⟨#[97, 98]⟩ := ea.trans (by decide +kernel)
  replace eb : RT.valO tb = ⟨#[99]⟩ := eb.trans (by decide +kernel)
  have na : RT.lenO ta = 2 := by rw [RT.lenO_val, ea]; rfl
  have nb : RT.lenO tb = 1 := by rw [RT.lenO_val, eb]; rfl
  obtain ⟨pa, rfl, ha'⟩ := id ha
  obtain ⟨pb, rfl, hb'⟩ := id hb
  clear ha' hb'
  refine Rg.tm trivial rfl (t_move rfl) rfl ?_
  refine Rg.tm trivial rfl (t_extract rfl rfl) rfl ?_
  refine Rg.tm trivial rfl (t_extract rfl rfl) rfl ?_
  refine Rg.tm trivial rfl (t_extract rfl rfl) rfl ?_
  refine Rg.wd trivial (w_new Try.zeroValue27 rfl) rfl ?_
  rintro _ w3 ⟨b1, rfl, qb1, hx3, hv1⟩
  replace ha := ha.fresh (Nat.le_of_eq qb1.symm)
  replace hb := hb.fresh (Nat.le_of_eq qb1.symm)
  replace hx := hx.ext hx3
  replace hM := hM.ext hx3
  replace h1 := h1.ext hx3
  replace ha := ha.ext hx3
  replace hb := hb.ext hx3
  replace hM := hM.push hv1.lt
  have lt1 := hv1.lt
  refine Rg.wd trivial (w_new Try.zeroValue27 rfl) rfl ?_
  rintro _ w4 ⟨b2, rfl, qb2, hx4, hv2⟩
  replace ha := ha.fresh (Nat.le_of_eq qb2.symm)
  replace hb := hb.fresh (Nat.le_of_eq qb2.symm)
  replace hx := hx.ext hx4
  replace hM := hM.ext hx4
  replace h1 := h1.ext hx4
  replace ha := ha.ext hx4
  replace hb := hb.ext hx4
  replace hv1 := hv1.ext hx4
  replace hM := hM.push hv2.lt
  have lt2 := hv2.lt
  have k1 := hx1.le
  have k2 := hx2.le
  refine Rg.wn trivial (w_put hv1 rfl rfl rfl ty27 rfl rfl) ?_
  rintro _ w5 ⟨hu5, hv1'⟩
  replace hx := hx.upd hu5 (by omega)
  replace hM := hM.upd hu5
  replace ha := ha.upd hu5 (by simp)
  replace hb := hb.upd hu5 (by simp)
  replace hv2 := hv2.upd hu5 (by omega)
  refine Rg.wn trivial (w_put hv2 rfl rfl rfl ty27 rfl rfl) ?_
  rintro _ w6 ⟨hu6, hv2'⟩
  replace hx := hx.upd hu6 (by omega)
  replace hM := hM.upd hu6
  replace ha := ha.upd hu6 (by simp)
  replace hb := hb.upd hu6 (by simp)
  replace hv1' := hv1'.upd hu6 (by omega)
  have hc1 := hv1'.cells
  have hc2 := hv2'.cells
  clear hv1 hv2 hv1' hv2'
  refine Rg.tm trivial rfl (t_assign rfl) rfl ?_
  refine Rg.done ?_
  refine Wp.seq (Wp.region ?_)
  refine Rg.tm trivial rfl (t_loadA rfl (by assumption) (by exact ty27)) rfl ?_
  refine Rg.tm trivial rfl (t_loadA rfl (by assumption) (by exact ty27)) rfl ?_
  refine Rg.wd trivial (w_call Try.call14 rfl (concat_ok hM ha hb ga gb (by omega))) rfl ?_
  rintro uc w7 ⟨hcc, hx7⟩
  replace hx := hx.ext hx7
  replace hM := hM.ext hx7
  replace ha := ha.ext hx7
  replace hb := hb.ext hx7
  replace hc1 := hc1.ext hx7
  replace hc2 := hc2.ext hx7
  have nc : RT.lenO (RT.catO ta tb) = 3 := by rw [RT.len_cat]; omega
  have ec : RT.valO (RT.catO ta tb) = ⟨#[97, 98, 99]⟩ := by rw [RT.val_cat, ea, eb]; decide +kernel
  have gc := RT.good_cat ga gb
  generalize RT.catO ta tb = tc at *
  obtain ⟨tc, rfl⟩ : ∃ t, tc = some t := by
    cases tc with
    | none => simp [RT.lenO] at nc
    | some t => exact ⟨t, rfl⟩
  refine Rg.wd trivial (w_call Try.call13 rfl (byteAt_ok hcc gc.1 (by simp only [RT.lenO] at nc; omega) (by simp only [RT.lenO] at nc; omega))) rfl ?_
  rintro _ w8 ⟨rfl, hx8⟩
  replace hx := hx.ext hx8
  replace hM := hM.ext hx8
  replace ha := ha.ext hx8
  replace hb := hb.ext hx8
  replace hc1 := hc1.ext hx8
  replace hc2 := hc2.ext hx8
  replace hcc := hcc.ext hx8
  have eb2 : bt tc.val (2 : Int).toNat = 99 := by
    simp only [RT.valO] at ec
    rw [ec]; decide +kernel
  rw [eb2]
  refine Rg.tm trivial rfl (t_move rfl) rfl ?_
  refine Rg.tm trivial rfl (t_extract rfl rfl) rfl ?_
  refine Rg.tm trivial rfl (t_extract rfl rfl) rfl ?_
  refine Rg.tm trivial rfl (t_assign rfl) rfl ?_
  refine Rg.tm trivial rfl (t_assign rfl) rfl ?_
  refine Rg.done ?_
  refine Wp.seq (Wp.region ?_)
  refine Rg.tm trivial rfl (t_loadA rfl (by assumption) (by exact ty27)) rfl ?_
  refine Rg.wd trivial (w_call Try.call10 rfl (string_ok ha (by omega))) rfl ?_
  rintro _ w9 ⟨rfl, hx9⟩
  replace hx := hx.ext hx9
  replace hM := hM.ext hx9
  replace ha := ha.ext hx9
  replace hb := hb.ext hx9
  replace hc1 := hc1.ext hx9
  replace hc2 := hc2.ext hx9
  replace hcc := hcc.ext hx9
  first | refine Rg.tm trivial rfl (t_seqlT rfl rfl (by assumption)) rfl ?_ | refine Rg.tm trivial rfl (t_seqlF rfl rfl (by assumption)) rfl ?_ | refine Rg.tm trivial rfl (t_seql rfl rfl) rfl ?_
  refine Rg.tm trivial rfl (t_move rfl) rfl ?_
  first | refine Rg.tm ⟨_, rfl, rfl⟩ rfl (t_loadA rfl (by assumption) (by exact ty27)) rfl ?_ | refine Rg.sk (.inl ⟨_, _, rfl, rfl, rfl⟩) rfl ?_ | refine Rg.sk (.inr ⟨_, rfl, rfl⟩) rfl ?_
  refine Rg.wd ⟨_, rfl, rfl⟩ (w_call Try.call10 rfl (string_ok hb (by omega))) rfl ?_
  rintro _ w10 ⟨rfl, hx10⟩
  replace hx := hx.ext hx10
  replace hM := hM.ext hx10
  replace ha := ha.ext hx10
  replace hb := hb.ext hx10
  replace hc1 := hc1.ext hx10
  replace hc2 := hc2.ext hx10
  replace hcc := hcc.ext hx10
  first | refine Rg.tm ⟨_, rfl, rfl⟩ rfl (t_seqlT rfl rfl (by assumption)) rfl ?_ | refine Rg.tm ⟨_, rfl, rfl⟩ rfl (t_seqlF rfl rfl (by assumption)) rfl ?_ | refine Rg.tm ⟨_, rfl, rfl⟩ rfl (t_seql rfl rfl) rfl ?_ | refine Rg.sk (.inl ⟨_, _, rfl, rfl, rfl⟩) rfl ?_ | refine Rg.sk (.inr ⟨_, rfl, rfl⟩) rfl ?_
  first | refine Rg.tm trivial rfl (t_pickT rfl rfl) rfl ?_ | refine Rg.tm trivial rfl (t_pickF rfl rfl) rfl ?_
  refine Rg.tm trivial rfl (t_move rfl) rfl ?_
  first | refine Rg.tm ⟨_, rfl, rfl⟩ rfl (t_move rfl) rfl ?_ | refine Rg.sk (.inl ⟨_, _, rfl, rfl, rfl⟩) rfl ?_ | refine Rg.sk (.inr ⟨_, rfl, rfl⟩) rfl ?_
  first | refine Rg.tm ⟨_, rfl, rfl⟩ rfl (t_eqlT rfl rfl (by omega)) rfl ?_ | refine Rg.tm ⟨_, rfl, rfl⟩ rfl (t_eqlF rfl rfl (by omega)) rfl ?_ | refine Rg.tm ⟨_, rfl, rfl⟩ rfl (t_eql rfl rfl) rfl ?_ | refine Rg.sk (.inl ⟨_, _, rfl, rfl, rfl⟩) rfl ?_ | refine Rg.sk (.inr ⟨_, rfl, rfl⟩) rfl ?_
  first | refine Rg.tm trivial rfl (t_pickT rfl rfl) rfl ?_ | refine Rg.tm trivial rfl (t_pickF rfl rfl) rfl ?_
  refine Rg.tm trivial rfl (t_move rfl) rfl ?_
  first | refine Rg.tm ⟨_, rfl, rfl⟩ rfl (t_move rfl) rfl ?_ | refine Rg.sk (.inl ⟨_, _, rfl, rfl, rfl⟩) rfl ?_ | refine Rg.sk (.inr ⟨_, rfl, rfl⟩) rfl ?_
  first | refine Rg.tm ⟨_, rfl, rfl⟩ rfl (t_eqlT rfl rfl (by omega)) rfl ?_ | refine Rg.tm ⟨_, rfl, rfl⟩ rfl (t_eqlF rfl rfl (by omega)) rfl ?_ | refine Rg.tm ⟨_, rfl, rfl⟩ rfl (t_eql rfl rfl) rfl ?_ | refine Rg.sk (.inl ⟨_, _, rfl, rfl, rfl⟩) rfl ?_ | refine Rg.sk (.inr ⟨_, rfl, rfl⟩) rfl ?_
  first | refine Rg.tm trivial rfl (t_pickT rfl rfl) rfl ?_ | refine Rg.tm trivial rfl (t_pickF rfl rfl) rfl ?_
  refine Rg.tm trivial rfl (t_move rfl) rfl ?_
  first | refine Rg.tm ⟨_, rfl, rfl⟩ rfl (t_move rfl) rfl ?_ | refine Rg.sk (.inl ⟨_, _, rfl, rfl, rfl⟩) rfl ?_ | refine Rg.sk (.inr ⟨_, rfl, rfl⟩) rfl ?_
  first | refine Rg.tm ⟨_, rfl, rfl⟩ rfl (t_eqlT rfl rfl (by omega)) rfl ?_ | refine Rg.tm ⟨_, rfl, rfl⟩ rfl (t_eqlF rfl rfl (by omega)) rfl ?_ | refine Rg.tm ⟨_, rfl, rfl⟩ rfl (t_eql rfl rfl) rfl ?_ | refine Rg.sk (.inl ⟨_, _, rfl, rfl, rfl⟩) rfl ?_ | refine Rg.sk (.inr ⟨_, rfl, rfl⟩) rfl ?_
  first | refine Rg.tm trivial rfl (t_pickT rfl rfl) rfl ?_ | refine Rg.tm trivial rfl (t_pickF rfl rfl) rfl ?_
  refine Rg.tm trivial rfl (t_move rfl) rfl ?_
  first | refine Rg.tm ⟨_, rfl, rfl⟩ rfl (t_build (bd27) rfl) rfl ?_ | refine Rg.sk (.inl ⟨_, _, rfl, rfl, rfl⟩) rfl ?_ | refine Rg.sk (.inr ⟨_, rfl, rfl⟩) rfl ?_
  refine Rg.wd ⟨_, rfl, rfl⟩ (w_call Try.call11 rfl (len_ok (M := []) (t := none) ⟨none, rfl, rfl⟩)) rfl ?_
  rintro _ w11 ⟨rfl, hx11⟩
  replace hx := hx.ext hx11
  replace hM := hM.ext hx11
  replace ha := ha.ext hx11
  replace hb := hb.ext hx11
  replace hc1 := hc1.ext hx11
  replace hc2 := hc2.ext hx11
  replace hcc := hcc.ext hx11
  first | refine Rg.tm ⟨_, rfl, rfl⟩ rfl (t_eqlT rfl rfl (by omega)) rfl ?_ | refine Rg.tm ⟨_, rfl, rfl⟩ rfl (t_eqlF rfl rfl (by omega)) rfl ?_ | refine Rg.tm ⟨_, rfl, rfl⟩ rfl (t_eql rfl rfl) rfl ?_ | refine Rg.sk (.inl ⟨_, _, rfl, rfl, rfl⟩) rfl ?_ | refine Rg.sk (.inr ⟨_, rfl, rfl⟩) rfl ?_
  first | refine Rg.tm trivial rfl (t_pickT rfl rfl) rfl ?_ | refine Rg.tm trivial rfl (t_pickF rfl rfl) rfl ?_
  refine Rg.tm trivial rfl (t_assign rfl) rfl ?_
  refine Rg.done ?_
  refine Wp.ret ?_
  exact ⟨[_], ⟨rfl, trivial⟩, rfl, hx⟩
end Go.Proofs.Yteopmfijfgaldaa
