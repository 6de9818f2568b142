/- The walks of textedit.canonical and textedit.Compose. Printed by r3/topd.py. -/
import Derived.Test.YtbnkncemfadfjaaGreatDoorCb
namespace Go.Proofs.YtbnkncemfadfjaaGreatDoor
set_option linter.unusedVariables false
set_option linter.unusedSimpArgs false
set_option maxRecDepth 20000
open Go.Gx Go.RowKit Go.Lib

theorem tes_append : ∀ a b : List TE, tes (a ++ b) = tes a ++ tes b
  | [], b => rfl
  | e :: a, b => by simp [tes, tes_append a b]
theorem tes_one (l : List TE) : ∀ u ∈ tes l, u.oneCell' = true := by
  induction l with
  | nil => intro u hu; cases hu
  | cons t l ih =>
    intro u hu
    simp only [tes, TE.cells, List.mem_append, List.mem_cons, List.not_mem_nil, or_false] at hu
    rcases hu with (rfl | rfl | rfl) | hu
    · rfl
    · rfl
    · rfl
    · exact ih u hu
abbrev u8s (l : List UInt8) : List Value := l.map fun b => .int .u8 b.toNat
theorem flushE_len (st en : Int) (pend : List UInt8) : (flushE st en pend).length ≤ 1 := by
  unfold flushE
  split <;> simp
theorem flush_ok {W w : World} {b6 b7 b8 : Nat} {vo vp : Value} {st en : Int} {pend : List UInt8} {outl : List TE} (hx : Ext W w) (h6 : Var w b6 [vo] 22) (h7 : Var w b7 [.int .i64 st] 3) (h8 : Var w b8 [vp] 81)
    (ho : w.ownsRow W.heap.size 51 3 vo outl.length (tes outl)) (hp : w.ownsRow W.heap.size 5 1 vp pend.length (u8s pend)) (hB6 : W.heap.size ≤ b6) (hB7 : W.heap.size ≤ b7) (hB8 : W.heap.size ≤ b8) (hol : outl.length ≤ 1000000) (hen : -1 ≤ en ∧ en ≤ 5000) :
    Cl Tryz.prog 35 #[.int .i64 en, .pointer (some ⟨b7, 0, none⟩), .pointer (some ⟨b8, 0, none⟩), .pointer (some ⟨b6, 0, none⟩)] w (fun u w' => Ext W w' ∧ ∃ vo', Var w' b6 [vo'] 22 ∧ Var w' b7 [.int .i64 (en + 1)] 3 ∧ Var w' b8 [.slice none 0 0] 81 ∧
      w'.ownsRow W.heap.size 51 3 vo' (outl ++ flushE st en pend).length (tes (outl ++ flushE st en pend))) := by
  obtain ⟨i, hi, hz, hsi, hby⟩ := inf51
  have hps := own_slice hp
  have c6 := h6.cells
  have c7 := h7.cells
  have c8 := h8.cells
  have n67 := h6.ne h7 (by decide)
  have n68 := h6.ne h8 (by decide)
  have n78 := h7.ne h8 (by decide)
  by_cases hc1 : st < en
  · have hE : flushE st en pend = [⟨st, en, ⟨pend.toArray⟩⟩] := if_pos (.inl hc1)
    refine Cl.enter Tryz.func35 rfl Tryz.ntmps35 rfl rfl ?_
    refine Wp.seq ?_
    refine Wp.seq (Wp.region ?_)
    refine Rg.tm trivial rfl (t_load ty3 rfl (by first | assumption | (apply Cells.get (i := 0); (case h => assumption); rfl))) rfl ?_
    refine Rg.tm trivial rfl (t_move rfl) rfl ?_
    first | refine Rg.tm trivial rfl (t_lssT rfl rfl (by omega)) rfl ?_ | refine Rg.tm trivial rfl (t_lssF rfl rfl (by omega)) rfl ?_ | refine Rg.tm trivial rfl (t_lss rfl rfl) rfl ?_
    refine Rg.tm trivial rfl (t_move rfl) rfl ?_
    first | refine Rg.tm ⟨_, rfl, rfl⟩ rfl (t_load ty81 rfl (by first | assumption | (apply Cells.get (i := 0); (case h => assumption); rfl))) rfl ?_ | refine Rg.sk (.inl ⟨_, _, rfl, rfl, rfl⟩) rfl ?_ | refine Rg.sk (.inr ⟨_, rfl, rfl⟩) rfl ?_
    first | refine Rg.tm ⟨_, rfl, rfl⟩ rfl (t_lenC hps Tryz.underlying81 rfl) rfl ?_ | refine Rg.sk (.inl ⟨_, _, rfl, rfl, rfl⟩) rfl ?_ | refine Rg.sk (.inr ⟨_, rfl, rfl⟩) rfl ?_
    first | refine Rg.tm ⟨_, rfl, rfl⟩ rfl (t_gtrT rfl rfl (by omega)) rfl ?_ | refine Rg.tm ⟨_, rfl, rfl⟩ rfl (t_gtrF rfl rfl (by omega)) rfl ?_ | refine Rg.tm ⟨_, rfl, rfl⟩ rfl (t_gtr rfl rfl) rfl ?_ | refine Rg.sk (.inl ⟨_, _, rfl, rfl, rfl⟩) rfl ?_ | refine Rg.sk (.inr ⟨_, rfl, rfl⟩) rfl ?_
    first | refine Rg.tm trivial rfl (t_pickT rfl rfl) rfl ?_ | refine Rg.tm trivial rfl (t_pickF rfl rfl) rfl ?_
    refine Rg.done ?_
    refine Wp.condT rfl ?_
    refine Wp.region ?_
    refine Rg.tm trivial rfl (t_load ty22 rfl (by first | assumption | (apply Cells.get (i := 0); (case h => assumption); rfl))) rfl ?_
    refine Rg.tm trivial rfl (t_load ty3 rfl (by first | assumption | (apply Cells.get (i := 0); (case h => assumption); rfl))) rfl ?_
    refine Rg.tm trivial rfl (t_move rfl) rfl ?_
    refine Rg.tm trivial rfl (t_load ty81 rfl (by first | assumption | (apply Cells.get (i := 0); (case h => assumption); rfl))) rfl ?_
    refine Rg.tm trivial rfl (t_bytesStr Tryz.underlying81 Tryz.underlying5 Tryz.underlying9 hps rfl) rfl ?_
    refine Rg.tm trivial rfl (t_build (bd51_0_1_2 _ _ _) rfl) rfl ?_
    refine Rg.wd trivial (w_buildSlice (bs22_1 _ _ _) rfl) rfl ?_
    rintro _ wb ⟨bb, rfl, qb, hxb, hvb⟩
    replace hx := hx.ext hxb
    replace h6 := h6.ext hxb
    replace h7 := h7.ext hxb
    replace h8 := h8.ext hxb
    replace ho := own_ext ho hxb
    refine Rg.wd trivial (w_append W.heap.size Tryz.underlying22 hi hz hsi hby rfl (by decide) rfl rfl ho rfl (fun j u hu => by rw [addr_add]; exact hvb.cells j u hu) (by simp [Value.oneCell']) (by unfold maxLen; omega) (by omega) hx.le) rfl ?_
    rintro v2 wc ⟨ho2, hgr, p2, l2, c2, rfl⟩
    replace h6 := h6.grown ho hgr (by decide)
    replace h7 := h7.grown ho hgr (by decide)
    replace h8 := h8.grown ho hgr (by decide)
    replace hx := own_ext3 hx ho hgr
    clear ho
    refine Rg.wn trivial (w_put h6 rfl rfl rfl ty22 rfl rfl) ?_
    rintro _ wd ⟨hu, h6'⟩
    replace ho2 := own_upd ho2 h6 hu (by decide)
    replace h7 := h7.upd hu (Ne.symm n67)
    replace h8 := h8.upd hu (Ne.symm n68)
    replace hx := hx.upd hu hB6
    refine Rg.done ?_
    refine Wp.region ?_
    refine Rg.tm trivial rfl (t_move rfl) rfl ?_
    first | refine Rg.tm trivial rfl (t_addI rfl rfl (by omega)) rfl ?_ | refine Rg.tm trivial rfl (t_add rfl rfl) rfl ?_
    refine Rg.wn trivial (by first | exact w_put h7 rfl rfl rfl ty3 rfl rfl | exact w_put h8 rfl rfl rfl ty81 rfl rfl) ?_
    rintro _ we ⟨hu7, h7'⟩
    have k6 := h6'.upd hu7 n67
    have ko := own_upd ho2 h7 hu7 (by decide)
    replace h8 := h8.upd hu7 (Ne.symm n78)
    replace hx := hx.upd hu7 hB7
    refine Rg.wn trivial (by first | exact w_put h7 rfl rfl rfl ty3 rfl rfl | exact w_put h8 rfl rfl rfl ty81 rfl rfl) ?_
    rintro _ wf ⟨hu8, h8'⟩
    replace k6 := k6.upd hu8 n68
    replace ko := own_upd ko h8 hu8 (by decide)
    replace h7' := h7'.upd hu8 n78
    replace hx := hx.upd hu8 hB8
    refine Rg.done ?_
    refine ⟨[], trivial, hx, _, k6, h7', h8', ?_⟩
    rw [hE, tes_append, List.length_append]
    exact ko
  · by_cases hc2 : 0 < pend.length
    · have hE : flushE st en pend = [⟨st, en, ⟨pend.toArray⟩⟩] := if_pos (.inr fun h => by rw [h] at hc2; exact Nat.lt_irrefl _ hc2)
      refine Cl.enter Tryz.func35 rfl Tryz.ntmps35 rfl rfl ?_
      refine Wp.seq ?_
      refine Wp.seq (Wp.region ?_)
      refine Rg.tm trivial rfl (t_load ty3 rfl (by first | assumption | (apply Cells.get (i := 0); (case h => assumption); rfl))) rfl ?_
      refine Rg.tm trivial rfl (t_move rfl) rfl ?_
      first | refine Rg.tm trivial rfl (t_lssT rfl rfl (by omega)) rfl ?_ | refine Rg.tm trivial rfl (t_lssF rfl rfl (by omega)) rfl ?_ | refine Rg.tm trivial rfl (t_lss rfl rfl) rfl ?_
      refine Rg.tm trivial rfl (t_move rfl) rfl ?_
      first | refine Rg.tm ⟨_, rfl, rfl⟩ rfl (t_load ty81 rfl (by first | assumption | (apply Cells.get (i := 0); (case h => assumption); rfl))) rfl ?_ | refine Rg.sk (.inl ⟨_, _, rfl, rfl, rfl⟩) rfl ?_ | refine Rg.sk (.inr ⟨_, rfl, rfl⟩) rfl ?_
      first | refine Rg.tm ⟨_, rfl, rfl⟩ rfl (t_lenC hps Tryz.underlying81 rfl) rfl ?_ | refine Rg.sk (.inl ⟨_, _, rfl, rfl, rfl⟩) rfl ?_ | refine Rg.sk (.inr ⟨_, rfl, rfl⟩) rfl ?_
      first | refine Rg.tm ⟨_, rfl, rfl⟩ rfl (t_gtrT rfl rfl (by omega)) rfl ?_ | refine Rg.tm ⟨_, rfl, rfl⟩ rfl (t_gtrF rfl rfl (by omega)) rfl ?_ | refine Rg.tm ⟨_, rfl, rfl⟩ rfl (t_gtr rfl rfl) rfl ?_ | refine Rg.sk (.inl ⟨_, _, rfl, rfl, rfl⟩) rfl ?_ | refine Rg.sk (.inr ⟨_, rfl, rfl⟩) rfl ?_
      first | refine Rg.tm trivial rfl (t_pickT rfl rfl) rfl ?_ | refine Rg.tm trivial rfl (t_pickF rfl rfl) rfl ?_
      refine Rg.done ?_
      refine Wp.condT rfl ?_
      refine Wp.region ?_
      refine Rg.tm trivial rfl (t_load ty22 rfl (by first | assumption | (apply Cells.get (i := 0); (case h => assumption); rfl))) rfl ?_
      refine Rg.tm trivial rfl (t_load ty3 rfl (by first | assumption | (apply Cells.get (i := 0); (case h => assumption); rfl))) rfl ?_
      refine Rg.tm trivial rfl (t_move rfl) rfl ?_
      refine Rg.tm trivial rfl (t_load ty81 rfl (by first | assumption | (apply Cells.get (i := 0); (case h => assumption); rfl))) rfl ?_
      refine Rg.tm trivial rfl (t_bytesStr Tryz.underlying81 Tryz.underlying5 Tryz.underlying9 hps rfl) rfl ?_
      refine Rg.tm trivial rfl (t_build (bd51_0_1_2 _ _ _) rfl) rfl ?_
      refine Rg.wd trivial (w_buildSlice (bs22_1 _ _ _) rfl) rfl ?_
      rintro _ wb ⟨bb, rfl, qb, hxb, hvb⟩
      replace hx := hx.ext hxb
      replace h6 := h6.ext hxb
      replace h7 := h7.ext hxb
      replace h8 := h8.ext hxb
      replace ho := own_ext ho hxb
      refine Rg.wd trivial (w_append W.heap.size Tryz.underlying22 hi hz hsi hby rfl (by decide) rfl rfl ho rfl (fun j u hu => by rw [addr_add]; exact hvb.cells j u hu) (by simp [Value.oneCell']) (by unfold maxLen; omega) (by omega) hx.le) rfl ?_
      rintro v2 wc ⟨ho2, hgr, p2, l2, c2, rfl⟩
      replace h6 := h6.grown ho hgr (by decide)
      replace h7 := h7.grown ho hgr (by decide)
      replace h8 := h8.grown ho hgr (by decide)
      replace hx := own_ext3 hx ho hgr
      clear ho
      refine Rg.wn trivial (w_put h6 rfl rfl rfl ty22 rfl rfl) ?_
      rintro _ wd ⟨hu, h6'⟩
      replace ho2 := own_upd ho2 h6 hu (by decide)
      replace h7 := h7.upd hu (Ne.symm n67)
      replace h8 := h8.upd hu (Ne.symm n68)
      replace hx := hx.upd hu hB6
      refine Rg.done ?_
      refine Wp.region ?_
      refine Rg.tm trivial rfl (t_move rfl) rfl ?_
      first | refine Rg.tm trivial rfl (t_addI rfl rfl (by omega)) rfl ?_ | refine Rg.tm trivial rfl (t_add rfl rfl) rfl ?_
      refine Rg.wn trivial (by first | exact w_put h7 rfl rfl rfl ty3 rfl rfl | exact w_put h8 rfl rfl rfl ty81 rfl rfl) ?_
      rintro _ we ⟨hu7, h7'⟩
      have k6 := h6'.upd hu7 n67
      have ko := own_upd ho2 h7 hu7 (by decide)
      replace h8 := h8.upd hu7 (Ne.symm n78)
      replace hx := hx.upd hu7 hB7
      refine Rg.wn trivial (by first | exact w_put h7 rfl rfl rfl ty3 rfl rfl | exact w_put h8 rfl rfl rfl ty81 rfl rfl) ?_
      rintro _ wf ⟨hu8, h8'⟩
      replace k6 := k6.upd hu8 n68
      replace ko := own_upd ko h8 hu8 (by decide)
      replace h7' := h7'.upd hu8 n78
      replace hx := hx.upd hu8 hB8
      refine Rg.done ?_
      refine ⟨[], trivial, hx, _, k6, h7', h8', ?_⟩
      rw [hE, tes_append, List.length_append]
      exact ko
    · have hE : flushE st en pend = [] := if_neg fun h => h.elim hc1 fun hn => hn (List.length_eq_zero_iff.1 (by omega))
      refine Cl.enter Tryz.func35 rfl Tryz.ntmps35 rfl rfl ?_
      refine Wp.seq ?_
      refine Wp.seq (Wp.region ?_)
      refine Rg.tm trivial rfl (t_load ty3 rfl (by first | assumption | (apply Cells.get (i := 0); (case h => assumption); rfl))) rfl ?_
      refine Rg.tm trivial rfl (t_move rfl) rfl ?_
      first | refine Rg.tm trivial rfl (t_lssT rfl rfl (by omega)) rfl ?_ | refine Rg.tm trivial rfl (t_lssF rfl rfl (by omega)) rfl ?_ | refine Rg.tm trivial rfl (t_lss rfl rfl) rfl ?_
      refine Rg.tm trivial rfl (t_move rfl) rfl ?_
      first | refine Rg.tm ⟨_, rfl, rfl⟩ rfl (t_load ty81 rfl (by first | assumption | (apply Cells.get (i := 0); (case h => assumption); rfl))) rfl ?_ | refine Rg.sk (.inl ⟨_, _, rfl, rfl, rfl⟩) rfl ?_ | refine Rg.sk (.inr ⟨_, rfl, rfl⟩) rfl ?_
      first | refine Rg.tm ⟨_, rfl, rfl⟩ rfl (t_lenC hps Tryz.underlying81 rfl) rfl ?_ | refine Rg.sk (.inl ⟨_, _, rfl, rfl, rfl⟩) rfl ?_ | refine Rg.sk (.inr ⟨_, rfl, rfl⟩) rfl ?_
      first | refine Rg.tm ⟨_, rfl, rfl⟩ rfl (t_gtrT rfl rfl (by omega)) rfl ?_ | refine Rg.tm ⟨_, rfl, rfl⟩ rfl (t_gtrF rfl rfl (by omega)) rfl ?_ | refine Rg.tm ⟨_, rfl, rfl⟩ rfl (t_gtr rfl rfl) rfl ?_ | refine Rg.sk (.inl ⟨_, _, rfl, rfl, rfl⟩) rfl ?_ | refine Rg.sk (.inr ⟨_, rfl, rfl⟩) rfl ?_
      first | refine Rg.tm trivial rfl (t_pickT rfl rfl) rfl ?_ | refine Rg.tm trivial rfl (t_pickF rfl rfl) rfl ?_
      refine Rg.done ?_
      refine Wp.condF rfl ?_
      refine Wp.skip ?_
      refine Wp.region ?_
      refine Rg.tm trivial rfl (t_move rfl) rfl ?_
      first | refine Rg.tm trivial rfl (t_addI rfl rfl (by omega)) rfl ?_ | refine Rg.tm trivial rfl (t_add rfl rfl) rfl ?_
      refine Rg.wn trivial (by first | exact w_put h7 rfl rfl rfl ty3 rfl rfl | exact w_put h8 rfl rfl rfl ty81 rfl rfl) ?_
      rintro _ we ⟨hu7, h7'⟩
      have k6 := h6.upd hu7 n67
      have ko := own_upd ho h7 hu7 (by decide)
      replace h8 := h8.upd hu7 (Ne.symm n78)
      replace hx := hx.upd hu7 hB7
      refine Rg.wn trivial (by first | exact w_put h7 rfl rfl rfl ty3 rfl rfl | exact w_put h8 rfl rfl rfl ty81 rfl rfl) ?_
      rintro _ wf ⟨hu8, h8'⟩
      replace k6 := k6.upd hu8 n68
      replace ko := own_upd ko h8 hu8 (by decide)
      replace h7' := h7'.upd hu8 n78
      replace hx := hx.upd hu8 hB8
      refine Rg.done ?_
      refine ⟨[], trivial, hx, _, k6, h7', h8', ?_⟩
      rw [hE, List.append_nil]
      exact ko

theorem canonical_ok {w : World} {v1 : Value} {bs : List TB} {n : Int} (hb0 : SlC w v1 2 bs.length (tbs bs)) (hb : bs.length ≤ 2000) (hn : 0 ≤ n ∧ n ≤ 2000) (ho : ∀ x ∈ bs, -1 ≤ x.2 ∧ x.2 ≤ 2000) :
    Cl Tryz.prog 14 #[.int .i64 n, v1] w (fun u w' => ((50 < (canon n 0 [] bs).length ∧ u = .tuple #[.slice none 0 0, .int .i64 2]) ∨ ((canon n 0 [] bs).length ≤ 50 ∧ ∃ v, u = .tuple #[v, .int .i64 0] ∧ SlC w' v 3 (canon n 0 [] bs).length (tes (canon n 0 [] bs)))) ∧ Ext w w') := by
  obtain ⟨i, hi, hz, hsi, hby⟩ := inf5
  have hx := Ext.refl w
  refine Cl.enter Tryz.func14 rfl Tryz.ntmps14 rfl rfl ?_
  refine Wp.seq (Wp.region ?_)
  refine Rg.tm trivial rfl (t_assign rfl) rfl ?_
  refine Rg.tm trivial rfl (t_assign rfl) rfl ?_
  refine Rg.done ?_
  refine Wp.seq (Wp.region ?_)
  refine Rg.wd trivial (w_new Tryz.zeroValue22 rfl) rfl ?_
  rintro _ w1 ⟨b6, rfl, qb6, hx1, h6⟩
  replace hx := hx.ext hx1
  refine Rg.done ?_
  refine Wp.seq (Wp.region ?_)
  refine Rg.wd trivial (w_new Tryz.zeroValue3 rfl) rfl ?_
  have k6 := hx.le
  rintro _ wa ⟨b7, rfl, qb7, hxa, hva⟩
  refine Rg.wn trivial (w_put hva rfl rfl rfl ty3 rfl rfl) ?_
  rintro _ w2 ⟨hu, h7⟩
  have hx2 := hxa.upd hu (Nat.le_of_eq qb7.symm)
  replace hx := hx.ext hx2
  replace h6 := h6.ext hx2
  clear hva hu
  refine Rg.done ?_
  refine Wp.seq (Wp.region ?_)
  have k7 := hx.le
  refine Rg.wd trivial (w_new Tryz.zeroValue81 rfl) rfl ?_
  rintro _ w3 ⟨b8, rfl, qb8, hx3, h8⟩
  replace hx := hx.ext hx3
  replace h6 := h6.ext hx3
  replace h7 := h7.ext hx3
  refine Rg.done ?_
  refine Wp.seq (Wp.region ?_)
  refine Rg.tm trivial rfl (t_makeFunc (vs := [_, _, _]) rfl) rfl ?_
  refine Rg.tm trivial rfl (t_assign rfl) rfl ?_
  refine Rg.done ?_
  refine Wp.seq ?_
  refine Wp.seq (Wp.region ?_)
  refine Rg.tm trivial rfl (t_move rfl) rfl ?_
  refine Rg.tm trivial rfl (t_lenC hb0 Tryz.underlying54 rfl) rfl ?_
  refine Rg.tm trivial rfl (t_move rfl) rfl ?_
  refine Rg.done ?_
  refine Wp.block ?_
  have hB6 : w.heap.size ≤ b6 := by omega
  have hB7 : w.heap.size ≤ b7 := by omega
  have hB8 : w.heap.size ≤ b8 := by omega
  refine Wp.loop (ι := Nat × Int × List UInt8 × List TE × Value × Value) (fun j => [(0, .int .i64 n), (6, .pointer (some ⟨b6, 0, none⟩)), (9, .func (.func 35) #[] [.pointer (some ⟨b7, 0, none⟩), .pointer (some ⟨b8, 0, none⟩), .pointer (some ⟨b6, 0, none⟩)].toArray), (8, .pointer (some ⟨b8, 0, none⟩)), (13, v1), (14, .int .i64 bs.length), (15, .int .i64 j.1)])
    (fun j w' => j.1 ≤ bs.length ∧ j.2.2.2.1 ++ canon n j.2.1 j.2.2.1 (bs.drop j.1) = canon n 0 [] bs ∧ j.2.2.2.1.length ≤ j.1 ∧ j.2.2.1.length ≤ j.1 ∧ Var w' b6 [j.2.2.2.2.1] 22 ∧ Var w' b7 [.int .i64 j.2.1] 3 ∧ Var w' b8 [j.2.2.2.2.2] 81 ∧
      w'.ownsRow w.heap.size 51 3 j.2.2.2.2.1 j.2.2.2.1.length (tes j.2.2.2.1) ∧ w'.ownsRow w.heap.size 5 1 j.2.2.2.2.2 j.2.2.1.length (u8s j.2.2.1) ∧ Ext w w')
    (fun j => bs.length - j.1) (0, 0, [], [], .slice none 0 0, .slice none 0 0) (by repeat (first | exact .nil | refine .cons rfl ?_)) ⟨Nat.zero_le _, rfl, Nat.le_refl _, Nat.le_refl _, h6, h7, h8, own_nil _ _ _ _, own_nil _ _ _ _, hx⟩ ?_
  clear hx h6 h7 h8
  rintro ⟨k, st, pend, outl, vo, vp⟩ w3 ⟨hk, hE, hol, hpl, h6, h7, h8, ho6, hp8, hx⟩
  simp only at hk hE hol hpl h6 h7 h8 ho6 hp8 ⊢
  by_cases hlt : k < bs.length
  · have hmem := ho _ (List.getElem_mem hlt)
    rw [List.drop_eq_getElem_cons hlt] at hE
    obtain ⟨⟨vb, o⟩, hvo⟩ : ∃ x, bs[k] = x := ⟨_, rfl⟩
    rw [hvo] at hE hmem
    simp only [canon] at hE
    simp only at hmem
    refine Wp.seq (Wp.region ?_)
    first | refine Rg.tm trivial rfl (t_lssT rfl rfl (by omega)) rfl ?_ | refine Rg.tm trivial rfl (t_lssF rfl rfl (by omega)) rfl ?_ | refine Rg.tm trivial rfl (t_lss rfl rfl) rfl ?_
    refine Rg.done ?_
    refine Wp.seq ?_
    refine Wp.condT rfl ?_
    refine Wp.skip ?_
    refine Wp.seq ?_
    refine Wp.block ?_
    refine Wp.seq (Wp.region ?_)
    refine Rg.ix hb0 trivial rfl rfl Tryz.underlying54 ty96 (by omega) rfl ?_
    intro bt17 ot17 ht17
    replace ht17 := ht17.ext hx
    rw [Int.toNat_natCast, tbs_at bs k hlt, hvo] at ht17
    refine Rg.tm trivial rfl (t_loadA rfl ht17 ty96) rfl ?_
    refine Rg.wd trivial (w_new Tryz.zeroValue96 rfl) rfl ?_
    rintro _ wa ⟨b11, rfl, qb11, hxa, hva⟩
    refine Rg.wn trivial (w_put hva rfl rfl rfl ty96 rfl rfl) ?_
    rintro _ w4 ⟨hu, hv11⟩
    have hx4 := hxa.upd hu (Nat.le_of_eq qb11.symm)
    replace hx := hx.ext hx4
    replace h6 := h6.ext hx4
    replace h7 := h7.ext hx4
    replace h8 := h8.ext hx4
    replace ht17 := ht17.ext hx4
    replace ho6 := own_ext ho6 hx4
    replace hp8 := own_ext hp8 hx4
    have hc11 := hv11.cells
    have hc8 := h8.cells
    clear hva hu
    refine Rg.done ?_
    by_cases ho1 : o = -1
    · rw [if_pos ho1] at hE
      refine Wp.seq (Wp.region ?_)
      refine Rg.tm trivial rfl (t_fieldAddr fa96_1 rfl) rfl ?_
      refine Rg.tm trivial rfl (t_load ty3 rfl (by apply Cells.get (i := 1); (case h => assumption); rfl)) rfl ?_
      first | refine Rg.tm trivial rfl (t_eqlT rfl rfl (by omega)) rfl ?_ | refine Rg.tm trivial rfl (t_eqlF rfl rfl (by omega)) rfl ?_ | refine Rg.tm trivial rfl (t_eql rfl rfl) rfl ?_
      refine Rg.done ?_
      refine Wp.condT rfl ?_
      refine Wp.region ?_
      refine Rg.tm trivial rfl (t_load ty81 rfl (by first | assumption | (apply Cells.get (i := 0); (case h => assumption); rfl))) rfl ?_
      refine Rg.tm trivial rfl (t_fieldAddr fa96_0 rfl) rfl ?_
      refine Rg.tm trivial rfl (t_load ty5 rfl (by apply Cells.get (i := 0); (case h => assumption); rfl)) rfl ?_
      refine Rg.wd trivial (w_buildSlice (bs81_1 _) rfl) rfl ?_
      rintro _ wb ⟨bb, rfl, qb, hxb, hvb⟩
      replace hx := hx.ext hxb
      replace h6 := h6.ext hxb
      replace h7 := h7.ext hxb
      replace h8 := h8.ext hxb
      replace ho6 := own_ext ho6 hxb
      replace hp8 := own_ext hp8 hxb
      refine Rg.wd trivial (w_append w.heap.size Tryz.underlying81 hi hz hsi hby rfl (by decide) rfl rfl hp8 rfl (fun j u hu => by rw [addr_add]; exact hvb.cells j u hu) (by simp [Value.oneCell']) (by unfold maxLen; omega) (by omega) hx.le) rfl ?_
      rintro v2 wc ⟨hp2, hgr, p2, l2, c2, rfl⟩
      replace h6 := h6.grown hp8 hgr (by decide)
      replace h7 := h7.grown hp8 hgr (by decide)
      replace h8 := h8.grown hp8 hgr (by decide)
      replace ho6 := own_grown ho6 hp8 hgr (by decide)
      replace hx := own_ext3 hx hp8 hgr
      clear hp8
      refine Rg.wn trivial (w_put h8 rfl rfl rfl ty81 rfl rfl) ?_
      rintro _ wd ⟨hu, h8'⟩
      replace hp2 := own_upd hp2 h8 hu (by decide)
      replace ho6 := own_upd ho6 h8 hu (by decide)
      replace h6 := h6.upd hu (h6.ne h8 (by decide))
      replace h7 := h7.upd hu (h7.ne h8 (by decide))
      replace hx := hx.upd hu hB8
      refine Rg.done ?_
      refine Wp.region ?_
      first | refine Rg.tm trivial rfl (t_addI rfl rfl (by omega)) rfl ?_ | refine Rg.tm trivial rfl (t_add rfl rfl) rfl ?_
      refine Rg.tm trivial rfl (t_move rfl) rfl ?_
      refine Rg.done ?_
      refine ⟨(k + 1, st, pend ++ [vb], outl, vo, .slice p2 l2 c2), by repeat (first | exact .nil | refine .cons rfl ?_), ⟨hlt, hE, by simp only; omega, by simp only [List.length_append, List.length_cons, List.length_nil]; omega, h6, h7, h8', ho6, ?_, hx⟩, by simp only; omega⟩
      simp only [List.length_append, List.length_cons, List.length_nil, u8s, List.map_append, List.map_cons, List.map_nil]
      exact hp2
    · rw [if_neg ho1, ← List.append_assoc] at hE
      have hfl := flushE_len st o pend
      refine Wp.seq (Wp.region ?_)
      refine Rg.tm trivial rfl (t_fieldAddr fa96_1 rfl) rfl ?_
      refine Rg.tm trivial rfl (t_load ty3 rfl (by apply Cells.get (i := 1); (case h => assumption); rfl)) rfl ?_
      first | refine Rg.tm trivial rfl (t_eqlT rfl rfl (by omega)) rfl ?_ | refine Rg.tm trivial rfl (t_eqlF rfl rfl (by omega)) rfl ?_ | refine Rg.tm trivial rfl (t_eql rfl rfl) rfl ?_
      refine Rg.done ?_
      refine Wp.condF rfl ?_
      refine Wp.region ?_
      refine Rg.tm trivial rfl (t_move rfl) rfl ?_
      refine Rg.tm trivial rfl (t_fieldAddr fa96_1 rfl) rfl ?_
      refine Rg.tm trivial rfl (t_load ty3 rfl (by apply Cells.get (i := 1); (case h => assumption); rfl)) rfl ?_
      refine Rg.wd trivial (w_callK (vs := [.int .i64 o]) (cap := [.pointer (some ⟨b7, 0, none⟩), .pointer (some ⟨b8, 0, none⟩), .pointer (some ⟨b6, 0, none⟩)]) rfl Tryz.call35 rfl (flush_ok hx h6 h7 h8 ho6 hp8 hB6 hB7 hB8 (by omega) (by omega))) rfl ?_
      rintro _ w6 ⟨hx6, vo', g6, g7, g8, go⟩
      refine Rg.done ?_
      refine Wp.region ?_
      first | refine Rg.tm trivial rfl (t_addI rfl rfl (by omega)) rfl ?_ | refine Rg.tm trivial rfl (t_add rfl rfl) rfl ?_
      refine Rg.tm trivial rfl (t_move rfl) rfl ?_
      refine Rg.done ?_
      exact ⟨(k + 1, o + 1, [], outl ++ flushE st o pend, vo', .slice none 0 0), by repeat (first | exact .nil | refine .cons rfl ?_), ⟨hlt, hE, by simp only [List.length_append]; omega, Nat.zero_le _, g6, g7, g8, go, own_nil _ _ _ _, hx6⟩, by simp only; omega⟩
  · have e0 : bs.drop k = [] := List.drop_eq_nil_of_le (by omega)
    rw [e0] at hE
    simp only [canon] at hE
    refine Wp.seq (Wp.region ?_)
    first | refine Rg.tm trivial rfl (t_lssT rfl rfl (by omega)) rfl ?_ | refine Rg.tm trivial rfl (t_lssF rfl rfl (by omega)) rfl ?_ | refine Rg.tm trivial rfl (t_lss rfl rfl) rfl ?_
    refine Rg.done ?_
    refine Wp.seq ?_
    refine Wp.condF rfl ?_
    refine Wp.exit ?_
    refine Wp.seq (Wp.region ?_)
    refine Rg.tm trivial rfl (t_move rfl) rfl ?_
    refine Rg.tm trivial rfl (t_move rfl) rfl ?_
    refine Rg.wd trivial (w_callK (vs := [.int .i64 n]) (cap := [.pointer (some ⟨b7, 0, none⟩), .pointer (some ⟨b8, 0, none⟩), .pointer (some ⟨b6, 0, none⟩)]) rfl Tryz.call35 rfl (flush_ok hx h6 h7 h8 ho6 hp8 hB6 hB7 hB8 (by omega) (by omega))) rfl ?_
    rintro _ w6 ⟨hx6, vo', g6, g7, g8, go⟩
    rw [hE] at go
    have hfl := flushE_len st n pend
    have hlen := congrArg List.length hE
    rw [List.length_append] at hlen
    have gs := own_slice go
    have c6 := g6.cells
    refine Rg.done ?_
    refine Wp.seq ?_
    by_cases h50 : 50 < (canon n 0 [] bs).length
    · skip
      refine Wp.seq (Wp.region ?_)
      refine Rg.tm trivial rfl (t_load ty22 rfl (by first | assumption | (apply Cells.get (i := 0); (case h => assumption); rfl))) rfl ?_
      refine Rg.tm trivial rfl (t_lenC gs Tryz.underlying22 rfl) rfl ?_
      first | refine Rg.tm trivial rfl (t_gtrT rfl rfl (by omega)) rfl ?_ | refine Rg.tm trivial rfl (t_gtrF rfl rfl (by omega)) rfl ?_ | refine Rg.tm trivial rfl (t_gtr rfl rfl) rfl ?_
      refine Rg.done ?_
      refine Wp.condT rfl ?_
      refine Wp.seq (Wp.region ?_)
      refine Rg.tm trivial rfl (t_assign rfl) rfl ?_
      refine Rg.tm trivial rfl (t_assign rfl) rfl ?_
      refine Rg.done ?_
      refine Wp.ret ?_
      exact ⟨[_, _], ⟨rfl, rfl, trivial⟩, .inl ⟨h50, rfl⟩, hx6⟩
    · skip
      refine Wp.seq (Wp.region ?_)
      refine Rg.tm trivial rfl (t_load ty22 rfl (by first | assumption | (apply Cells.get (i := 0); (case h => assumption); rfl))) rfl ?_
      refine Rg.tm trivial rfl (t_lenC gs Tryz.underlying22 rfl) rfl ?_
      first | refine Rg.tm trivial rfl (t_gtrT rfl rfl (by omega)) rfl ?_ | refine Rg.tm trivial rfl (t_gtrF rfl rfl (by omega)) rfl ?_ | refine Rg.tm trivial rfl (t_gtr rfl rfl) rfl ?_
      refine Rg.done ?_
      refine Wp.condF rfl ?_
      refine Wp.skip ?_
      refine Wp.seq (Wp.region ?_)
      refine Rg.tm trivial rfl (t_load ty22 rfl (by first | assumption | (apply Cells.get (i := 0); (case h => assumption); rfl))) rfl ?_
      refine Rg.tm trivial rfl (t_assign rfl) rfl ?_
      refine Rg.tm trivial rfl (t_assign rfl) rfl ?_
      refine Rg.done ?_
      refine Wp.ret ?_
      exact ⟨[_, _], ⟨rfl, rfl, trivial⟩, .inr ⟨by omega, _, rfl, gs⟩, hx6⟩
end Go.Proofs.YtbnkncemfadfjaaGreatDoor
