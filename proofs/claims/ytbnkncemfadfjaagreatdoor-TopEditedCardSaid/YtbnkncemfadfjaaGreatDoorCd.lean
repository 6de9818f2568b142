/- The walk of textedit.Compose, and of the example sEdited. Printed by r3/tope.py. -/
import Derived.Test.YtbnkncemfadfjaaGreatDoorCc
import Derived.Test.YtbnkncemfadfjaaGreatDoorRk
namespace Go.Proofs.YtbnkncemfadfjaaGreatDoor
set_option linter.unusedVariables false
set_option linter.unusedSimpArgs false
set_option maxRecDepth 20000
open Go.Gx Go.RowKit Go.Lib

theorem ok_first {n : Int} {es : List TE} (h : okE n (-1) es) : ∀ e l, es = e :: l → 0 ≤ e.a := fun e l he => by
  subst he
  have := h.1
  omega
theorem tr1 {s : ByteArray} {a : List TE} (ha : codeE s.size a = 0) : fits s 0 (applyT (traceOf s) 0 a) ∧ (applyT (traceOf s) 0 a).length = (outE s a).size := by
  obtain ⟨a1, a2, a3, a4⟩ := codeE_zero ha
  have e1 : (applyT (traceOf s) 0 a).map Prod.fst = (outE s a).data.toList := by
    rw [applyT_map, trace_fst, outL_eq]
    rfl
  refine ⟨fits_sub (trace_fits s) (applyT_ret (traceOf s) s.size a (-1) 0 (by omega) (by omega) (ok_first a3) a3), ?_⟩
  have := congrArg List.length e1
  rw [List.length_map, list_len] at this
  exact this
theorem tr2 {s : ByteArray} {a b : List TE} (ha : codeE s.size a = 0) (hb : codeE (outE s a).size b = 0) : fits s 0 (applyT (applyT (traceOf s) 0 a) 0 b) ∧ (applyT (applyT (traceOf s) 0 a) 0 b).length = (outE (outE s a) b).size := by
  obtain ⟨b1, b2, b3, b4⟩ := codeE_zero hb
  have e1 : (applyT (traceOf s) 0 a).map Prod.fst = (outE s a).data.toList := by
    rw [applyT_map, trace_fst, outL_eq]
    rfl
  have e2 : (applyT (applyT (traceOf s) 0 a) 0 b).map Prod.fst = (outE (outE s a) b).data.toList := by
    rw [applyT_map, e1, outL_eq]
    rfl
  refine ⟨fits_sub (tr1 ha).1 (applyT_ret _ (outE s a).size b (-1) 0 (by omega) (by omega) (ok_first b3) b3), ?_⟩
  have := congrArg List.length e2
  rw [List.length_map, list_len] at this
  exact this
theorem fits_org {s : ByteArray} {bs : List TB} (h : fits s 0 bs) : ∀ x ∈ bs, -1 ≤ x.2 ∧ x.2 ≤ s.size := fun x hx => by
  by_cases h1 : x.2 = -1
  · omega
  · have := h.2 x (List.mem_filter.2 ⟨hx, by simpa using h1⟩)
    omega
def comp (s : ByteArray) (a b : List TE) : List TE := canon s.size 0 [] (applyT (applyT (traceOf s) 0 a) 0 b)
theorem compose_ok {w : World} {s : ByteArray} {a b : List TE} {v1 v2 : Value} (hs : s.size ≤ 2000) (ha0 : SlC w v1 3 a.length (tes a)) (hb0 : SlC w v2 3 b.length (tes b)) (hla : a.length < 4611686018427387904) (hlb : b.length < 4611686018427387904)
    (hza : ∀ e ∈ a, (e.s.size : Int) ≤ 140737488355328) (hzb : ∀ e ∈ b, (e.s.size : Int) ≤ 140737488355328) :
    Cl Tryz.prog 5 #[.string s, v1, v2] w (fun u w' => ((∃ c : Int, c ≠ 0 ∧ u = .tuple #[.slice none 0 0, .int .i64 c]) ∨ (codeE s.size a = 0 ∧ codeE (outE s a).size b = 0 ∧ (comp s a b).length ≤ 50 ∧ ∃ v, u = .tuple #[v, .int .i64 0] ∧ SlC w' v 3 (comp s a b).length (tes (comp s a b)))) ∧ Ext w w') := by
  have hx := Ext.refl w
  by_cases hca : codeE s.size a = 0
  · have hmid := (appE_le hca 0).2
    refine Cl.enter Tryz.func5 rfl Tryz.ntmps5 rfl rfl ?_
    refine Wp.seq (Wp.region ?_)
    refine Rg.tm trivial rfl (t_assign rfl) rfl ?_
    refine Rg.tm trivial rfl (t_assign rfl) rfl ?_
    refine Rg.done ?_
    refine Wp.seq (Wp.region ?_)
    refine Rg.tm trivial rfl (t_move rfl) rfl ?_
    refine Rg.tm trivial rfl (t_move rfl) rfl ?_
    refine Rg.wd trivial (w_call Tryz.call8 rfl (textApply_ok ha0 hla hza hca)) rfl ?_
    rintro _ w1 ⟨rfl, hx1⟩
    replace hx := hx.ext hx1
    refine Rg.tm trivial rfl (t_move rfl) rfl ?_
    refine Rg.tm trivial rfl (t_extract rfl rfl) rfl ?_
    refine Rg.tm trivial rfl (t_extract rfl rfl) rfl ?_
    refine Rg.tm trivial rfl (t_assign rfl) rfl ?_
    refine Rg.tm trivial rfl (t_assign rfl) rfl ?_
    refine Rg.done ?_
    refine Wp.seq ?_
    refine Wp.seq (Wp.region ?_)
    refine Rg.tm trivial rfl (t_move rfl) rfl ?_
    first | refine Rg.tm trivial rfl (t_eqlT rfl rfl (by omega)) rfl ?_ | refine Rg.tm trivial rfl (t_eqlF rfl rfl (by omega)) rfl ?_ | refine Rg.tm trivial rfl (t_eql rfl rfl) rfl ?_
    refine Rg.done ?_
    refine Wp.condT rfl ?_
    refine Wp.region ?_
    refine Rg.tm trivial rfl (t_move rfl) rfl ?_
    refine Rg.tm trivial rfl (t_move rfl) rfl ?_
    refine Rg.wd trivial (w_call Tryz.call13 rfl (validate_ok (hb0.ext hx) (by omega) hlb hzb)) rfl ?_
    rintro _ w2 ⟨rfl, hx2⟩
    replace hx := hx.ext hx2
    refine Rg.tm trivial rfl (t_assign rfl) rfl ?_
    refine Rg.done ?_
    refine Wp.seq ?_
    by_cases hcb : codeE (outE s a).size b = 0
    · rw [hcb]
      have t1 := tr1 hca
      have t2 := tr2 hca hcb
      have hfin := (appE_le hcb 0).2
      have ho := fits_org t2.1
      refine Wp.seq (Wp.region ?_)
      refine Rg.tm trivial rfl (t_move rfl) rfl ?_
      first | refine Rg.tm trivial rfl (t_neqT rfl rfl (by omega)) rfl ?_ | refine Rg.tm trivial rfl (t_neqF rfl rfl (by omega)) rfl ?_ | refine Rg.tm trivial rfl (t_neq rfl rfl) rfl ?_
      refine Rg.done ?_
      refine Wp.condF rfl ?_
      refine Wp.skip ?_
      refine Wp.seq (Wp.region ?_)
      refine Rg.tm trivial rfl (t_move rfl) rfl ?_
      refine Rg.tm trivial rfl (t_len Tryz.underlying9 rfl) rfl ?_
      refine Rg.tm trivial rfl (t_move rfl) rfl ?_
      refine Rg.wd trivial (w_call Tryz.call16 rfl (trace_ok hs)) rfl ?_
      rintro v3 w3 ⟨h3, hx3⟩
      replace hx := hx.ext hx3
      refine Rg.tm trivial rfl (t_move rfl) rfl ?_
      refine Rg.wd trivial (w_call Tryz.call15 rfl (applyTraced_ok h3 (ha0.ext hx) (by rw [trace_length]; exact hs) (by rw [trace_length]; exact hca) (codeE_mem hca))) rfl ?_
      rintro v4 w4 ⟨h4, hx4⟩
      replace hx := hx.ext hx4
      replace h3 := h3.ext hx4
      refine Rg.tm trivial rfl (t_move rfl) rfl ?_
      refine Rg.wd trivial (w_call Tryz.call15 rfl (applyTraced_ok h4 (hb0.ext hx) (by omega) (by rw [t1.2]; exact hcb) (codeE_mem hcb))) rfl ?_
      rintro v5 w5 ⟨h5, hx5⟩
      replace hx := hx.ext hx5
      replace h3 := h3.ext hx5
      replace h4 := h4.ext hx5
      refine Rg.wd trivial (w_call Tryz.call14 rfl (canonical_ok h5 (by omega) (by omega) (fun x hx => by have := ho x hx; omega))) rfl ?_
      rintro u6 w6 ⟨hu6, hx6⟩
      replace hx := hx.ext hx6
      replace h3 := h3.ext hx6
      replace h4 := h4.ext hx6
      replace h5 := h5.ext hx6
      obtain ⟨v6, c6, rfl, hpost⟩ : ∃ v6 c6, u6 = .tuple #[v6, .int .i64 c6] ∧ ((∃ c : Int, c ≠ 0 ∧ Value.tuple #[v6, .int .i64 c6] = .tuple #[.slice none 0 0, .int .i64 c]) ∨ (codeE s.size a = 0 ∧ codeE (outE s a).size b = 0 ∧ (comp s a b).length ≤ 50 ∧ ∃ v, Value.tuple #[v6, .int .i64 c6] = .tuple #[v, .int .i64 0] ∧ SlC w6 v 3 (comp s a b).length (tes (comp s a b)))) := by
        rcases hu6 with ⟨_, rfl⟩ | ⟨h50, v, rfl, hv⟩
        · exact ⟨_, _, rfl, .inl ⟨2, by decide, rfl⟩⟩
        · exact ⟨_, _, rfl, .inr ⟨hca, hcb, h50, v, rfl, hv⟩⟩
      refine Rg.tm trivial rfl (t_extract rfl rfl) rfl ?_
      refine Rg.tm trivial rfl (t_extract rfl rfl) rfl ?_
      refine Rg.tm trivial rfl (t_assign rfl) rfl ?_
      refine Rg.tm trivial rfl (t_assign rfl) rfl ?_
      refine Rg.done ?_
      refine Wp.ret ?_
      rw [hcb] at hpost
      exact ⟨[_, _], ⟨rfl, rfl, trivial⟩, hpost, hx⟩
    · skip
      refine Wp.seq (Wp.region ?_)
      refine Rg.tm trivial rfl (t_move rfl) rfl ?_
      first | refine Rg.tm trivial rfl (t_neqT rfl rfl (by omega)) rfl ?_ | refine Rg.tm trivial rfl (t_neqF rfl rfl (by omega)) rfl ?_ | refine Rg.tm trivial rfl (t_neq rfl rfl) rfl ?_
      refine Rg.done ?_
      refine Wp.condT rfl ?_
      refine Wp.seq (Wp.region ?_)
      refine Rg.tm trivial rfl (t_move rfl) rfl ?_
      refine Rg.tm trivial rfl (t_assign rfl) rfl ?_
      refine Rg.tm trivial rfl (t_assign rfl) rfl ?_
      refine Rg.done ?_
      refine Wp.ret ?_
      exact ⟨[_, _], ⟨rfl, rfl, trivial⟩, .inl ⟨_, hcb, rfl⟩, hx⟩
  · skip
    refine Cl.enter Tryz.func5 rfl Tryz.ntmps5 rfl rfl ?_
    refine Wp.seq (Wp.region ?_)
    refine Rg.tm trivial rfl (t_assign rfl) rfl ?_
    refine Rg.tm trivial rfl (t_assign rfl) rfl ?_
    refine Rg.done ?_
    refine Wp.seq (Wp.region ?_)
    refine Rg.tm trivial rfl (t_move rfl) rfl ?_
    refine Rg.tm trivial rfl (t_move rfl) rfl ?_
    refine Rg.wd trivial (w_call Tryz.call8 rfl (textApply_no ha0 hla hza (by omega) hca)) rfl ?_
    rintro _ w1 ⟨rfl, hx1⟩
    replace hx := hx.ext hx1
    refine Rg.tm trivial rfl (t_move rfl) rfl ?_
    refine Rg.tm trivial rfl (t_extract rfl rfl) rfl ?_
    refine Rg.tm trivial rfl (t_extract rfl rfl) rfl ?_
    refine Rg.tm trivial rfl (t_assign rfl) rfl ?_
    refine Rg.tm trivial rfl (t_assign rfl) rfl ?_
    refine Rg.done ?_
    refine Wp.seq ?_
    refine Wp.seq (Wp.region ?_)
    refine Rg.tm trivial rfl (t_move rfl) rfl ?_
    first | refine Rg.tm trivial rfl (t_eqlT rfl rfl (by omega)) rfl ?_ | refine Rg.tm trivial rfl (t_eqlF rfl rfl (by omega)) rfl ?_ | refine Rg.tm trivial rfl (t_eql rfl rfl) rfl ?_
    refine Rg.done ?_
    refine Wp.condF rfl ?_
    refine Wp.skip ?_
    refine Wp.seq ?_
    refine Wp.seq (Wp.region ?_)
    refine Rg.tm trivial rfl (t_move rfl) rfl ?_
    first | refine Rg.tm trivial rfl (t_neqT rfl rfl (by omega)) rfl ?_ | refine Rg.tm trivial rfl (t_neqF rfl rfl (by omega)) rfl ?_ | refine Rg.tm trivial rfl (t_neq rfl rfl) rfl ?_
    refine Rg.done ?_
    refine Wp.condT rfl ?_
    refine Wp.seq (Wp.region ?_)
    refine Rg.tm trivial rfl (t_move rfl) rfl ?_
    refine Rg.tm trivial rfl (t_assign rfl) rfl ?_
    refine Rg.tm trivial rfl (t_assign rfl) rfl ?_
    refine Rg.done ?_
    refine Wp.ret ?_
    exact ⟨[_, _], ⟨rfl, rfl, trivial⟩, .inl ⟨_, hca, rfl⟩, hx⟩

def exAB : ByteArray := ⟨#[97, 98]⟩
def exE : List TE := [⟨1, 1, ⟨#[120]⟩⟩]
theorem exOut : outE exAB exE = ⟨#[97, 120, 98]⟩ := by kernel_rfl
theorem exCode : codeE exAB.size exE = 0 := by
  unfold codeE
  rw [if_neg (by decide), if_neg (fun h => h ⟨by decide, by decide, by decide, trivial⟩), if_neg (by decide)]
theorem exMem : ∀ e ∈ exE, (e.s.size : Int) ≤ 140737488355328 := fun e he => by
  obtain rfl := List.mem_singleton.1 he
  decide
theorem sEdited_ok {w : World} : Cl Tryz.prog 4 #[] w (fun u w' => u = .bool true ∧ Ext w w') := by
  have hx := Ext.refl w
  have hM : In [] w := fun m hm => by cases hm
  refine Cl.enter Tryz.func4 rfl Tryz.ntmps4 rfl rfl ?_
  refine Wp.seq (Wp.region ?_)
  refine Rg.tm trivial rfl (t_assign rfl) rfl ?_
  refine Rg.done ?_
  refine Wp.seq (Wp.region ?_)
  refine Rg.tm trivial rfl (t_build (bd51_0_1_2 _ _ _) rfl) rfl ?_
  refine Rg.wd trivial (w_buildSlice (bs22_1 _ _ _) rfl) rfl ?_
  rintro _ wb1 ⟨bb1, rfl, qb1, hxb1, hvb1⟩
  replace hx := hx.ext hxb1
  have hsl1 : SlC wb1 (.slice (some ⟨bb1, 0, none⟩) 1 1) 3 exE.length (tes exE) := slc_var hvb1 rfl
  replace hM := hM.ext hxb1
  refine Rg.wd trivial (w_call Tryz.call8 rfl (textApply_ok hsl1 (by decide) exMem exCode)) rfl ?_
  rintro _ w1 ⟨rfl, hx1⟩
  replace hx := hx.ext hx1
  replace hM := hM.ext hx1
  rw [exOut]
  refine Rg.tm trivial rfl (t_move rfl) rfl ?_
  refine Rg.tm trivial rfl (t_extract rfl rfl) rfl ?_
  refine Rg.tm trivial rfl (t_extract rfl rfl) rfl ?_
  refine Rg.tm trivial rfl (t_assign rfl) rfl ?_
  refine Rg.tm trivial rfl (t_assign rfl) rfl ?_
  refine Rg.done ?_
  refine Wp.seq (Wp.region ?_)
  refine Rg.wd trivial (w_call Tryz.call9 rfl (new_ok (s := exAB) hM (by decide))) rfl ?_
  rintro _ w2 ⟨⟨t0, g0, e0, hr⟩, hx2⟩
  replace hx := hx.ext hx2
  replace hM := hM.ext hx2
  refine Rg.tm trivial rfl (t_build (bd51_0_1_2 _ _ _) rfl) rfl ?_
  refine Rg.wd trivial (w_buildSlice (bs22_1 _ _ _) rfl) rfl ?_
  rintro _ wb2 ⟨bb2, rfl, qb2, hxb2, hvb2⟩
  replace hx := hx.ext hxb2
  have hsl2 : SlC wb2 (.slice (some ⟨bb2, 0, none⟩) 1 1) 3 exE.length (tes exE) := slc_var hvb2 rfl
  replace hM := hM.ext hxb2
  replace hr := hr.ext hxb2
  refine Rg.wd trivial (w_call Tryz.call10 rfl (ropeApply_ok hsl2 (by decide) exMem hM hr e0 g0 (by decide) exCode)) rfl ?_
  rintro _ w3 ⟨⟨vx, tx, rfl, hq, gq, eq⟩, hx3⟩
  replace hx := hx.ext hx3
  replace hM := hM.ext hx3
  replace hr := hr.ext hx3
  obtain ⟨px, rfl, _⟩ := id hq
  have nq : RT.lenO tx ≤ 2000 := by rw [RT.lenO_val, eq]; exact (appE_le exCode 0).2
  refine Rg.tm trivial rfl (t_move rfl) rfl ?_
  refine Rg.tm trivial rfl (t_extract rfl rfl) rfl ?_
  refine Rg.tm trivial rfl (t_extract rfl rfl) rfl ?_
  refine Rg.wd trivial (w_new Tryz.zeroValue40 rfl) rfl ?_
  rintro _ wa ⟨b3, rfl, qb3, hxa, hva⟩
  refine Rg.wn trivial (w_put hva rfl rfl rfl ty40 rfl rfl) ?_
  rintro _ w4 ⟨hu, hv3⟩
  have hx4 := hxa.upd hu (Nat.le_of_eq qb3.symm)
  replace hx := hx.ext hx4
  replace hM := hM.ext hx4
  replace hr := hr.ext hx4
  replace hq := hq.ext hx4
  have hc3 := hv3.cells
  clear hva hu
  refine Rg.tm trivial rfl (t_assign rfl) rfl ?_
  refine Rg.done ?_
  refine Wp.seq (Wp.region ?_)
  refine Rg.tm trivial rfl (t_move rfl) rfl ?_
  first | refine Rg.tm trivial rfl (t_seqlT rfl rfl (by first | with_reducible rfl | assumption)) rfl ?_ | refine Rg.tm trivial rfl (t_seqlF rfl rfl (by assumption)) rfl ?_ | refine Rg.tm trivial rfl (t_seql rfl rfl) rfl ?_
  refine Rg.tm trivial rfl (t_move rfl) rfl ?_
  first | refine Rg.tm ⟨_, rfl, rfl⟩ rfl (t_move rfl) rfl ?_ | refine Rg.sk (.inl ⟨_, _, rfl, rfl, rfl⟩) rfl ?_ | refine Rg.sk (.inr ⟨_, rfl, rfl⟩) rfl ?_
  first | refine Rg.tm ⟨_, rfl, rfl⟩ rfl (t_eqlT rfl rfl (by omega)) rfl ?_ | refine Rg.tm ⟨_, rfl, rfl⟩ rfl (t_eqlF rfl rfl (by omega)) rfl ?_ | refine Rg.tm ⟨_, rfl, rfl⟩ rfl (t_eql rfl rfl) rfl ?_ | refine Rg.sk (.inl ⟨_, _, rfl, rfl, rfl⟩) rfl ?_ | refine Rg.sk (.inr ⟨_, rfl, rfl⟩) rfl ?_
  first | refine Rg.tm trivial rfl (t_pickT rfl rfl) rfl ?_ | refine Rg.tm trivial rfl (t_pickF rfl rfl) rfl ?_
  refine Rg.tm trivial rfl (t_move rfl) rfl ?_
  first | refine Rg.tm ⟨_, rfl, rfl⟩ rfl (t_loadA rfl (by assumption) (by exact ty40)) rfl ?_ | refine Rg.sk (.inl ⟨_, _, rfl, rfl, rfl⟩) rfl ?_ | refine Rg.sk (.inr ⟨_, rfl, rfl⟩) rfl ?_
  refine Rg.wd ⟨_, rfl, rfl⟩ (w_call Tryz.call12 rfl (string_ok hq (by omega))) rfl ?_
  rintro _ w5 ⟨rfl, hx5⟩
  replace hx := hx.ext hx5
  replace hM := hM.ext hx5
  replace hr := hr.ext hx5
  replace hq := hq.ext hx5
  replace hc3 := hc3.ext hx5
  rw [eq, exOut]
  first | refine Rg.tm ⟨_, rfl, rfl⟩ rfl (t_seqlT rfl rfl (by first | with_reducible rfl | assumption)) rfl ?_ | refine Rg.tm ⟨_, rfl, rfl⟩ rfl (t_seqlF rfl rfl (by assumption)) rfl ?_ | refine Rg.tm ⟨_, rfl, rfl⟩ rfl (t_seql rfl rfl) rfl ?_ | refine Rg.sk (.inl ⟨_, _, rfl, rfl, rfl⟩) rfl ?_ | refine Rg.sk (.inr ⟨_, rfl, rfl⟩) rfl ?_
  first | refine Rg.tm trivial rfl (t_pickT rfl rfl) rfl ?_ | refine Rg.tm trivial rfl (t_pickF rfl rfl) rfl ?_
  refine Rg.tm trivial rfl (t_move rfl) rfl ?_
  first | refine Rg.tm ⟨_, rfl, rfl⟩ rfl (t_move rfl) rfl ?_ | refine Rg.sk (.inl ⟨_, _, rfl, rfl, rfl⟩) rfl ?_ | refine Rg.sk (.inr ⟨_, rfl, rfl⟩) rfl ?_
  first | refine Rg.tm ⟨_, rfl, rfl⟩ rfl (t_eqlT rfl rfl (by omega)) rfl ?_ | refine Rg.tm ⟨_, rfl, rfl⟩ rfl (t_eqlF rfl rfl (by omega)) rfl ?_ | refine Rg.tm ⟨_, rfl, rfl⟩ rfl (t_eql rfl rfl) rfl ?_ | refine Rg.sk (.inl ⟨_, _, rfl, rfl, rfl⟩) rfl ?_ | refine Rg.sk (.inr ⟨_, rfl, rfl⟩) rfl ?_
  first | refine Rg.tm trivial rfl (t_pickT rfl rfl) rfl ?_ | refine Rg.tm trivial rfl (t_pickF rfl rfl) rfl ?_
  refine Rg.tm trivial rfl (t_assign rfl) rfl ?_
  refine Rg.done ?_
  refine Wp.ret ?_
  exact ⟨[_], ⟨rfl, trivial⟩, rfl, hx⟩
end Go.Proofs.YtbnkncemfadfjaaGreatDoor
