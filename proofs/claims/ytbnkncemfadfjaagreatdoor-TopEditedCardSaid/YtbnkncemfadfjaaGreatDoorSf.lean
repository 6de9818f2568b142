/- The walk of the law TopEdited. Printed by r3/topk.py. -/
import Derived.Test.YtbnkncemfadfjaaGreatDoorSe
namespace Go.Proofs.YtbnkncemfadfjaaGreatDoor
set_option linter.unusedVariables false
set_option linter.unusedSimpArgs false
set_option maxRecDepth 20000
open Go.Gx Go.RowKit Go.Lib
open Lexi (nameM Asc tokM isIdent_yes)
theorem in_nil (w : World) : In [] w := fun m hm => by cases hm
theorem editedLaw {w : World} {s0 : ByteArray} {a b : List TE} {v1 v2 : Value} (hA : Asc w) (ha0 : SlC w v1 3 a.length (tes a)) (hla : a.length < 4611686018427387904) (hza : ∀ e ∈ a, (e.s.size : Int) ≤ 140737488355328)
    (hb0 : SlC w v2 3 b.length (tes b)) (hlb : b.length < 4611686018427387904) (hzb : ∀ e ∈ b, (e.s.size : Int) ≤ 140737488355328) :
    Cl Tryz.prog 3 #[.string s0, v1, v2] w (fun u w' => u = .bool true ∧ Ext w w') := by
  have hx := Ext.refl w
  obtain ⟨_, p1, c1, rfl, _, _⟩ := id ha0
  obtain ⟨_, p2, c2, rfl, _, _⟩ := id hb0
  obtain ⟨m, hm⟩ : ∃ m, min s0.size 200 = m := ⟨_, rfl⟩
  have em : (min (s0.size : Int) 200) = (m : Int) := by omega
  obtain ⟨s, hs0⟩ : ∃ z, s0.extract (0 : Int).toNat (m : Int).toNat = z := ⟨_, rfl⟩
  have hs : s.size ≤ 200 := by rw [← hs0, ByteArray.size_extract]; omega
  refine Cl.enter Tryz.func3 rfl Tryz.ntmps3 rfl rfl ?_
  refine Wp.seq (Wp.region ?_)
  refine Rg.tm trivial rfl (t_assign rfl) rfl ?_
  refine Rg.done ?_
  refine Wp.seq ?_
  refine Wp.seq (Wp.region ?_)
  refine Rg.wd trivial (w_call Tryz.call4 rfl sEdited_ok) rfl ?_
  rintro _ w1 ⟨rfl, hx1⟩
  replace hx := hx.ext hx1
  refine Rg.tm trivial rfl (t_notB rfl) rfl ?_
  refine Rg.done ?_
  refine Wp.condF rfl ?_
  refine Wp.skip ?_
  refine Wp.seq (Wp.region ?_)
  refine Rg.tm trivial rfl (t_move rfl) rfl ?_
  refine Rg.tm trivial rfl (t_move rfl) rfl ?_
  refine Rg.tm trivial rfl (t_len Tryz.underlying9 rfl) rfl ?_
  refine Rg.tm trivial rfl (t_minI rfl rfl) rfl ?_
  rw [em]
  refine Rg.tm trivial rfl (t_sliceS Tryz.underlying9 rfl rfl rfl (by omega)) rfl ?_
  rw [hs0]
  refine Rg.tm trivial rfl (t_assign rfl) rfl ?_
  refine Rg.done ?_
  refine Wp.seq (Wp.region ?_)
  refine Rg.tm trivial rfl (t_move rfl) rfl ?_
  refine Rg.tm trivial rfl (t_move rfl) rfl ?_
  refine Rg.tm trivial rfl (t_move rfl) rfl ?_
  refine Rg.wd trivial (w_call Tryz.call5 rfl (compose_ok (by omega) (ha0.ext hx) (hb0.ext hx) hla hlb hza hzb)) rfl ?_
  rintro u6 w2 ⟨hu6, hx2⟩
  replace hx := hx.ext hx2
  obtain ⟨v6, c6, rfl, hpost⟩ : ∃ v6 c6, u6 = .tuple #[v6, .int .i64 c6] ∧ (c6 = 0 → (codeE s.size a = 0 ∧ codeE (outE s a).size b = 0 ∧ (comp s a b).length ≤ 50 ∧ SlC w2 v6 3 (comp s a b).length (tes (comp s a b)))) := by
    rcases hu6 with ⟨c, hc, rfl⟩ | ⟨k1, k2, k3, v, rfl, k4⟩
    · exact ⟨_, _, rfl, fun h => absurd h hc⟩
    · exact ⟨_, _, rfl, fun _ => ⟨k1, k2, k3, k4⟩⟩
  refine Rg.tm trivial rfl (t_move rfl) rfl ?_
  refine Rg.tm trivial rfl (t_extract rfl rfl) rfl ?_
  refine Rg.tm trivial rfl (t_extract rfl rfl) rfl ?_
  refine Rg.tm trivial rfl (t_assign rfl) rfl ?_
  refine Rg.tm trivial rfl (t_assign rfl) rfl ?_
  refine Rg.done ?_
  refine Wp.seq ?_
  by_cases hc6 : c6 = 0
  · obtain ⟨hca, hcb, h50, h70⟩ := hpost hc6
    subst hc6
    obtain ⟨hcc, eo⟩ := compose_plain hca hcb rfl h50
    change codeE s.size (comp s a b) = 0 at hcc
    change outE s (comp s a b) = _ at eo
    have hmem : ∀ e ∈ comp s a b, (e.s.size : Int) ≤ 140737488355328 := fun e he => by
      have := codeE_mem hcc e he
      omega
    have hx0 := hx
    have hy := Ext.refl w2
    clear hx
    refine Wp.seq (Wp.region ?_)
    refine Rg.tm trivial rfl (t_move rfl) rfl ?_
    first | refine Rg.tm trivial rfl (t_neqT rfl rfl (by omega)) rfl ?_ | refine Rg.tm trivial rfl (t_neqF rfl rfl (by omega)) rfl ?_ | refine Rg.tm trivial rfl (t_neq rfl rfl) rfl ?_
    refine Rg.done ?_
    refine Wp.condF rfl ?_
    refine Wp.skip ?_
    refine Wp.seq (Wp.region ?_)
    refine Rg.wd trivial (w_call Tryz.call6 rfl serverNew_ok) rfl ?_
    rintro _ w3 ⟨⟨bS, bD, bI, bM, rfl, qS, qI, qM, hR⟩, hx3⟩
    replace hy := hy.ext hx3
    have hz : ∀ z ∈ [bS, bI, bM], (World.heap w2).size ≤ z := fun z hz => by
      simp only [List.mem_cons, List.not_mem_nil, or_false] at hz
      rcases hz with rfl | rfl | rfl
      · exact qS
      · exact qI
      · exact qM
    refine Rg.tm trivial rfl (t_assign rfl) rfl ?_
    refine Rg.done ?_
    refine Wp.seq (Wp.region ?_)
    refine Rg.tm trivial rfl (t_move rfl) rfl ?_
    refine Rg.tm trivial rfl (t_move rfl) rfl ?_
    refine Rg.tm trivial rfl (t_build (bd35_0_3_4 _ _ _) rfl) rfl ?_
    refine Rg.wd trivial (w_call Tryz.call7 rfl (handleW (y := 0) (z := 0) (vs := []) hR (by omega) (hA.ext (hx0.ext hy)))) rfl ?_
    rintro _ w4 ⟨rfl, hR4, hk⟩
    replace hy := Kp.ext hy hk hz
    clear hR
    have hR := hR4
    clear hR4 hk
    refine Rg.tm trivial rfl (t_move rfl) rfl ?_
    refine Rg.tm trivial rfl (t_extract rfl rfl) rfl ?_
    refine Rg.tm trivial rfl (t_extract rfl rfl) rfl ?_
    refine Rg.tm trivial rfl (t_assign rfl) rfl ?_
    refine Rg.tm trivial rfl (t_assign rfl) rfl ?_
    refine Rg.done ?_
    refine Wp.seq (Wp.region ?_)
    refine Rg.tm trivial rfl (t_move rfl) rfl ?_
    refine Rg.tm trivial rfl (t_move rfl) rfl ?_
    refine Rg.tm trivial rfl (t_build (bd35_0_3_2_5 _ _ _ _ _ _) rfl) rfl ?_
    refine Rg.wd trivial (w_call Tryz.call7 rfl (handleE hR (ha0.ext (hx0.ext hy)) hla hza hca (hA.ext (hx0.ext hy)) (by omega))) rfl ?_
    rintro _ w5 ⟨rfl, hR5, hk⟩
    replace hy := Kp.ext hy hk hz
    clear hR
    have hR := hR5
    clear hR5 hk
    refine Rg.tm trivial rfl (t_move rfl) rfl ?_
    refine Rg.tm trivial rfl (t_extract rfl rfl) rfl ?_
    refine Rg.tm trivial rfl (t_extract rfl rfl) rfl ?_
    refine Rg.tm trivial rfl (t_assign rfl) rfl ?_
    refine Rg.tm trivial rfl (t_assign rfl) rfl ?_
    refine Rg.done ?_
    refine Wp.seq (Wp.region ?_)
    refine Rg.tm trivial rfl (t_move rfl) rfl ?_
    refine Rg.tm trivial rfl (t_move rfl) rfl ?_
    refine Rg.tm trivial rfl (t_build (bd35_0_3_2_5 _ _ _ _ _ _) rfl) rfl ?_
    refine Rg.wd trivial (w_call Tryz.call7 rfl (handleE hR (hb0.ext (hx0.ext hy)) hlb hzb hcb (hA.ext (hx0.ext hy)) (by omega))) rfl ?_
    rintro _ w6 ⟨rfl, hR6, hk⟩
    replace hy := Kp.ext hy hk hz
    clear hR
    have hR := hR6
    clear hR6 hk
    refine Rg.tm trivial rfl (t_move rfl) rfl ?_
    refine Rg.tm trivial rfl (t_extract rfl rfl) rfl ?_
    refine Rg.tm trivial rfl (t_extract rfl rfl) rfl ?_
    refine Rg.tm trivial rfl (t_assign rfl) rfl ?_
    refine Rg.tm trivial rfl (t_assign rfl) rfl ?_
    refine Rg.done ?_
    refine Wp.seq (Wp.region ?_)
    refine Rg.tm trivial rfl (t_move rfl) rfl ?_
    refine Rg.tm trivial rfl (t_move rfl) rfl ?_
    refine Rg.wd trivial (w_call Tryz.call8 rfl (textApply_ok (h70.ext hy) (by omega) hmem hcc)) rfl ?_
    rintro _ w7 ⟨rfl, hx7⟩
    replace hy := hy.ext hx7
    replace hR := hR.ext hx7
    rw [eo]
    refine Rg.tm trivial rfl (t_move rfl) rfl ?_
    refine Rg.tm trivial rfl (t_extract rfl rfl) rfl ?_
    refine Rg.tm trivial rfl (t_extract rfl rfl) rfl ?_
    refine Rg.tm trivial rfl (t_assign rfl) rfl ?_
    refine Rg.tm trivial rfl (t_assign rfl) rfl ?_
    refine Rg.done ?_
    refine Wp.seq (Wp.region ?_)
    refine Rg.tm trivial rfl (t_move rfl) rfl ?_
    refine Rg.wd trivial (w_call Tryz.call9 rfl (new_ok (in_nil _) (by omega))) rfl ?_
    rintro _ w8 ⟨⟨t0, g0, e0, hr⟩, hx8⟩
    replace hy := hy.ext hx8
    replace hR := hR.ext hx8
    refine Rg.tm trivial rfl (t_move rfl) rfl ?_
    refine Rg.wd trivial (w_call Tryz.call10 rfl (ropeApply_ok (h70.ext hy) (by omega) hmem (in_nil _) hr e0 g0 (by omega) hcc)) rfl ?_
    rintro _ w9 ⟨⟨vx, tx, rfl, hq, gq, eq⟩, hx9⟩
    replace hy := hy.ext hx9
    replace hR := hR.ext hx9
    replace hr := hr.ext hx9
    obtain ⟨px, rfl, _⟩ := id hq
    have nq : RT.lenO tx ≤ 2000 := by rw [RT.lenO_val, eq]; exact (appE_le hcc 0).2
    refine Rg.tm trivial rfl (t_move rfl) rfl ?_
    refine Rg.tm trivial rfl (t_extract rfl rfl) rfl ?_
    refine Rg.tm trivial rfl (t_extract rfl rfl) rfl ?_
    refine Rg.wd trivial (w_new Tryz.zeroValue40 rfl) rfl ?_
    rintro _ wa ⟨b18, rfl, qb18, hxa, hva⟩
    refine Rg.wn trivial (w_put hva rfl rfl rfl ty40 rfl rfl) ?_
    rintro _ w10 ⟨hu, hv18⟩
    have hx10 := hxa.upd hu (Nat.le_of_eq qb18.symm)
    replace hy := hy.ext hx10
    replace hR := hR.ext hx10
    replace hr := hr.ext hx10
    replace hq := hq.ext hx10
    have hc18 := hv18.cells
    clear hva hu
    refine Rg.tm trivial rfl (t_assign rfl) rfl ?_
    refine Rg.done ?_
    refine Wp.seq ?_
    refine Wp.seq (Wp.region ?_)
    refine Rg.tm trivial rfl (t_move rfl) rfl ?_
    first | refine Rg.tm trivial rfl (t_neqT rfl rfl (by omega)) rfl ?_ | refine Rg.tm trivial rfl (t_neqF rfl rfl (by omega)) rfl ?_ | refine Rg.tm trivial rfl (t_neq rfl rfl) rfl ?_
    refine Rg.tm trivial rfl (t_move rfl) rfl ?_
    first | refine Rg.tm ⟨_, rfl, rfl⟩ rfl (t_move rfl) rfl ?_ | refine Rg.sk (.inl ⟨_, _, rfl, rfl, rfl⟩) rfl ?_ | refine Rg.sk (.inr ⟨_, rfl, rfl⟩) rfl ?_
    first | refine Rg.tm ⟨_, rfl, rfl⟩ rfl (t_neqT rfl rfl (by omega)) rfl ?_ | refine Rg.tm ⟨_, rfl, rfl⟩ rfl (t_neqF rfl rfl (by omega)) rfl ?_ | refine Rg.tm ⟨_, rfl, rfl⟩ rfl (t_neq rfl rfl) rfl ?_ | refine Rg.sk (.inl ⟨_, _, rfl, rfl, rfl⟩) rfl ?_ | refine Rg.sk (.inr ⟨_, rfl, rfl⟩) rfl ?_
    first | refine Rg.tm trivial rfl (t_pickT rfl rfl) rfl ?_ | refine Rg.tm trivial rfl (t_pickF rfl rfl) rfl ?_
    refine Rg.tm trivial rfl (t_move rfl) rfl ?_
    first | refine Rg.tm ⟨_, rfl, rfl⟩ rfl (t_move rfl) rfl ?_ | refine Rg.sk (.inl ⟨_, _, rfl, rfl, rfl⟩) rfl ?_ | refine Rg.sk (.inr ⟨_, rfl, rfl⟩) rfl ?_
    first | refine Rg.tm ⟨_, rfl, rfl⟩ rfl (t_neqT rfl rfl (by omega)) rfl ?_ | refine Rg.tm ⟨_, rfl, rfl⟩ rfl (t_neqF rfl rfl (by omega)) rfl ?_ | refine Rg.tm ⟨_, rfl, rfl⟩ rfl (t_neq rfl rfl) rfl ?_ | refine Rg.sk (.inl ⟨_, _, rfl, rfl, rfl⟩) rfl ?_ | refine Rg.sk (.inr ⟨_, rfl, rfl⟩) rfl ?_
    first | refine Rg.tm trivial rfl (t_pickT rfl rfl) rfl ?_ | refine Rg.tm trivial rfl (t_pickF rfl rfl) rfl ?_
    refine Rg.tm trivial rfl (t_move rfl) rfl ?_
    first | refine Rg.tm ⟨_, rfl, rfl⟩ rfl (t_move rfl) rfl ?_ | refine Rg.sk (.inl ⟨_, _, rfl, rfl, rfl⟩) rfl ?_ | refine Rg.sk (.inr ⟨_, rfl, rfl⟩) rfl ?_
    first | refine Rg.tm ⟨_, rfl, rfl⟩ rfl (t_neqT rfl rfl (by omega)) rfl ?_ | refine Rg.tm ⟨_, rfl, rfl⟩ rfl (t_neqF rfl rfl (by omega)) rfl ?_ | refine Rg.tm ⟨_, rfl, rfl⟩ rfl (t_neq rfl rfl) rfl ?_ | refine Rg.sk (.inl ⟨_, _, rfl, rfl, rfl⟩) rfl ?_ | refine Rg.sk (.inr ⟨_, rfl, rfl⟩) rfl ?_
    first | refine Rg.tm trivial rfl (t_pickT rfl rfl) rfl ?_ | refine Rg.tm trivial rfl (t_pickF rfl rfl) rfl ?_
    refine Rg.tm trivial rfl (t_move rfl) rfl ?_
    first | refine Rg.tm ⟨_, rfl, rfl⟩ rfl (t_move rfl) rfl ?_ | refine Rg.sk (.inl ⟨_, _, rfl, rfl, rfl⟩) rfl ?_ | refine Rg.sk (.inr ⟨_, rfl, rfl⟩) rfl ?_
    first | refine Rg.tm ⟨_, rfl, rfl⟩ rfl (t_neqT rfl rfl (by omega)) rfl ?_ | refine Rg.tm ⟨_, rfl, rfl⟩ rfl (t_neqF rfl rfl (by omega)) rfl ?_ | refine Rg.tm ⟨_, rfl, rfl⟩ rfl (t_neq rfl rfl) rfl ?_ | refine Rg.sk (.inl ⟨_, _, rfl, rfl, rfl⟩) rfl ?_ | refine Rg.sk (.inr ⟨_, rfl, rfl⟩) rfl ?_
    first | refine Rg.tm trivial rfl (t_pickT rfl rfl) rfl ?_ | refine Rg.tm trivial rfl (t_pickF rfl rfl) rfl ?_
    refine Rg.done ?_
    refine Wp.condF rfl ?_
    refine Wp.skip ?_
    refine Wp.seq (Wp.region ?_)
    refine Rg.wd trivial (w_call Tryz.call4 rfl sEdited_ok) rfl ?_
    rintro _ w11 ⟨rfl, hx11⟩
    replace hy := hy.ext hx11
    replace hR := hR.ext hx11
    replace hr := hr.ext hx11
    replace hq := hq.ext hx11
    replace hc18 := hc18.ext hx11
    refine Rg.tm trivial rfl (t_move rfl) rfl ?_
    first | refine Rg.tm ⟨_, rfl, rfl⟩ rfl (t_move rfl) rfl ?_ | refine Rg.sk (.inl ⟨_, _, rfl, rfl, rfl⟩) rfl ?_ | refine Rg.sk (.inr ⟨_, rfl, rfl⟩) rfl ?_
    refine Rg.wd ⟨_, rfl, rfl⟩ (w_call Tryz.call11 rfl (modules_ok hR)) rfl ?_
    rintro v93 w12 ⟨hmo, hx12⟩
    replace hy := hy.ext hx12
    replace hR := hR.ext hx12
    replace hr := hr.ext hx12
    replace hq := hq.ext hx12
    replace hc18 := hc18.ext hx12
    refine Rg.ix hmo ⟨_, rfl, rfl⟩ rfl rfl Tryz.underlying46 ty45 (by omega) rfl ?_
    intro bt94 ot94 ht94
    change Cells _ _ _ [.string nameM, .string (outE (outE s a) b)] at ht94
    first | refine Rg.tm ⟨_, rfl, rfl⟩ rfl (t_fieldAddr fa45_1 rfl) rfl ?_ | refine Rg.sk (.inl ⟨_, _, rfl, rfl, rfl⟩) rfl ?_ | refine Rg.sk (.inr ⟨_, rfl, rfl⟩) rfl ?_
    first | refine Rg.tm ⟨_, rfl, rfl⟩ rfl (t_load ty9 rfl (by apply Cells.get (i := 1); (case h => assumption); rfl)) rfl ?_ | refine Rg.sk (.inl ⟨_, _, rfl, rfl, rfl⟩) rfl ?_ | refine Rg.sk (.inr ⟨_, rfl, rfl⟩) rfl ?_
    first | refine Rg.tm ⟨_, rfl, rfl⟩ rfl (t_move rfl) rfl ?_ | refine Rg.sk (.inl ⟨_, _, rfl, rfl, rfl⟩) rfl ?_ | refine Rg.sk (.inr ⟨_, rfl, rfl⟩) rfl ?_
    first | refine Rg.tm ⟨_, rfl, rfl⟩ rfl (t_seqlT rfl rfl (by first | with_reducible rfl | assumption)) rfl ?_ | refine Rg.tm ⟨_, rfl, rfl⟩ rfl (t_seqlF rfl rfl (by assumption)) rfl ?_ | refine Rg.tm ⟨_, rfl, rfl⟩ rfl (t_seql rfl rfl) rfl ?_ | refine Rg.sk (.inl ⟨_, _, rfl, rfl, rfl⟩) rfl ?_ | refine Rg.sk (.inr ⟨_, rfl, rfl⟩) rfl ?_
    first | refine Rg.tm trivial rfl (t_pickT rfl rfl) rfl ?_ | refine Rg.tm trivial rfl (t_pickF rfl rfl) rfl ?_
    refine Rg.tm trivial rfl (t_move rfl) rfl ?_
    first | refine Rg.tm ⟨_, rfl, rfl⟩ rfl (t_loadA rfl (by assumption) (by exact ty40)) rfl ?_ | refine Rg.sk (.inl ⟨_, _, rfl, rfl, rfl⟩) rfl ?_ | refine Rg.sk (.inr ⟨_, rfl, rfl⟩) rfl ?_
    refine Rg.wd ⟨_, rfl, rfl⟩ (w_call Tryz.call12 rfl (string_ok hq (by omega))) rfl ?_
    rintro _ w13 ⟨rfl, hx13⟩
    replace hy := hy.ext hx13
    replace hR := hR.ext hx13
    replace hr := hr.ext hx13
    replace hq := hq.ext hx13
    replace hc18 := hc18.ext hx13
    replace hmo := hmo.ext hx13
    replace ht94 := ht94.ext hx13
    rw [eq, eo]
    first | refine Rg.tm ⟨_, rfl, rfl⟩ rfl (t_move rfl) rfl ?_ | refine Rg.sk (.inl ⟨_, _, rfl, rfl, rfl⟩) rfl ?_ | refine Rg.sk (.inr ⟨_, rfl, rfl⟩) rfl ?_
    first | refine Rg.tm ⟨_, rfl, rfl⟩ rfl (t_seqlT rfl rfl (by first | with_reducible rfl | assumption)) rfl ?_ | refine Rg.tm ⟨_, rfl, rfl⟩ rfl (t_seqlF rfl rfl (by assumption)) rfl ?_ | refine Rg.tm ⟨_, rfl, rfl⟩ rfl (t_seql rfl rfl) rfl ?_ | refine Rg.sk (.inl ⟨_, _, rfl, rfl, rfl⟩) rfl ?_ | refine Rg.sk (.inr ⟨_, rfl, rfl⟩) rfl ?_
    first | refine Rg.tm trivial rfl (t_pickT rfl rfl) rfl ?_ | refine Rg.tm trivial rfl (t_pickF rfl rfl) rfl ?_
    refine Rg.tm trivial rfl (t_assign rfl) rfl ?_
    refine Rg.done ?_
    refine Wp.ret ?_
    exact ⟨[_], ⟨rfl, trivial⟩, rfl, hx0.ext hy⟩
  · skip
    refine Wp.seq (Wp.region ?_)
    refine Rg.tm trivial rfl (t_move rfl) rfl ?_
    first | refine Rg.tm trivial rfl (t_neqT rfl rfl (by omega)) rfl ?_ | refine Rg.tm trivial rfl (t_neqF rfl rfl (by omega)) rfl ?_ | refine Rg.tm trivial rfl (t_neq rfl rfl) rfl ?_
    refine Rg.done ?_
    refine Wp.condT rfl ?_
    refine Wp.seq (Wp.region ?_)
    refine Rg.wd trivial (w_call Tryz.call4 rfl sEdited_ok) rfl ?_
    rintro _ w3 ⟨rfl, hx3⟩
    replace hx := hx.ext hx3
    refine Rg.tm trivial rfl (t_assign rfl) rfl ?_
    refine Rg.done ?_
    refine Wp.ret ?_
    exact ⟨[_], ⟨rfl, trivial⟩, rfl, hx⟩
end Go.Proofs.YtbnkncemfadfjaaGreatDoor
