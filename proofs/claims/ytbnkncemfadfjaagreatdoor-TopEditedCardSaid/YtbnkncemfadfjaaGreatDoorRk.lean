/- The walk of Rope.Apply and of the law RopeApply. Printed by ropek.py. -/
import Derived.Test.YtbnkncemfadfjaaGreatDoorRd
namespace Go.Proofs.YtbnkncemfadfjaaGreatDoor
set_option linter.unusedVariables false
set_option linter.unusedSimpArgs false
set_option maxRecDepth 20000
open Go.Gx Go.RowKit Go.Lib


theorem ropeApply_no {s : ByteArray} {es : List TE} {w : World} {v : Value} (hs0 : SlC w v 3 es.length (tes es)) (hlen : es.length < 4611686018427387904) (hb : ∀ e ∈ es, (e.s.size : Int) ≤ 140737488355328) {M : List Nat} {vr : Value} {t : Option RT} (hM : In M w) (hr : RopeV M w vr t) (ht : RT.valO t = s) (g : RT.Good t) (hsz : s.size < 2000000) (hn : codeE s.size es ≠ 0) :
    Cl Tryz.prog 10 #[vr, v] w (fun u w' => u = .tuple #[.agg #[.pointer none], .int .i64 (codeE s.size es)] ∧ Ext w w') := by
  obtain ⟨p, rfl, hl⟩ := id hr
  have hx := Ext.refl w
  have hln : RT.lenO t = s.size := by rw [RT.lenO_val, ht]
  refine Cl.enter Tryz.func10 rfl Tryz.ntmps10 rfl rfl ?_
  refine Wp.seq (Wp.region ?_)
  refine Rg.wd trivial (w_boxed rfl rfl) rfl ?_
  rintro _ w1 ⟨b2, rfl, qb2, hx1, hv2⟩
  replace hx := hx.ext hx1
  replace hr := hr.ext hx1
  replace hl := hl.ext hx1
  replace hM := hM.ext hx1
  have hc2 := hv2.cells
  refine Rg.wd trivial (w_new Tryz.zeroValue40 rfl) rfl ?_
  rintro _ w2 ⟨b4, rfl, qb4, hx2, hv4⟩
  replace hr := hr.fresh (Nat.le_of_eq qb4.symm)
  replace hl := hl.fresh (Nat.le_of_eq qb4.symm)
  replace hx := hx.ext hx2
  replace hr := hr.ext hx2
  replace hl := hl.ext hx2
  replace hM := hM.ext hx2
  replace hv2 := hv2.ext hx2
  replace hc2 := hc2.ext hx2
  replace hM := hM.push hv4.lt
  have lt4 := hv4.lt
  have kb4 : w.heap.size ≤ b4 := by have := hx1.le; omega
  refine Rg.tm trivial rfl (t_assign rfl) rfl ?_
  refine Rg.done ?_
  refine Wp.seq ?_
  refine Wp.seq (Wp.region ?_)
  refine Rg.tm trivial rfl (t_loadA rfl (by assumption) (by exact ty40)) rfl ?_
  refine Rg.wd trivial (w_call Tryz.call12 rfl (string_ok hr (by omega))) rfl ?_
  rintro _ w3 ⟨rfl, hx3⟩
  replace hx := hx.ext hx3
  replace hr := hr.ext hx3
  replace hl := hl.ext hx3
  replace hM := hM.ext hx3
  replace hv2 := hv2.ext hx3
  replace hc2 := hc2.ext hx3
  replace hv4 := hv4.ext hx3
  rw [ht]
  refine Rg.tm trivial rfl (t_move rfl) rfl ?_
  refine Rg.wd trivial (w_call Tryz.call13 rfl (validate_ok (hs0.ext hx) (by omega) hlen hb)) rfl ?_
  rintro _ w4 ⟨rfl, hx4⟩
  replace hx := hx.ext hx4
  replace hr := hr.ext hx4
  replace hl := hl.ext hx4
  replace hM := hM.ext hx4
  replace hv2 := hv2.ext hx4
  replace hc2 := hc2.ext hx4
  replace hv4 := hv4.ext hx4
  refine Rg.tm trivial rfl (t_assign rfl) rfl ?_
  refine Rg.done ?_
  refine Wp.seq (Wp.region ?_)
  refine Rg.tm trivial rfl (t_move rfl) rfl ?_
  first | refine Rg.tm trivial rfl (t_neqT rfl rfl (by omega)) rfl ?_ | refine Rg.tm trivial rfl (t_neqF rfl rfl (by omega)) rfl ?_ | refine Rg.tm trivial rfl (t_neq rfl rfl) rfl ?_
  refine Rg.done ?_
  refine Wp.condT rfl ?_
  refine Wp.seq (Wp.region ?_)
  refine Rg.tm trivial rfl (t_build (bd40) rfl) rfl ?_
  refine Rg.tm trivial rfl (t_move rfl) rfl ?_
  refine Rg.wn trivial (w_put hv4 rfl rfl rfl ty40 rfl rfl) ?_
  rintro _ w8 ⟨hu8, hv4'⟩
  refine Rg.tm trivial rfl (t_assign rfl) rfl ?_
  refine Rg.done ?_
  refine Wp.ret ?_
  exact ⟨[_, _], ⟨RV.cellA (vs := [_]) ty40 rfl hv4'.cells, rfl, trivial⟩, rfl, hx.upd hu8 (by omega)⟩

theorem ropeApply_ok {s : ByteArray} {es : List TE} {w : World} {v : Value} (hs0 : SlC w v 3 es.length (tes es)) (hlen : es.length < 4611686018427387904) (hb : ∀ e ∈ es, (e.s.size : Int) ≤ 140737488355328) {M : List Nat} {vr : Value} {t : Option RT} (hM : In M w) (hr : RopeV M w vr t) (ht : RT.valO t = s) (g : RT.Good t) (hsz : s.size < 2000000) (hn : codeE s.size es = 0) :
    Cl Tryz.prog 10 #[vr, v] w (fun u w' => (∃ vx tx, u = .tuple #[vx, .int .i64 0] ∧ RopeV M w' vx tx ∧ RT.Good tx ∧ RT.valO tx = outE s es) ∧ Ext w w') := by
  obtain ⟨p, rfl, hl⟩ := id hr
  have hx := Ext.refl w
  have hln : RT.lenO t = s.size := by rw [RT.lenO_val, ht]
  obtain ⟨z1, z2, z3, z4⟩ := codeE_zero hn
  refine Cl.enter Tryz.func10 rfl Tryz.ntmps10 rfl rfl ?_
  refine Wp.seq (Wp.region ?_)
  refine Rg.wd trivial (w_boxed rfl rfl) rfl ?_
  rintro _ w1 ⟨b2, rfl, qb2, hx1, hv2⟩
  replace hx := hx.ext hx1
  replace hr := hr.ext hx1
  replace hl := hl.ext hx1
  replace hM := hM.ext hx1
  have hc2 := hv2.cells
  refine Rg.wd trivial (w_new Tryz.zeroValue40 rfl) rfl ?_
  rintro _ w2 ⟨b4, rfl, qb4, hx2, hv4⟩
  replace hr := hr.fresh (Nat.le_of_eq qb4.symm)
  replace hl := hl.fresh (Nat.le_of_eq qb4.symm)
  replace hx := hx.ext hx2
  replace hr := hr.ext hx2
  replace hl := hl.ext hx2
  replace hM := hM.ext hx2
  replace hv2 := hv2.ext hx2
  replace hc2 := hc2.ext hx2
  replace hM := hM.push hv4.lt
  have lt4 := hv4.lt
  have kb4 : w.heap.size ≤ b4 := by have := hx1.le; omega
  refine Rg.tm trivial rfl (t_assign rfl) rfl ?_
  refine Rg.done ?_
  refine Wp.seq ?_
  refine Wp.seq (Wp.region ?_)
  refine Rg.tm trivial rfl (t_loadA rfl (by assumption) (by exact ty40)) rfl ?_
  refine Rg.wd trivial (w_call Tryz.call12 rfl (string_ok hr (by omega))) rfl ?_
  rintro _ w3 ⟨rfl, hx3⟩
  replace hx := hx.ext hx3
  replace hr := hr.ext hx3
  replace hl := hl.ext hx3
  replace hM := hM.ext hx3
  replace hv2 := hv2.ext hx3
  replace hc2 := hc2.ext hx3
  replace hv4 := hv4.ext hx3
  rw [ht]
  refine Rg.tm trivial rfl (t_move rfl) rfl ?_
  refine Rg.wd trivial (w_call Tryz.call13 rfl (validate_ok (hs0.ext hx) (by omega) hlen hb)) rfl ?_
  rintro _ w4 ⟨rfl, hx4⟩
  replace hx := hx.ext hx4
  replace hr := hr.ext hx4
  replace hl := hl.ext hx4
  replace hM := hM.ext hx4
  replace hv2 := hv2.ext hx4
  replace hc2 := hc2.ext hx4
  replace hv4 := hv4.ext hx4
  rw [hn]
  refine Rg.tm trivial rfl (t_assign rfl) rfl ?_
  refine Rg.done ?_
  refine Wp.seq (Wp.region ?_)
  refine Rg.tm trivial rfl (t_move rfl) rfl ?_
  first | refine Rg.tm trivial rfl (t_neqT rfl rfl (by omega)) rfl ?_ | refine Rg.tm trivial rfl (t_neqF rfl rfl (by omega)) rfl ?_ | refine Rg.tm trivial rfl (t_neq rfl rfl) rfl ?_
  refine Rg.done ?_
  refine Wp.condF rfl ?_
  refine Wp.skip ?_
  refine Wp.seq (Wp.region ?_)
  refine Rg.tm trivial rfl (t_assign rfl) rfl ?_
  refine Rg.done ?_
  refine Wp.seq (Wp.region ?_)
  refine Rg.tm trivial rfl (t_fieldAddr fa40_0 rfl) rfl ?_
  refine Rg.tm trivial rfl (t_load ty38 rfl (by apply Cells.get (i := 0); (case h => assumption); rfl)) rfl ?_
  refine Rg.tm trivial rfl (t_assign rfl) rfl ?_
  refine Rg.tm trivial rfl (t_assign rfl) rfl ?_
  refine Rg.done ?_
  refine Wp.seq ?_
  refine Wp.seq (Wp.region ?_)
  refine Rg.tm trivial rfl (t_move rfl) rfl ?_
  refine Rg.tm trivial rfl (t_lenC hs0 Tryz.underlying22 rfl) rfl ?_
  refine Rg.tm trivial rfl (t_move rfl) rfl ?_
  refine Rg.done ?_
  refine Wp.block ?_
  have hst : RT.valO t = s.extract (lastE 0 (es.take 0)).toNat s.size := by rw [ht]; exact ByteArray.extract_zero_size.symm
  refine Wp.loop (ι := Nat × Value × Option RT × Value × Option RT) (fun j => [(1, v), (2, .pointer (some ⟨b2, 0, none⟩)), (4, .pointer (some ⟨b4, 0, none⟩)), (7, j.2.1), (8, j.2.2.2.1), (9, .int .i64 (lastE 0 (es.take j.1))), (24, v), (25, .int .i64 es.length), (26, .int .i64 j.1)])
    (fun j w' => j.1 ≤ es.length ∧ LiesO (b4 :: M) w' j.2.1 j.2.2.1 ∧ RT.Good j.2.2.1 ∧ RT.valO j.2.2.1 = appE s 0 (es.take j.1) ∧ LiesO (b4 :: M) w' j.2.2.2.1 j.2.2.2.2 ∧ RT.Good j.2.2.2.2 ∧ RT.valO j.2.2.2.2 = s.extract (lastE 0 (es.take j.1)).toNat s.size ∧ Ext w w' ∧ In (b4 :: M) w' ∧ Var w' b4 [.pointer none] 40)
    (fun j => es.length - j.1) (0, .pointer none, none, .pointer p, t) (by repeat (first | exact .nil | refine .cons rfl ?_)) ⟨Nat.zero_le _, rfl, trivial, rfl, hl, g, hst, hx, hM, hv4⟩ ?_
  clear hx hM hv4 hl hr hx1 hx2 hc2 hv2 lt4 hst
  rintro ⟨k, va, ta, vb, tb⟩ w3 ⟨hk, ha, ga, ea, hl, gb, eb, hx, hM, hv4⟩
  simp only at hk ha ga ea hl gb eb ⊢
  by_cases hlt : k < es.length
  · skip
    refine Wp.seq (Wp.region ?_)
    first | refine Rg.tm trivial rfl (t_lssT rfl rfl (by omega)) rfl ?_ | refine Rg.tm trivial rfl (t_lssF rfl rfl (by omega)) rfl ?_ | refine Rg.tm trivial rfl (t_lss rfl rfl) rfl ?_
    refine Rg.done ?_
    refine Wp.seq ?_
    refine Wp.condT rfl ?_
    refine Wp.skip ?_
    refine Wp.seq ?_
    refine Wp.block ?_
    refine Wp.seq (Wp.region ?_)
    refine Rg.ix hs0 trivial rfl rfl Tryz.underlying22 ty51 (by omega) rfl ?_
    intro bt28 ot28 ht28
    replace ht28 := ht28.ext hx
    rw [Int.toNat_natCast, tes_at es k hlt] at ht28
    obtain ⟨p1, p2, p3, p4⟩ := at0 hlt hn
    have p5 := appE_le hn (k + 1)
    have p6 := List.take_succ_eq_append_getElem hlt
    rw [p6, appE_snoc, ByteArray.size_append, ByteArray.size_append] at p5
    obtain ⟨e, he⟩ : ∃ e, es[k] = e := ⟨_, rfl⟩
    rw [he] at ht28 p2 p3 p4 p5 p6
    unfold TE.cells at ht28
    generalize hoff : lastE 0 (es.take k) = off at *
    have na : RT.lenO ta = (appE s 0 (es.take k)).size := by rw [RT.lenO_val, ea]
    have nb : (RT.lenO tb : Int) = s.size - off := by rw [RT.lenO_val, eb, ByteArray.size_extract]; omega
    obtain ⟨y1, y2⟩ := RT.good_splitO tb (e.a - off).toNat gb
    obtain ⟨x1, x2⟩ := RT.val_splitO tb (e.a - off).toNat
    have x3 : RT.valO (RT.splitO tb (e.a - off).toNat).1 = s.extract off.toNat e.a.toNat := by
      rw [x1, eb, ByteArray.extract_extract]; congr 1 <;> omega
    have x4 : RT.valO (RT.splitO tb (e.a - off).toNat).2 = s.extract e.a.toNat s.size := by
      rw [x2, eb, ByteArray.size_extract, ByteArray.extract_extract]; congr 1 <;> omega
    clear x1 x2
    refine Rg.tm trivial rfl (t_loadA rfl ht28 ty51) rfl ?_
    refine Rg.wd trivial (w_new Tryz.zeroValue51 rfl) rfl ?_
    rintro _ wa ⟨b11, rfl, qb11, hxa, hva⟩
    refine Rg.wn trivial (w_put hva rfl rfl rfl ty51 rfl rfl) ?_
    rintro _ w5 ⟨hu, hvb11⟩
    have hx5 := hxa.upd hu (Nat.le_of_eq qb11.symm)
    replace hx := hx.ext hx5
    replace ha := ha.ext hx5
    replace hl := hl.ext hx5
    replace hM := hM.ext hx5
    replace hv4 := hv4.ext hx5
    have hcb11 := hvb11.cells
    clear hva hu
    refine Rg.done ?_
    refine Wp.seq (Wp.region ?_)
    refine Rg.tm trivial rfl (t_move rfl) rfl ?_
    refine Rg.tm trivial rfl (t_fieldAddr fa51_0 rfl) rfl ?_
    refine Rg.tm trivial rfl (t_load ty3 rfl (by apply Cells.get (i := 0); (case h => assumption); rfl)) rfl ?_
    refine Rg.tm trivial rfl (t_move rfl) rfl ?_
    first | refine Rg.tm trivial rfl (t_subI rfl rfl (by omega)) rfl ?_ | refine Rg.tm trivial rfl (t_sub rfl rfl) rfl ?_
    refine Rg.wd trivial (w_call Tryz.call32 rfl (splitO_ok hM hl gb (by omega) (by omega))) rfl ?_
    rintro _ w6 ⟨⟨vx, vy, rfl, h1, h2⟩, hx6⟩
    replace hx := hx.ext hx6
    replace ha := ha.ext hx6
    replace hl := hl.ext hx6
    replace hM := hM.ext hx6
    replace hv4 := hv4.ext hx6
    replace hcb11 := hcb11.ext hx6
    generalize (RT.splitO tb (e.a - off).toNat).1 = t1 at *
    generalize (RT.splitO tb (e.a - off).toNat).2 = t2 at *
    have n1 : (RT.lenO t1 : Int) = e.a - off := by rw [RT.lenO_val, x3, ByteArray.size_extract]; omega
    have n2 : (RT.lenO t2 : Int) = s.size - e.a := by rw [RT.lenO_val, x4, ByteArray.size_extract]; omega
    obtain ⟨_, y4⟩ := RT.good_splitO t2 (e.b - e.a).toNat y2
    obtain ⟨_, x6⟩ := RT.val_splitO t2 (e.b - e.a).toNat
    have x7 : RT.valO (RT.splitO t2 (e.b - e.a).toNat).2 = s.extract e.b.toNat s.size := by
      rw [x6, x4, ByteArray.size_extract, ByteArray.extract_extract]; congr 1 <;> omega
    clear x6
    refine Rg.tm trivial rfl (t_move rfl) rfl ?_
    refine Rg.tm trivial rfl (t_extract rfl rfl) rfl ?_
    refine Rg.tm trivial rfl (t_extract rfl rfl) rfl ?_
    refine Rg.tm trivial rfl (t_assign rfl) rfl ?_
    refine Rg.tm trivial rfl (t_assign rfl) rfl ?_
    refine Rg.done ?_
    refine Wp.seq (Wp.region ?_)
    refine Rg.tm trivial rfl (t_move rfl) rfl ?_
    refine Rg.tm trivial rfl (t_fieldAddr fa51_1 rfl) rfl ?_
    refine Rg.tm trivial rfl (t_load ty3 rfl (by apply Cells.get (i := 1); (case h => assumption); rfl)) rfl ?_
    refine Rg.tm trivial rfl (t_fieldAddr fa51_0 rfl) rfl ?_
    refine Rg.tm trivial rfl (t_load ty3 rfl (by apply Cells.get (i := 0); (case h => assumption); rfl)) rfl ?_
    first | refine Rg.tm trivial rfl (t_subI rfl rfl (by omega)) rfl ?_ | refine Rg.tm trivial rfl (t_sub rfl rfl) rfl ?_
    refine Rg.wd trivial (w_call Tryz.call32 rfl (splitO_ok hM h2 y2 (by omega) (by omega))) rfl ?_
    rintro _ w7 ⟨⟨vz, vq, rfl, _, h3⟩, hx7⟩
    replace hx := hx.ext hx7
    replace ha := ha.ext hx7
    replace hl := hl.ext hx7
    replace hM := hM.ext hx7
    replace hv4 := hv4.ext hx7
    replace hcb11 := hcb11.ext hx7
    replace h1 := h1.ext hx7
    replace h2 := h2.ext hx7
    generalize (RT.splitO t2 (e.b - e.a).toNat).2 = t3 at *
    have n3 : (RT.lenO t3 : Int) = s.size - e.b := by rw [RT.lenO_val, x7, ByteArray.size_extract]; omega
    refine Rg.tm trivial rfl (t_move rfl) rfl ?_
    refine Rg.tm trivial rfl (t_extract rfl rfl) rfl ?_
    refine Rg.tm trivial rfl (t_extract rfl rfl) rfl ?_
    refine Rg.tm trivial rfl (t_assign rfl) rfl ?_
    refine Rg.done ?_
    refine Wp.seq (Wp.draw [0, 1, 3, 4, 2, 5, 6, 7, 8] [] mixed (by kernel_rfl) (by kernel_rfl) ?_)
    intro w8 hx8 _
    replace hx := hx.ext hx8
    replace ha := ha.ext hx8
    replace hl := hl.ext hx8
    replace hM := hM.ext hx8
    replace hv4 := hv4.ext hx8
    replace hcb11 := hcb11.ext hx8
    replace h1 := h1.ext hx8
    replace h2 := h2.ext hx8
    replace h3 := h3.ext hx8
    refine Rg.tm trivial rfl (t_move rfl) rfl ?_
    refine Rg.tm trivial rfl (t_move rfl) rfl ?_
    refine Rg.tm trivial rfl (t_fieldAddr fa51_2 rfl) rfl ?_
    refine Rg.tm trivial rfl (t_load ty9 rfl (by apply Cells.get (i := 2); (case h => assumption); rfl)) rfl ?_
    refine Rg.wdB trivial rfl (w_call Tryz.call30 rfl (catO_ok hM ha h1 ga y1 (by omega))) rfl (fun _ _ h => h.2) ?_
    rintro vc w9 ⟨h4, hx9⟩
    replace hx := hx.ext hx9
    replace ha := ha.ext hx9
    replace hl := hl.ext hx9
    replace hM := hM.ext hx9
    replace hv4 := hv4.ext hx9
    replace hcb11 := hcb11.ext hx9
    replace h1 := h1.ext hx9
    replace h2 := h2.ext hx9
    replace h3 := h3.ext hx9
    have g4 := RT.good_cat ga y1
    have e4 := RT.val_cat ta t1
    rw [ea, x3] at e4
    generalize RT.catO ta t1 = t4 at *
    have n4 : RT.lenO t4 = RT.lenO ta + RT.lenO t1 := by rw [RT.lenO_val, RT.lenO_val, RT.lenO_val, e4, ea, x3, ByteArray.size_append]
    refine Rg.wdB trivial rfl (w_call Tryz.call9 rfl (new_ok hM (by omega))) rfl (fun _ _ h => h.2) ?_
    rintro _ w10 ⟨⟨t5, g5, e5, p9, rfl, h5⟩, hx10⟩
    replace hx := hx.ext hx10
    replace ha := ha.ext hx10
    replace hl := hl.ext hx10
    replace hM := hM.ext hx10
    replace hv4 := hv4.ext hx10
    replace hcb11 := hcb11.ext hx10
    replace h1 := h1.ext hx10
    replace h2 := h2.ext hx10
    replace h3 := h3.ext hx10
    replace h4 := h4.ext hx10
    have n5 : RT.lenO t5 = e.s.size := by rw [RT.lenO_val, e5]
    refine Rg.tm trivial rfl (t_field rfl (fun w => rfl)) rfl ?_
    refine Rg.wdB trivial rfl (w_call Tryz.call30 rfl (catO_ok hM h4 h5 g4 g5 (by omega))) rfl (fun _ _ h => h.2) ?_
    rintro vd w11 ⟨h6, hx11⟩
    replace hx := hx.ext hx11
    replace ha := ha.ext hx11
    replace hl := hl.ext hx11
    replace hM := hM.ext hx11
    replace hv4 := hv4.ext hx11
    replace hcb11 := hcb11.ext hx11
    replace h1 := h1.ext hx11
    replace h2 := h2.ext hx11
    replace h3 := h3.ext hx11
    replace h4 := h4.ext hx11
    replace h5 := h5.ext hx11
    have g6 := RT.good_cat g4 g5
    have e6 := RT.val_cat t4 t5
    rw [e4, e5, ByteArray.append_assoc] at e6
    refine Rg.tm trivial rfl (t_assign rfl) rfl ?_
    refine Rg.done ?_
    refine Wp.draw [0, 1, 2, 3, 4] [] mixed (by kernel_rfl) (by kernel_rfl) ?_
    intro w12 hx12 _
    replace hx := hx.ext hx12
    replace ha := ha.ext hx12
    replace hl := hl.ext hx12
    replace hM := hM.ext hx12
    replace hv4 := hv4.ext hx12
    replace hcb11 := hcb11.ext hx12
    replace h1 := h1.ext hx12
    replace h2 := h2.ext hx12
    replace h3 := h3.ext hx12
    replace h4 := h4.ext hx12
    replace h5 := h5.ext hx12
    replace h6 := h6.ext hx12
    refine Rg.tm trivial rfl (t_move rfl) rfl ?_
    refine Rg.tm trivial rfl (t_fieldAddr fa51_1 rfl) rfl ?_
    refine Rg.tm trivial rfl (t_load ty3 rfl (by apply Cells.get (i := 1); (case h => assumption); rfl)) rfl ?_
    refine Rg.tm trivial rfl (t_assign rfl) rfl ?_
    refine Rg.tm trivial rfl (t_assign rfl) rfl ?_
    refine Rg.done ?_
    refine Wp.region ?_
    first | refine Rg.tm trivial rfl (t_addI rfl rfl (by omega)) rfl ?_ | refine Rg.tm trivial rfl (t_add rfl rfl) rfl ?_
    refine Rg.tm trivial rfl (t_move rfl) rfl ?_
    refine Rg.done ?_
    refine ⟨(k + 1, vd, _, vq, t3), ?_, ⟨hlt, h6, g6, ?_, h3, y4, ?_, hx, hM, hv4⟩, by simp only; omega⟩
    · simp only [p6, lastE_snoc]
      repeat (first | exact .nil | refine .cons rfl ?_)
    · rw [p6, appE_snoc, hoff]; exact e6
    · rw [p6, lastE_snoc]; exact x7
  · have e0 : k = es.length := by omega
    subst e0
    simp only [List.take_length] at *
    have lt4 := hv4.lt
    have p1 := last0 (by omega) z3 es.length
    rw [List.take_length] at p1
    have p2 := (appE_le hn es.length).2
    have p3 : (outE s es).size = (appE s 0 es).size + (s.extract (lastE 0 es).toNat s.size).size := by simp only [outE, ByteArray.size_append]
    have na : RT.lenO ta = (appE s 0 es).size := by rw [RT.lenO_val, ea]
    have nb : RT.lenO tb = (s.extract (lastE 0 es).toNat s.size).size := by rw [RT.lenO_val, eb]
    refine Wp.seq (Wp.region ?_)
    first | refine Rg.tm trivial rfl (t_lssT rfl rfl (by omega)) rfl ?_ | refine Rg.tm trivial rfl (t_lssF rfl rfl (by omega)) rfl ?_ | refine Rg.tm trivial rfl (t_lss rfl rfl) rfl ?_
    refine Rg.done ?_
    refine Wp.seq ?_
    refine Wp.condF rfl ?_
    refine Wp.exit ?_
    refine Wp.seq (Wp.region ?_)
    refine Rg.tm trivial rfl (t_move rfl) rfl ?_
    refine Rg.tm trivial rfl (t_move rfl) rfl ?_
    refine Rg.wd trivial (w_call Tryz.call30 rfl (catO_ok hM ha hl ga gb (by omega))) rfl ?_
    rintro vc w5 ⟨h4, hx5⟩
    replace hx := hx.ext hx5
    replace ha := ha.ext hx5
    replace hl := hl.ext hx5
    replace hM := hM.ext hx5
    replace hv4 := hv4.ext hx5
    obtain ⟨p4, rfl⟩ := h4.form
    refine Rg.tm trivial rfl (t_build (bd40_0 _) rfl) rfl ?_
    refine Rg.wn trivial (w_put hv4 rfl rfl rfl ty40 rfl rfl) ?_
    rintro _ w8 ⟨hu8, hv4'⟩
    refine Rg.tm trivial rfl (t_assign rfl) rfl ?_
    refine Rg.done ?_
    refine Wp.ret ?_
    refine ⟨[_, _], ⟨RV.cellA (vs := [_]) ty40 rfl hv4'.cells, rfl, trivial⟩, ⟨_, _, rfl, ⟨_, rfl, (h4.upd hu8 (by simp)).drop⟩, RT.good_cat ga gb, ?_⟩, hx.upd hu8 (by omega)⟩
    rw [RT.val_cat, ea, eb]; rfl
end Go.Proofs.YtbnkncemfadfjaaGreatDoor
