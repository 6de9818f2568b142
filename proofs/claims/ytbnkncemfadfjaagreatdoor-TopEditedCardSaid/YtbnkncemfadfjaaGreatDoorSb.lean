/- The walks of inputs.Set, memo.Set. Printed by r3/topg.py. -/
import Derived.Test.YtbnkncemfadfjaaGreatDoorSa
namespace Go.Proofs.YtbnkncemfadfjaaGreatDoor
set_option linter.unusedVariables false
set_option linter.unusedSimpArgs false
set_option maxRecDepth 20000
open Go.Gx Go.RowKit Go.Lib

/-- a row of numbers of the calls' own -/
def OwnI (w : World) (v : Value) (xs : List Int) : Prop := w.ownsRow 0 3 1 v xs.length (xs.map (.int .i64))
theorem OwnI.ext {w w' : World} {v : Value} {xs : List Int} (h : OwnI w v xs) (k : Ext w w') : OwnI w' v xs := own_ext h k
theorem OwnI.upd {w w' : World} {v : Value} {xs : List Int} {b t0 : Nat} {cs : List Value} (h : OwnI w v xs) (hv : Var w b cs t0) (hu : Upd b w w') (ht : t0 ≠ 3) : OwnI w' v xs := own_upd h hv hu ht
theorem goodL {w : World} {bM : Nat} {es : Array MapEntry} {v : Value} (hM : GoodM w bM es) (h : v = .agg #[.slice none 0 0, .string ⟨#[]⟩, .int .i64 0, .int .i64 0] ∨ ∃ e ∈ es.toList, e.val = v) : GoodV w v := by
  rcases h with rfl | ⟨e, he, rfl⟩
  · exact zeroGood _
  · exact (hM.2 e he).2
theorem set_ok {w : World} {bI bM : Nat} {ka kb : Int} {vn : Value} {xs : List Int} {t : ByteArray} (hI : Inp w bI bM) (hn : OwnI w vn xs) (hl : xs.length ≤ 1) :
    Cl Tryz.prog 93 #[.pointer (some ⟨bI, 0, none⟩), .agg #[.int .i64 0, .int .i64 ka, .int .i64 kb], .agg #[vn, .string t], .int .i64 0] w (fun u w' => (∃ b : Bool, u = .tuple #[.bool b, .int .i64 0]) ∧ Inp w' bI bM ∧ Kp [bI, bM] w w') := by
  have hx := Ext.refl w
  obtain ⟨r0, a0, b0, c0, es, hv, hM⟩ := id hI
  have hcI := hv.cells
  obtain ⟨pn, cn, rfl⟩ := own_shape hn
  refine Cl.enter Tryz.func93 rfl Tryz.ntmps93 rfl rfl ?_
  refine Wp.seq (Wp.region ?_)
  refine Rg.wd trivial (w_boxed rfl rfl) rfl ?_
  rintro _ w1 ⟨b5, rfl, qb5, hx1, hv5⟩
  replace hx := hx.ext hx1
  replace hv := hv.ext hx1
  replace hM := hM.ext hx1
  replace hcI := hcI.ext hx1
  replace hn := hn.ext hx1
  have hc5 := hv5.cells
  refine Rg.wd trivial (w_boxed rfl rfl) rfl ?_
  rintro _ w2 ⟨b6, rfl, qb6, hx2, hv6⟩
  replace hx := hx.ext hx2
  replace hv := hv.ext hx2
  replace hM := hM.ext hx2
  replace hcI := hcI.ext hx2
  replace hn := hn.ext hx2
  replace hv5 := hv5.ext hx2
  replace hc5 := hc5.ext hx2
  have hc6 := hv6.cells
  refine Rg.tm trivial rfl (t_assign rfl) rfl ?_
  refine Rg.tm trivial rfl (t_assign rfl) rfl ?_
  refine Rg.done ?_
  refine Wp.seq ?_
  refine Wp.seq (Wp.region ?_)
  refine Rg.tm trivial rfl (t_fieldAddr fa64_0 rfl) rfl ?_
  refine Rg.tm trivial rfl (t_load ty3 rfl (by apply Cells.get (i := 0); (case h => assumption); rfl)) rfl ?_
  first | refine Rg.tm trivial rfl (t_neqT rfl rfl (by omega)) rfl ?_ | refine Rg.tm trivial rfl (t_neqF rfl rfl (by omega)) rfl ?_ | refine Rg.tm trivial rfl (t_neq rfl rfl) rfl ?_
  refine Rg.done ?_
  refine Wp.condF rfl ?_
  refine Wp.skip ?_
  refine Wp.seq ?_
  refine Wp.seq (Wp.region ?_)
  refine Rg.tm trivial rfl (t_move rfl) rfl ?_
  first | refine Rg.tm trivial rfl (t_lssT rfl rfl (by omega)) rfl ?_ | refine Rg.tm trivial rfl (t_lssF rfl rfl (by omega)) rfl ?_ | refine Rg.tm trivial rfl (t_lss rfl rfl) rfl ?_
  refine Rg.tm trivial rfl (t_move rfl) rfl ?_
  first | refine Rg.tm ⟨_, rfl, rfl⟩ rfl (t_move rfl) rfl ?_ | refine Rg.sk (.inl ⟨_, _, rfl, rfl, rfl⟩) rfl ?_ | refine Rg.sk (.inr ⟨_, rfl, rfl⟩) rfl ?_
  first | refine Rg.tm ⟨_, rfl, rfl⟩ rfl (t_geqT rfl rfl (by omega)) rfl ?_ | refine Rg.tm ⟨_, rfl, rfl⟩ rfl (t_geqF rfl rfl (by omega)) rfl ?_ | refine Rg.tm ⟨_, rfl, rfl⟩ rfl (t_geq rfl rfl) rfl ?_ | refine Rg.sk (.inl ⟨_, _, rfl, rfl, rfl⟩) rfl ?_ | refine Rg.sk (.inr ⟨_, rfl, rfl⟩) rfl ?_
  first | refine Rg.tm trivial rfl (t_pickT rfl rfl) rfl ?_ | refine Rg.tm trivial rfl (t_pickF rfl rfl) rfl ?_
  refine Rg.done ?_
  refine Wp.condF rfl ?_
  refine Wp.skip ?_
  refine Wp.seq (Wp.draw [0, 1, 2, 3, 4, 5, 6, 7] [0] mixed (by kernel_rfl) (by kernel_rfl) ?_)
  intro w3 hx3 _
  replace hx := hx.ext hx3
  replace hv := hv.ext hx3
  replace hM := hM.ext hx3
  replace hcI := hcI.ext hx3
  replace hn := hn.ext hx3
  replace hv5 := hv5.ext hx3
  replace hc5 := hc5.ext hx3
  replace hv6 := hv6.ext hx3
  replace hc6 := hc6.ext hx3
  refine Rg.tm trivial rfl (t_move rfl) rfl ?_
  refine Rg.tm trivial rfl (t_nilCheck rfl) rfl ?_
  refine Rg.tm trivial rfl (t_fieldAddr fa130_2 rfl) rfl ?_
  refine Rg.tm trivial rfl (t_load ty127 rfl (by apply Cells.get (i := 4); (case h => assumption); rfl)) rfl ?_
  refine Rg.tm trivial rfl (t_loadA rfl (by assumption) (by exact ty64)) rfl ?_
  refine Rg.lk keyT Tryz.underlying127 Tryz.zeroValue174 trivial rfl rfl ⟨_, _, _, rfl⟩ hM.1 (fun e he => (hM.2 e he).1) rfl ?_
  intro vl hvl
  obtain ⟨vn0, xs0, t0, ca0, rfl, hn0, hl0⟩ := goodL hM hvl
  change OwnI _ vn0 xs0 at hn0
  obtain ⟨pn0, cn0, rfl⟩ := own_shape hn0
  refine Rg.wdB trivial rfl (w_new Tryz.zeroValue174 rfl) rfl (fun _ _ h => h.below) ?_
  rintro _ wa ⟨b10, rfl, qb10, hxa, hva⟩
  refine Rg.wnB trivial rfl (w_put hva rfl rfl rfl ty174 rfl rfl) (by rfl) ?_
  rintro _ w4 ⟨hu, hv10⟩
  have hx4 := hxa.upd hu (Nat.le_of_eq qb10.symm)
  replace hx := hx.ext hx4
  replace hv := hv.ext hx4
  replace hM := hM.ext hx4
  replace hcI := hcI.ext hx4
  replace hn := hn.ext hx4
  replace hv5 := hv5.ext hx4
  replace hc5 := hc5.ext hx4
  replace hv6 := hv6.ext hx4
  replace hc6 := hc6.ext hx4
  replace hn0 := hn0.ext hx4
  have hc10 := hv10.cells
  clear hva hu
  refine Rg.done ?_
  refine Wp.seq ?_
  refine Wp.seq (Wp.region ?_)
  refine Rg.tm trivial rfl (t_fieldAddr fa174_2 rfl) rfl ?_
  refine Rg.tm trivial rfl (t_load ty3 rfl (by apply Cells.get (i := 3); (case h => assumption); rfl)) rfl ?_
  refine Rg.tm trivial rfl (t_move rfl) rfl ?_
  first | refine Rg.tm trivial rfl (t_eqlT rfl rfl (by omega)) rfl ?_ | refine Rg.tm trivial rfl (t_eqlF rfl rfl (by omega)) rfl ?_ | refine Rg.tm trivial rfl (t_eql rfl rfl) rfl ?_
  refine Rg.tm trivial rfl (t_move rfl) rfl ?_
  first | refine Rg.tm ⟨_, rfl, rfl⟩ rfl (t_fieldAddr fa174_0 rfl) rfl ?_ | refine Rg.sk (.inl ⟨_, _, rfl, rfl, rfl⟩) rfl ?_ | refine Rg.sk (.inr ⟨_, rfl, rfl⟩) rfl ?_
  refine Rg.tm ⟨_, rfl, rfl⟩ rfl (t_loadA rfl (show Cells _ b10 0 [.slice pn0 xs0.length cn0, .string t0] from Cells.sub hc10 0 2) ty67) rfl ?_
  refine Rg.tm ⟨_, rfl, rfl⟩ rfl (t_loadA rfl hc6 ty67) rfl ?_
  refine Rg.wd ⟨_, rfl, rfl⟩ (w_call Tryz.call115 rfl (equalV_ok hn0 hl0 hn)) rfl ?_
  rintro _ w5 ⟨⟨bq, rfl⟩, hx5⟩
  replace hx := hx.ext hx5
  replace hv := hv.ext hx5
  replace hM := hM.ext hx5
  replace hcI := hcI.ext hx5
  replace hn := hn.ext hx5
  replace hv5 := hv5.ext hx5
  replace hc5 := hc5.ext hx5
  replace hv6 := hv6.ext hx5
  replace hc6 := hc6.ext hx5
  replace hn0 := hn0.ext hx5
  replace hc10 := hc10.ext hx5
  replace hv10 := hv10.ext hx5
  first | refine Rg.tm trivial rfl (t_pickT rfl rfl) rfl ?_ | refine Rg.tm trivial rfl (t_pickF rfl rfl) rfl ?_
  refine Rg.done ?_
  cases bq with
  | true =>
    refine Wp.condT rfl ?_
    refine Wp.seq (Wp.region ?_)
    refine Rg.tm trivial rfl (t_assign rfl) rfl ?_
    refine Rg.tm trivial rfl (t_assign rfl) rfl ?_
    refine Rg.done ?_
    refine Wp.ret ?_
    exact ⟨[_, _], ⟨rfl, rfl, trivial⟩, ⟨false, rfl⟩, ⟨_, _, _, _, _, hv, hM⟩, hx.kp _⟩
  | false =>
    have hk := hx.kp [bI, bM]
    clear hx
    refine Wp.condF rfl ?_
    refine Wp.skip ?_
    refine Wp.seq (Wp.region ?_)
    refine Rg.tm trivial rfl (t_move rfl) rfl ?_
    refine Rg.tm trivial rfl (t_nilCheck rfl) rfl ?_
    refine Rg.tm trivial rfl (t_fieldAddr fa130_0 rfl) rfl ?_
    refine Rg.tm trivial rfl (t_load ty3 rfl (by apply Cells.get (i := 0); (case h => assumption); rfl)) rfl ?_
    first | refine Rg.tm trivial rfl (t_addI rfl rfl (by omega)) rfl ?_ | refine Rg.tm trivial rfl (t_add rfl rfl) rfl ?_
    refine Rg.tm trivial rfl (t_nilCheck rfl) rfl ?_
    refine Rg.tm trivial rfl (t_fieldAddr fa130_0 rfl) rfl ?_
    refine Rg.wn trivial (w_putF hv ty3 rfl rfl rfl rfl rfl) ?_
    rintro _ wb ⟨hu, hv'⟩
    replace hk := hk.trans (hu.kp (by simp))
    replace hM := hM.upd hv hu (by decide)
    replace hn := hn.upd hv hu (by decide)
    replace hv10 := hv10.upd hu (hv10.ne hv (by decide))
    replace hv5 := hv5.upd hu (hv5.ne hv (by decide))
    replace hv6 := hv6.upd hu (hv6.ne hv (by decide))
    clear hv hcI hc10 hc5 hc6 hn0
    have hv : Var wb bI [.int .i64 _, .int .i64 a0, .int .i64 b0, .int .i64 c0, .map (some bM)] 130 := hv'
    have hcI := hv.cells
    have hc10 := hv10.cells
    clear hv'
    refine Rg.done ?_
    refine Wp.seq ?_
    refine Wp.seq (Wp.region ?_)
    refine Rg.tm trivial rfl (t_fieldAddr fa174_2 rfl) rfl ?_
    refine Rg.tm trivial rfl (t_load ty3 rfl (by apply Cells.get (i := 3); (case h => assumption); rfl)) rfl ?_
    refine Rg.tm trivial rfl (t_move rfl) rfl ?_
    refine Rg.tm trivial rfl (t_maxI rfl rfl) rfl ?_
    first | refine Rg.tm trivial rfl (t_addI rfl rfl (by omega)) rfl ?_ | refine Rg.tm trivial rfl (t_add rfl rfl) rfl ?_
    refine Rg.tm trivial rfl (t_move rfl) rfl ?_
    refine Rg.done ?_
    refine Wp.block ?_
    refine Wp.loop (ι := Nat) (fun k => [(0, .pointer (some ⟨bI, 0, none⟩)), (3, .int .i64 0), (5, .pointer (some ⟨b5, 0, none⟩)), (6, .pointer (some ⟨b6, 0, none⟩)), (48, .int .i64 1), (49, .int .i64 k)])
      (fun k w' => k ≤ 1 ∧ (∃ r a b c, Var w' bI [.int .i64 r, .int .i64 a, .int .i64 b, .int .i64 c, .map (some bM)] 130) ∧ GoodM w' bM es ∧ OwnI w' (.slice pn xs.length cn) xs ∧ Var w' b5 [.int .i64 0, .int .i64 ka, .int .i64 kb] 64 ∧ Var w' b6 [.slice pn xs.length cn, .string t] 67 ∧ Kp [bI, bM] w w')
      (fun k => 1 - k) 0 (by repeat (first | exact .nil | refine .cons rfl ?_)) ⟨Nat.zero_le _, ⟨_, _, _, _, hv⟩, hM, hn, hv5, hv6, hk⟩ ?_
    clear hk hv hM hn hv5 hv6 hcI hc10 hv10
    rintro k w3 ⟨hkk, ⟨r1, a1, b1, c1, hv⟩, hM, hn, hv5, hv6, hk⟩
    have hcI := hv.cells
    have hc5 := hv5.cells
    have hc6 := hv6.cells
    by_cases hlt : k < 1
    · obtain rfl : k = 0 := by omega
      refine Wp.seq (Wp.region ?_)
      first | refine Rg.tm trivial rfl (t_lssT rfl rfl (by omega)) rfl ?_ | refine Rg.tm trivial rfl (t_lssF rfl rfl (by omega)) rfl ?_ | refine Rg.tm trivial rfl (t_lss rfl rfl) rfl ?_
      refine Rg.done ?_
      refine Wp.seq ?_
      refine Wp.condT rfl ?_
      refine Wp.skip ?_
      refine Wp.seq ?_
      refine Wp.block ?_
      refine Wp.seq (Wp.region ?_)
      refine Rg.tm trivial rfl (t_move rfl) rfl ?_
      refine Rg.tm trivial rfl (t_assign rfl) rfl ?_
      refine Rg.done ?_
      refine Wp.draw [0, 1, 2, 3, 4, 5, 6, 7, 8, 9] [0] mixed (by kernel_rfl) (by kernel_rfl) ?_
      intro w6 hx6 _
      replace hv := hv.ext hx6
      replace hM := hM.ext hx6
      replace hn := hn.ext hx6
      replace hv5 := hv5.ext hx6
      replace hv6 := hv6.ext hx6
      replace hcI := hcI.ext hx6
      have hk2 := hk.trans (hx6.kp [bI, bM])
      refine Rg.tm trivial rfl (t_move rfl) rfl ?_
      refine Rg.tm trivial rfl (t_move rfl) rfl ?_
      refine Rg.tm trivial rfl (t_move rfl) rfl ?_
      refine Rg.tm trivial rfl (t_nilCheck rfl) rfl ?_
      refine Rg.tm trivial rfl (t_fieldAddr fa130_0 rfl) rfl ?_
      refine Rg.tm trivial rfl (t_load ty3 rfl (by apply Cells.get (i := 0); (case h => assumption); rfl)) rfl ?_
      refine Rg.tm trivial rfl (t_nilCheck rfl) rfl ?_
      refine Rg.tm trivial rfl (t_fieldAddr fa130_1 rfl) rfl ?_
      refine Rg.tm trivial rfl (t_indexAddrA Tryz.underlying128 ty3 rfl rfl (by omega)) rfl ?_
      refine Rg.wnB trivial rfl (w_putF hv ty3 rfl rfl rfl rfl rfl) (by rfl) ?_
      rintro _ wb ⟨hu, hv'⟩
      replace hM := hM.upd hv hu (by decide)
      replace hn := hn.upd hv hu (by decide)
      replace hv5 := hv5.upd hu (hv5.ne hv (by decide))
      replace hv6 := hv6.upd hu (hv6.ne hv (by decide))
      clear hcI hc5 hc6
      have hv2 : Var wb bI [.int .i64 r1, .int .i64 r1, .int .i64 b1, .int .i64 c1, .map (some bM)] 130 := hv'
      refine Rg.done ?_
      refine Wp.region ?_
      first | refine Rg.tm trivial rfl (t_addI rfl rfl (by omega)) rfl ?_ | refine Rg.tm trivial rfl (t_add rfl rfl) rfl ?_
      refine Rg.tm trivial rfl (t_move rfl) rfl ?_
      refine Rg.done ?_
      exact ⟨1, by repeat (first | exact .nil | refine .cons rfl ?_), ⟨Nat.le_refl _, ⟨_, _, _, _, hv2⟩, hM, hn, hv5, hv6, hk2.trans (hu.kp (by simp))⟩, by omega⟩
    · skip
      refine Wp.seq (Wp.region ?_)
      first | refine Rg.tm trivial rfl (t_lssT rfl rfl (by omega)) rfl ?_ | refine Rg.tm trivial rfl (t_lssF rfl rfl (by omega)) rfl ?_ | refine Rg.tm trivial rfl (t_lss rfl rfl) rfl ?_
      refine Rg.done ?_
      refine Wp.seq ?_
      refine Wp.condF rfl ?_
      refine Wp.exit ?_
      refine Wp.seq (Wp.draw [0, 1, 2, 3, 4, 5, 7, 8, 9, 10, 11, 6, 12, 13] [0] mixed (by kernel_rfl) (by kernel_rfl) ?_)
      intro w6 hx6 _
      replace hv := hv.ext hx6
      replace hM := hM.ext hx6
      replace hn := hn.ext hx6
      replace hv5 := hv5.ext hx6
      replace hv6 := hv6.ext hx6
      replace hcI := hcI.ext hx6
      replace hc5 := hc5.ext hx6
      replace hc6 := hc6.ext hx6
      replace hk := hk.trans (hx6.kp [bI, bM])
      refine Rg.tm trivial rfl (t_move rfl) rfl ?_
      refine Rg.tm trivial rfl (t_nilCheck rfl) rfl ?_
      refine Rg.tm trivial rfl (t_fieldAddr fa130_2 rfl) rfl ?_
      refine Rg.tm trivial rfl (t_load ty127 rfl (by apply Cells.get (i := 4); (case h => assumption); rfl)) rfl ?_
      refine Rg.tm trivial rfl (t_loadA rfl (by assumption) (by exact ty64)) rfl ?_
      refine Rg.tm trivial rfl (t_loadA rfl hc6 ty67) rfl ?_
      refine Rg.tm trivial rfl (t_move rfl) rfl ?_
      refine Rg.tm trivial rfl (t_nilCheck rfl) rfl ?_
      refine Rg.tm trivial rfl (t_fieldAddr fa130_0 rfl) rfl ?_
      refine Rg.tm trivial rfl (t_load ty3 rfl (by apply Cells.get (i := 0); (case h => assumption); rfl)) rfl ?_
      refine Rg.tm trivial rfl (t_move rfl) rfl ?_
      refine Rg.wdB trivial rfl (w_call Tryz.call96 rfl (cloneV_ok hn hl)) rfl (fun _ _ h => h.2) ?_
      rintro _ w7 ⟨⟨p8, c8, rfl, ho8⟩, hx7⟩
      replace hk := hk.trans (hx7.kp [bI, bM])
      replace hv := hv.ext hx7
      replace hM := hM.ext hx7
      replace hn := hn.ext hx7
      replace hv5 := hv5.ext hx7
      replace hv6 := hv6.ext hx7
      replace hcI := hcI.ext hx7
      replace hc5 := hc5.ext hx7
      replace hc6 := hc6.ext hx7
      refine Rg.tm trivial rfl (t_build (bd174_0_1_2 _ _ _ _ _ _) rfl) rfl ?_
      refine Rg.wnB trivial rfl (w_mapSet keyT Tryz.underlying127 rfl rfl rfl ⟨_, _, _, rfl⟩ hM.1 (fun e he => (hM.2 e he).1)) (by rfl) ?_
      rintro _ wb ⟨es', hm', hu, hg⟩
      have hne := hM.1.ne hv
      replace hk := hk.trans (hu.kp (by simp))
      have hI' : Inp wb bI bM := ⟨_, _, _, _, es', hv.upd hu (Ne.symm hne), hm', fun e' he' => ⟨(hg e' he').1, by
        rcases (hg e' he').2 with h | ⟨e0, h0, h⟩
        · rw [h]; exact ⟨_, xs, _, _, rfl, own_map ho8 hM.1 hu, hl⟩
        · rw [← h]; exact ((hM.2 e0 h0).2).map hM.1 hu⟩⟩
      refine Rg.done ?_
      refine Wp.seq (Wp.region ?_)
      refine Rg.tm trivial rfl (t_assign rfl) rfl ?_
      refine Rg.tm trivial rfl (t_assign rfl) rfl ?_
      refine Rg.done ?_
      refine Wp.ret ?_
      exact ⟨[_, _], ⟨rfl, rfl, trivial⟩, ⟨true, rfl⟩, hI', hk⟩
/-- the database -/
def Dat (w : World) (bD bI : Nat) : Prop := ∃ f a b c x y, Var w bD [f, .pointer (some ⟨bI, 0, none⟩), a, b, c, x, y] 102
theorem Dat.ext {w w' : World} {bD bI : Nat} (h : Dat w bD bI) (k : Ext w w') : Dat w' bD bI := by
  obtain ⟨f, a, b, c, x, y, h⟩ := h
  exact ⟨f, a, b, c, x, y, h.ext k⟩
theorem Dat.kp {Z : List Nat} {w w' : World} {bD bI : Nat} (h : Dat w bD bI) (k : Kp Z w w') (hz : ∀ z ∈ Z, z ≠ bD) : Dat w' bD bI := by
  obtain ⟨f, a, b, c, x, y, h⟩ := h
  exact ⟨f, a, b, c, x, y, h.kp k fun hb => hz _ hb rfl⟩
theorem memoSet_ok {w : World} {bD bI bM : Nat} {ka kb : Int} {vn : Value} {xs : List Int} {t : ByteArray} (hD : Dat w bD bI) (hI : Inp w bI bM) (hn : OwnI w vn xs) (hl : xs.length ≤ 1) :
    Cl Tryz.prog 81 #[.pointer (some ⟨bD, 0, none⟩), .agg #[.int .i64 0, .int .i64 ka, .int .i64 kb], .agg #[vn, .string t], .int .i64 0] w (fun u w' => (∃ c, u = .int .i64 c) ∧ Inp w' bI bM ∧ Kp [bI, bM] w w') := by
  have hx := Ext.refl w
  obtain ⟨f, a, b, c, x, y, hv⟩ := hD
  have hcD := hv.cells
  obtain ⟨pn, cn, rfl⟩ := own_shape hn
  refine Cl.enter Tryz.func81 rfl Tryz.ntmps81 rfl rfl ?_
  refine Wp.seq (Wp.region ?_)
  refine Rg.wd trivial (w_boxed rfl rfl) rfl ?_
  rintro _ w1 ⟨b5, rfl, qb5, hx1, hv5⟩
  replace hx := hx.ext hx1
  replace hI := hI.ext hx1
  replace hcD := hcD.ext hx1
  replace hn := hn.ext hx1
  have hc5 := hv5.cells
  refine Rg.wd trivial (w_boxed rfl rfl) rfl ?_
  rintro _ w2 ⟨b6, rfl, qb6, hx2, hv6⟩
  replace hx := hx.ext hx2
  replace hI := hI.ext hx2
  replace hcD := hcD.ext hx2
  replace hn := hn.ext hx2
  replace hv5 := hv5.ext hx2
  replace hc5 := hc5.ext hx2
  have hc6 := hv6.cells
  refine Rg.tm trivial rfl (t_assign rfl) rfl ?_
  refine Rg.done ?_
  refine Wp.seq (Wp.draw [0, 1, 2, 3, 4, 5, 6, 7, 8, 9, 10, 11, 12] [5] mixed (by kernel_rfl) (by kernel_rfl) ?_)
  intro w3 hx3 _
  replace hx := hx.ext hx3
  replace hI := hI.ext hx3
  replace hcD := hcD.ext hx3
  replace hn := hn.ext hx3
  replace hv5 := hv5.ext hx3
  replace hc5 := hc5.ext hx3
  replace hv6 := hv6.ext hx3
  replace hc6 := hc6.ext hx3
  refine Rg.tm trivial rfl (t_move rfl) rfl ?_
  refine Rg.tm trivial rfl (t_nilCheck rfl) rfl ?_
  refine Rg.tm trivial rfl (t_fieldAddr fa102_1 rfl) rfl ?_
  refine Rg.tm trivial rfl (t_load ty97 rfl (by apply Cells.get (i := 1); (case h => assumption); rfl)) rfl ?_
  refine Rg.tm trivial rfl (t_loadA rfl hc5 ty64) rfl ?_
  refine Rg.tm trivial rfl (t_loadA rfl hc6 ty67) rfl ?_
  refine Rg.tm trivial rfl (t_move rfl) rfl ?_
  refine rg_wdC trivial rfl (w_call Tryz.call93 rfl (set_ok hI hn hl)) rfl (by rfl) ?_
  rintro _ wS ⟨⟨bb, rfl⟩, hI2, hk⟩
  refine Rg.tm trivial rfl (t_move rfl) rfl ?_
  refine Rg.tm trivial rfl (t_extract rfl rfl) rfl ?_
  refine Rg.tm trivial rfl (t_extract rfl rfl) rfl ?_
  refine Rg.tm trivial rfl (t_assign rfl) rfl ?_
  refine Rg.tm trivial rfl (t_assign rfl) rfl ?_
  refine Rg.done ?_
  refine Wp.seq (Wp.region ?_)
  refine Rg.tm trivial rfl (t_move rfl) rfl ?_
  refine Rg.tm trivial rfl (t_assign rfl) rfl ?_
  refine Rg.done ?_
  refine Wp.ret ?_
  exact ⟨[_], ⟨rfl, trivial⟩, ⟨_, rfl⟩, hI2, (hx.kp _).trans hk⟩
end Go.Proofs.YtbnkncemfadfjaaGreatDoor
