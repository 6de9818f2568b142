/- The walks of package rope, second part: split, New and the methods. Printed by ropex.py. -/
import Derived.Test.YtbnkncemfadfjaaGreatDoorRw
import Derived.Test.YtbnkncemfadfjaaGreatDoorRu
namespace Go.Proofs.YtbnkncemfadfjaaGreatDoor
set_option linter.unusedVariables false
set_option linter.unusedSimpArgs false
set_option maxRecDepth 20000
open Go.Gx Go.RowKit

def LiesO (M : List Nat) (w : World) (v : Value) : Option RT → Prop
  | none => v = .pointer none
  | some t => Lies M w v t
theorem LiesO.ext {M : List Nat} {w w' : World} {v : Value} {t : Option RT} (h : LiesO M w v t) (k : Ext w w') : LiesO M w' v t := by
  cases t with
  | none => exact h
  | some t => exact Lies.ext h k
theorem LiesO.form {M : List Nat} {w : World} {v : Value} {t : Option RT} (h : LiesO M w v t) : ∃ p, v = .pointer p := by
  cases t with
  | none => exact ⟨none, h⟩
  | some t => obtain ⟨b, o, _, _, h, _⟩ := Lies.top h; exact ⟨_, h⟩
theorem Lies.fresh {M : List Nat} {w : World} {b : Nat} : ∀ {t : RT} {v : Value}, Lies M w v t → w.heap.size ≤ b → Lies (b :: M) w v t
  | .leaf _, _, ⟨c, o, h1, h2, h3⟩, k => ⟨c, o, h1, by have := h3.lt; simp only [List.mem_cons, not_or]; exact ⟨by omega, h2⟩, h3⟩
  | .node _ _, _, ⟨c, o, pl, pr, h1, h2, h3, h4, h5⟩, k => ⟨c, o, pl, pr, h1, by have := h3.lt; simp only [List.mem_cons, not_or]; exact ⟨by omega, h2⟩, h3, h4.fresh k, h5.fresh k⟩
theorem LiesO.fresh {M : List Nat} {w : World} {v : Value} {b : Nat} {t : Option RT} (h : LiesO M w v t) (k : w.heap.size ≤ b) : LiesO (b :: M) w v t := by
  cases t with
  | none => exact h
  | some t => exact Lies.fresh h k
theorem Lies.upd {M : List Nat} {w w' : World} {b : Nat} : ∀ {t : RT} {v : Value}, Lies M w v t → Upd b w w' → b ∈ M → Lies M w' v t
  | .leaf _, _, ⟨c, o, h1, h2, h3⟩, k, hb => ⟨c, o, h1, h2, h3.upd k (fun e => h2 (e ▸ hb))⟩
  | .node _ _, _, ⟨c, o, pl, pr, h1, h2, h3, h4, h5⟩, k, hb => ⟨c, o, pl, pr, h1, h2, h3.upd k (fun e => h2 (e ▸ hb)), h4.upd k hb, h5.upd k hb⟩
theorem LiesO.upd {M : List Nat} {w w' : World} {v : Value} {b : Nat} {t : Option RT} (h : LiesO M w v t) (k : Upd b w w') (hb : b ∈ M) : LiesO M w' v t := by
  cases t with
  | none => exact h
  | some t => exact Lies.upd h k hb
theorem Lies.drop {M : List Nat} {w : World} {b : Nat} : ∀ {t : RT} {v : Value}, Lies (b :: M) w v t → Lies M w v t
  | .leaf _, _, ⟨c, o, h1, h2, h3⟩ => ⟨c, o, h1, fun h => h2 (List.mem_cons_of_mem _ h), h3⟩
  | .node _ _, _, ⟨c, o, pl, pr, h1, h2, h3, h4, h5⟩ => ⟨c, o, pl, pr, h1, fun h => h2 (List.mem_cons_of_mem _ h), h3, h4.drop, h5.drop⟩
theorem LiesO.drop {M : List Nat} {w : World} {v : Value} {b : Nat} {t : Option RT} (h : LiesO (b :: M) w v t) : LiesO M w v t := by
  cases t with
  | none => exact h
  | some t => exact Lies.drop h
theorem In.push {M : List Nat} {w : World} {b : Nat} (h : In M w) (hb : b < w.heap.size) : In (b :: M) w := fun m hm => by
  rcases List.mem_cons.1 hm with rfl | hm
  · exact hb
  · exact h m hm
theorem In.upd {M : List Nat} {w w' : World} {b : Nat} (h : In M w) (k : Upd b w w') : In M w' := fun m hm => by rw [k.size]; exact h m hm

theorem catO_ok {M : List Nat} {w : World} {l r : Option RT} {vl vr : Value} (hM : In M w) (hl : LiesO M w vl l) (hr : LiesO M w vr r) (fl : RT.Good l) (fr : RT.Good r) (hb : RT.lenO l + RT.lenO r < 4611686018427387904) :
    Cl Tryz.prog 30 #[vl, vr] w (fun v w' => LiesO M w' v (RT.catO l r) ∧ Ext w w') := by
  cases l with
  | none =>
    obtain rfl := hl
    refine Cl.enter Tryz.func30 rfl Tryz.ntmps30 rfl rfl ?_
    refine Wp.seq (Wp.region ?_)
    refine Rg.tm trivial rfl (t_assign rfl) rfl ?_
    refine Rg.done ?_
    refine Wp.seq ?_
    refine Wp.block ?_
    refine Wp.seq (Wp.region ?_)
    refine Rg.tm trivial rfl (t_move rfl) rfl ?_
    first | refine Rg.tm trivial rfl (t_peqT pt38 rfl rfl) rfl ?_ | refine Rg.tm trivial rfl (t_peqF pt38 rfl rfl) rfl ?_
    refine Rg.tm trivial rfl (t_assign rfl) rfl ?_
    refine Rg.done ?_
    refine Wp.condT rfl ?_
    refine Wp.seq (Wp.region ?_)
    refine Rg.tm trivial rfl (t_move rfl) rfl ?_
    refine Rg.tm trivial rfl (t_assign rfl) rfl ?_
    refine Rg.done ?_
    refine Wp.ret ?_
    exact ⟨[_], ⟨rfl, trivial⟩, hr, Ext.refl w⟩
  | some l =>
    cases r with
    | none =>
      obtain rfl := hr
      obtain ⟨bl, ol, p1, q1, rfl, ml, cl⟩ := Lies.top hl
      refine Cl.enter Tryz.func30 rfl Tryz.ntmps30 rfl rfl ?_
      refine Wp.seq (Wp.region ?_)
      refine Rg.tm trivial rfl (t_assign rfl) rfl ?_
      refine Rg.done ?_
      refine Wp.seq ?_
      refine Wp.block ?_
      refine Wp.seq (Wp.region ?_)
      refine Rg.tm trivial rfl (t_move rfl) rfl ?_
      first | refine Rg.tm trivial rfl (t_peqT pt38 rfl rfl) rfl ?_ | refine Rg.tm trivial rfl (t_peqF pt38 rfl rfl) rfl ?_
      refine Rg.tm trivial rfl (t_assign rfl) rfl ?_
      refine Rg.done ?_
      refine Wp.condF rfl ?_
      refine Wp.seq (Wp.region ?_)
      refine Rg.tm trivial rfl (t_move rfl) rfl ?_
      first | refine Rg.tm trivial rfl (t_peqT pt38 rfl rfl) rfl ?_ | refine Rg.tm trivial rfl (t_peqF pt38 rfl rfl) rfl ?_
      refine Rg.tm trivial rfl (t_assign rfl) rfl ?_
      refine Rg.done ?_
      refine Wp.condT rfl ?_
      refine Wp.seq (Wp.region ?_)
      refine Rg.tm trivial rfl (t_move rfl) rfl ?_
      refine Rg.tm trivial rfl (t_assign rfl) rfl ?_
      refine Rg.done ?_
      refine Wp.ret ?_
      exact ⟨[_], ⟨rfl, trivial⟩, hl, Ext.refl w⟩
    | some r => exact cat_ok _ l r (Nat.le_refl _) hM hl hr fl.1 fr.1 hb

def SplitR (M : List Nat) (a b : Option RT) (u : Value) (w : World) : Prop := ∃ va vb, u = .tuple #[va, vb] ∧ LiesO M w va a ∧ LiesO M w vb b

theorem split_ok : ∀ (t : RT) {M : List Nat} {w : World} {v : Value} {i : Int} (hM : In M w) (hl : Lies M w v t) (ft : t.Full) (bt : t.Bal) (hb : t.len < 4611686018427387904) (hi : -4611686018427387904 < i ∧ i < 4611686018427387904),
    Cl Tryz.prog 32 #[v, .int .i64 i] w (fun u w' => SplitR M (RT.split t i.toNat).1 (RT.split t i.toNat).2 u w' ∧ Ext w w') := by
  intro t
  induction t with
  | leaf s =>
    intro M w v i hM hl ft bt hb hi
    have hx := Ext.refl w
    have e0 : (RT.leaf s).len = s.size := rfl
    have e1 : (RT.leaf s).hgt = 0 := rfl
    have e7 : (RT.leaf s).txt.size = s.size := rfl
    obtain ⟨b, o, p, q, rfl, m, c⟩ := hl.top
    by_cases h1 : i ≤ 0
    · have e2 : i.toNat = 0 := by omega
      rw [e2]
      refine Cl.enter Tryz.func32 rfl Tryz.ntmps32 rfl rfl ?_
      refine Wp.seq (Wp.region ?_)
      refine Rg.tm trivial rfl (t_assign rfl) rfl ?_
      refine Rg.tm trivial rfl (t_assign rfl) rfl ?_
      refine Rg.done ?_
      refine Wp.seq ?_
      refine Wp.block ?_
      refine Wp.seq (Wp.region ?_)
      refine Rg.tm trivial rfl (t_move rfl) rfl ?_
      first | refine Rg.tm trivial rfl (t_peqT pt38 rfl rfl) rfl ?_ | refine Rg.tm trivial rfl (t_peqF pt38 rfl rfl) rfl ?_
      refine Rg.tm trivial rfl (t_move rfl) rfl ?_
      first | refine Rg.tm ⟨_, rfl, rfl⟩ rfl (t_move rfl) rfl ?_ | refine Rg.sk (.inl ⟨_, _, rfl, rfl, rfl⟩) rfl ?_ | refine Rg.sk (.inr ⟨_, rfl, rfl⟩) rfl ?_
      first | refine Rg.tm ⟨_, rfl, rfl⟩ rfl (t_leqT rfl rfl (by omega)) rfl ?_ | refine Rg.tm ⟨_, rfl, rfl⟩ rfl (t_leqF rfl rfl (by omega)) rfl ?_ | refine Rg.tm ⟨_, rfl, rfl⟩ rfl (t_leq rfl rfl) rfl ?_ | refine Rg.sk (.inl ⟨_, _, rfl, rfl, rfl⟩) rfl ?_ | refine Rg.sk (.inr ⟨_, rfl, rfl⟩) rfl ?_
      first | refine Rg.tm trivial rfl (t_pickT rfl rfl) rfl ?_ | refine Rg.tm trivial rfl (t_pickF rfl rfl) rfl ?_
      refine Rg.tm trivial rfl (t_assign rfl) rfl ?_
      refine Rg.done ?_
      refine Wp.condT rfl ?_
      refine Wp.seq (Wp.region ?_)
      refine Rg.tm trivial rfl (t_move rfl) rfl ?_
      refine Rg.tm trivial rfl (t_assign rfl) rfl ?_
      refine Rg.tm trivial rfl (t_assign rfl) rfl ?_
      refine Rg.done ?_
      refine Wp.ret ?_
      unfold RT.split; exact ⟨[_, _], ⟨rfl, rfl, trivial⟩, ⟨_, _, rfl, rfl, hl⟩, hx⟩
    · by_cases h2 : s.size ≤ i.toNat
      · have e2 : i.toNat ≠ 0 := by omega
        refine Cl.enter Tryz.func32 rfl Tryz.ntmps32 rfl rfl ?_
        refine Wp.seq (Wp.region ?_)
        refine Rg.tm trivial rfl (t_assign rfl) rfl ?_
        refine Rg.tm trivial rfl (t_assign rfl) rfl ?_
        refine Rg.done ?_
        refine Wp.seq ?_
        refine Wp.block ?_
        refine Wp.seq (Wp.region ?_)
        refine Rg.tm trivial rfl (t_move rfl) rfl ?_
        first | refine Rg.tm trivial rfl (t_peqT pt38 rfl rfl) rfl ?_ | refine Rg.tm trivial rfl (t_peqF pt38 rfl rfl) rfl ?_
        refine Rg.tm trivial rfl (t_move rfl) rfl ?_
        first | refine Rg.tm ⟨_, rfl, rfl⟩ rfl (t_move rfl) rfl ?_ | refine Rg.sk (.inl ⟨_, _, rfl, rfl, rfl⟩) rfl ?_ | refine Rg.sk (.inr ⟨_, rfl, rfl⟩) rfl ?_
        first | refine Rg.tm ⟨_, rfl, rfl⟩ rfl (t_leqT rfl rfl (by omega)) rfl ?_ | refine Rg.tm ⟨_, rfl, rfl⟩ rfl (t_leqF rfl rfl (by omega)) rfl ?_ | refine Rg.tm ⟨_, rfl, rfl⟩ rfl (t_leq rfl rfl) rfl ?_ | refine Rg.sk (.inl ⟨_, _, rfl, rfl, rfl⟩) rfl ?_ | refine Rg.sk (.inr ⟨_, rfl, rfl⟩) rfl ?_
        first | refine Rg.tm trivial rfl (t_pickT rfl rfl) rfl ?_ | refine Rg.tm trivial rfl (t_pickF rfl rfl) rfl ?_
        refine Rg.tm trivial rfl (t_assign rfl) rfl ?_
        refine Rg.done ?_
        refine Wp.condF rfl ?_
        refine Wp.seq (Wp.region ?_)
        refine Rg.tm trivial rfl (t_move rfl) rfl ?_
        refine Rg.tm trivial rfl (t_move rfl) rfl ?_
        refine Rg.tm trivial rfl (t_nilCheck rfl) rfl ?_
        refine Rg.tm trivial rfl (t_fieldAddr fa126_3 rfl) rfl ?_
        refine Rg.tm trivial rfl (t_load ty3 rfl (by apply Cells.get (i := 3); (case h => assumption); rfl)) rfl ?_
        first | refine Rg.tm trivial rfl (t_geqT rfl rfl (by omega)) rfl ?_ | refine Rg.tm trivial rfl (t_geqF rfl rfl (by omega)) rfl ?_ | refine Rg.tm trivial rfl (t_geq rfl rfl) rfl ?_
        refine Rg.tm trivial rfl (t_assign rfl) rfl ?_
        refine Rg.done ?_
        refine Wp.condT rfl ?_
        refine Wp.seq (Wp.region ?_)
        refine Rg.tm trivial rfl (t_move rfl) rfl ?_
        refine Rg.tm trivial rfl (t_assign rfl) rfl ?_
        refine Rg.tm trivial rfl (t_assign rfl) rfl ?_
        refine Rg.done ?_
        refine Wp.ret ?_
        unfold RT.split; rw [if_neg e2, if_pos h2]; exact ⟨[_, _], ⟨rfl, rfl, trivial⟩, ⟨_, _, rfl, hl, rfl⟩, hx⟩
      · have e2 : i.toNat ≠ 0 := by omega
        have e3 : (s.extract 0 i.toNat).size < 4611686018427387904 := by rw [ByteArray.size_extract]; omega
        have e4 : (s.extract i.toNat s.size).size < 4611686018427387904 := by rw [ByteArray.size_extract]; omega
        refine Cl.enter Tryz.func32 rfl Tryz.ntmps32 rfl rfl ?_
        refine Wp.seq (Wp.region ?_)
        refine Rg.tm trivial rfl (t_assign rfl) rfl ?_
        refine Rg.tm trivial rfl (t_assign rfl) rfl ?_
        refine Rg.done ?_
        refine Wp.seq ?_
        refine Wp.block ?_
        refine Wp.seq (Wp.region ?_)
        refine Rg.tm trivial rfl (t_move rfl) rfl ?_
        first | refine Rg.tm trivial rfl (t_peqT pt38 rfl rfl) rfl ?_ | refine Rg.tm trivial rfl (t_peqF pt38 rfl rfl) rfl ?_
        refine Rg.tm trivial rfl (t_move rfl) rfl ?_
        first | refine Rg.tm ⟨_, rfl, rfl⟩ rfl (t_move rfl) rfl ?_ | refine Rg.sk (.inl ⟨_, _, rfl, rfl, rfl⟩) rfl ?_ | refine Rg.sk (.inr ⟨_, rfl, rfl⟩) rfl ?_
        first | refine Rg.tm ⟨_, rfl, rfl⟩ rfl (t_leqT rfl rfl (by omega)) rfl ?_ | refine Rg.tm ⟨_, rfl, rfl⟩ rfl (t_leqF rfl rfl (by omega)) rfl ?_ | refine Rg.tm ⟨_, rfl, rfl⟩ rfl (t_leq rfl rfl) rfl ?_ | refine Rg.sk (.inl ⟨_, _, rfl, rfl, rfl⟩) rfl ?_ | refine Rg.sk (.inr ⟨_, rfl, rfl⟩) rfl ?_
        first | refine Rg.tm trivial rfl (t_pickT rfl rfl) rfl ?_ | refine Rg.tm trivial rfl (t_pickF rfl rfl) rfl ?_
        refine Rg.tm trivial rfl (t_assign rfl) rfl ?_
        refine Rg.done ?_
        refine Wp.condF rfl ?_
        refine Wp.seq (Wp.region ?_)
        refine Rg.tm trivial rfl (t_move rfl) rfl ?_
        refine Rg.tm trivial rfl (t_move rfl) rfl ?_
        refine Rg.tm trivial rfl (t_nilCheck rfl) rfl ?_
        refine Rg.tm trivial rfl (t_fieldAddr fa126_3 rfl) rfl ?_
        refine Rg.tm trivial rfl (t_load ty3 rfl (by apply Cells.get (i := 3); (case h => assumption); rfl)) rfl ?_
        first | refine Rg.tm trivial rfl (t_geqT rfl rfl (by omega)) rfl ?_ | refine Rg.tm trivial rfl (t_geqF rfl rfl (by omega)) rfl ?_ | refine Rg.tm trivial rfl (t_geq rfl rfl) rfl ?_
        refine Rg.tm trivial rfl (t_assign rfl) rfl ?_
        refine Rg.done ?_
        refine Wp.condF rfl ?_
        refine Wp.seq (Wp.region ?_)
        refine Rg.tm trivial rfl (t_move rfl) rfl ?_
        refine Rg.tm trivial rfl (t_nilCheck rfl) rfl ?_
        refine Rg.tm trivial rfl (t_fieldAddr fa126_4 rfl) rfl ?_
        refine Rg.tm trivial rfl (t_load ty3 rfl (by apply Cells.get (i := 4); (case h => assumption); rfl)) rfl ?_
        first | refine Rg.tm trivial rfl (t_eqlT rfl rfl (by omega)) rfl ?_ | refine Rg.tm trivial rfl (t_eqlF rfl rfl (by omega)) rfl ?_ | refine Rg.tm trivial rfl (t_eql rfl rfl) rfl ?_
        refine Rg.tm trivial rfl (t_assign rfl) rfl ?_
        refine Rg.done ?_
        refine Wp.condT rfl ?_
        refine Wp.seq (Wp.draw [0, 1, 2, 3, 4, 5, 7, 8, 9, 10, 11, 12, 6, 13, 14, 15] [] mixed (by kernel_rfl) (by kernel_rfl) ?_)
        intro w1 hx1 _
        replace c := c.ext hx1
        replace hl := hl.ext hx1
        replace hM := hM.ext hx1
        replace hx := hx.ext hx1
        refine Rg.tm trivial rfl (t_move rfl) rfl ?_
        refine Rg.tm trivial rfl (t_nilCheck rfl) rfl ?_
        refine Rg.tm trivial rfl (t_fieldAddr fa126_2 rfl) rfl ?_
        refine Rg.tm trivial rfl (t_load ty9 rfl (by apply Cells.get (i := 2); (case h => assumption); rfl)) rfl ?_
        refine Rg.tm trivial rfl (t_move rfl) rfl ?_
        refine Rg.tm trivial rfl (t_sliceS Tryz.underlying9 rfl rfl rfl (by omega)) rfl ?_
        refine Rg.tm trivial rfl (t_move rfl) rfl ?_
        refine Rg.tm trivial rfl (t_nilCheck rfl) rfl ?_
        refine Rg.tm trivial rfl (t_fieldAddr fa126_2 rfl) rfl ?_
        refine Rg.tm trivial rfl (t_load ty9 rfl (by apply Cells.get (i := 2); (case h => assumption); rfl)) rfl ?_
        refine Rg.tm trivial rfl (t_move rfl) rfl ?_
        refine Rg.tm trivial rfl (t_sliceS Tryz.underlying9 rfl rfl rfl (by omega)) rfl ?_
        refine Rg.wdB trivial rfl (w_call Tryz.call31 rfl (leaf_ok hM e3)) rfl (fun _ _ h => h.2) ?_
        rintro u w2 ⟨hu, hx2⟩
        replace c := c.ext hx2
        replace hl := hl.ext hx2
        replace hM := hM.ext hx2
        replace hx := hx.ext hx2
        refine Rg.wdB trivial rfl (w_call Tryz.call31 rfl (leaf_ok hM e4)) rfl (fun _ _ h => h.2) ?_
        rintro u2 w3 ⟨hu2, hx3⟩
        replace c := c.ext hx3
        replace hl := hl.ext hx3
        replace hM := hM.ext hx3
        replace hx := hx.ext hx3
        replace hu := hu.ext hx3
        refine Rg.tm trivial rfl (t_assign rfl) rfl ?_
        refine Rg.tm trivial rfl (t_assign rfl) rfl ?_
        refine Rg.done ?_
        refine Wp.ret ?_
        unfold RT.split; rw [if_neg e2, if_neg h2]; exact ⟨[_, _], ⟨rfl, rfl, trivial⟩, ⟨_, _, rfl, hu, hu2⟩, hx⟩
  | node l r ihl ihr =>
    intro M w v i hM hl ft bt hb hi
    have hx := Ext.refl w
    have e0 : (RT.node l r).len = l.len + r.len := rfl
    have e1 : (RT.node l r).hgt ≠ 0 := by simp [RT.hgt]
    obtain ⟨b, o, pl, pr, rfl, m, c, hll, hlr⟩ := id hl
    obtain ⟨bl, ol, p2, q2, ⟨⟩, m2, c2⟩ := hll.top
    obtain ⟨fl, fr⟩ := ft
    obtain ⟨bl', br', _, _⟩ := bt
    have f1 := RT.lvs_le l fl
    have f2 := l.hgt_lt
    by_cases h1 : i ≤ 0
    · have e2 : i.toNat = 0 := by omega
      rw [e2]
      refine Cl.enter Tryz.func32 rfl Tryz.ntmps32 rfl rfl ?_
      refine Wp.seq (Wp.region ?_)
      refine Rg.tm trivial rfl (t_assign rfl) rfl ?_
      refine Rg.tm trivial rfl (t_assign rfl) rfl ?_
      refine Rg.done ?_
      refine Wp.seq ?_
      refine Wp.block ?_
      refine Wp.seq (Wp.region ?_)
      refine Rg.tm trivial rfl (t_move rfl) rfl ?_
      first | refine Rg.tm trivial rfl (t_peqT pt38 rfl rfl) rfl ?_ | refine Rg.tm trivial rfl (t_peqF pt38 rfl rfl) rfl ?_
      refine Rg.tm trivial rfl (t_move rfl) rfl ?_
      first | refine Rg.tm ⟨_, rfl, rfl⟩ rfl (t_move rfl) rfl ?_ | refine Rg.sk (.inl ⟨_, _, rfl, rfl, rfl⟩) rfl ?_ | refine Rg.sk (.inr ⟨_, rfl, rfl⟩) rfl ?_
      first | refine Rg.tm ⟨_, rfl, rfl⟩ rfl (t_leqT rfl rfl (by omega)) rfl ?_ | refine Rg.tm ⟨_, rfl, rfl⟩ rfl (t_leqF rfl rfl (by omega)) rfl ?_ | refine Rg.tm ⟨_, rfl, rfl⟩ rfl (t_leq rfl rfl) rfl ?_ | refine Rg.sk (.inl ⟨_, _, rfl, rfl, rfl⟩) rfl ?_ | refine Rg.sk (.inr ⟨_, rfl, rfl⟩) rfl ?_
      first | refine Rg.tm trivial rfl (t_pickT rfl rfl) rfl ?_ | refine Rg.tm trivial rfl (t_pickF rfl rfl) rfl ?_
      refine Rg.tm trivial rfl (t_assign rfl) rfl ?_
      refine Rg.done ?_
      refine Wp.condT rfl ?_
      refine Wp.seq (Wp.region ?_)
      refine Rg.tm trivial rfl (t_move rfl) rfl ?_
      refine Rg.tm trivial rfl (t_assign rfl) rfl ?_
      refine Rg.tm trivial rfl (t_assign rfl) rfl ?_
      refine Rg.done ?_
      refine Wp.ret ?_
      unfold RT.split; exact ⟨[_, _], ⟨rfl, rfl, trivial⟩, ⟨_, _, rfl, rfl, hl⟩, hx⟩
    · have e2 : i.toNat ≠ 0 := by omega
      by_cases h2 : (RT.node l r).len ≤ i.toNat
      ·
        refine Cl.enter Tryz.func32 rfl Tryz.ntmps32 rfl rfl ?_
        refine Wp.seq (Wp.region ?_)
        refine Rg.tm trivial rfl (t_assign rfl) rfl ?_
        refine Rg.tm trivial rfl (t_assign rfl) rfl ?_
        refine Rg.done ?_
        refine Wp.seq ?_
        refine Wp.block ?_
        refine Wp.seq (Wp.region ?_)
        refine Rg.tm trivial rfl (t_move rfl) rfl ?_
        first | refine Rg.tm trivial rfl (t_peqT pt38 rfl rfl) rfl ?_ | refine Rg.tm trivial rfl (t_peqF pt38 rfl rfl) rfl ?_
        refine Rg.tm trivial rfl (t_move rfl) rfl ?_
        first | refine Rg.tm ⟨_, rfl, rfl⟩ rfl (t_move rfl) rfl ?_ | refine Rg.sk (.inl ⟨_, _, rfl, rfl, rfl⟩) rfl ?_ | refine Rg.sk (.inr ⟨_, rfl, rfl⟩) rfl ?_
        first | refine Rg.tm ⟨_, rfl, rfl⟩ rfl (t_leqT rfl rfl (by omega)) rfl ?_ | refine Rg.tm ⟨_, rfl, rfl⟩ rfl (t_leqF rfl rfl (by omega)) rfl ?_ | refine Rg.tm ⟨_, rfl, rfl⟩ rfl (t_leq rfl rfl) rfl ?_ | refine Rg.sk (.inl ⟨_, _, rfl, rfl, rfl⟩) rfl ?_ | refine Rg.sk (.inr ⟨_, rfl, rfl⟩) rfl ?_
        first | refine Rg.tm trivial rfl (t_pickT rfl rfl) rfl ?_ | refine Rg.tm trivial rfl (t_pickF rfl rfl) rfl ?_
        refine Rg.tm trivial rfl (t_assign rfl) rfl ?_
        refine Rg.done ?_
        refine Wp.condF rfl ?_
        refine Wp.seq (Wp.region ?_)
        refine Rg.tm trivial rfl (t_move rfl) rfl ?_
        refine Rg.tm trivial rfl (t_move rfl) rfl ?_
        refine Rg.tm trivial rfl (t_nilCheck rfl) rfl ?_
        refine Rg.tm trivial rfl (t_fieldAddr fa126_3 rfl) rfl ?_
        refine Rg.tm trivial rfl (t_load ty3 rfl (by apply Cells.get (i := 3); (case h => assumption); rfl)) rfl ?_
        first | refine Rg.tm trivial rfl (t_geqT rfl rfl (by omega)) rfl ?_ | refine Rg.tm trivial rfl (t_geqF rfl rfl (by omega)) rfl ?_ | refine Rg.tm trivial rfl (t_geq rfl rfl) rfl ?_
        refine Rg.tm trivial rfl (t_assign rfl) rfl ?_
        refine Rg.done ?_
        refine Wp.condT rfl ?_
        refine Wp.seq (Wp.region ?_)
        refine Rg.tm trivial rfl (t_move rfl) rfl ?_
        refine Rg.tm trivial rfl (t_assign rfl) rfl ?_
        refine Rg.tm trivial rfl (t_assign rfl) rfl ?_
        refine Rg.done ?_
        refine Wp.ret ?_
        unfold RT.split; rw [if_neg e2, if_pos h2]; exact ⟨[_, _], ⟨rfl, rfl, trivial⟩, ⟨_, _, rfl, hl, rfl⟩, hx⟩
      · by_cases h3 : i.toNat < l.len
        · have g := RT.good_split l i.toNat fl bl'
          have e5 : RT.lenO (RT.split l i.toNat).2 ≤ l.len := by rw [RT.lenO_val, (RT.val_split l i.toNat).2, ByteArray.size_extract]; have := RT.len_val l; omega
          refine Cl.enter Tryz.func32 rfl Tryz.ntmps32 rfl rfl ?_
          refine Wp.seq (Wp.region ?_)
          refine Rg.tm trivial rfl (t_assign rfl) rfl ?_
          refine Rg.tm trivial rfl (t_assign rfl) rfl ?_
          refine Rg.done ?_
          refine Wp.seq ?_
          refine Wp.block ?_
          refine Wp.seq (Wp.region ?_)
          refine Rg.tm trivial rfl (t_move rfl) rfl ?_
          first | refine Rg.tm trivial rfl (t_peqT pt38 rfl rfl) rfl ?_ | refine Rg.tm trivial rfl (t_peqF pt38 rfl rfl) rfl ?_
          refine Rg.tm trivial rfl (t_move rfl) rfl ?_
          first | refine Rg.tm ⟨_, rfl, rfl⟩ rfl (t_move rfl) rfl ?_ | refine Rg.sk (.inl ⟨_, _, rfl, rfl, rfl⟩) rfl ?_ | refine Rg.sk (.inr ⟨_, rfl, rfl⟩) rfl ?_
          first | refine Rg.tm ⟨_, rfl, rfl⟩ rfl (t_leqT rfl rfl (by omega)) rfl ?_ | refine Rg.tm ⟨_, rfl, rfl⟩ rfl (t_leqF rfl rfl (by omega)) rfl ?_ | refine Rg.tm ⟨_, rfl, rfl⟩ rfl (t_leq rfl rfl) rfl ?_ | refine Rg.sk (.inl ⟨_, _, rfl, rfl, rfl⟩) rfl ?_ | refine Rg.sk (.inr ⟨_, rfl, rfl⟩) rfl ?_
          first | refine Rg.tm trivial rfl (t_pickT rfl rfl) rfl ?_ | refine Rg.tm trivial rfl (t_pickF rfl rfl) rfl ?_
          refine Rg.tm trivial rfl (t_assign rfl) rfl ?_
          refine Rg.done ?_
          refine Wp.condF rfl ?_
          refine Wp.seq (Wp.region ?_)
          refine Rg.tm trivial rfl (t_move rfl) rfl ?_
          refine Rg.tm trivial rfl (t_move rfl) rfl ?_
          refine Rg.tm trivial rfl (t_nilCheck rfl) rfl ?_
          refine Rg.tm trivial rfl (t_fieldAddr fa126_3 rfl) rfl ?_
          refine Rg.tm trivial rfl (t_load ty3 rfl (by apply Cells.get (i := 3); (case h => assumption); rfl)) rfl ?_
          first | refine Rg.tm trivial rfl (t_geqT rfl rfl (by omega)) rfl ?_ | refine Rg.tm trivial rfl (t_geqF rfl rfl (by omega)) rfl ?_ | refine Rg.tm trivial rfl (t_geq rfl rfl) rfl ?_
          refine Rg.tm trivial rfl (t_assign rfl) rfl ?_
          refine Rg.done ?_
          refine Wp.condF rfl ?_
          refine Wp.seq (Wp.region ?_)
          refine Rg.tm trivial rfl (t_move rfl) rfl ?_
          refine Rg.tm trivial rfl (t_nilCheck rfl) rfl ?_
          refine Rg.tm trivial rfl (t_fieldAddr fa126_4 rfl) rfl ?_
          refine Rg.tm trivial rfl (t_load ty3 rfl (by apply Cells.get (i := 4); (case h => assumption); rfl)) rfl ?_
          first | refine Rg.tm trivial rfl (t_eqlT rfl rfl (by omega)) rfl ?_ | refine Rg.tm trivial rfl (t_eqlF rfl rfl (by omega)) rfl ?_ | refine Rg.tm trivial rfl (t_eql rfl rfl) rfl ?_
          refine Rg.tm trivial rfl (t_assign rfl) rfl ?_
          refine Rg.done ?_
          refine Wp.condF rfl ?_
          refine Wp.seq (Wp.region ?_)
          refine Rg.tm trivial rfl (t_move rfl) rfl ?_
          refine Rg.tm trivial rfl (t_move rfl) rfl ?_
          refine Rg.tm trivial rfl (t_nilCheck rfl) rfl ?_
          refine Rg.tm trivial rfl (t_fieldAddr fa126_0 rfl) rfl ?_
          refine Rg.tm trivial rfl (t_load ty38 rfl (by apply Cells.get (i := 0); (case h => assumption); rfl)) rfl ?_
          refine Rg.tm trivial rfl (t_nilCheck rfl) rfl ?_
          refine Rg.tm trivial rfl (t_fieldAddr fa126_3 rfl) rfl ?_
          refine Rg.tm trivial rfl (t_load ty3 rfl (by apply Cells.get (i := 3); (case h => assumption); rfl)) rfl ?_
          first | refine Rg.tm trivial rfl (t_lssT rfl rfl (by omega)) rfl ?_ | refine Rg.tm trivial rfl (t_lssF rfl rfl (by omega)) rfl ?_ | refine Rg.tm trivial rfl (t_lss rfl rfl) rfl ?_
          refine Rg.tm trivial rfl (t_assign rfl) rfl ?_
          refine Rg.done ?_
          refine Wp.condT rfl ?_
          refine Wp.seq (Wp.region ?_)
          refine Rg.tm trivial rfl (t_move rfl) rfl ?_
          refine Rg.tm trivial rfl (t_nilCheck rfl) rfl ?_
          refine Rg.tm trivial rfl (t_fieldAddr fa126_0 rfl) rfl ?_
          refine Rg.tm trivial rfl (t_load ty38 rfl (by apply Cells.get (i := 0); (case h => assumption); rfl)) rfl ?_
          refine Rg.tm trivial rfl (t_move rfl) rfl ?_
          refine Rg.wd trivial (w_call Tryz.call32 rfl (ihl hM hll fl bl' (by omega) (by omega))) rfl ?_
          rintro _ w1 ⟨⟨va, vb, rfl, ha, hb2⟩, hx1⟩
          replace c := c.ext hx1
          replace c2 := c2.ext hx1
          replace hl := hl.ext hx1
          replace hll := hll.ext hx1
          replace hlr := hlr.ext hx1
          replace hM := hM.ext hx1
          replace hx := hx.ext hx1
          refine Rg.tm trivial rfl (t_move rfl) rfl ?_
          refine Rg.tm trivial rfl (t_extract rfl rfl) rfl ?_
          refine Rg.tm trivial rfl (t_extract rfl rfl) rfl ?_
          refine Rg.tm trivial rfl (t_assign rfl) rfl ?_
          refine Rg.tm trivial rfl (t_assign rfl) rfl ?_
          refine Rg.done ?_
          refine Wp.seq (Wp.region ?_)
          refine Rg.tm trivial rfl (t_move rfl) rfl ?_
          refine Rg.tm trivial rfl (t_move rfl) rfl ?_
          refine Rg.tm trivial rfl (t_move rfl) rfl ?_
          refine Rg.tm trivial rfl (t_nilCheck rfl) rfl ?_
          refine Rg.tm trivial rfl (t_fieldAddr fa126_1 rfl) rfl ?_
          refine Rg.tm trivial rfl (t_load ty38 rfl (by apply Cells.get (i := 1); (case h => assumption); rfl)) rfl ?_
          refine Rg.wd trivial (w_call Tryz.call30 rfl (catO_ok (r := some r) hM hb2 hlr g.2 ⟨fr, br'⟩ (by simp only [RT.lenO] at *; omega))) rfl ?_
          rintro vc w2 ⟨hc, hx2⟩
          replace c := c.ext hx2
          replace c2 := c2.ext hx2
          replace hl := hl.ext hx2
          replace hll := hll.ext hx2
          replace hlr := hlr.ext hx2
          replace hM := hM.ext hx2
          replace hx := hx.ext hx2
          replace ha := ha.ext hx2
          replace hb2 := hb2.ext hx2
          refine Rg.tm trivial rfl (t_assign rfl) rfl ?_
          refine Rg.tm trivial rfl (t_assign rfl) rfl ?_
          refine Rg.done ?_
          refine Wp.ret ?_
          unfold RT.split; rw [if_neg e2, if_neg h2, if_pos h3]; exact ⟨[_, _], ⟨rfl, rfl, trivial⟩, ⟨_, _, rfl, ha, hc⟩, hx⟩
        · have g := RT.good_split r (i.toNat - l.len) fr br'
          have e5 : RT.lenO (RT.split r (i.toNat - l.len)).1 ≤ r.len := by rw [RT.lenO_val, (RT.val_split r (i.toNat - l.len)).1, ByteArray.size_extract]; have := RT.len_val r; omega
          have e6 : (i - l.len).toNat = i.toNat - l.len := by omega
          refine Cl.enter Tryz.func32 rfl Tryz.ntmps32 rfl rfl ?_
          refine Wp.seq (Wp.region ?_)
          refine Rg.tm trivial rfl (t_assign rfl) rfl ?_
          refine Rg.tm trivial rfl (t_assign rfl) rfl ?_
          refine Rg.done ?_
          refine Wp.seq ?_
          refine Wp.block ?_
          refine Wp.seq (Wp.region ?_)
          refine Rg.tm trivial rfl (t_move rfl) rfl ?_
          first | refine Rg.tm trivial rfl (t_peqT pt38 rfl rfl) rfl ?_ | refine Rg.tm trivial rfl (t_peqF pt38 rfl rfl) rfl ?_
          refine Rg.tm trivial rfl (t_move rfl) rfl ?_
          first | refine Rg.tm ⟨_, rfl, rfl⟩ rfl (t_move rfl) rfl ?_ | refine Rg.sk (.inl ⟨_, _, rfl, rfl, rfl⟩) rfl ?_ | refine Rg.sk (.inr ⟨_, rfl, rfl⟩) rfl ?_
          first | refine Rg.tm ⟨_, rfl, rfl⟩ rfl (t_leqT rfl rfl (by omega)) rfl ?_ | refine Rg.tm ⟨_, rfl, rfl⟩ rfl (t_leqF rfl rfl (by omega)) rfl ?_ | refine Rg.tm ⟨_, rfl, rfl⟩ rfl (t_leq rfl rfl) rfl ?_ | refine Rg.sk (.inl ⟨_, _, rfl, rfl, rfl⟩) rfl ?_ | refine Rg.sk (.inr ⟨_, rfl, rfl⟩) rfl ?_
          first | refine Rg.tm trivial rfl (t_pickT rfl rfl) rfl ?_ | refine Rg.tm trivial rfl (t_pickF rfl rfl) rfl ?_
          refine Rg.tm trivial rfl (t_assign rfl) rfl ?_
          refine Rg.done ?_
          refine Wp.condF rfl ?_
          refine Wp.seq (Wp.region ?_)
          refine Rg.tm trivial rfl (t_move rfl) rfl ?_
          refine Rg.tm trivial rfl (t_move rfl) rfl ?_
          refine Rg.tm trivial rfl (t_nilCheck rfl) rfl ?_
          refine Rg.tm trivial rfl (t_fieldAddr fa126_3 rfl) rfl ?_
          refine Rg.tm trivial rfl (t_load ty3 rfl (by apply Cells.get (i := 3); (case h => assumption); rfl)) rfl ?_
          first | refine Rg.tm trivial rfl (t_geqT rfl rfl (by omega)) rfl ?_ | refine Rg.tm trivial rfl (t_geqF rfl rfl (by omega)) rfl ?_ | refine Rg.tm trivial rfl (t_geq rfl rfl) rfl ?_
          refine Rg.tm trivial rfl (t_assign rfl) rfl ?_
          refine Rg.done ?_
          refine Wp.condF rfl ?_
          refine Wp.seq (Wp.region ?_)
          refine Rg.tm trivial rfl (t_move rfl) rfl ?_
          refine Rg.tm trivial rfl (t_nilCheck rfl) rfl ?_
          refine Rg.tm trivial rfl (t_fieldAddr fa126_4 rfl) rfl ?_
          refine Rg.tm trivial rfl (t_load ty3 rfl (by apply Cells.get (i := 4); (case h => assumption); rfl)) rfl ?_
          first | refine Rg.tm trivial rfl (t_eqlT rfl rfl (by omega)) rfl ?_ | refine Rg.tm trivial rfl (t_eqlF rfl rfl (by omega)) rfl ?_ | refine Rg.tm trivial rfl (t_eql rfl rfl) rfl ?_
          refine Rg.tm trivial rfl (t_assign rfl) rfl ?_
          refine Rg.done ?_
          refine Wp.condF rfl ?_
          refine Wp.seq (Wp.region ?_)
          refine Rg.tm trivial rfl (t_move rfl) rfl ?_
          refine Rg.tm trivial rfl (t_move rfl) rfl ?_
          refine Rg.tm trivial rfl (t_nilCheck rfl) rfl ?_
          refine Rg.tm trivial rfl (t_fieldAddr fa126_0 rfl) rfl ?_
          refine Rg.tm trivial rfl (t_load ty38 rfl (by apply Cells.get (i := 0); (case h => assumption); rfl)) rfl ?_
          refine Rg.tm trivial rfl (t_nilCheck rfl) rfl ?_
          refine Rg.tm trivial rfl (t_fieldAddr fa126_3 rfl) rfl ?_
          refine Rg.tm trivial rfl (t_load ty3 rfl (by apply Cells.get (i := 3); (case h => assumption); rfl)) rfl ?_
          first | refine Rg.tm trivial rfl (t_lssT rfl rfl (by omega)) rfl ?_ | refine Rg.tm trivial rfl (t_lssF rfl rfl (by omega)) rfl ?_ | refine Rg.tm trivial rfl (t_lss rfl rfl) rfl ?_
          refine Rg.tm trivial rfl (t_assign rfl) rfl ?_
          refine Rg.done ?_
          refine Wp.condF rfl ?_
          refine Wp.skip ?_
          refine Wp.seq (Wp.draw [0, 1, 2, 3, 4, 5, 6, 7, 8, 9, 10, 11, 12, 13, 14, 15, 16, 17, 18] [] mixed (by kernel_rfl) (by kernel_rfl) ?_)
          intro w1 hx1 _
          replace c := c.ext hx1
          replace c2 := c2.ext hx1
          replace hl := hl.ext hx1
          replace hll := hll.ext hx1
          replace hlr := hlr.ext hx1
          replace hM := hM.ext hx1
          replace hx := hx.ext hx1
          refine Rg.tm trivial rfl (t_move rfl) rfl ?_
          refine Rg.tm trivial rfl (t_nilCheck rfl) rfl ?_
          refine Rg.tm trivial rfl (t_fieldAddr fa126_1 rfl) rfl ?_
          refine Rg.tm trivial rfl (t_load ty38 rfl (by apply Cells.get (i := 1); (case h => assumption); rfl)) rfl ?_
          refine Rg.tm trivial rfl (t_move rfl) rfl ?_
          refine Rg.tm trivial rfl (t_move rfl) rfl ?_
          refine Rg.tm trivial rfl (t_nilCheck rfl) rfl ?_
          refine Rg.tm trivial rfl (t_fieldAddr fa126_0 rfl) rfl ?_
          refine Rg.tm trivial rfl (t_load ty38 rfl (by apply Cells.get (i := 0); (case h => assumption); rfl)) rfl ?_
          refine Rg.tm trivial rfl (t_nilCheck rfl) rfl ?_
          refine Rg.tm trivial rfl (t_fieldAddr fa126_3 rfl) rfl ?_
          refine Rg.tm trivial rfl (t_load ty3 rfl (by apply Cells.get (i := 3); (case h => assumption); rfl)) rfl ?_
          first | refine Rg.tm trivial rfl (t_subI rfl rfl (by omega)) rfl ?_ | refine Rg.tm trivial rfl (t_sub rfl rfl) rfl ?_
          refine Rg.wdB trivial rfl (w_call Tryz.call32 rfl (ihr (i := i - l.len) hM hlr fr br' (by omega) (by omega))) rfl (fun _ _ h => h.2) ?_
          rintro _ w2 ⟨⟨va, vb, rfl, ha, hb2⟩, hx2⟩
          replace c := c.ext hx2
          replace c2 := c2.ext hx2
          replace hl := hl.ext hx2
          replace hll := hll.ext hx2
          replace hlr := hlr.ext hx2
          replace hM := hM.ext hx2
          replace hx := hx.ext hx2
          rw [e6] at ha hb2
          refine Rg.tm trivial rfl (t_move rfl) rfl ?_
          refine Rg.tm trivial rfl (t_extract rfl rfl) rfl ?_
          refine Rg.tm trivial rfl (t_extract rfl rfl) rfl ?_
          refine Rg.tm trivial rfl (t_assign rfl) rfl ?_
          refine Rg.tm trivial rfl (t_assign rfl) rfl ?_
          refine Rg.done ?_
          refine Wp.seq (Wp.region ?_)
          refine Rg.tm trivial rfl (t_move rfl) rfl ?_
          refine Rg.tm trivial rfl (t_nilCheck rfl) rfl ?_
          refine Rg.tm trivial rfl (t_fieldAddr fa126_0 rfl) rfl ?_
          refine Rg.tm trivial rfl (t_load ty38 rfl (by apply Cells.get (i := 0); (case h => assumption); rfl)) rfl ?_
          refine Rg.tm trivial rfl (t_move rfl) rfl ?_
          refine Rg.wd trivial (w_call Tryz.call30 rfl (catO_ok (l := some l) hM hll ha ⟨fl, bl'⟩ g.1 (by simp only [RT.lenO] at *; omega))) rfl ?_
          rintro vc w3 ⟨hc, hx3⟩
          replace c := c.ext hx3
          replace c2 := c2.ext hx3
          replace hl := hl.ext hx3
          replace hll := hll.ext hx3
          replace hlr := hlr.ext hx3
          replace hM := hM.ext hx3
          replace hx := hx.ext hx3
          replace ha := ha.ext hx3
          replace hb2 := hb2.ext hx3
          refine Rg.tm trivial rfl (t_move rfl) rfl ?_
          refine Rg.tm trivial rfl (t_assign rfl) rfl ?_
          refine Rg.tm trivial rfl (t_assign rfl) rfl ?_
          refine Rg.done ?_
          refine Wp.ret ?_
          unfold RT.split; rw [if_neg e2, if_neg h2, if_neg h3]; exact ⟨[_, _], ⟨rfl, rfl, trivial⟩, ⟨_, _, rfl, hc, hb2⟩, hx⟩

/-- a rope as a value -/
def RopeV (M : List Nat) (w : World) (v : Value) (t : Option RT) : Prop := ∃ p, v = .agg #[.pointer p] ∧ LiesO M w (.pointer p) t
theorem RopeV.ext {M : List Nat} {w w' : World} {v : Value} {t : Option RT} (h : RopeV M w v t) (k : Ext w w') : RopeV M w' v t := by
  obtain ⟨p, h1, h2⟩ := h; exact ⟨p, h1, h2.ext k⟩
theorem RopeV.fresh {M : List Nat} {w : World} {v : Value} {b : Nat} {t : Option RT} (h : RopeV M w v t) (k : w.heap.size ≤ b) : RopeV (b :: M) w v t := by
  obtain ⟨p, h1, h2⟩ := h; exact ⟨p, h1, h2.fresh k⟩
theorem RopeV.upd {M : List Nat} {w w' : World} {v : Value} {b : Nat} {t : Option RT} (h : RopeV M w v t) (k : Upd b w w') (hb : b ∈ M) : RopeV M w' v t := by
  obtain ⟨p, h1, h2⟩ := h; exact ⟨p, h1, h2.upd k hb⟩
theorem RopeV.drop {M : List Nat} {w : World} {v : Value} {b : Nat} {t : Option RT} (h : RopeV (b :: M) w v t) : RopeV M w v t := by
  obtain ⟨p, h1, h2⟩ := h; exact ⟨p, h1, h2.drop⟩

theorem new_ok {M : List Nat} {w : World} {s : ByteArray} (hM : In M w) (hs : s.size < 4611686018427387904) :
    Cl Tryz.prog 9 #[.string s] w (fun v w' => (∃ t, RT.Good t ∧ RT.valO t = s ∧ RopeV M w' v t) ∧ Ext w w') := by
  have hx := Ext.refl w
  refine Cl.enter Tryz.func9 rfl Tryz.ntmps9 rfl rfl ?_
  refine Wp.seq (Wp.region ?_)
  refine Rg.wd trivial (w_new Tryz.zeroValue40 rfl) rfl ?_
  rintro _ w1 ⟨b, rfl, qb, hx1, hv⟩
  replace hx := hx.ext hx1
  replace hM := hM.ext hx1
  refine Rg.done ?_
  refine Wp.seq (Wp.region ?_)
  refine Rg.tm trivial rfl (t_assign rfl) rfl ?_
  refine Rg.done ?_
  refine Wp.seq ?_
  refine Wp.block ?_
  have hMb : In (b :: M) w1 := hM.push hv.lt
  refine Wp.loop (ι := Value × ByteArray × Option RT) (fun i => [(0, .string i.2.1), (2, .pointer (some ⟨b, 0, none⟩)), (3, i.1)])
    (fun i w' => LiesO (b :: M) w' i.1 i.2.2 ∧ RT.Good i.2.2 ∧ RT.valO i.2.2 ++ i.2.1 = s ∧ Ext w w' ∧ In (b :: M) w' ∧ Var w' b [.pointer none] 40)
    (fun i => i.2.1.size) (.pointer none, s, none) (.cons rfl (.cons rfl (.cons rfl .nil))) ⟨rfl, trivial, ByteArray.empty_append, hx, hMb, hv⟩ ?_
  clear hx hMb hv hM
  rintro ⟨v, u, t⟩ w2 ⟨hl, hg, he, hx, hM, hv⟩
  simp only at hl hg he ⊢
  have hsz : (RT.valO t).size + u.size = s.size := by rw [← he, ByteArray.size_append]
  have hlen := RT.lenO_val t
  by_cases hc : u.size = 0
  · obtain ⟨p, rfl⟩ := hl.form
    refine Wp.seq ?_
    refine Wp.seq (Wp.region ?_)
    refine Rg.tm trivial rfl (t_move rfl) rfl ?_
    refine Rg.tm trivial rfl (t_len Tryz.underlying9 rfl) rfl ?_
    first | refine Rg.tm trivial rfl (t_gtrT rfl rfl (by omega)) rfl ?_ | refine Rg.tm trivial rfl (t_gtrF rfl rfl (by omega)) rfl ?_ | refine Rg.tm trivial rfl (t_gtr rfl rfl) rfl ?_
    refine Rg.done ?_
    refine Wp.condF rfl ?_
    refine Wp.exit ?_
    refine Wp.seq (Wp.region ?_)
    refine Rg.tm trivial rfl (t_move rfl) rfl ?_
    refine Rg.tm trivial rfl (t_build (bd40_0 _) rfl) rfl ?_
    refine Rg.wn trivial (w_put hv rfl rfl rfl ty40 rfl rfl) ?_
    rintro _ w3 ⟨hu, hv'⟩
    refine Rg.done ?_
    refine Wp.ret ?_
    have e0 : u = ByteArray.empty := by apply ByteArray.ext; exact Array.eq_empty_of_size_eq_zero hc
    refine ⟨[_], ⟨RV.cellA (vs := [_]) ty40 rfl hv'.cells, trivial⟩, ⟨t, hg, by rw [← he, e0, ByteArray.append_empty], ?_⟩, hx.upd hu (by omega)⟩
    exact ⟨p, rfl, (hl.upd hu (by simp)).drop⟩
  · skip
    refine Wp.seq ?_
    refine Wp.seq (Wp.region ?_)
    refine Rg.tm trivial rfl (t_move rfl) rfl ?_
    refine Rg.tm trivial rfl (t_len Tryz.underlying9 rfl) rfl ?_
    first | refine Rg.tm trivial rfl (t_gtrT rfl rfl (by omega)) rfl ?_ | refine Rg.tm trivial rfl (t_gtrF rfl rfl (by omega)) rfl ?_ | refine Rg.tm trivial rfl (t_gtr rfl rfl) rfl ?_
    refine Rg.done ?_
    refine Wp.condT rfl ?_
    refine Wp.skip ?_
    refine Wp.block ?_
    refine Wp.seq (Wp.region ?_)
    refine Rg.tm trivial rfl (t_move rfl) rfl ?_
    refine Rg.tm trivial rfl (t_len Tryz.underlying9 rfl) rfl ?_
    refine Rg.tm trivial rfl (t_minI rfl rfl) rfl ?_
    refine Rg.tm trivial rfl (t_assign rfl) rfl ?_
    refine Rg.done ?_
    refine Wp.seq (Wp.region ?_)
    refine Rg.tm trivial rfl (t_move rfl) rfl ?_
    refine Rg.tm trivial rfl (t_move rfl) rfl ?_
    refine Rg.tm trivial rfl (t_move rfl) rfl ?_
    refine Rg.tm trivial rfl (t_sliceS Tryz.underlying9 rfl rfl rfl (by omega)) rfl ?_
    refine Rg.wd trivial (w_call Tryz.call31 rfl (leaf_ok hM (by rw [ByteArray.size_extract]; omega))) rfl ?_
    rintro vl w2 ⟨hl2, hx2⟩
    replace hl := hl.ext hx2
    replace hx := hx.ext hx2
    replace hM := hM.ext hx2
    replace hv := hv.ext hx2
    refine Rg.wd trivial (w_call Tryz.call30 rfl (catO_ok (r := some (.leaf _)) hM hl hl2 hg ⟨by simp only [RT.Full, ByteArray.size_extract]; omega, trivial⟩ (by simp only [RT.lenO, RT.len, ByteArray.size_extract] at *; omega))) rfl ?_
    rintro vc w3 ⟨hc2, hx3⟩
    replace hl := hl.ext hx3
    replace hx := hx.ext hx3
    replace hM := hM.ext hx3
    replace hv := hv.ext hx3
    replace hl2 := hl2.ext hx3
    refine Rg.tm trivial rfl (t_assign rfl) rfl ?_
    refine Rg.done ?_
    refine Wp.region ?_
    refine Rg.tm trivial rfl (t_move rfl) rfl ?_
    refine Rg.tm trivial rfl (t_move rfl) rfl ?_
    refine Rg.tm trivial rfl (t_sliceS Tryz.underlying9 rfl rfl rfl (by omega)) rfl ?_
    refine Rg.tm trivial rfl (t_assign rfl) rfl ?_
    refine Rg.done ?_
    refine ⟨(vc, u.extract (min (u.size : Int) 32).toNat u.size, RT.catO t (some (.leaf (u.extract 0 (min (u.size : Int) 32).toNat)))), .cons rfl (.cons rfl (.cons rfl .nil)), ⟨hc2, RT.good_cat hg ⟨?_, trivial⟩, ?_, hx, hM, hv⟩, ?_⟩
    · simp only [RT.Full, ByteArray.size_extract]; omega
    · rw [RT.val_cat, ByteArray.append_assoc]
      show RT.valO t ++ (u.extract 0 (min (u.size : Int) 32).toNat ++ u.extract (min (u.size : Int) 32).toNat u.size) = s
      rw [← ByteArray.extract_eq_extract_append_extract (a := u) (i := 0) (k := u.size) _ (by omega) (by omega), ByteArray.extract_zero_size, he]
    · simp only [ByteArray.size_extract]; omega
end Go.Proofs.YtbnkncemfadfjaaGreatDoor
