/- The walks of package rope: what each function computes. Printed by ropew.py. -/
import Derived.Test.YtbnkncemfadfjaaGreatDoorGf
import Derived.Test.YtbnkncemfadfjaaGreatDoorRt
namespace Go.Proofs.YtbnkncemfadfjaaGreatDoor
set_option linter.unusedVariables false
set_option linter.unusedSimpArgs false
set_option maxRecDepth 20000
open Go.Gx Go.RowKit

abbrev ncells (p q : Option Addr) (t : RT) : List Value := [.pointer p, .pointer q, .string t.txt, .int .i64 (t.len : Nat), .int .i64 (t.hgt : Nat), .int .i64 (t.lvs : Nat)]

/-- the tree t lies at v, clear of the blocks M -/
def Lies (M : List Nat) (w : World) : Value → RT → Prop
  | v, .leaf s => ∃ b o, v = .pointer (some ⟨b, o, none⟩) ∧ b ∉ M ∧ Cells w b o (ncells none none (.leaf s))
  | v, .node l r => ∃ b o pl pr, v = .pointer (some ⟨b, o, none⟩) ∧ b ∉ M ∧ Cells w b o (ncells (some pl) (some pr) (.node l r)) ∧ Lies M w (.pointer (some pl)) l ∧ Lies M w (.pointer (some pr)) r

theorem Lies.ext {M : List Nat} {w w' : World} : ∀ {t : RT} {v : Value}, Lies M w v t → Ext w w' → Lies M w' v t
  | .leaf _, _, ⟨b, o, h1, h2, h3⟩, k => ⟨b, o, h1, h2, h3.ext k⟩
  | .node _ _, _, ⟨b, o, pl, pr, h1, h2, h3, h4, h5⟩, k => ⟨b, o, pl, pr, h1, h2, h3.ext k, h4.ext k, h5.ext k⟩

theorem Lies.top {M : List Nat} {w : World} {t : RT} {v : Value} (h : Lies M w v t) : ∃ b o p q, v = .pointer (some ⟨b, o, none⟩) ∧ b ∉ M ∧ Cells w b o (ncells p q t) := by
  cases t with
  | leaf s => obtain ⟨b, o, h1, h2, h3⟩ := h; exact ⟨b, o, _, _, h1, h2, h3⟩
  | node l r => obtain ⟨b, o, pl, pr, h1, h2, h3, _⟩ := h; exact ⟨b, o, _, _, h1, h2, h3⟩

theorem ncells_node (p q : Option Addr) (l r : RT) : ncells p q (.node l r) = [.pointer p, .pointer q, .string ⟨#[]⟩, .int .i64 ((l.len : Int) + r.len), .int .i64 (max (l.hgt : Int) r.hgt + 1), .int .i64 ((l.lvs : Int) + r.lvs)] := by
  have e5 : ((max l.hgt r.hgt + 1 : Nat) : Int) = max (l.hgt : Int) r.hgt + 1 := by omega
  simp only [ncells, RT.len, RT.hgt, RT.lvs, RT.txt, Int.natCast_add, e5]

def In (M : List Nat) (w : World) : Prop := ∀ m ∈ M, m < w.heap.size
theorem In.ext {M : List Nat} {w w' : World} (h : In M w) (k : Ext w w') : In M w' := fun m hm => Nat.lt_of_lt_of_le (h m hm) k.le
theorem In.fresh {M : List Nat} {w : World} (h : In M w) : w.heap.size ∉ M := fun hm => Nat.lt_irrefl _ (h _ hm)

theorem leaf_ok {M : List Nat} {w : World} {s : ByteArray} (hM : In M w) (hs : s.size < 4611686018427387904) : Cl Tryz.prog 31 #[.string s] w (fun v w' => Lies M w' v (.leaf s) ∧ Ext w w') := by
  refine Cl.enter Tryz.func31 rfl Tryz.ntmps31 rfl rfl ?_
  refine Wp.seq (Wp.region ?_)
  refine Rg.tm trivial rfl (t_assign rfl) rfl ?_
  refine Rg.done ?_
  refine Wp.seq (Wp.region ?_)
  refine Rg.tm trivial rfl (t_move rfl) rfl ?_
  refine Rg.tm trivial rfl (t_move rfl) rfl ?_
  refine Rg.tm trivial rfl (t_len Tryz.underlying9 rfl) rfl ?_
  refine Rg.tm trivial rfl (t_build (bd126_2_3_5 _ _ _) rfl) rfl ?_
  refine Rg.wd trivial (w_box rfl) rfl ?_
  rintro _ _ ⟨rfl, rfl⟩
  refine Rg.tm trivial rfl (t_assign rfl) rfl ?_
  refine Rg.done ?_
  refine Wp.ret ?_
  exact ⟨[_], ⟨rfl, trivial⟩, ⟨_, _, rfl, hM.fresh, Cells.alloc _ _ _⟩, Ext.alloc _ _⟩

theorem node_ok {M : List Nat} {w : World} {l r : RT} {vl vr : Value} (hM : In M w) (hl : Lies M w vl l) (hr : Lies M w vr r) (fl : l.Full) (fr : r.Full) (hb : l.len + r.len < 4611686018427387904) :
    Cl Tryz.prog 59 #[vl, vr] w (fun v w' => Lies M w' v (.node l r) ∧ Ext w w') := by
  have e1 := l.lvs_le fl
  have e2 := r.lvs_le fr
  have e3 := l.hgt_lt
  have e4 := r.hgt_lt
  obtain ⟨bl, ol, p1, q1, rfl, m1, cl⟩ := hl.top
  obtain ⟨br, or_, p2, q2, rfl, m2, cr⟩ := hr.top
  refine Cl.enter Tryz.func59 rfl Tryz.ntmps59 rfl rfl ?_
  refine Wp.seq (Wp.region ?_)
  refine Rg.tm trivial rfl (t_assign rfl) rfl ?_
  refine Rg.done ?_
  refine Wp.seq (Wp.draw [0, 1, 2, 3, 4, 5, 6, 7, 8, 9, 10, 11, 12, 13, 14, 15, 16, 17, 18, 19, 20, 21, 22, 23, 24, 25, 26, 27, 28, 29, 30, 31, 32] [] mixed (by kernel_rfl) (by kernel_rfl) ?_)
  intro w1 hx1 _
  replace cl := cl.ext hx1
  replace cr := cr.ext hx1
  replace hl := hl.ext hx1
  replace hr := hr.ext hx1
  replace hM := hM.ext hx1
  refine Rg.tm trivial rfl (t_move rfl) rfl ?_
  refine Rg.tm trivial rfl (t_move rfl) rfl ?_
  refine Rg.tm trivial rfl (t_move rfl) rfl ?_
  refine Rg.tm trivial rfl (t_nilCheck rfl) rfl ?_
  refine Rg.tm trivial rfl (t_fieldAddr fa126_3 rfl) rfl ?_
  refine Rg.tm trivial rfl (t_load ty3 rfl (by apply Cells.get (i := 3); (case h => assumption); rfl)) rfl ?_
  refine Rg.tm trivial rfl (t_move rfl) rfl ?_
  refine Rg.tm trivial rfl (t_nilCheck rfl) rfl ?_
  refine Rg.tm trivial rfl (t_fieldAddr fa126_3 rfl) rfl ?_
  refine Rg.tm trivial rfl (t_load ty3 rfl (by apply Cells.get (i := 3); (case h => assumption); rfl)) rfl ?_
  first | refine Rg.tm trivial rfl (t_addI rfl rfl (by omega)) rfl ?_ | refine Rg.tm trivial rfl (t_add rfl rfl) rfl ?_
  refine Rg.tm trivial rfl (t_move rfl) rfl ?_
  refine Rg.tm trivial rfl (t_nilCheck rfl) rfl ?_
  refine Rg.tm trivial rfl (t_fieldAddr fa126_4 rfl) rfl ?_
  refine Rg.tm trivial rfl (t_load ty3 rfl (by apply Cells.get (i := 4); (case h => assumption); rfl)) rfl ?_
  refine Rg.tm trivial rfl (t_move rfl) rfl ?_
  refine Rg.tm trivial rfl (t_nilCheck rfl) rfl ?_
  refine Rg.tm trivial rfl (t_fieldAddr fa126_4 rfl) rfl ?_
  refine Rg.tm trivial rfl (t_load ty3 rfl (by apply Cells.get (i := 4); (case h => assumption); rfl)) rfl ?_
  refine Rg.tm trivial rfl (t_maxI rfl rfl) rfl ?_
  first | refine Rg.tm trivial rfl (t_addI rfl rfl (by omega)) rfl ?_ | refine Rg.tm trivial rfl (t_add rfl rfl) rfl ?_
  refine Rg.tm trivial rfl (t_move rfl) rfl ?_
  refine Rg.tm trivial rfl (t_nilCheck rfl) rfl ?_
  refine Rg.tm trivial rfl (t_fieldAddr fa126_5 rfl) rfl ?_
  refine Rg.tm trivial rfl (t_load ty3 rfl (by apply Cells.get (i := 5); (case h => assumption); rfl)) rfl ?_
  refine Rg.tm trivial rfl (t_move rfl) rfl ?_
  refine Rg.tm trivial rfl (t_nilCheck rfl) rfl ?_
  refine Rg.tm trivial rfl (t_fieldAddr fa126_5 rfl) rfl ?_
  refine Rg.tm trivial rfl (t_load ty3 rfl (by apply Cells.get (i := 5); (case h => assumption); rfl)) rfl ?_
  first | refine Rg.tm trivial rfl (t_addI rfl rfl (by omega)) rfl ?_ | refine Rg.tm trivial rfl (t_add rfl rfl) rfl ?_
  refine Rg.tm trivial rfl (t_build (bd126_0_1_3_4_5 _ _ _ _ _) rfl) rfl ?_
  refine Rg.wdB trivial rfl (w_box rfl) rfl (fun _ _ h => by obtain ⟨_, rfl⟩ := h; exact Ext.alloc _ _) ?_
  rintro _ _ ⟨rfl, rfl⟩
  refine Rg.tm trivial rfl (t_assign rfl) rfl ?_
  refine Rg.done ?_
  refine Wp.ret ?_
  refine ⟨[_], ⟨rfl, trivial⟩, ⟨_, _, _, _, rfl, hM.fresh, ?_, hl.ext (Ext.alloc _ _), hr.ext (Ext.alloc _ _)⟩, hx1.ext (Ext.alloc _ _)⟩
  rw [ncells_node]
  exact Cells.alloc _ _ _

theorem reb_ok {M : List Nat} {w : World} {l r : RT} {vl vr : Value} (hM : In M w) (hl : Lies M w vl l) (hr : Lies M w vr r) (fl : l.Full) (fr : r.Full) (hb : l.len + r.len < 4611686018427387904) :
    Cl Tryz.prog 58 #[vl, vr] w (fun v w' => Lies M w' v (RT.reb l r) ∧ Ext w w') := by
  have e1 := l.lvs_le fl
  have e2 := r.lvs_le fr
  have e3 := l.hgt_lt
  have e4 := r.hgt_lt
  have hx := Ext.refl w
  unfold RT.reb
  by_cases hA : r.hgt + 1 < l.hgt
  · rw [if_pos hA]
    cases l with
    | leaf s => simp [RT.hgt] at hA
    | node ll lr =>
    obtain ⟨bl, ol, pl, pr, rfl, ml, cl, hll, hlr⟩ := hl
    obtain ⟨br, or_, p2, q2, rfl, mr, cr⟩ := hr.top
    obtain ⟨b1, o1, p3, q3, ⟨⟩, m1, c1⟩ := hll.top
    obtain ⟨b2, o2, p4, q4, ⟨⟩, m2, c2⟩ := hlr.top
    obtain ⟨fll, flr⟩ := fl
    have e5 : (RT.node ll lr).len = ll.len + lr.len := rfl
    have e6 := ll.lvs_le fll
    have e7 := lr.lvs_le flr
    have e8 := ll.hgt_lt
    have e9 := lr.hgt_lt
    simp only []
    by_cases hB : lr.hgt ≤ ll.hgt
    · rw [if_pos hB]
      refine Cl.enter Tryz.func58 rfl Tryz.ntmps58 rfl rfl ?_
      refine Wp.seq (Wp.region ?_)
      refine Rg.tm trivial rfl (t_assign rfl) rfl ?_
      refine Rg.done ?_
      refine Wp.seq ?_
      refine Wp.block ?_
      refine Wp.seq (Wp.draw [0, 1, 2, 3, 4, 5, 6, 7, 8, 9, 10, 11, 12, 13, 14, 15, 16, 17, 18, 19, 20, 21, 22, 23, 24, 25, 26, 27] [] mixed (by kernel_rfl) (by kernel_rfl) ?_)
      intro w1 hx1 _
      replace cl := cl.ext hx1
      replace cr := cr.ext hx1
      replace c1 := c1.ext hx1
      replace c2 := c2.ext hx1
      replace hll := hll.ext hx1
      replace hlr := hlr.ext hx1
      replace hr := hr.ext hx1
      replace hM := hM.ext hx1
      replace hx := hx.ext hx1
      refine Rg.tm trivial rfl (t_move rfl) rfl ?_
      refine Rg.tm trivial rfl (t_nilCheck rfl) rfl ?_
      refine Rg.tm trivial rfl (t_fieldAddr fa126_4 rfl) rfl ?_
      refine Rg.tm trivial rfl (t_load ty3 rfl (by apply Cells.get (i := 4); (case h => assumption); rfl)) rfl ?_
      refine Rg.tm trivial rfl (t_move rfl) rfl ?_
      refine Rg.tm trivial rfl (t_nilCheck rfl) rfl ?_
      refine Rg.tm trivial rfl (t_fieldAddr fa126_4 rfl) rfl ?_
      refine Rg.tm trivial rfl (t_load ty3 rfl (by apply Cells.get (i := 4); (case h => assumption); rfl)) rfl ?_
      first | refine Rg.tm trivial rfl (t_addI rfl rfl (by omega)) rfl ?_ | refine Rg.tm trivial rfl (t_add rfl rfl) rfl ?_
      first | refine Rg.tm trivial rfl (t_gtrT rfl rfl (by omega)) rfl ?_ | refine Rg.tm trivial rfl (t_gtrF rfl rfl (by omega)) rfl ?_ | refine Rg.tm trivial rfl (t_gtr rfl rfl) rfl ?_
      refine Rg.tm trivial rfl (t_move rfl) rfl ?_
      first | refine Rg.tm ⟨_, rfl, rfl⟩ rfl (t_move rfl) rfl ?_ | refine Rg.sk (.inl ⟨_, _, rfl, rfl, rfl⟩) rfl ?_ | refine Rg.sk (.inr ⟨_, rfl, rfl⟩) rfl ?_
      first | refine Rg.tm ⟨_, rfl, rfl⟩ rfl (t_nilCheck rfl) rfl ?_ | refine Rg.sk (.inl ⟨_, _, rfl, rfl, rfl⟩) rfl ?_ | refine Rg.sk (.inr ⟨_, rfl, rfl⟩) rfl ?_
      first | refine Rg.tm ⟨_, rfl, rfl⟩ rfl (t_fieldAddr fa126_0 rfl) rfl ?_ | refine Rg.sk (.inl ⟨_, _, rfl, rfl, rfl⟩) rfl ?_ | refine Rg.sk (.inr ⟨_, rfl, rfl⟩) rfl ?_
      first | refine Rg.tm ⟨_, rfl, rfl⟩ rfl (t_load ty38 rfl (by apply Cells.get (i := 0); (case h => assumption); rfl)) rfl ?_ | refine Rg.sk (.inl ⟨_, _, rfl, rfl, rfl⟩) rfl ?_ | refine Rg.sk (.inr ⟨_, rfl, rfl⟩) rfl ?_
      first | refine Rg.tm ⟨_, rfl, rfl⟩ rfl (t_nilCheck rfl) rfl ?_ | refine Rg.sk (.inl ⟨_, _, rfl, rfl, rfl⟩) rfl ?_ | refine Rg.sk (.inr ⟨_, rfl, rfl⟩) rfl ?_
      first | refine Rg.tm ⟨_, rfl, rfl⟩ rfl (t_fieldAddr fa126_4 rfl) rfl ?_ | refine Rg.sk (.inl ⟨_, _, rfl, rfl, rfl⟩) rfl ?_ | refine Rg.sk (.inr ⟨_, rfl, rfl⟩) rfl ?_
      first | refine Rg.tm ⟨_, rfl, rfl⟩ rfl (t_load ty3 rfl (by apply Cells.get (i := 4); (case h => assumption); rfl)) rfl ?_ | refine Rg.sk (.inl ⟨_, _, rfl, rfl, rfl⟩) rfl ?_ | refine Rg.sk (.inr ⟨_, rfl, rfl⟩) rfl ?_
      first | refine Rg.tm ⟨_, rfl, rfl⟩ rfl (t_move rfl) rfl ?_ | refine Rg.sk (.inl ⟨_, _, rfl, rfl, rfl⟩) rfl ?_ | refine Rg.sk (.inr ⟨_, rfl, rfl⟩) rfl ?_
      first | refine Rg.tm ⟨_, rfl, rfl⟩ rfl (t_nilCheck rfl) rfl ?_ | refine Rg.sk (.inl ⟨_, _, rfl, rfl, rfl⟩) rfl ?_ | refine Rg.sk (.inr ⟨_, rfl, rfl⟩) rfl ?_
      first | refine Rg.tm ⟨_, rfl, rfl⟩ rfl (t_fieldAddr fa126_1 rfl) rfl ?_ | refine Rg.sk (.inl ⟨_, _, rfl, rfl, rfl⟩) rfl ?_ | refine Rg.sk (.inr ⟨_, rfl, rfl⟩) rfl ?_
      first | refine Rg.tm ⟨_, rfl, rfl⟩ rfl (t_load ty38 rfl (by apply Cells.get (i := 1); (case h => assumption); rfl)) rfl ?_ | refine Rg.sk (.inl ⟨_, _, rfl, rfl, rfl⟩) rfl ?_ | refine Rg.sk (.inr ⟨_, rfl, rfl⟩) rfl ?_
      first | refine Rg.tm ⟨_, rfl, rfl⟩ rfl (t_nilCheck rfl) rfl ?_ | refine Rg.sk (.inl ⟨_, _, rfl, rfl, rfl⟩) rfl ?_ | refine Rg.sk (.inr ⟨_, rfl, rfl⟩) rfl ?_
      first | refine Rg.tm ⟨_, rfl, rfl⟩ rfl (t_fieldAddr fa126_4 rfl) rfl ?_ | refine Rg.sk (.inl ⟨_, _, rfl, rfl, rfl⟩) rfl ?_ | refine Rg.sk (.inr ⟨_, rfl, rfl⟩) rfl ?_
      first | refine Rg.tm ⟨_, rfl, rfl⟩ rfl (t_load ty3 rfl (by apply Cells.get (i := 4); (case h => assumption); rfl)) rfl ?_ | refine Rg.sk (.inl ⟨_, _, rfl, rfl, rfl⟩) rfl ?_ | refine Rg.sk (.inr ⟨_, rfl, rfl⟩) rfl ?_
      first | refine Rg.tm ⟨_, rfl, rfl⟩ rfl (t_geqT rfl rfl (by omega)) rfl ?_ | refine Rg.tm ⟨_, rfl, rfl⟩ rfl (t_geqF rfl rfl (by omega)) rfl ?_ | refine Rg.tm ⟨_, rfl, rfl⟩ rfl (t_geq rfl rfl) rfl ?_ | refine Rg.sk (.inl ⟨_, _, rfl, rfl, rfl⟩) rfl ?_ | refine Rg.sk (.inr ⟨_, rfl, rfl⟩) rfl ?_
      first | refine Rg.tm trivial rfl (t_pickT rfl rfl) rfl ?_ | refine Rg.tm trivial rfl (t_pickF rfl rfl) rfl ?_
      refine Rg.tm trivial rfl (t_assign rfl) rfl ?_
      refine Rg.done ?_
      refine Wp.condT rfl ?_
      refine Wp.seq (Wp.draw [0, 1, 2, 3, 4, 5, 6, 7, 8, 9, 10, 11] [] mixed (by kernel_rfl) (by kernel_rfl) ?_)
      intro w2 hx2 _
      replace cl := cl.ext hx2
      replace cr := cr.ext hx2
      replace c1 := c1.ext hx2
      replace c2 := c2.ext hx2
      replace hll := hll.ext hx2
      replace hlr := hlr.ext hx2
      replace hr := hr.ext hx2
      replace hM := hM.ext hx2
      replace hx := hx.ext hx2
      refine Rg.tm trivial rfl (t_move rfl) rfl ?_
      refine Rg.tm trivial rfl (t_nilCheck rfl) rfl ?_
      refine Rg.tm trivial rfl (t_fieldAddr fa126_0 rfl) rfl ?_
      refine Rg.tm trivial rfl (t_load ty38 rfl (by apply Cells.get (i := 0); (case h => assumption); rfl)) rfl ?_
      refine Rg.tm trivial rfl (t_move rfl) rfl ?_
      refine Rg.tm trivial rfl (t_nilCheck rfl) rfl ?_
      refine Rg.tm trivial rfl (t_fieldAddr fa126_1 rfl) rfl ?_
      refine Rg.tm trivial rfl (t_load ty38 rfl (by apply Cells.get (i := 1); (case h => assumption); rfl)) rfl ?_
      refine Rg.tm trivial rfl (t_move rfl) rfl ?_
      refine Rg.wdB trivial rfl (w_call Tryz.call59 rfl (node_ok hM hlr hr flr fr (by omega))) rfl (fun _ _ h => h.2) ?_
      rintro u w3 ⟨hu, hx3⟩
      replace cl := cl.ext hx3
      replace cr := cr.ext hx3
      replace c1 := c1.ext hx3
      replace c2 := c2.ext hx3
      replace hll := hll.ext hx3
      replace hlr := hlr.ext hx3
      replace hr := hr.ext hx3
      replace hM := hM.ext hx3
      replace hx := hx.ext hx3
      refine Rg.wdB trivial rfl (w_call Tryz.call59 rfl (node_ok hM hll hu fll ⟨flr, fr⟩ (by simp only [RT.len]; omega))) rfl (fun _ _ h => h.2) ?_
      rintro v w4 ⟨hv, hx4⟩
      replace cl := cl.ext hx4
      replace cr := cr.ext hx4
      replace c1 := c1.ext hx4
      replace c2 := c2.ext hx4
      replace hll := hll.ext hx4
      replace hlr := hlr.ext hx4
      replace hr := hr.ext hx4
      replace hM := hM.ext hx4
      replace hx := hx.ext hx4
      replace hu := hu.ext hx4
      refine Rg.tm trivial rfl (t_assign rfl) rfl ?_
      refine Rg.done ?_
      refine Wp.ret ?_
      exact ⟨[_], ⟨rfl, trivial⟩, hv, hx⟩
    · rw [if_neg hB]
      cases lr with
      | leaf s => simp [RT.hgt] at hB
      | node la lb =>
      obtain ⟨b3, o3, pa, pb, ⟨⟩, m3, c3, hla, hlb⟩ := hlr
      obtain ⟨fla, flb⟩ := flr
      have e10 : (RT.node la lb).len = la.len + lb.len := rfl
      obtain ⟨b4, o4, p5, q5, ⟨⟩, m4, c4⟩ := hla.top
      obtain ⟨b5, o5, p6, q6, ⟨⟩, m5, c5⟩ := hlb.top
      clear c2
      refine Cl.enter Tryz.func58 rfl Tryz.ntmps58 rfl rfl ?_
      refine Wp.seq (Wp.region ?_)
      refine Rg.tm trivial rfl (t_assign rfl) rfl ?_
      refine Rg.done ?_
      refine Wp.seq ?_
      refine Wp.block ?_
      refine Wp.seq (Wp.draw [0, 1, 2, 3, 4, 5, 6, 7, 8, 9, 10, 11, 12, 13, 14, 15, 16, 17, 18, 19, 20, 21, 22, 23, 24, 25, 26, 27] [] mixed (by kernel_rfl) (by kernel_rfl) ?_)
      intro w1 hx1 _
      replace cl := cl.ext hx1
      replace cr := cr.ext hx1
      replace c1 := c1.ext hx1
      replace c3 := c3.ext hx1
      replace hll := hll.ext hx1
      replace hla := hla.ext hx1
      replace hlb := hlb.ext hx1
      replace hr := hr.ext hx1
      replace hM := hM.ext hx1
      replace hx := hx.ext hx1
      refine Rg.tm trivial rfl (t_move rfl) rfl ?_
      refine Rg.tm trivial rfl (t_nilCheck rfl) rfl ?_
      refine Rg.tm trivial rfl (t_fieldAddr fa126_4 rfl) rfl ?_
      refine Rg.tm trivial rfl (t_load ty3 rfl (by apply Cells.get (i := 4); (case h => assumption); rfl)) rfl ?_
      refine Rg.tm trivial rfl (t_move rfl) rfl ?_
      refine Rg.tm trivial rfl (t_nilCheck rfl) rfl ?_
      refine Rg.tm trivial rfl (t_fieldAddr fa126_4 rfl) rfl ?_
      refine Rg.tm trivial rfl (t_load ty3 rfl (by apply Cells.get (i := 4); (case h => assumption); rfl)) rfl ?_
      first | refine Rg.tm trivial rfl (t_addI rfl rfl (by omega)) rfl ?_ | refine Rg.tm trivial rfl (t_add rfl rfl) rfl ?_
      first | refine Rg.tm trivial rfl (t_gtrT rfl rfl (by omega)) rfl ?_ | refine Rg.tm trivial rfl (t_gtrF rfl rfl (by omega)) rfl ?_ | refine Rg.tm trivial rfl (t_gtr rfl rfl) rfl ?_
      refine Rg.tm trivial rfl (t_move rfl) rfl ?_
      first | refine Rg.tm ⟨_, rfl, rfl⟩ rfl (t_move rfl) rfl ?_ | refine Rg.sk (.inl ⟨_, _, rfl, rfl, rfl⟩) rfl ?_ | refine Rg.sk (.inr ⟨_, rfl, rfl⟩) rfl ?_
      first | refine Rg.tm ⟨_, rfl, rfl⟩ rfl (t_nilCheck rfl) rfl ?_ | refine Rg.sk (.inl ⟨_, _, rfl, rfl, rfl⟩) rfl ?_ | refine Rg.sk (.inr ⟨_, rfl, rfl⟩) rfl ?_
      first | refine Rg.tm ⟨_, rfl, rfl⟩ rfl (t_fieldAddr fa126_0 rfl) rfl ?_ | refine Rg.sk (.inl ⟨_, _, rfl, rfl, rfl⟩) rfl ?_ | refine Rg.sk (.inr ⟨_, rfl, rfl⟩) rfl ?_
      first | refine Rg.tm ⟨_, rfl, rfl⟩ rfl (t_load ty38 rfl (by apply Cells.get (i := 0); (case h => assumption); rfl)) rfl ?_ | refine Rg.sk (.inl ⟨_, _, rfl, rfl, rfl⟩) rfl ?_ | refine Rg.sk (.inr ⟨_, rfl, rfl⟩) rfl ?_
      first | refine Rg.tm ⟨_, rfl, rfl⟩ rfl (t_nilCheck rfl) rfl ?_ | refine Rg.sk (.inl ⟨_, _, rfl, rfl, rfl⟩) rfl ?_ | refine Rg.sk (.inr ⟨_, rfl, rfl⟩) rfl ?_
      first | refine Rg.tm ⟨_, rfl, rfl⟩ rfl (t_fieldAddr fa126_4 rfl) rfl ?_ | refine Rg.sk (.inl ⟨_, _, rfl, rfl, rfl⟩) rfl ?_ | refine Rg.sk (.inr ⟨_, rfl, rfl⟩) rfl ?_
      first | refine Rg.tm ⟨_, rfl, rfl⟩ rfl (t_load ty3 rfl (by apply Cells.get (i := 4); (case h => assumption); rfl)) rfl ?_ | refine Rg.sk (.inl ⟨_, _, rfl, rfl, rfl⟩) rfl ?_ | refine Rg.sk (.inr ⟨_, rfl, rfl⟩) rfl ?_
      first | refine Rg.tm ⟨_, rfl, rfl⟩ rfl (t_move rfl) rfl ?_ | refine Rg.sk (.inl ⟨_, _, rfl, rfl, rfl⟩) rfl ?_ | refine Rg.sk (.inr ⟨_, rfl, rfl⟩) rfl ?_
      first | refine Rg.tm ⟨_, rfl, rfl⟩ rfl (t_nilCheck rfl) rfl ?_ | refine Rg.sk (.inl ⟨_, _, rfl, rfl, rfl⟩) rfl ?_ | refine Rg.sk (.inr ⟨_, rfl, rfl⟩) rfl ?_
      first | refine Rg.tm ⟨_, rfl, rfl⟩ rfl (t_fieldAddr fa126_1 rfl) rfl ?_ | refine Rg.sk (.inl ⟨_, _, rfl, rfl, rfl⟩) rfl ?_ | refine Rg.sk (.inr ⟨_, rfl, rfl⟩) rfl ?_
      first | refine Rg.tm ⟨_, rfl, rfl⟩ rfl (t_load ty38 rfl (by apply Cells.get (i := 1); (case h => assumption); rfl)) rfl ?_ | refine Rg.sk (.inl ⟨_, _, rfl, rfl, rfl⟩) rfl ?_ | refine Rg.sk (.inr ⟨_, rfl, rfl⟩) rfl ?_
      first | refine Rg.tm ⟨_, rfl, rfl⟩ rfl (t_nilCheck rfl) rfl ?_ | refine Rg.sk (.inl ⟨_, _, rfl, rfl, rfl⟩) rfl ?_ | refine Rg.sk (.inr ⟨_, rfl, rfl⟩) rfl ?_
      first | refine Rg.tm ⟨_, rfl, rfl⟩ rfl (t_fieldAddr fa126_4 rfl) rfl ?_ | refine Rg.sk (.inl ⟨_, _, rfl, rfl, rfl⟩) rfl ?_ | refine Rg.sk (.inr ⟨_, rfl, rfl⟩) rfl ?_
      first | refine Rg.tm ⟨_, rfl, rfl⟩ rfl (t_load ty3 rfl (by apply Cells.get (i := 4); (case h => assumption); rfl)) rfl ?_ | refine Rg.sk (.inl ⟨_, _, rfl, rfl, rfl⟩) rfl ?_ | refine Rg.sk (.inr ⟨_, rfl, rfl⟩) rfl ?_
      first | refine Rg.tm ⟨_, rfl, rfl⟩ rfl (t_geqT rfl rfl (by omega)) rfl ?_ | refine Rg.tm ⟨_, rfl, rfl⟩ rfl (t_geqF rfl rfl (by omega)) rfl ?_ | refine Rg.tm ⟨_, rfl, rfl⟩ rfl (t_geq rfl rfl) rfl ?_ | refine Rg.sk (.inl ⟨_, _, rfl, rfl, rfl⟩) rfl ?_ | refine Rg.sk (.inr ⟨_, rfl, rfl⟩) rfl ?_
      first | refine Rg.tm trivial rfl (t_pickT rfl rfl) rfl ?_ | refine Rg.tm trivial rfl (t_pickF rfl rfl) rfl ?_
      refine Rg.tm trivial rfl (t_assign rfl) rfl ?_
      refine Rg.done ?_
      refine Wp.condF rfl ?_
      refine Wp.seq (Wp.draw [0, 1, 2, 3, 4, 5, 6, 7, 8, 9, 10] [] mixed (by kernel_rfl) (by kernel_rfl) ?_)
      intro w2 hx2 _
      replace cl := cl.ext hx2
      replace cr := cr.ext hx2
      replace c1 := c1.ext hx2
      replace c3 := c3.ext hx2
      replace hll := hll.ext hx2
      replace hla := hla.ext hx2
      replace hlb := hlb.ext hx2
      replace hr := hr.ext hx2
      replace hM := hM.ext hx2
      replace hx := hx.ext hx2
      refine Rg.tm trivial rfl (t_move rfl) rfl ?_
      refine Rg.tm trivial rfl (t_nilCheck rfl) rfl ?_
      refine Rg.tm trivial rfl (t_fieldAddr fa126_4 rfl) rfl ?_
      refine Rg.tm trivial rfl (t_load ty3 rfl (by apply Cells.get (i := 4); (case h => assumption); rfl)) rfl ?_
      refine Rg.tm trivial rfl (t_move rfl) rfl ?_
      refine Rg.tm trivial rfl (t_nilCheck rfl) rfl ?_
      refine Rg.tm trivial rfl (t_fieldAddr fa126_4 rfl) rfl ?_
      refine Rg.tm trivial rfl (t_load ty3 rfl (by apply Cells.get (i := 4); (case h => assumption); rfl)) rfl ?_
      first | refine Rg.tm trivial rfl (t_addI rfl rfl (by omega)) rfl ?_ | refine Rg.tm trivial rfl (t_add rfl rfl) rfl ?_
      first | refine Rg.tm trivial rfl (t_gtrT rfl rfl (by omega)) rfl ?_ | refine Rg.tm trivial rfl (t_gtrF rfl rfl (by omega)) rfl ?_ | refine Rg.tm trivial rfl (t_gtr rfl rfl) rfl ?_
      refine Rg.tm trivial rfl (t_assign rfl) rfl ?_
      refine Rg.done ?_
      refine Wp.condT rfl ?_
      refine Wp.seq (Wp.draw [0, 1, 2, 3, 4, 5, 6, 7, 8, 9, 10, 12, 13, 14, 15, 16, 17, 18, 19, 11, 20, 21, 22] [] mixed (by kernel_rfl) (by kernel_rfl) ?_)
      intro w3 hx3 _
      replace cl := cl.ext hx3
      replace cr := cr.ext hx3
      replace c1 := c1.ext hx3
      replace c3 := c3.ext hx3
      replace hll := hll.ext hx3
      replace hla := hla.ext hx3
      replace hlb := hlb.ext hx3
      replace hr := hr.ext hx3
      replace hM := hM.ext hx3
      replace hx := hx.ext hx3
      refine Rg.tm trivial rfl (t_move rfl) rfl ?_
      refine Rg.tm trivial rfl (t_nilCheck rfl) rfl ?_
      refine Rg.tm trivial rfl (t_fieldAddr fa126_0 rfl) rfl ?_
      refine Rg.tm trivial rfl (t_load ty38 rfl (by apply Cells.get (i := 0); (case h => assumption); rfl)) rfl ?_
      refine Rg.tm trivial rfl (t_move rfl) rfl ?_
      refine Rg.tm trivial rfl (t_nilCheck rfl) rfl ?_
      refine Rg.tm trivial rfl (t_fieldAddr fa126_1 rfl) rfl ?_
      refine Rg.tm trivial rfl (t_load ty38 rfl (by apply Cells.get (i := 1); (case h => assumption); rfl)) rfl ?_
      refine Rg.tm trivial rfl (t_nilCheck rfl) rfl ?_
      refine Rg.tm trivial rfl (t_fieldAddr fa126_0 rfl) rfl ?_
      refine Rg.tm trivial rfl (t_load ty38 rfl (by apply Cells.get (i := 0); (case h => assumption); rfl)) rfl ?_
      refine Rg.tm trivial rfl (t_move rfl) rfl ?_
      refine Rg.tm trivial rfl (t_nilCheck rfl) rfl ?_
      refine Rg.tm trivial rfl (t_fieldAddr fa126_1 rfl) rfl ?_
      refine Rg.tm trivial rfl (t_load ty38 rfl (by apply Cells.get (i := 1); (case h => assumption); rfl)) rfl ?_
      refine Rg.tm trivial rfl (t_nilCheck rfl) rfl ?_
      refine Rg.tm trivial rfl (t_fieldAddr fa126_1 rfl) rfl ?_
      refine Rg.tm trivial rfl (t_load ty38 rfl (by apply Cells.get (i := 1); (case h => assumption); rfl)) rfl ?_
      refine Rg.tm trivial rfl (t_move rfl) rfl ?_
      refine Rg.wdB trivial rfl (w_call Tryz.call59 rfl (node_ok hM hll hla fll fla (by omega))) rfl (fun _ _ h => h.2) ?_
      rintro u w4 ⟨hu, hx4⟩
      replace cl := cl.ext hx4
      replace cr := cr.ext hx4
      replace c1 := c1.ext hx4
      replace c3 := c3.ext hx4
      replace hll := hll.ext hx4
      replace hla := hla.ext hx4
      replace hlb := hlb.ext hx4
      replace hr := hr.ext hx4
      replace hM := hM.ext hx4
      replace hx := hx.ext hx4
      refine Rg.wdB trivial rfl (w_call Tryz.call59 rfl (node_ok hM hlb hr flb fr (by omega))) rfl (fun _ _ h => h.2) ?_
      rintro u2 w5 ⟨hu2, hx5⟩
      replace cl := cl.ext hx5
      replace cr := cr.ext hx5
      replace c1 := c1.ext hx5
      replace c3 := c3.ext hx5
      replace hll := hll.ext hx5
      replace hla := hla.ext hx5
      replace hlb := hlb.ext hx5
      replace hr := hr.ext hx5
      replace hM := hM.ext hx5
      replace hx := hx.ext hx5
      replace hu := hu.ext hx5
      refine Rg.wdB trivial rfl (w_call Tryz.call59 rfl (node_ok hM hu hu2 ⟨fll, fla⟩ ⟨flb, fr⟩ (by simp only [RT.len]; omega))) rfl (fun _ _ h => h.2) ?_
      rintro v w6 ⟨hv, hx6⟩
      replace cl := cl.ext hx6
      replace cr := cr.ext hx6
      replace c1 := c1.ext hx6
      replace c3 := c3.ext hx6
      replace hll := hll.ext hx6
      replace hla := hla.ext hx6
      replace hlb := hlb.ext hx6
      replace hr := hr.ext hx6
      replace hM := hM.ext hx6
      replace hx := hx.ext hx6
      replace hu := hu.ext hx6
      replace hu2 := hu2.ext hx6
      refine Rg.tm trivial rfl (t_assign rfl) rfl ?_
      refine Rg.done ?_
      refine Wp.ret ?_
      exact ⟨[_], ⟨rfl, trivial⟩, hv, hx⟩
  · rw [if_neg hA]
    by_cases hC : l.hgt + 1 < r.hgt
    · rw [if_pos hC]
      cases r with
      | leaf s => simp [RT.hgt] at hC
      | node rl rr =>
      obtain ⟨bl, ol, p2, q2, rfl, ml, cl⟩ := hl.top
      obtain ⟨br, or_, pl, pr, rfl, mr, cr, hrl, hrr⟩ := hr
      obtain ⟨b1, o1, p3, q3, ⟨⟩, m1, c1⟩ := hrl.top
      obtain ⟨b2, o2, p4, q4, ⟨⟩, m2, c2⟩ := hrr.top
      obtain ⟨frl, frr⟩ := fr
      have e5 : (RT.node rl rr).len = rl.len + rr.len := rfl
      have e6 := rl.lvs_le frl
      have e7 := rr.lvs_le frr
      have e8 := rl.hgt_lt
      have e9 := rr.hgt_lt
      simp only []
      by_cases hB : rl.hgt ≤ rr.hgt
      · rw [if_pos hB]
        refine Cl.enter Tryz.func58 rfl Tryz.ntmps58 rfl rfl ?_
        refine Wp.seq (Wp.region ?_)
        refine Rg.tm trivial rfl (t_assign rfl) rfl ?_
        refine Rg.done ?_
        refine Wp.seq ?_
        refine Wp.block ?_
        refine Wp.seq (Wp.draw [0, 1, 2, 3, 4, 5, 6, 7, 8, 9, 10, 11, 12, 13, 14, 15, 16, 17, 18, 19, 20, 21, 22, 23, 24, 25, 26, 27] [] mixed (by kernel_rfl) (by kernel_rfl) ?_)
        intro w1 hx1 _
        replace cl := cl.ext hx1
        replace cr := cr.ext hx1
        replace c1 := c1.ext hx1
        replace c2 := c2.ext hx1
        replace hrl := hrl.ext hx1
        replace hrr := hrr.ext hx1
        replace hl := hl.ext hx1
        replace hM := hM.ext hx1
        replace hx := hx.ext hx1
        refine Rg.tm trivial rfl (t_move rfl) rfl ?_
        refine Rg.tm trivial rfl (t_nilCheck rfl) rfl ?_
        refine Rg.tm trivial rfl (t_fieldAddr fa126_4 rfl) rfl ?_
        refine Rg.tm trivial rfl (t_load ty3 rfl (by apply Cells.get (i := 4); (case h => assumption); rfl)) rfl ?_
        refine Rg.tm trivial rfl (t_move rfl) rfl ?_
        refine Rg.tm trivial rfl (t_nilCheck rfl) rfl ?_
        refine Rg.tm trivial rfl (t_fieldAddr fa126_4 rfl) rfl ?_
        refine Rg.tm trivial rfl (t_load ty3 rfl (by apply Cells.get (i := 4); (case h => assumption); rfl)) rfl ?_
        first | refine Rg.tm trivial rfl (t_addI rfl rfl (by omega)) rfl ?_ | refine Rg.tm trivial rfl (t_add rfl rfl) rfl ?_
        first | refine Rg.tm trivial rfl (t_gtrT rfl rfl (by omega)) rfl ?_ | refine Rg.tm trivial rfl (t_gtrF rfl rfl (by omega)) rfl ?_ | refine Rg.tm trivial rfl (t_gtr rfl rfl) rfl ?_
        refine Rg.tm trivial rfl (t_move rfl) rfl ?_
        first | refine Rg.tm ⟨_, rfl, rfl⟩ rfl (t_move rfl) rfl ?_ | refine Rg.sk (.inl ⟨_, _, rfl, rfl, rfl⟩) rfl ?_ | refine Rg.sk (.inr ⟨_, rfl, rfl⟩) rfl ?_
        first | refine Rg.tm ⟨_, rfl, rfl⟩ rfl (t_nilCheck rfl) rfl ?_ | refine Rg.sk (.inl ⟨_, _, rfl, rfl, rfl⟩) rfl ?_ | refine Rg.sk (.inr ⟨_, rfl, rfl⟩) rfl ?_
        first | refine Rg.tm ⟨_, rfl, rfl⟩ rfl (t_fieldAddr fa126_0 rfl) rfl ?_ | refine Rg.sk (.inl ⟨_, _, rfl, rfl, rfl⟩) rfl ?_ | refine Rg.sk (.inr ⟨_, rfl, rfl⟩) rfl ?_
        first | refine Rg.tm ⟨_, rfl, rfl⟩ rfl (t_load ty38 rfl (by apply Cells.get (i := 0); (case h => assumption); rfl)) rfl ?_ | refine Rg.sk (.inl ⟨_, _, rfl, rfl, rfl⟩) rfl ?_ | refine Rg.sk (.inr ⟨_, rfl, rfl⟩) rfl ?_
        first | refine Rg.tm ⟨_, rfl, rfl⟩ rfl (t_nilCheck rfl) rfl ?_ | refine Rg.sk (.inl ⟨_, _, rfl, rfl, rfl⟩) rfl ?_ | refine Rg.sk (.inr ⟨_, rfl, rfl⟩) rfl ?_
        first | refine Rg.tm ⟨_, rfl, rfl⟩ rfl (t_fieldAddr fa126_4 rfl) rfl ?_ | refine Rg.sk (.inl ⟨_, _, rfl, rfl, rfl⟩) rfl ?_ | refine Rg.sk (.inr ⟨_, rfl, rfl⟩) rfl ?_
        first | refine Rg.tm ⟨_, rfl, rfl⟩ rfl (t_load ty3 rfl (by apply Cells.get (i := 4); (case h => assumption); rfl)) rfl ?_ | refine Rg.sk (.inl ⟨_, _, rfl, rfl, rfl⟩) rfl ?_ | refine Rg.sk (.inr ⟨_, rfl, rfl⟩) rfl ?_
        first | refine Rg.tm ⟨_, rfl, rfl⟩ rfl (t_move rfl) rfl ?_ | refine Rg.sk (.inl ⟨_, _, rfl, rfl, rfl⟩) rfl ?_ | refine Rg.sk (.inr ⟨_, rfl, rfl⟩) rfl ?_
        first | refine Rg.tm ⟨_, rfl, rfl⟩ rfl (t_nilCheck rfl) rfl ?_ | refine Rg.sk (.inl ⟨_, _, rfl, rfl, rfl⟩) rfl ?_ | refine Rg.sk (.inr ⟨_, rfl, rfl⟩) rfl ?_
        first | refine Rg.tm ⟨_, rfl, rfl⟩ rfl (t_fieldAddr fa126_1 rfl) rfl ?_ | refine Rg.sk (.inl ⟨_, _, rfl, rfl, rfl⟩) rfl ?_ | refine Rg.sk (.inr ⟨_, rfl, rfl⟩) rfl ?_
        first | refine Rg.tm ⟨_, rfl, rfl⟩ rfl (t_load ty38 rfl (by apply Cells.get (i := 1); (case h => assumption); rfl)) rfl ?_ | refine Rg.sk (.inl ⟨_, _, rfl, rfl, rfl⟩) rfl ?_ | refine Rg.sk (.inr ⟨_, rfl, rfl⟩) rfl ?_
        first | refine Rg.tm ⟨_, rfl, rfl⟩ rfl (t_nilCheck rfl) rfl ?_ | refine Rg.sk (.inl ⟨_, _, rfl, rfl, rfl⟩) rfl ?_ | refine Rg.sk (.inr ⟨_, rfl, rfl⟩) rfl ?_
        first | refine Rg.tm ⟨_, rfl, rfl⟩ rfl (t_fieldAddr fa126_4 rfl) rfl ?_ | refine Rg.sk (.inl ⟨_, _, rfl, rfl, rfl⟩) rfl ?_ | refine Rg.sk (.inr ⟨_, rfl, rfl⟩) rfl ?_
        first | refine Rg.tm ⟨_, rfl, rfl⟩ rfl (t_load ty3 rfl (by apply Cells.get (i := 4); (case h => assumption); rfl)) rfl ?_ | refine Rg.sk (.inl ⟨_, _, rfl, rfl, rfl⟩) rfl ?_ | refine Rg.sk (.inr ⟨_, rfl, rfl⟩) rfl ?_
        first | refine Rg.tm ⟨_, rfl, rfl⟩ rfl (t_geqT rfl rfl (by omega)) rfl ?_ | refine Rg.tm ⟨_, rfl, rfl⟩ rfl (t_geqF rfl rfl (by omega)) rfl ?_ | refine Rg.tm ⟨_, rfl, rfl⟩ rfl (t_geq rfl rfl) rfl ?_ | refine Rg.sk (.inl ⟨_, _, rfl, rfl, rfl⟩) rfl ?_ | refine Rg.sk (.inr ⟨_, rfl, rfl⟩) rfl ?_
        first | refine Rg.tm trivial rfl (t_pickT rfl rfl) rfl ?_ | refine Rg.tm trivial rfl (t_pickF rfl rfl) rfl ?_
        refine Rg.tm trivial rfl (t_assign rfl) rfl ?_
        refine Rg.done ?_
        refine Wp.condF rfl ?_
        refine Wp.seq (Wp.draw [0, 1, 2, 3, 4, 5, 6, 7, 8, 9, 10] [] mixed (by kernel_rfl) (by kernel_rfl) ?_)
        intro w2 hx2 _
        replace cl := cl.ext hx2
        replace cr := cr.ext hx2
        replace c1 := c1.ext hx2
        replace c2 := c2.ext hx2
        replace hrl := hrl.ext hx2
        replace hrr := hrr.ext hx2
        replace hl := hl.ext hx2
        replace hM := hM.ext hx2
        replace hx := hx.ext hx2
        refine Rg.tm trivial rfl (t_move rfl) rfl ?_
        refine Rg.tm trivial rfl (t_nilCheck rfl) rfl ?_
        refine Rg.tm trivial rfl (t_fieldAddr fa126_4 rfl) rfl ?_
        refine Rg.tm trivial rfl (t_load ty3 rfl (by apply Cells.get (i := 4); (case h => assumption); rfl)) rfl ?_
        refine Rg.tm trivial rfl (t_move rfl) rfl ?_
        refine Rg.tm trivial rfl (t_nilCheck rfl) rfl ?_
        refine Rg.tm trivial rfl (t_fieldAddr fa126_4 rfl) rfl ?_
        refine Rg.tm trivial rfl (t_load ty3 rfl (by apply Cells.get (i := 4); (case h => assumption); rfl)) rfl ?_
        first | refine Rg.tm trivial rfl (t_addI rfl rfl (by omega)) rfl ?_ | refine Rg.tm trivial rfl (t_add rfl rfl) rfl ?_
        first | refine Rg.tm trivial rfl (t_gtrT rfl rfl (by omega)) rfl ?_ | refine Rg.tm trivial rfl (t_gtrF rfl rfl (by omega)) rfl ?_ | refine Rg.tm trivial rfl (t_gtr rfl rfl) rfl ?_
        refine Rg.tm trivial rfl (t_assign rfl) rfl ?_
        refine Rg.done ?_
        refine Wp.condF rfl ?_
        refine Wp.seq (Wp.draw [0, 1, 2, 3, 4, 5, 6, 7, 8, 9, 10, 11, 12, 13, 14, 15, 16, 17, 18, 19, 20, 21, 22, 23, 24, 25, 26, 27] [] mixed (by kernel_rfl) (by kernel_rfl) ?_)
        intro w3 hx3 _
        replace cl := cl.ext hx3
        replace cr := cr.ext hx3
        replace c1 := c1.ext hx3
        replace c2 := c2.ext hx3
        replace hrl := hrl.ext hx3
        replace hrr := hrr.ext hx3
        replace hl := hl.ext hx3
        replace hM := hM.ext hx3
        replace hx := hx.ext hx3
        refine Rg.tm trivial rfl (t_move rfl) rfl ?_
        refine Rg.tm trivial rfl (t_nilCheck rfl) rfl ?_
        refine Rg.tm trivial rfl (t_fieldAddr fa126_4 rfl) rfl ?_
        refine Rg.tm trivial rfl (t_load ty3 rfl (by apply Cells.get (i := 4); (case h => assumption); rfl)) rfl ?_
        refine Rg.tm trivial rfl (t_move rfl) rfl ?_
        refine Rg.tm trivial rfl (t_nilCheck rfl) rfl ?_
        refine Rg.tm trivial rfl (t_fieldAddr fa126_4 rfl) rfl ?_
        refine Rg.tm trivial rfl (t_load ty3 rfl (by apply Cells.get (i := 4); (case h => assumption); rfl)) rfl ?_
        first | refine Rg.tm trivial rfl (t_addI rfl rfl (by omega)) rfl ?_ | refine Rg.tm trivial rfl (t_add rfl rfl) rfl ?_
        first | refine Rg.tm trivial rfl (t_gtrT rfl rfl (by omega)) rfl ?_ | refine Rg.tm trivial rfl (t_gtrF rfl rfl (by omega)) rfl ?_ | refine Rg.tm trivial rfl (t_gtr rfl rfl) rfl ?_
        refine Rg.tm trivial rfl (t_move rfl) rfl ?_
        first | refine Rg.tm ⟨_, rfl, rfl⟩ rfl (t_move rfl) rfl ?_ | refine Rg.sk (.inl ⟨_, _, rfl, rfl, rfl⟩) rfl ?_ | refine Rg.sk (.inr ⟨_, rfl, rfl⟩) rfl ?_
        first | refine Rg.tm ⟨_, rfl, rfl⟩ rfl (t_nilCheck rfl) rfl ?_ | refine Rg.sk (.inl ⟨_, _, rfl, rfl, rfl⟩) rfl ?_ | refine Rg.sk (.inr ⟨_, rfl, rfl⟩) rfl ?_
        first | refine Rg.tm ⟨_, rfl, rfl⟩ rfl (t_fieldAddr fa126_1 rfl) rfl ?_ | refine Rg.sk (.inl ⟨_, _, rfl, rfl, rfl⟩) rfl ?_ | refine Rg.sk (.inr ⟨_, rfl, rfl⟩) rfl ?_
        first | refine Rg.tm ⟨_, rfl, rfl⟩ rfl (t_load ty38 rfl (by apply Cells.get (i := 1); (case h => assumption); rfl)) rfl ?_ | refine Rg.sk (.inl ⟨_, _, rfl, rfl, rfl⟩) rfl ?_ | refine Rg.sk (.inr ⟨_, rfl, rfl⟩) rfl ?_
        first | refine Rg.tm ⟨_, rfl, rfl⟩ rfl (t_nilCheck rfl) rfl ?_ | refine Rg.sk (.inl ⟨_, _, rfl, rfl, rfl⟩) rfl ?_ | refine Rg.sk (.inr ⟨_, rfl, rfl⟩) rfl ?_
        first | refine Rg.tm ⟨_, rfl, rfl⟩ rfl (t_fieldAddr fa126_4 rfl) rfl ?_ | refine Rg.sk (.inl ⟨_, _, rfl, rfl, rfl⟩) rfl ?_ | refine Rg.sk (.inr ⟨_, rfl, rfl⟩) rfl ?_
        first | refine Rg.tm ⟨_, rfl, rfl⟩ rfl (t_load ty3 rfl (by apply Cells.get (i := 4); (case h => assumption); rfl)) rfl ?_ | refine Rg.sk (.inl ⟨_, _, rfl, rfl, rfl⟩) rfl ?_ | refine Rg.sk (.inr ⟨_, rfl, rfl⟩) rfl ?_
        first | refine Rg.tm ⟨_, rfl, rfl⟩ rfl (t_move rfl) rfl ?_ | refine Rg.sk (.inl ⟨_, _, rfl, rfl, rfl⟩) rfl ?_ | refine Rg.sk (.inr ⟨_, rfl, rfl⟩) rfl ?_
        first | refine Rg.tm ⟨_, rfl, rfl⟩ rfl (t_nilCheck rfl) rfl ?_ | refine Rg.sk (.inl ⟨_, _, rfl, rfl, rfl⟩) rfl ?_ | refine Rg.sk (.inr ⟨_, rfl, rfl⟩) rfl ?_
        first | refine Rg.tm ⟨_, rfl, rfl⟩ rfl (t_fieldAddr fa126_0 rfl) rfl ?_ | refine Rg.sk (.inl ⟨_, _, rfl, rfl, rfl⟩) rfl ?_ | refine Rg.sk (.inr ⟨_, rfl, rfl⟩) rfl ?_
        first | refine Rg.tm ⟨_, rfl, rfl⟩ rfl (t_load ty38 rfl (by apply Cells.get (i := 0); (case h => assumption); rfl)) rfl ?_ | refine Rg.sk (.inl ⟨_, _, rfl, rfl, rfl⟩) rfl ?_ | refine Rg.sk (.inr ⟨_, rfl, rfl⟩) rfl ?_
        first | refine Rg.tm ⟨_, rfl, rfl⟩ rfl (t_nilCheck rfl) rfl ?_ | refine Rg.sk (.inl ⟨_, _, rfl, rfl, rfl⟩) rfl ?_ | refine Rg.sk (.inr ⟨_, rfl, rfl⟩) rfl ?_
        first | refine Rg.tm ⟨_, rfl, rfl⟩ rfl (t_fieldAddr fa126_4 rfl) rfl ?_ | refine Rg.sk (.inl ⟨_, _, rfl, rfl, rfl⟩) rfl ?_ | refine Rg.sk (.inr ⟨_, rfl, rfl⟩) rfl ?_
        first | refine Rg.tm ⟨_, rfl, rfl⟩ rfl (t_load ty3 rfl (by apply Cells.get (i := 4); (case h => assumption); rfl)) rfl ?_ | refine Rg.sk (.inl ⟨_, _, rfl, rfl, rfl⟩) rfl ?_ | refine Rg.sk (.inr ⟨_, rfl, rfl⟩) rfl ?_
        first | refine Rg.tm ⟨_, rfl, rfl⟩ rfl (t_geqT rfl rfl (by omega)) rfl ?_ | refine Rg.tm ⟨_, rfl, rfl⟩ rfl (t_geqF rfl rfl (by omega)) rfl ?_ | refine Rg.tm ⟨_, rfl, rfl⟩ rfl (t_geq rfl rfl) rfl ?_ | refine Rg.sk (.inl ⟨_, _, rfl, rfl, rfl⟩) rfl ?_ | refine Rg.sk (.inr ⟨_, rfl, rfl⟩) rfl ?_
        first | refine Rg.tm trivial rfl (t_pickT rfl rfl) rfl ?_ | refine Rg.tm trivial rfl (t_pickF rfl rfl) rfl ?_
        refine Rg.tm trivial rfl (t_assign rfl) rfl ?_
        refine Rg.done ?_
        refine Wp.condT rfl ?_
        refine Wp.seq (Wp.draw [0, 1, 2, 3, 4, 6, 7, 8, 9, 5, 10, 11] [] mixed (by kernel_rfl) (by kernel_rfl) ?_)
        intro w4 hx4 _
        replace cl := cl.ext hx4
        replace cr := cr.ext hx4
        replace c1 := c1.ext hx4
        replace c2 := c2.ext hx4
        replace hrl := hrl.ext hx4
        replace hrr := hrr.ext hx4
        replace hl := hl.ext hx4
        replace hM := hM.ext hx4
        replace hx := hx.ext hx4
        refine Rg.tm trivial rfl (t_move rfl) rfl ?_
        refine Rg.tm trivial rfl (t_move rfl) rfl ?_
        refine Rg.tm trivial rfl (t_nilCheck rfl) rfl ?_
        refine Rg.tm trivial rfl (t_fieldAddr fa126_0 rfl) rfl ?_
        refine Rg.tm trivial rfl (t_load ty38 rfl (by apply Cells.get (i := 0); (case h => assumption); rfl)) rfl ?_
        refine Rg.tm trivial rfl (t_move rfl) rfl ?_
        refine Rg.tm trivial rfl (t_nilCheck rfl) rfl ?_
        refine Rg.tm trivial rfl (t_fieldAddr fa126_1 rfl) rfl ?_
        refine Rg.tm trivial rfl (t_load ty38 rfl (by apply Cells.get (i := 1); (case h => assumption); rfl)) rfl ?_
        refine Rg.wdB trivial rfl (w_call Tryz.call59 rfl (node_ok hM hl hrl fl frl (by omega))) rfl (fun _ _ h => h.2) ?_
        rintro u w5 ⟨hu, hx5⟩
        replace cl := cl.ext hx5
        replace cr := cr.ext hx5
        replace c1 := c1.ext hx5
        replace c2 := c2.ext hx5
        replace hrl := hrl.ext hx5
        replace hrr := hrr.ext hx5
        replace hl := hl.ext hx5
        replace hM := hM.ext hx5
        replace hx := hx.ext hx5
        refine Rg.wdB trivial rfl (w_call Tryz.call59 rfl (node_ok hM hu hrr ⟨fl, frl⟩ frr (by simp only [RT.len]; omega))) rfl (fun _ _ h => h.2) ?_
        rintro v w6 ⟨hv, hx6⟩
        replace cl := cl.ext hx6
        replace cr := cr.ext hx6
        replace c1 := c1.ext hx6
        replace c2 := c2.ext hx6
        replace hrl := hrl.ext hx6
        replace hrr := hrr.ext hx6
        replace hl := hl.ext hx6
        replace hM := hM.ext hx6
        replace hx := hx.ext hx6
        replace hu := hu.ext hx6
        refine Rg.tm trivial rfl (t_assign rfl) rfl ?_
        refine Rg.done ?_
        refine Wp.ret ?_
        exact ⟨[_], ⟨rfl, trivial⟩, hv, hx⟩
      · rw [if_neg hB]
        cases rl with
        | leaf s => simp [RT.hgt] at hB
        | node la lb =>
        obtain ⟨b3, o3, pa, pb, ⟨⟩, m3, c3, hla, hlb⟩ := hrl
        obtain ⟨fla, flb⟩ := frl
        have e10 : (RT.node la lb).len = la.len + lb.len := rfl
        obtain ⟨b4, o4, p5, q5, ⟨⟩, m4, c4⟩ := hla.top
        obtain ⟨b5, o5, p6, q6, ⟨⟩, m5, c5⟩ := hlb.top
        clear c1
        refine Cl.enter Tryz.func58 rfl Tryz.ntmps58 rfl rfl ?_
        refine Wp.seq (Wp.region ?_)
        refine Rg.tm trivial rfl (t_assign rfl) rfl ?_
        refine Rg.done ?_
        refine Wp.seq ?_
        refine Wp.block ?_
        refine Wp.seq (Wp.draw [0, 1, 2, 3, 4, 5, 6, 7, 8, 9, 10, 11, 12, 13, 14, 15, 16, 17, 18, 19, 20, 21, 22, 23, 24, 25, 26, 27] [] mixed (by kernel_rfl) (by kernel_rfl) ?_)
        intro w1 hx1 _
        replace cl := cl.ext hx1
        replace cr := cr.ext hx1
        replace c2 := c2.ext hx1
        replace c3 := c3.ext hx1
        replace hrr := hrr.ext hx1
        replace hla := hla.ext hx1
        replace hlb := hlb.ext hx1
        replace hl := hl.ext hx1
        replace hM := hM.ext hx1
        replace hx := hx.ext hx1
        refine Rg.tm trivial rfl (t_move rfl) rfl ?_
        refine Rg.tm trivial rfl (t_nilCheck rfl) rfl ?_
        refine Rg.tm trivial rfl (t_fieldAddr fa126_4 rfl) rfl ?_
        refine Rg.tm trivial rfl (t_load ty3 rfl (by apply Cells.get (i := 4); (case h => assumption); rfl)) rfl ?_
        refine Rg.tm trivial rfl (t_move rfl) rfl ?_
        refine Rg.tm trivial rfl (t_nilCheck rfl) rfl ?_
        refine Rg.tm trivial rfl (t_fieldAddr fa126_4 rfl) rfl ?_
        refine Rg.tm trivial rfl (t_load ty3 rfl (by apply Cells.get (i := 4); (case h => assumption); rfl)) rfl ?_
        first | refine Rg.tm trivial rfl (t_addI rfl rfl (by omega)) rfl ?_ | refine Rg.tm trivial rfl (t_add rfl rfl) rfl ?_
        first | refine Rg.tm trivial rfl (t_gtrT rfl rfl (by omega)) rfl ?_ | refine Rg.tm trivial rfl (t_gtrF rfl rfl (by omega)) rfl ?_ | refine Rg.tm trivial rfl (t_gtr rfl rfl) rfl ?_
        refine Rg.tm trivial rfl (t_move rfl) rfl ?_
        first | refine Rg.tm ⟨_, rfl, rfl⟩ rfl (t_move rfl) rfl ?_ | refine Rg.sk (.inl ⟨_, _, rfl, rfl, rfl⟩) rfl ?_ | refine Rg.sk (.inr ⟨_, rfl, rfl⟩) rfl ?_
        first | refine Rg.tm ⟨_, rfl, rfl⟩ rfl (t_nilCheck rfl) rfl ?_ | refine Rg.sk (.inl ⟨_, _, rfl, rfl, rfl⟩) rfl ?_ | refine Rg.sk (.inr ⟨_, rfl, rfl⟩) rfl ?_
        first | refine Rg.tm ⟨_, rfl, rfl⟩ rfl (t_fieldAddr fa126_0 rfl) rfl ?_ | refine Rg.sk (.inl ⟨_, _, rfl, rfl, rfl⟩) rfl ?_ | refine Rg.sk (.inr ⟨_, rfl, rfl⟩) rfl ?_
        first | refine Rg.tm ⟨_, rfl, rfl⟩ rfl (t_load ty38 rfl (by apply Cells.get (i := 0); (case h => assumption); rfl)) rfl ?_ | refine Rg.sk (.inl ⟨_, _, rfl, rfl, rfl⟩) rfl ?_ | refine Rg.sk (.inr ⟨_, rfl, rfl⟩) rfl ?_
        first | refine Rg.tm ⟨_, rfl, rfl⟩ rfl (t_nilCheck rfl) rfl ?_ | refine Rg.sk (.inl ⟨_, _, rfl, rfl, rfl⟩) rfl ?_ | refine Rg.sk (.inr ⟨_, rfl, rfl⟩) rfl ?_
        first | refine Rg.tm ⟨_, rfl, rfl⟩ rfl (t_fieldAddr fa126_4 rfl) rfl ?_ | refine Rg.sk (.inl ⟨_, _, rfl, rfl, rfl⟩) rfl ?_ | refine Rg.sk (.inr ⟨_, rfl, rfl⟩) rfl ?_
        first | refine Rg.tm ⟨_, rfl, rfl⟩ rfl (t_load ty3 rfl (by apply Cells.get (i := 4); (case h => assumption); rfl)) rfl ?_ | refine Rg.sk (.inl ⟨_, _, rfl, rfl, rfl⟩) rfl ?_ | refine Rg.sk (.inr ⟨_, rfl, rfl⟩) rfl ?_
        first | refine Rg.tm ⟨_, rfl, rfl⟩ rfl (t_move rfl) rfl ?_ | refine Rg.sk (.inl ⟨_, _, rfl, rfl, rfl⟩) rfl ?_ | refine Rg.sk (.inr ⟨_, rfl, rfl⟩) rfl ?_
        first | refine Rg.tm ⟨_, rfl, rfl⟩ rfl (t_nilCheck rfl) rfl ?_ | refine Rg.sk (.inl ⟨_, _, rfl, rfl, rfl⟩) rfl ?_ | refine Rg.sk (.inr ⟨_, rfl, rfl⟩) rfl ?_
        first | refine Rg.tm ⟨_, rfl, rfl⟩ rfl (t_fieldAddr fa126_1 rfl) rfl ?_ | refine Rg.sk (.inl ⟨_, _, rfl, rfl, rfl⟩) rfl ?_ | refine Rg.sk (.inr ⟨_, rfl, rfl⟩) rfl ?_
        first | refine Rg.tm ⟨_, rfl, rfl⟩ rfl (t_load ty38 rfl (by apply Cells.get (i := 1); (case h => assumption); rfl)) rfl ?_ | refine Rg.sk (.inl ⟨_, _, rfl, rfl, rfl⟩) rfl ?_ | refine Rg.sk (.inr ⟨_, rfl, rfl⟩) rfl ?_
        first | refine Rg.tm ⟨_, rfl, rfl⟩ rfl (t_nilCheck rfl) rfl ?_ | refine Rg.sk (.inl ⟨_, _, rfl, rfl, rfl⟩) rfl ?_ | refine Rg.sk (.inr ⟨_, rfl, rfl⟩) rfl ?_
        first | refine Rg.tm ⟨_, rfl, rfl⟩ rfl (t_fieldAddr fa126_4 rfl) rfl ?_ | refine Rg.sk (.inl ⟨_, _, rfl, rfl, rfl⟩) rfl ?_ | refine Rg.sk (.inr ⟨_, rfl, rfl⟩) rfl ?_
        first | refine Rg.tm ⟨_, rfl, rfl⟩ rfl (t_load ty3 rfl (by apply Cells.get (i := 4); (case h => assumption); rfl)) rfl ?_ | refine Rg.sk (.inl ⟨_, _, rfl, rfl, rfl⟩) rfl ?_ | refine Rg.sk (.inr ⟨_, rfl, rfl⟩) rfl ?_
        first | refine Rg.tm ⟨_, rfl, rfl⟩ rfl (t_geqT rfl rfl (by omega)) rfl ?_ | refine Rg.tm ⟨_, rfl, rfl⟩ rfl (t_geqF rfl rfl (by omega)) rfl ?_ | refine Rg.tm ⟨_, rfl, rfl⟩ rfl (t_geq rfl rfl) rfl ?_ | refine Rg.sk (.inl ⟨_, _, rfl, rfl, rfl⟩) rfl ?_ | refine Rg.sk (.inr ⟨_, rfl, rfl⟩) rfl ?_
        first | refine Rg.tm trivial rfl (t_pickT rfl rfl) rfl ?_ | refine Rg.tm trivial rfl (t_pickF rfl rfl) rfl ?_
        refine Rg.tm trivial rfl (t_assign rfl) rfl ?_
        refine Rg.done ?_
        refine Wp.condF rfl ?_
        refine Wp.seq (Wp.draw [0, 1, 2, 3, 4, 5, 6, 7, 8, 9, 10] [] mixed (by kernel_rfl) (by kernel_rfl) ?_)
        intro w2 hx2 _
        replace cl := cl.ext hx2
        replace cr := cr.ext hx2
        replace c2 := c2.ext hx2
        replace c3 := c3.ext hx2
        replace hrr := hrr.ext hx2
        replace hla := hla.ext hx2
        replace hlb := hlb.ext hx2
        replace hl := hl.ext hx2
        replace hM := hM.ext hx2
        replace hx := hx.ext hx2
        refine Rg.tm trivial rfl (t_move rfl) rfl ?_
        refine Rg.tm trivial rfl (t_nilCheck rfl) rfl ?_
        refine Rg.tm trivial rfl (t_fieldAddr fa126_4 rfl) rfl ?_
        refine Rg.tm trivial rfl (t_load ty3 rfl (by apply Cells.get (i := 4); (case h => assumption); rfl)) rfl ?_
        refine Rg.tm trivial rfl (t_move rfl) rfl ?_
        refine Rg.tm trivial rfl (t_nilCheck rfl) rfl ?_
        refine Rg.tm trivial rfl (t_fieldAddr fa126_4 rfl) rfl ?_
        refine Rg.tm trivial rfl (t_load ty3 rfl (by apply Cells.get (i := 4); (case h => assumption); rfl)) rfl ?_
        first | refine Rg.tm trivial rfl (t_addI rfl rfl (by omega)) rfl ?_ | refine Rg.tm trivial rfl (t_add rfl rfl) rfl ?_
        first | refine Rg.tm trivial rfl (t_gtrT rfl rfl (by omega)) rfl ?_ | refine Rg.tm trivial rfl (t_gtrF rfl rfl (by omega)) rfl ?_ | refine Rg.tm trivial rfl (t_gtr rfl rfl) rfl ?_
        refine Rg.tm trivial rfl (t_assign rfl) rfl ?_
        refine Rg.done ?_
        refine Wp.condF rfl ?_
        refine Wp.seq (Wp.draw [0, 1, 2, 3, 4, 5, 6, 7, 8, 9, 10, 11, 12, 13, 14, 15, 16, 17, 18, 19, 20, 21, 22, 23, 24, 25, 26, 27] [] mixed (by kernel_rfl) (by kernel_rfl) ?_)
        intro w3 hx3 _
        replace cl := cl.ext hx3
        replace cr := cr.ext hx3
        replace c2 := c2.ext hx3
        replace c3 := c3.ext hx3
        replace hrr := hrr.ext hx3
        replace hla := hla.ext hx3
        replace hlb := hlb.ext hx3
        replace hl := hl.ext hx3
        replace hM := hM.ext hx3
        replace hx := hx.ext hx3
        refine Rg.tm trivial rfl (t_move rfl) rfl ?_
        refine Rg.tm trivial rfl (t_nilCheck rfl) rfl ?_
        refine Rg.tm trivial rfl (t_fieldAddr fa126_4 rfl) rfl ?_
        refine Rg.tm trivial rfl (t_load ty3 rfl (by apply Cells.get (i := 4); (case h => assumption); rfl)) rfl ?_
        refine Rg.tm trivial rfl (t_move rfl) rfl ?_
        refine Rg.tm trivial rfl (t_nilCheck rfl) rfl ?_
        refine Rg.tm trivial rfl (t_fieldAddr fa126_4 rfl) rfl ?_
        refine Rg.tm trivial rfl (t_load ty3 rfl (by apply Cells.get (i := 4); (case h => assumption); rfl)) rfl ?_
        first | refine Rg.tm trivial rfl (t_addI rfl rfl (by omega)) rfl ?_ | refine Rg.tm trivial rfl (t_add rfl rfl) rfl ?_
        first | refine Rg.tm trivial rfl (t_gtrT rfl rfl (by omega)) rfl ?_ | refine Rg.tm trivial rfl (t_gtrF rfl rfl (by omega)) rfl ?_ | refine Rg.tm trivial rfl (t_gtr rfl rfl) rfl ?_
        refine Rg.tm trivial rfl (t_move rfl) rfl ?_
        first | refine Rg.tm ⟨_, rfl, rfl⟩ rfl (t_move rfl) rfl ?_ | refine Rg.sk (.inl ⟨_, _, rfl, rfl, rfl⟩) rfl ?_ | refine Rg.sk (.inr ⟨_, rfl, rfl⟩) rfl ?_
        first | refine Rg.tm ⟨_, rfl, rfl⟩ rfl (t_nilCheck rfl) rfl ?_ | refine Rg.sk (.inl ⟨_, _, rfl, rfl, rfl⟩) rfl ?_ | refine Rg.sk (.inr ⟨_, rfl, rfl⟩) rfl ?_
        first | refine Rg.tm ⟨_, rfl, rfl⟩ rfl (t_fieldAddr fa126_1 rfl) rfl ?_ | refine Rg.sk (.inl ⟨_, _, rfl, rfl, rfl⟩) rfl ?_ | refine Rg.sk (.inr ⟨_, rfl, rfl⟩) rfl ?_
        first | refine Rg.tm ⟨_, rfl, rfl⟩ rfl (t_load ty38 rfl (by apply Cells.get (i := 1); (case h => assumption); rfl)) rfl ?_ | refine Rg.sk (.inl ⟨_, _, rfl, rfl, rfl⟩) rfl ?_ | refine Rg.sk (.inr ⟨_, rfl, rfl⟩) rfl ?_
        first | refine Rg.tm ⟨_, rfl, rfl⟩ rfl (t_nilCheck rfl) rfl ?_ | refine Rg.sk (.inl ⟨_, _, rfl, rfl, rfl⟩) rfl ?_ | refine Rg.sk (.inr ⟨_, rfl, rfl⟩) rfl ?_
        first | refine Rg.tm ⟨_, rfl, rfl⟩ rfl (t_fieldAddr fa126_4 rfl) rfl ?_ | refine Rg.sk (.inl ⟨_, _, rfl, rfl, rfl⟩) rfl ?_ | refine Rg.sk (.inr ⟨_, rfl, rfl⟩) rfl ?_
        first | refine Rg.tm ⟨_, rfl, rfl⟩ rfl (t_load ty3 rfl (by apply Cells.get (i := 4); (case h => assumption); rfl)) rfl ?_ | refine Rg.sk (.inl ⟨_, _, rfl, rfl, rfl⟩) rfl ?_ | refine Rg.sk (.inr ⟨_, rfl, rfl⟩) rfl ?_
        first | refine Rg.tm ⟨_, rfl, rfl⟩ rfl (t_move rfl) rfl ?_ | refine Rg.sk (.inl ⟨_, _, rfl, rfl, rfl⟩) rfl ?_ | refine Rg.sk (.inr ⟨_, rfl, rfl⟩) rfl ?_
        first | refine Rg.tm ⟨_, rfl, rfl⟩ rfl (t_nilCheck rfl) rfl ?_ | refine Rg.sk (.inl ⟨_, _, rfl, rfl, rfl⟩) rfl ?_ | refine Rg.sk (.inr ⟨_, rfl, rfl⟩) rfl ?_
        first | refine Rg.tm ⟨_, rfl, rfl⟩ rfl (t_fieldAddr fa126_0 rfl) rfl ?_ | refine Rg.sk (.inl ⟨_, _, rfl, rfl, rfl⟩) rfl ?_ | refine Rg.sk (.inr ⟨_, rfl, rfl⟩) rfl ?_
        first | refine Rg.tm ⟨_, rfl, rfl⟩ rfl (t_load ty38 rfl (by apply Cells.get (i := 0); (case h => assumption); rfl)) rfl ?_ | refine Rg.sk (.inl ⟨_, _, rfl, rfl, rfl⟩) rfl ?_ | refine Rg.sk (.inr ⟨_, rfl, rfl⟩) rfl ?_
        first | refine Rg.tm ⟨_, rfl, rfl⟩ rfl (t_nilCheck rfl) rfl ?_ | refine Rg.sk (.inl ⟨_, _, rfl, rfl, rfl⟩) rfl ?_ | refine Rg.sk (.inr ⟨_, rfl, rfl⟩) rfl ?_
        first | refine Rg.tm ⟨_, rfl, rfl⟩ rfl (t_fieldAddr fa126_4 rfl) rfl ?_ | refine Rg.sk (.inl ⟨_, _, rfl, rfl, rfl⟩) rfl ?_ | refine Rg.sk (.inr ⟨_, rfl, rfl⟩) rfl ?_
        first | refine Rg.tm ⟨_, rfl, rfl⟩ rfl (t_load ty3 rfl (by apply Cells.get (i := 4); (case h => assumption); rfl)) rfl ?_ | refine Rg.sk (.inl ⟨_, _, rfl, rfl, rfl⟩) rfl ?_ | refine Rg.sk (.inr ⟨_, rfl, rfl⟩) rfl ?_
        first | refine Rg.tm ⟨_, rfl, rfl⟩ rfl (t_geqT rfl rfl (by omega)) rfl ?_ | refine Rg.tm ⟨_, rfl, rfl⟩ rfl (t_geqF rfl rfl (by omega)) rfl ?_ | refine Rg.tm ⟨_, rfl, rfl⟩ rfl (t_geq rfl rfl) rfl ?_ | refine Rg.sk (.inl ⟨_, _, rfl, rfl, rfl⟩) rfl ?_ | refine Rg.sk (.inr ⟨_, rfl, rfl⟩) rfl ?_
        first | refine Rg.tm trivial rfl (t_pickT rfl rfl) rfl ?_ | refine Rg.tm trivial rfl (t_pickF rfl rfl) rfl ?_
        refine Rg.tm trivial rfl (t_assign rfl) rfl ?_
        refine Rg.done ?_
        refine Wp.condF rfl ?_
        refine Wp.seq (Wp.draw [0, 1, 2, 3, 4, 5, 6, 7, 8, 9, 10] [] mixed (by kernel_rfl) (by kernel_rfl) ?_)
        intro w4 hx4 _
        replace cl := cl.ext hx4
        replace cr := cr.ext hx4
        replace c2 := c2.ext hx4
        replace c3 := c3.ext hx4
        replace hrr := hrr.ext hx4
        replace hla := hla.ext hx4
        replace hlb := hlb.ext hx4
        replace hl := hl.ext hx4
        replace hM := hM.ext hx4
        replace hx := hx.ext hx4
        refine Rg.tm trivial rfl (t_move rfl) rfl ?_
        refine Rg.tm trivial rfl (t_nilCheck rfl) rfl ?_
        refine Rg.tm trivial rfl (t_fieldAddr fa126_4 rfl) rfl ?_
        refine Rg.tm trivial rfl (t_load ty3 rfl (by apply Cells.get (i := 4); (case h => assumption); rfl)) rfl ?_
        refine Rg.tm trivial rfl (t_move rfl) rfl ?_
        refine Rg.tm trivial rfl (t_nilCheck rfl) rfl ?_
        refine Rg.tm trivial rfl (t_fieldAddr fa126_4 rfl) rfl ?_
        refine Rg.tm trivial rfl (t_load ty3 rfl (by apply Cells.get (i := 4); (case h => assumption); rfl)) rfl ?_
        first | refine Rg.tm trivial rfl (t_addI rfl rfl (by omega)) rfl ?_ | refine Rg.tm trivial rfl (t_add rfl rfl) rfl ?_
        first | refine Rg.tm trivial rfl (t_gtrT rfl rfl (by omega)) rfl ?_ | refine Rg.tm trivial rfl (t_gtrF rfl rfl (by omega)) rfl ?_ | refine Rg.tm trivial rfl (t_gtr rfl rfl) rfl ?_
        refine Rg.tm trivial rfl (t_assign rfl) rfl ?_
        refine Rg.done ?_
        refine Wp.condT rfl ?_
        refine Wp.seq (Wp.draw [0, 1, 2, 3, 4, 5, 6, 7, 9, 10, 11, 12, 13, 14, 15, 16, 17, 18, 19, 8, 20, 21, 22] [] mixed (by kernel_rfl) (by kernel_rfl) ?_)
        intro w5 hx5 _
        replace cl := cl.ext hx5
        replace cr := cr.ext hx5
        replace c2 := c2.ext hx5
        replace c3 := c3.ext hx5
        replace hrr := hrr.ext hx5
        replace hla := hla.ext hx5
        replace hlb := hlb.ext hx5
        replace hl := hl.ext hx5
        replace hM := hM.ext hx5
        replace hx := hx.ext hx5
        refine Rg.tm trivial rfl (t_move rfl) rfl ?_
        refine Rg.tm trivial rfl (t_move rfl) rfl ?_
        refine Rg.tm trivial rfl (t_nilCheck rfl) rfl ?_
        refine Rg.tm trivial rfl (t_fieldAddr fa126_0 rfl) rfl ?_
        refine Rg.tm trivial rfl (t_load ty38 rfl (by apply Cells.get (i := 0); (case h => assumption); rfl)) rfl ?_
        refine Rg.tm trivial rfl (t_nilCheck rfl) rfl ?_
        refine Rg.tm trivial rfl (t_fieldAddr fa126_0 rfl) rfl ?_
        refine Rg.tm trivial rfl (t_load ty38 rfl (by apply Cells.get (i := 0); (case h => assumption); rfl)) rfl ?_
        refine Rg.tm trivial rfl (t_move rfl) rfl ?_
        refine Rg.tm trivial rfl (t_nilCheck rfl) rfl ?_
        refine Rg.tm trivial rfl (t_fieldAddr fa126_0 rfl) rfl ?_
        refine Rg.tm trivial rfl (t_load ty38 rfl (by apply Cells.get (i := 0); (case h => assumption); rfl)) rfl ?_
        refine Rg.tm trivial rfl (t_nilCheck rfl) rfl ?_
        refine Rg.tm trivial rfl (t_fieldAddr fa126_1 rfl) rfl ?_
        refine Rg.tm trivial rfl (t_load ty38 rfl (by apply Cells.get (i := 1); (case h => assumption); rfl)) rfl ?_
        refine Rg.tm trivial rfl (t_move rfl) rfl ?_
        refine Rg.tm trivial rfl (t_nilCheck rfl) rfl ?_
        refine Rg.tm trivial rfl (t_fieldAddr fa126_1 rfl) rfl ?_
        refine Rg.tm trivial rfl (t_load ty38 rfl (by apply Cells.get (i := 1); (case h => assumption); rfl)) rfl ?_
        refine Rg.wdB trivial rfl (w_call Tryz.call59 rfl (node_ok hM hl hla fl fla (by omega))) rfl (fun _ _ h => h.2) ?_
        rintro u w6 ⟨hu, hx6⟩
        replace cl := cl.ext hx6
        replace cr := cr.ext hx6
        replace c2 := c2.ext hx6
        replace c3 := c3.ext hx6
        replace hrr := hrr.ext hx6
        replace hla := hla.ext hx6
        replace hlb := hlb.ext hx6
        replace hl := hl.ext hx6
        replace hM := hM.ext hx6
        replace hx := hx.ext hx6
        refine Rg.wdB trivial rfl (w_call Tryz.call59 rfl (node_ok hM hlb hrr flb frr (by omega))) rfl (fun _ _ h => h.2) ?_
        rintro u2 w7 ⟨hu2, hx7⟩
        replace cl := cl.ext hx7
        replace cr := cr.ext hx7
        replace c2 := c2.ext hx7
        replace c3 := c3.ext hx7
        replace hrr := hrr.ext hx7
        replace hla := hla.ext hx7
        replace hlb := hlb.ext hx7
        replace hl := hl.ext hx7
        replace hM := hM.ext hx7
        replace hx := hx.ext hx7
        replace hu := hu.ext hx7
        refine Rg.wdB trivial rfl (w_call Tryz.call59 rfl (node_ok hM hu hu2 ⟨fl, fla⟩ ⟨flb, frr⟩ (by simp only [RT.len]; omega))) rfl (fun _ _ h => h.2) ?_
        rintro v w8 ⟨hv, hx8⟩
        replace cl := cl.ext hx8
        replace cr := cr.ext hx8
        replace c2 := c2.ext hx8
        replace c3 := c3.ext hx8
        replace hrr := hrr.ext hx8
        replace hla := hla.ext hx8
        replace hlb := hlb.ext hx8
        replace hl := hl.ext hx8
        replace hM := hM.ext hx8
        replace hx := hx.ext hx8
        replace hu := hu.ext hx8
        replace hu2 := hu2.ext hx8
        refine Rg.tm trivial rfl (t_assign rfl) rfl ?_
        refine Rg.done ?_
        refine Wp.ret ?_
        exact ⟨[_], ⟨rfl, trivial⟩, hv, hx⟩
    · rw [if_neg hC]
      obtain ⟨bl, ol, p1, q1, rfl, ml, cl⟩ := hl.top
      obtain ⟨br, or_, p2, q2, rfl, mr, cr⟩ := hr.top
      refine Cl.enter Tryz.func58 rfl Tryz.ntmps58 rfl rfl ?_
      refine Wp.seq (Wp.region ?_)
      refine Rg.tm trivial rfl (t_assign rfl) rfl ?_
      refine Rg.done ?_
      refine Wp.seq ?_
      refine Wp.block ?_
      refine Wp.seq (Wp.draw [0, 1, 2, 3, 4, 5, 6, 7, 8, 9, 10, 11, 12, 13, 14, 15, 16, 17, 18, 19, 20, 21, 22, 23, 24, 25, 26, 27] [] mixed (by kernel_rfl) (by kernel_rfl) ?_)
      intro w1 hx1 _
      replace cl := cl.ext hx1
      replace cr := cr.ext hx1
      replace hl := hl.ext hx1
      replace hr := hr.ext hx1
      replace hM := hM.ext hx1
      replace hx := hx.ext hx1
      refine Rg.tm trivial rfl (t_move rfl) rfl ?_
      refine Rg.tm trivial rfl (t_nilCheck rfl) rfl ?_
      refine Rg.tm trivial rfl (t_fieldAddr fa126_4 rfl) rfl ?_
      refine Rg.tm trivial rfl (t_load ty3 rfl (by apply Cells.get (i := 4); (case h => assumption); rfl)) rfl ?_
      refine Rg.tm trivial rfl (t_move rfl) rfl ?_
      refine Rg.tm trivial rfl (t_nilCheck rfl) rfl ?_
      refine Rg.tm trivial rfl (t_fieldAddr fa126_4 rfl) rfl ?_
      refine Rg.tm trivial rfl (t_load ty3 rfl (by apply Cells.get (i := 4); (case h => assumption); rfl)) rfl ?_
      first | refine Rg.tm trivial rfl (t_addI rfl rfl (by omega)) rfl ?_ | refine Rg.tm trivial rfl (t_add rfl rfl) rfl ?_
      first | refine Rg.tm trivial rfl (t_gtrT rfl rfl (by omega)) rfl ?_ | refine Rg.tm trivial rfl (t_gtrF rfl rfl (by omega)) rfl ?_ | refine Rg.tm trivial rfl (t_gtr rfl rfl) rfl ?_
      refine Rg.tm trivial rfl (t_move rfl) rfl ?_
      first | refine Rg.tm ⟨_, rfl, rfl⟩ rfl (t_move rfl) rfl ?_ | refine Rg.sk (.inl ⟨_, _, rfl, rfl, rfl⟩) rfl ?_ | refine Rg.sk (.inr ⟨_, rfl, rfl⟩) rfl ?_
      first | refine Rg.tm ⟨_, rfl, rfl⟩ rfl (t_nilCheck rfl) rfl ?_ | refine Rg.sk (.inl ⟨_, _, rfl, rfl, rfl⟩) rfl ?_ | refine Rg.sk (.inr ⟨_, rfl, rfl⟩) rfl ?_
      first | refine Rg.tm ⟨_, rfl, rfl⟩ rfl (t_fieldAddr fa126_0 rfl) rfl ?_ | refine Rg.sk (.inl ⟨_, _, rfl, rfl, rfl⟩) rfl ?_ | refine Rg.sk (.inr ⟨_, rfl, rfl⟩) rfl ?_
      first | refine Rg.tm ⟨_, rfl, rfl⟩ rfl (t_load ty38 rfl (by apply Cells.get (i := 0); (case h => assumption); rfl)) rfl ?_ | refine Rg.sk (.inl ⟨_, _, rfl, rfl, rfl⟩) rfl ?_ | refine Rg.sk (.inr ⟨_, rfl, rfl⟩) rfl ?_
      first | refine Rg.tm ⟨_, rfl, rfl⟩ rfl (t_nilCheck rfl) rfl ?_ | refine Rg.sk (.inl ⟨_, _, rfl, rfl, rfl⟩) rfl ?_ | refine Rg.sk (.inr ⟨_, rfl, rfl⟩) rfl ?_
      first | refine Rg.tm ⟨_, rfl, rfl⟩ rfl (t_fieldAddr fa126_4 rfl) rfl ?_ | refine Rg.sk (.inl ⟨_, _, rfl, rfl, rfl⟩) rfl ?_ | refine Rg.sk (.inr ⟨_, rfl, rfl⟩) rfl ?_
      first | refine Rg.tm ⟨_, rfl, rfl⟩ rfl (t_load ty3 rfl (by apply Cells.get (i := 4); (case h => assumption); rfl)) rfl ?_ | refine Rg.sk (.inl ⟨_, _, rfl, rfl, rfl⟩) rfl ?_ | refine Rg.sk (.inr ⟨_, rfl, rfl⟩) rfl ?_
      first | refine Rg.tm ⟨_, rfl, rfl⟩ rfl (t_move rfl) rfl ?_ | refine Rg.sk (.inl ⟨_, _, rfl, rfl, rfl⟩) rfl ?_ | refine Rg.sk (.inr ⟨_, rfl, rfl⟩) rfl ?_
      first | refine Rg.tm ⟨_, rfl, rfl⟩ rfl (t_nilCheck rfl) rfl ?_ | refine Rg.sk (.inl ⟨_, _, rfl, rfl, rfl⟩) rfl ?_ | refine Rg.sk (.inr ⟨_, rfl, rfl⟩) rfl ?_
      first | refine Rg.tm ⟨_, rfl, rfl⟩ rfl (t_fieldAddr fa126_1 rfl) rfl ?_ | refine Rg.sk (.inl ⟨_, _, rfl, rfl, rfl⟩) rfl ?_ | refine Rg.sk (.inr ⟨_, rfl, rfl⟩) rfl ?_
      first | refine Rg.tm ⟨_, rfl, rfl⟩ rfl (t_load ty38 rfl (by apply Cells.get (i := 1); (case h => assumption); rfl)) rfl ?_ | refine Rg.sk (.inl ⟨_, _, rfl, rfl, rfl⟩) rfl ?_ | refine Rg.sk (.inr ⟨_, rfl, rfl⟩) rfl ?_
      first | refine Rg.tm ⟨_, rfl, rfl⟩ rfl (t_nilCheck rfl) rfl ?_ | refine Rg.sk (.inl ⟨_, _, rfl, rfl, rfl⟩) rfl ?_ | refine Rg.sk (.inr ⟨_, rfl, rfl⟩) rfl ?_
      first | refine Rg.tm ⟨_, rfl, rfl⟩ rfl (t_fieldAddr fa126_4 rfl) rfl ?_ | refine Rg.sk (.inl ⟨_, _, rfl, rfl, rfl⟩) rfl ?_ | refine Rg.sk (.inr ⟨_, rfl, rfl⟩) rfl ?_
      first | refine Rg.tm ⟨_, rfl, rfl⟩ rfl (t_load ty3 rfl (by apply Cells.get (i := 4); (case h => assumption); rfl)) rfl ?_ | refine Rg.sk (.inl ⟨_, _, rfl, rfl, rfl⟩) rfl ?_ | refine Rg.sk (.inr ⟨_, rfl, rfl⟩) rfl ?_
      first | refine Rg.tm ⟨_, rfl, rfl⟩ rfl (t_geqT rfl rfl (by omega)) rfl ?_ | refine Rg.tm ⟨_, rfl, rfl⟩ rfl (t_geqF rfl rfl (by omega)) rfl ?_ | refine Rg.tm ⟨_, rfl, rfl⟩ rfl (t_geq rfl rfl) rfl ?_ | refine Rg.sk (.inl ⟨_, _, rfl, rfl, rfl⟩) rfl ?_ | refine Rg.sk (.inr ⟨_, rfl, rfl⟩) rfl ?_
      first | refine Rg.tm trivial rfl (t_pickT rfl rfl) rfl ?_ | refine Rg.tm trivial rfl (t_pickF rfl rfl) rfl ?_
      refine Rg.tm trivial rfl (t_assign rfl) rfl ?_
      refine Rg.done ?_
      refine Wp.condF rfl ?_
      refine Wp.seq (Wp.draw [0, 1, 2, 3, 4, 5, 6, 7, 8, 9, 10] [] mixed (by kernel_rfl) (by kernel_rfl) ?_)
      intro w2 hx2 _
      replace cl := cl.ext hx2
      replace cr := cr.ext hx2
      replace hl := hl.ext hx2
      replace hr := hr.ext hx2
      replace hM := hM.ext hx2
      replace hx := hx.ext hx2
      refine Rg.tm trivial rfl (t_move rfl) rfl ?_
      refine Rg.tm trivial rfl (t_nilCheck rfl) rfl ?_
      refine Rg.tm trivial rfl (t_fieldAddr fa126_4 rfl) rfl ?_
      refine Rg.tm trivial rfl (t_load ty3 rfl (by apply Cells.get (i := 4); (case h => assumption); rfl)) rfl ?_
      refine Rg.tm trivial rfl (t_move rfl) rfl ?_
      refine Rg.tm trivial rfl (t_nilCheck rfl) rfl ?_
      refine Rg.tm trivial rfl (t_fieldAddr fa126_4 rfl) rfl ?_
      refine Rg.tm trivial rfl (t_load ty3 rfl (by apply Cells.get (i := 4); (case h => assumption); rfl)) rfl ?_
      first | refine Rg.tm trivial rfl (t_addI rfl rfl (by omega)) rfl ?_ | refine Rg.tm trivial rfl (t_add rfl rfl) rfl ?_
      first | refine Rg.tm trivial rfl (t_gtrT rfl rfl (by omega)) rfl ?_ | refine Rg.tm trivial rfl (t_gtrF rfl rfl (by omega)) rfl ?_ | refine Rg.tm trivial rfl (t_gtr rfl rfl) rfl ?_
      refine Rg.tm trivial rfl (t_assign rfl) rfl ?_
      refine Rg.done ?_
      refine Wp.condF rfl ?_
      refine Wp.seq (Wp.draw [0, 1, 2, 3, 4, 5, 6, 7, 8, 9, 10, 11, 12, 13, 14, 15, 16, 17, 18, 19, 20, 21, 22, 23, 24, 25, 26, 27] [] mixed (by kernel_rfl) (by kernel_rfl) ?_)
      intro w3 hx3 _
      replace cl := cl.ext hx3
      replace cr := cr.ext hx3
      replace hl := hl.ext hx3
      replace hr := hr.ext hx3
      replace hM := hM.ext hx3
      replace hx := hx.ext hx3
      refine Rg.tm trivial rfl (t_move rfl) rfl ?_
      refine Rg.tm trivial rfl (t_nilCheck rfl) rfl ?_
      refine Rg.tm trivial rfl (t_fieldAddr fa126_4 rfl) rfl ?_
      refine Rg.tm trivial rfl (t_load ty3 rfl (by apply Cells.get (i := 4); (case h => assumption); rfl)) rfl ?_
      refine Rg.tm trivial rfl (t_move rfl) rfl ?_
      refine Rg.tm trivial rfl (t_nilCheck rfl) rfl ?_
      refine Rg.tm trivial rfl (t_fieldAddr fa126_4 rfl) rfl ?_
      refine Rg.tm trivial rfl (t_load ty3 rfl (by apply Cells.get (i := 4); (case h => assumption); rfl)) rfl ?_
      first | refine Rg.tm trivial rfl (t_addI rfl rfl (by omega)) rfl ?_ | refine Rg.tm trivial rfl (t_add rfl rfl) rfl ?_
      first | refine Rg.tm trivial rfl (t_gtrT rfl rfl (by omega)) rfl ?_ | refine Rg.tm trivial rfl (t_gtrF rfl rfl (by omega)) rfl ?_ | refine Rg.tm trivial rfl (t_gtr rfl rfl) rfl ?_
      refine Rg.tm trivial rfl (t_move rfl) rfl ?_
      first | refine Rg.tm ⟨_, rfl, rfl⟩ rfl (t_move rfl) rfl ?_ | refine Rg.sk (.inl ⟨_, _, rfl, rfl, rfl⟩) rfl ?_ | refine Rg.sk (.inr ⟨_, rfl, rfl⟩) rfl ?_
      first | refine Rg.tm ⟨_, rfl, rfl⟩ rfl (t_nilCheck rfl) rfl ?_ | refine Rg.sk (.inl ⟨_, _, rfl, rfl, rfl⟩) rfl ?_ | refine Rg.sk (.inr ⟨_, rfl, rfl⟩) rfl ?_
      first | refine Rg.tm ⟨_, rfl, rfl⟩ rfl (t_fieldAddr fa126_1 rfl) rfl ?_ | refine Rg.sk (.inl ⟨_, _, rfl, rfl, rfl⟩) rfl ?_ | refine Rg.sk (.inr ⟨_, rfl, rfl⟩) rfl ?_
      first | refine Rg.tm ⟨_, rfl, rfl⟩ rfl (t_load ty38 rfl (by apply Cells.get (i := 1); (case h => assumption); rfl)) rfl ?_ | refine Rg.sk (.inl ⟨_, _, rfl, rfl, rfl⟩) rfl ?_ | refine Rg.sk (.inr ⟨_, rfl, rfl⟩) rfl ?_
      first | refine Rg.tm ⟨_, rfl, rfl⟩ rfl (t_nilCheck rfl) rfl ?_ | refine Rg.sk (.inl ⟨_, _, rfl, rfl, rfl⟩) rfl ?_ | refine Rg.sk (.inr ⟨_, rfl, rfl⟩) rfl ?_
      first | refine Rg.tm ⟨_, rfl, rfl⟩ rfl (t_fieldAddr fa126_4 rfl) rfl ?_ | refine Rg.sk (.inl ⟨_, _, rfl, rfl, rfl⟩) rfl ?_ | refine Rg.sk (.inr ⟨_, rfl, rfl⟩) rfl ?_
      first | refine Rg.tm ⟨_, rfl, rfl⟩ rfl (t_load ty3 rfl (by apply Cells.get (i := 4); (case h => assumption); rfl)) rfl ?_ | refine Rg.sk (.inl ⟨_, _, rfl, rfl, rfl⟩) rfl ?_ | refine Rg.sk (.inr ⟨_, rfl, rfl⟩) rfl ?_
      first | refine Rg.tm ⟨_, rfl, rfl⟩ rfl (t_move rfl) rfl ?_ | refine Rg.sk (.inl ⟨_, _, rfl, rfl, rfl⟩) rfl ?_ | refine Rg.sk (.inr ⟨_, rfl, rfl⟩) rfl ?_
      first | refine Rg.tm ⟨_, rfl, rfl⟩ rfl (t_nilCheck rfl) rfl ?_ | refine Rg.sk (.inl ⟨_, _, rfl, rfl, rfl⟩) rfl ?_ | refine Rg.sk (.inr ⟨_, rfl, rfl⟩) rfl ?_
      first | refine Rg.tm ⟨_, rfl, rfl⟩ rfl (t_fieldAddr fa126_0 rfl) rfl ?_ | refine Rg.sk (.inl ⟨_, _, rfl, rfl, rfl⟩) rfl ?_ | refine Rg.sk (.inr ⟨_, rfl, rfl⟩) rfl ?_
      first | refine Rg.tm ⟨_, rfl, rfl⟩ rfl (t_load ty38 rfl (by apply Cells.get (i := 0); (case h => assumption); rfl)) rfl ?_ | refine Rg.sk (.inl ⟨_, _, rfl, rfl, rfl⟩) rfl ?_ | refine Rg.sk (.inr ⟨_, rfl, rfl⟩) rfl ?_
      first | refine Rg.tm ⟨_, rfl, rfl⟩ rfl (t_nilCheck rfl) rfl ?_ | refine Rg.sk (.inl ⟨_, _, rfl, rfl, rfl⟩) rfl ?_ | refine Rg.sk (.inr ⟨_, rfl, rfl⟩) rfl ?_
      first | refine Rg.tm ⟨_, rfl, rfl⟩ rfl (t_fieldAddr fa126_4 rfl) rfl ?_ | refine Rg.sk (.inl ⟨_, _, rfl, rfl, rfl⟩) rfl ?_ | refine Rg.sk (.inr ⟨_, rfl, rfl⟩) rfl ?_
      first | refine Rg.tm ⟨_, rfl, rfl⟩ rfl (t_load ty3 rfl (by apply Cells.get (i := 4); (case h => assumption); rfl)) rfl ?_ | refine Rg.sk (.inl ⟨_, _, rfl, rfl, rfl⟩) rfl ?_ | refine Rg.sk (.inr ⟨_, rfl, rfl⟩) rfl ?_
      first | refine Rg.tm ⟨_, rfl, rfl⟩ rfl (t_geqT rfl rfl (by omega)) rfl ?_ | refine Rg.tm ⟨_, rfl, rfl⟩ rfl (t_geqF rfl rfl (by omega)) rfl ?_ | refine Rg.tm ⟨_, rfl, rfl⟩ rfl (t_geq rfl rfl) rfl ?_ | refine Rg.sk (.inl ⟨_, _, rfl, rfl, rfl⟩) rfl ?_ | refine Rg.sk (.inr ⟨_, rfl, rfl⟩) rfl ?_
      first | refine Rg.tm trivial rfl (t_pickT rfl rfl) rfl ?_ | refine Rg.tm trivial rfl (t_pickF rfl rfl) rfl ?_
      refine Rg.tm trivial rfl (t_assign rfl) rfl ?_
      refine Rg.done ?_
      refine Wp.condF rfl ?_
      refine Wp.seq (Wp.draw [0, 1, 2, 3, 4, 5, 6, 7, 8, 9, 10] [] mixed (by kernel_rfl) (by kernel_rfl) ?_)
      intro w4 hx4 _
      replace cl := cl.ext hx4
      replace cr := cr.ext hx4
      replace hl := hl.ext hx4
      replace hr := hr.ext hx4
      replace hM := hM.ext hx4
      replace hx := hx.ext hx4
      refine Rg.tm trivial rfl (t_move rfl) rfl ?_
      refine Rg.tm trivial rfl (t_nilCheck rfl) rfl ?_
      refine Rg.tm trivial rfl (t_fieldAddr fa126_4 rfl) rfl ?_
      refine Rg.tm trivial rfl (t_load ty3 rfl (by apply Cells.get (i := 4); (case h => assumption); rfl)) rfl ?_
      refine Rg.tm trivial rfl (t_move rfl) rfl ?_
      refine Rg.tm trivial rfl (t_nilCheck rfl) rfl ?_
      refine Rg.tm trivial rfl (t_fieldAddr fa126_4 rfl) rfl ?_
      refine Rg.tm trivial rfl (t_load ty3 rfl (by apply Cells.get (i := 4); (case h => assumption); rfl)) rfl ?_
      first | refine Rg.tm trivial rfl (t_addI rfl rfl (by omega)) rfl ?_ | refine Rg.tm trivial rfl (t_add rfl rfl) rfl ?_
      first | refine Rg.tm trivial rfl (t_gtrT rfl rfl (by omega)) rfl ?_ | refine Rg.tm trivial rfl (t_gtrF rfl rfl (by omega)) rfl ?_ | refine Rg.tm trivial rfl (t_gtr rfl rfl) rfl ?_
      refine Rg.tm trivial rfl (t_assign rfl) rfl ?_
      refine Rg.done ?_
      refine Wp.condF rfl ?_
      refine Wp.skip ?_
      refine Wp.seq (Wp.region ?_)
      refine Rg.tm trivial rfl (t_move rfl) rfl ?_
      refine Rg.tm trivial rfl (t_move rfl) rfl ?_
      refine Rg.wd trivial (w_call Tryz.call59 rfl (node_ok hM hl hr fl fr hb)) rfl ?_
      rintro v w5 ⟨hv, hx5⟩
      replace cl := cl.ext hx5
      replace cr := cr.ext hx5
      replace hl := hl.ext hx5
      replace hr := hr.ext hx5
      replace hM := hM.ext hx5
      replace hx := hx.ext hx5
      refine Rg.tm trivial rfl (t_assign rfl) rfl ?_
      refine Rg.done ?_
      refine Wp.ret ?_
      exact ⟨[_], ⟨rfl, trivial⟩, hv, hx⟩

theorem RT.len_pos : ∀ {t : RT}, t.Full → 0 < t.len
  | .leaf _, h => h
  | .node _ _, h => by have := len_pos h.1; simp only [RT.len]; omega
theorem RT.cat_len (l r : RT) : (RT.cat l r).len = l.len + r.len := by
  rw [RT.len_val, RT.len_val, RT.len_val, RT.cat_val, ByteArray.size_append]

theorem cat_ok : ∀ (n : Nat) (l r : RT), l.nodes + r.nodes ≤ n → ∀ {M : List Nat} {w : World} {vl vr : Value} (hM : In M w) (hl : Lies M w vl l) (hr : Lies M w vr r) (fl : l.Full) (fr : r.Full) (hb : l.len + r.len < 4611686018427387904),
    Cl Tryz.prog 30 #[vl, vr] w (fun v w' => Lies M w' v (RT.cat l r) ∧ Ext w w') := by
  intro n
  induction n with
  | zero => intro l r hn; cases l <;> simp [RT.nodes] at hn
  | succ n ih =>
  intro l r hn M w vl vr hM hl hr fl fr hb
  have e1 := l.lvs_le fl
  have e2 := r.lvs_le fr
  have e3 := l.hgt_lt
  have e4 := r.hgt_lt
  have hx := Ext.refl w
  by_cases hS : l.hgt = 0 ∧ r.hgt = 0 ∧ l.len + r.len ≤ 32
  · obtain ⟨h1, h2, h3⟩ := hS
    rw [RT.cat_small h1 h2 h3]
    have t1 := RT.txt_size h1
    have t2 := RT.txt_size h2
    obtain ⟨bl, ol, p1, q1, rfl, ml, cl⟩ := hl.top
    obtain ⟨br, or_, p2, q2, rfl, mr, cr⟩ := hr.top
    refine Cl.enter Tryz.func30 rfl Tryz.ntmps30 rfl rfl ?_
    refine Wp.seq (Wp.region ?_)
    refine Rg.tm trivial rfl (t_assign rfl) rfl ?_
    refine Rg.done ?_
    refine Wp.seq ?_
    refine Wp.block ?_
    refine Wp.seq (Wp.region ?_)
    refine Rg.tm trivial rfl (t_move rfl) rfl ?_
    first | refine Rg.tm trivial rfl (t_peqT pt38 rfl rfl) rfl ?_ | refine Rg.tm trivial rfl (t_peqF pt38 rfl rfl) rfl ?_
    refine Rg.tm trivial rfl (t_assign rfl) rfl ?_
    refine Rg.done ?_
    refine Wp.condF rfl ?_
    refine Wp.seq (Wp.region ?_)
    refine Rg.tm trivial rfl (t_move rfl) rfl ?_
    first | refine Rg.tm trivial rfl (t_peqT pt38 rfl rfl) rfl ?_ | refine Rg.tm trivial rfl (t_peqF pt38 rfl rfl) rfl ?_
    refine Rg.tm trivial rfl (t_assign rfl) rfl ?_
    refine Rg.done ?_
    refine Wp.condF rfl ?_
    refine Wp.seq (Wp.draw [0, 1, 2, 3, 4, 5, 6, 7, 8, 9, 10, 11, 12, 13, 14, 15, 16, 17, 18, 19, 20, 21, 22, 23, 24] [] mixed (by kernel_rfl) (by kernel_rfl) ?_)
    intro w1 hx1 _
    replace cl := cl.ext hx1
    replace cr := cr.ext hx1
    replace hl := hl.ext hx1
    replace hr := hr.ext hx1
    replace hM := hM.ext hx1
    replace hx := hx.ext hx1
    refine Rg.tm trivial rfl (t_move rfl) rfl ?_
    refine Rg.tm trivial rfl (t_nilCheck rfl) rfl ?_
    refine Rg.tm trivial rfl (t_fieldAddr fa126_4 rfl) rfl ?_
    refine Rg.tm trivial rfl (t_load ty3 rfl (by apply Cells.get (i := 4); (case h => assumption); rfl)) rfl ?_
    first | refine Rg.tm trivial rfl (t_eqlT rfl rfl (by omega)) rfl ?_ | refine Rg.tm trivial rfl (t_eqlF rfl rfl (by omega)) rfl ?_ | refine Rg.tm trivial rfl (t_eql rfl rfl) rfl ?_
    refine Rg.tm trivial rfl (t_move rfl) rfl ?_
    first | refine Rg.tm ⟨_, rfl, rfl⟩ rfl (t_move rfl) rfl ?_ | refine Rg.sk (.inl ⟨_, _, rfl, rfl, rfl⟩) rfl ?_ | refine Rg.sk (.inr ⟨_, rfl, rfl⟩) rfl ?_
    first | refine Rg.tm ⟨_, rfl, rfl⟩ rfl (t_nilCheck rfl) rfl ?_ | refine Rg.sk (.inl ⟨_, _, rfl, rfl, rfl⟩) rfl ?_ | refine Rg.sk (.inr ⟨_, rfl, rfl⟩) rfl ?_
    first | refine Rg.tm ⟨_, rfl, rfl⟩ rfl (t_fieldAddr fa126_4 rfl) rfl ?_ | refine Rg.sk (.inl ⟨_, _, rfl, rfl, rfl⟩) rfl ?_ | refine Rg.sk (.inr ⟨_, rfl, rfl⟩) rfl ?_
    first | refine Rg.tm ⟨_, rfl, rfl⟩ rfl (t_load ty3 rfl (by apply Cells.get (i := 4); (case h => assumption); rfl)) rfl ?_ | refine Rg.sk (.inl ⟨_, _, rfl, rfl, rfl⟩) rfl ?_ | refine Rg.sk (.inr ⟨_, rfl, rfl⟩) rfl ?_
    first | refine Rg.tm ⟨_, rfl, rfl⟩ rfl (t_eqlT rfl rfl (by omega)) rfl ?_ | refine Rg.tm ⟨_, rfl, rfl⟩ rfl (t_eqlF rfl rfl (by omega)) rfl ?_ | refine Rg.tm ⟨_, rfl, rfl⟩ rfl (t_eql rfl rfl) rfl ?_ | refine Rg.sk (.inl ⟨_, _, rfl, rfl, rfl⟩) rfl ?_ | refine Rg.sk (.inr ⟨_, rfl, rfl⟩) rfl ?_
    first | refine Rg.tm trivial rfl (t_pickT rfl rfl) rfl ?_ | refine Rg.tm trivial rfl (t_pickF rfl rfl) rfl ?_
    refine Rg.tm trivial rfl (t_move rfl) rfl ?_
    first | refine Rg.tm ⟨_, rfl, rfl⟩ rfl (t_move rfl) rfl ?_ | refine Rg.sk (.inl ⟨_, _, rfl, rfl, rfl⟩) rfl ?_ | refine Rg.sk (.inr ⟨_, rfl, rfl⟩) rfl ?_
    first | refine Rg.tm ⟨_, rfl, rfl⟩ rfl (t_nilCheck rfl) rfl ?_ | refine Rg.sk (.inl ⟨_, _, rfl, rfl, rfl⟩) rfl ?_ | refine Rg.sk (.inr ⟨_, rfl, rfl⟩) rfl ?_
    first | refine Rg.tm ⟨_, rfl, rfl⟩ rfl (t_fieldAddr fa126_3 rfl) rfl ?_ | refine Rg.sk (.inl ⟨_, _, rfl, rfl, rfl⟩) rfl ?_ | refine Rg.sk (.inr ⟨_, rfl, rfl⟩) rfl ?_
    first | refine Rg.tm ⟨_, rfl, rfl⟩ rfl (t_load ty3 rfl (by apply Cells.get (i := 3); (case h => assumption); rfl)) rfl ?_ | refine Rg.sk (.inl ⟨_, _, rfl, rfl, rfl⟩) rfl ?_ | refine Rg.sk (.inr ⟨_, rfl, rfl⟩) rfl ?_
    first | refine Rg.tm ⟨_, rfl, rfl⟩ rfl (t_move rfl) rfl ?_ | refine Rg.sk (.inl ⟨_, _, rfl, rfl, rfl⟩) rfl ?_ | refine Rg.sk (.inr ⟨_, rfl, rfl⟩) rfl ?_
    first | refine Rg.tm ⟨_, rfl, rfl⟩ rfl (t_nilCheck rfl) rfl ?_ | refine Rg.sk (.inl ⟨_, _, rfl, rfl, rfl⟩) rfl ?_ | refine Rg.sk (.inr ⟨_, rfl, rfl⟩) rfl ?_
    first | refine Rg.tm ⟨_, rfl, rfl⟩ rfl (t_fieldAddr fa126_3 rfl) rfl ?_ | refine Rg.sk (.inl ⟨_, _, rfl, rfl, rfl⟩) rfl ?_ | refine Rg.sk (.inr ⟨_, rfl, rfl⟩) rfl ?_
    first | refine Rg.tm ⟨_, rfl, rfl⟩ rfl (t_load ty3 rfl (by apply Cells.get (i := 3); (case h => assumption); rfl)) rfl ?_ | refine Rg.sk (.inl ⟨_, _, rfl, rfl, rfl⟩) rfl ?_ | refine Rg.sk (.inr ⟨_, rfl, rfl⟩) rfl ?_
    first | refine Rg.tm ⟨_, rfl, rfl⟩ rfl (t_addI rfl rfl (by omega)) rfl ?_ | refine Rg.tm ⟨_, rfl, rfl⟩ rfl (t_add rfl rfl) rfl ?_ | refine Rg.sk (.inl ⟨_, _, rfl, rfl, rfl⟩) rfl ?_ | refine Rg.sk (.inr ⟨_, rfl, rfl⟩) rfl ?_
    first | refine Rg.tm ⟨_, rfl, rfl⟩ rfl (t_leqT rfl rfl (by omega)) rfl ?_ | refine Rg.tm ⟨_, rfl, rfl⟩ rfl (t_leqF rfl rfl (by omega)) rfl ?_ | refine Rg.tm ⟨_, rfl, rfl⟩ rfl (t_leq rfl rfl) rfl ?_ | refine Rg.sk (.inl ⟨_, _, rfl, rfl, rfl⟩) rfl ?_ | refine Rg.sk (.inr ⟨_, rfl, rfl⟩) rfl ?_
    first | refine Rg.tm trivial rfl (t_pickT rfl rfl) rfl ?_ | refine Rg.tm trivial rfl (t_pickF rfl rfl) rfl ?_
    refine Rg.tm trivial rfl (t_assign rfl) rfl ?_
    refine Rg.done ?_
    refine Wp.condT rfl ?_
    refine Wp.seq (Wp.draw [0, 1, 2, 3, 4, 5, 6, 7, 8, 9, 10] [] mixed (by kernel_rfl) (by kernel_rfl) ?_)
    intro w2 hx2 _
    replace cl := cl.ext hx2
    replace cr := cr.ext hx2
    replace hl := hl.ext hx2
    replace hr := hr.ext hx2
    replace hM := hM.ext hx2
    replace hx := hx.ext hx2
    refine Rg.tm trivial rfl (t_move rfl) rfl ?_
    refine Rg.tm trivial rfl (t_nilCheck rfl) rfl ?_
    refine Rg.tm trivial rfl (t_fieldAddr fa126_2 rfl) rfl ?_
    refine Rg.tm trivial rfl (t_load ty9 rfl (by apply Cells.get (i := 2); (case h => assumption); rfl)) rfl ?_
    refine Rg.tm trivial rfl (t_move rfl) rfl ?_
    refine Rg.tm trivial rfl (t_nilCheck rfl) rfl ?_
    refine Rg.tm trivial rfl (t_fieldAddr fa126_2 rfl) rfl ?_
    refine Rg.tm trivial rfl (t_load ty9 rfl (by apply Cells.get (i := 2); (case h => assumption); rfl)) rfl ?_
    refine Rg.tm trivial rfl (t_sadd rfl rfl (by omega)) rfl ?_
    refine Rg.wdB trivial rfl (w_call Tryz.call31 rfl (leaf_ok hM (by rw [ByteArray.size_append]; omega))) rfl (fun _ _ h => h.2) ?_
    rintro v w3 ⟨hv, hx3⟩
    replace cl := cl.ext hx3
    replace cr := cr.ext hx3
    replace hl := hl.ext hx3
    replace hr := hr.ext hx3
    replace hM := hM.ext hx3
    replace hx := hx.ext hx3
    refine Rg.tm trivial rfl (t_assign rfl) rfl ?_
    refine Rg.done ?_
    refine Wp.ret ?_
    exact ⟨[_], ⟨rfl, trivial⟩, hv, hx⟩
  · by_cases hA : r.hgt + 1 < l.hgt
    · cases l with
      | leaf s => simp [RT.hgt] at hA
      | node ll lr =>
      rw [RT.cat_left hA]
      obtain ⟨bl, ol, pl, pr, rfl, ml, cl, hll, hlr⟩ := hl
      obtain ⟨br, or_, p2, q2, rfl, mr, cr⟩ := hr.top
      obtain ⟨fll, flr⟩ := fl
      have e5 : (RT.node ll lr).len = ll.len + lr.len := rfl
      have e6 := RT.cat_len lr r
      simp only [RT.nodes] at hn
      refine Cl.enter Tryz.func30 rfl Tryz.ntmps30 rfl rfl ?_
      refine Wp.seq (Wp.region ?_)
      refine Rg.tm trivial rfl (t_assign rfl) rfl ?_
      refine Rg.done ?_
      refine Wp.seq ?_
      refine Wp.block ?_
      refine Wp.seq (Wp.region ?_)
      refine Rg.tm trivial rfl (t_move rfl) rfl ?_
      first | refine Rg.tm trivial rfl (t_peqT pt38 rfl rfl) rfl ?_ | refine Rg.tm trivial rfl (t_peqF pt38 rfl rfl) rfl ?_
      refine Rg.tm trivial rfl (t_assign rfl) rfl ?_
      refine Rg.done ?_
      refine Wp.condF rfl ?_
      refine Wp.seq (Wp.region ?_)
      refine Rg.tm trivial rfl (t_move rfl) rfl ?_
      first | refine Rg.tm trivial rfl (t_peqT pt38 rfl rfl) rfl ?_ | refine Rg.tm trivial rfl (t_peqF pt38 rfl rfl) rfl ?_
      refine Rg.tm trivial rfl (t_assign rfl) rfl ?_
      refine Rg.done ?_
      refine Wp.condF rfl ?_
      refine Wp.seq (Wp.draw [0, 1, 2, 3, 4, 5, 6, 7, 8, 9, 10, 11, 12, 13, 14, 15, 16, 17, 18, 19, 20, 21, 22, 23, 24] [] mixed (by kernel_rfl) (by kernel_rfl) ?_)
      intro w1 hx1 _
      replace cl := cl.ext hx1
      replace cr := cr.ext hx1
      replace hll := hll.ext hx1
      replace hlr := hlr.ext hx1
      replace hr := hr.ext hx1
      replace hM := hM.ext hx1
      replace hx := hx.ext hx1
      refine Rg.tm trivial rfl (t_move rfl) rfl ?_
      refine Rg.tm trivial rfl (t_nilCheck rfl) rfl ?_
      refine Rg.tm trivial rfl (t_fieldAddr fa126_4 rfl) rfl ?_
      refine Rg.tm trivial rfl (t_load ty3 rfl (by apply Cells.get (i := 4); (case h => assumption); rfl)) rfl ?_
      first | refine Rg.tm trivial rfl (t_eqlT rfl rfl (by omega)) rfl ?_ | refine Rg.tm trivial rfl (t_eqlF rfl rfl (by omega)) rfl ?_ | refine Rg.tm trivial rfl (t_eql rfl rfl) rfl ?_
      refine Rg.tm trivial rfl (t_move rfl) rfl ?_
      first | refine Rg.tm ⟨_, rfl, rfl⟩ rfl (t_move rfl) rfl ?_ | refine Rg.sk (.inl ⟨_, _, rfl, rfl, rfl⟩) rfl ?_ | refine Rg.sk (.inr ⟨_, rfl, rfl⟩) rfl ?_
      first | refine Rg.tm ⟨_, rfl, rfl⟩ rfl (t_nilCheck rfl) rfl ?_ | refine Rg.sk (.inl ⟨_, _, rfl, rfl, rfl⟩) rfl ?_ | refine Rg.sk (.inr ⟨_, rfl, rfl⟩) rfl ?_
      first | refine Rg.tm ⟨_, rfl, rfl⟩ rfl (t_fieldAddr fa126_4 rfl) rfl ?_ | refine Rg.sk (.inl ⟨_, _, rfl, rfl, rfl⟩) rfl ?_ | refine Rg.sk (.inr ⟨_, rfl, rfl⟩) rfl ?_
      first | refine Rg.tm ⟨_, rfl, rfl⟩ rfl (t_load ty3 rfl (by apply Cells.get (i := 4); (case h => assumption); rfl)) rfl ?_ | refine Rg.sk (.inl ⟨_, _, rfl, rfl, rfl⟩) rfl ?_ | refine Rg.sk (.inr ⟨_, rfl, rfl⟩) rfl ?_
      first | refine Rg.tm ⟨_, rfl, rfl⟩ rfl (t_eqlT rfl rfl (by omega)) rfl ?_ | refine Rg.tm ⟨_, rfl, rfl⟩ rfl (t_eqlF rfl rfl (by omega)) rfl ?_ | refine Rg.tm ⟨_, rfl, rfl⟩ rfl (t_eql rfl rfl) rfl ?_ | refine Rg.sk (.inl ⟨_, _, rfl, rfl, rfl⟩) rfl ?_ | refine Rg.sk (.inr ⟨_, rfl, rfl⟩) rfl ?_
      first | refine Rg.tm trivial rfl (t_pickT rfl rfl) rfl ?_ | refine Rg.tm trivial rfl (t_pickF rfl rfl) rfl ?_
      refine Rg.tm trivial rfl (t_move rfl) rfl ?_
      first | refine Rg.tm ⟨_, rfl, rfl⟩ rfl (t_move rfl) rfl ?_ | refine Rg.sk (.inl ⟨_, _, rfl, rfl, rfl⟩) rfl ?_ | refine Rg.sk (.inr ⟨_, rfl, rfl⟩) rfl ?_
      first | refine Rg.tm ⟨_, rfl, rfl⟩ rfl (t_nilCheck rfl) rfl ?_ | refine Rg.sk (.inl ⟨_, _, rfl, rfl, rfl⟩) rfl ?_ | refine Rg.sk (.inr ⟨_, rfl, rfl⟩) rfl ?_
      first | refine Rg.tm ⟨_, rfl, rfl⟩ rfl (t_fieldAddr fa126_3 rfl) rfl ?_ | refine Rg.sk (.inl ⟨_, _, rfl, rfl, rfl⟩) rfl ?_ | refine Rg.sk (.inr ⟨_, rfl, rfl⟩) rfl ?_
      first | refine Rg.tm ⟨_, rfl, rfl⟩ rfl (t_load ty3 rfl (by apply Cells.get (i := 3); (case h => assumption); rfl)) rfl ?_ | refine Rg.sk (.inl ⟨_, _, rfl, rfl, rfl⟩) rfl ?_ | refine Rg.sk (.inr ⟨_, rfl, rfl⟩) rfl ?_
      first | refine Rg.tm ⟨_, rfl, rfl⟩ rfl (t_move rfl) rfl ?_ | refine Rg.sk (.inl ⟨_, _, rfl, rfl, rfl⟩) rfl ?_ | refine Rg.sk (.inr ⟨_, rfl, rfl⟩) rfl ?_
      first | refine Rg.tm ⟨_, rfl, rfl⟩ rfl (t_nilCheck rfl) rfl ?_ | refine Rg.sk (.inl ⟨_, _, rfl, rfl, rfl⟩) rfl ?_ | refine Rg.sk (.inr ⟨_, rfl, rfl⟩) rfl ?_
      first | refine Rg.tm ⟨_, rfl, rfl⟩ rfl (t_fieldAddr fa126_3 rfl) rfl ?_ | refine Rg.sk (.inl ⟨_, _, rfl, rfl, rfl⟩) rfl ?_ | refine Rg.sk (.inr ⟨_, rfl, rfl⟩) rfl ?_
      first | refine Rg.tm ⟨_, rfl, rfl⟩ rfl (t_load ty3 rfl (by apply Cells.get (i := 3); (case h => assumption); rfl)) rfl ?_ | refine Rg.sk (.inl ⟨_, _, rfl, rfl, rfl⟩) rfl ?_ | refine Rg.sk (.inr ⟨_, rfl, rfl⟩) rfl ?_
      first | refine Rg.tm ⟨_, rfl, rfl⟩ rfl (t_addI rfl rfl (by omega)) rfl ?_ | refine Rg.tm ⟨_, rfl, rfl⟩ rfl (t_add rfl rfl) rfl ?_ | refine Rg.sk (.inl ⟨_, _, rfl, rfl, rfl⟩) rfl ?_ | refine Rg.sk (.inr ⟨_, rfl, rfl⟩) rfl ?_
      first | refine Rg.tm ⟨_, rfl, rfl⟩ rfl (t_leqT rfl rfl (by omega)) rfl ?_ | refine Rg.tm ⟨_, rfl, rfl⟩ rfl (t_leqF rfl rfl (by omega)) rfl ?_ | refine Rg.tm ⟨_, rfl, rfl⟩ rfl (t_leq rfl rfl) rfl ?_ | refine Rg.sk (.inl ⟨_, _, rfl, rfl, rfl⟩) rfl ?_ | refine Rg.sk (.inr ⟨_, rfl, rfl⟩) rfl ?_
      first | refine Rg.tm trivial rfl (t_pickT rfl rfl) rfl ?_ | refine Rg.tm trivial rfl (t_pickF rfl rfl) rfl ?_
      refine Rg.tm trivial rfl (t_assign rfl) rfl ?_
      refine Rg.done ?_
      refine Wp.condF rfl ?_
      refine Wp.seq (Wp.draw [0, 1, 2, 3, 4, 5, 6, 7, 8, 9, 10] [] mixed (by kernel_rfl) (by kernel_rfl) ?_)
      intro w2 hx2 _
      replace cl := cl.ext hx2
      replace cr := cr.ext hx2
      replace hll := hll.ext hx2
      replace hlr := hlr.ext hx2
      replace hr := hr.ext hx2
      replace hM := hM.ext hx2
      replace hx := hx.ext hx2
      refine Rg.tm trivial rfl (t_move rfl) rfl ?_
      refine Rg.tm trivial rfl (t_nilCheck rfl) rfl ?_
      refine Rg.tm trivial rfl (t_fieldAddr fa126_4 rfl) rfl ?_
      refine Rg.tm trivial rfl (t_load ty3 rfl (by apply Cells.get (i := 4); (case h => assumption); rfl)) rfl ?_
      refine Rg.tm trivial rfl (t_move rfl) rfl ?_
      refine Rg.tm trivial rfl (t_nilCheck rfl) rfl ?_
      refine Rg.tm trivial rfl (t_fieldAddr fa126_4 rfl) rfl ?_
      refine Rg.tm trivial rfl (t_load ty3 rfl (by apply Cells.get (i := 4); (case h => assumption); rfl)) rfl ?_
      first | refine Rg.tm trivial rfl (t_addI rfl rfl (by omega)) rfl ?_ | refine Rg.tm trivial rfl (t_add rfl rfl) rfl ?_
      first | refine Rg.tm trivial rfl (t_gtrT rfl rfl (by omega)) rfl ?_ | refine Rg.tm trivial rfl (t_gtrF rfl rfl (by omega)) rfl ?_ | refine Rg.tm trivial rfl (t_gtr rfl rfl) rfl ?_
      refine Rg.tm trivial rfl (t_assign rfl) rfl ?_
      refine Rg.done ?_
      refine Wp.condT rfl ?_
      refine Wp.seq (Wp.draw [0, 1, 2, 3, 4, 5, 6, 7, 8, 9, 10, 11] [] mixed (by kernel_rfl) (by kernel_rfl) ?_)
      intro w3 hx3 _
      replace cl := cl.ext hx3
      replace cr := cr.ext hx3
      replace hll := hll.ext hx3
      replace hlr := hlr.ext hx3
      replace hr := hr.ext hx3
      replace hM := hM.ext hx3
      replace hx := hx.ext hx3
      refine Rg.tm trivial rfl (t_move rfl) rfl ?_
      refine Rg.tm trivial rfl (t_nilCheck rfl) rfl ?_
      refine Rg.tm trivial rfl (t_fieldAddr fa126_0 rfl) rfl ?_
      refine Rg.tm trivial rfl (t_load ty38 rfl (by apply Cells.get (i := 0); (case h => assumption); rfl)) rfl ?_
      refine Rg.tm trivial rfl (t_move rfl) rfl ?_
      refine Rg.tm trivial rfl (t_nilCheck rfl) rfl ?_
      refine Rg.tm trivial rfl (t_fieldAddr fa126_1 rfl) rfl ?_
      refine Rg.tm trivial rfl (t_load ty38 rfl (by apply Cells.get (i := 1); (case h => assumption); rfl)) rfl ?_
      refine Rg.tm trivial rfl (t_move rfl) rfl ?_
      refine Rg.wdB trivial rfl (w_call Tryz.call30 rfl (ih lr r (by omega) hM hlr hr flr fr (by omega))) rfl (fun _ _ h => h.2) ?_
      rintro u w4 ⟨hu, hx4⟩
      replace cl := cl.ext hx4
      replace cr := cr.ext hx4
      replace hll := hll.ext hx4
      replace hlr := hlr.ext hx4
      replace hr := hr.ext hx4
      replace hM := hM.ext hx4
      replace hx := hx.ext hx4
      refine Rg.wdB trivial rfl (w_call Tryz.call58 rfl (reb_ok hM hll hu fll (RT.cat_full _ _ flr fr) (by omega))) rfl (fun _ _ h => h.2) ?_
      rintro v w5 ⟨hv, hx5⟩
      replace cl := cl.ext hx5
      replace cr := cr.ext hx5
      replace hll := hll.ext hx5
      replace hlr := hlr.ext hx5
      replace hr := hr.ext hx5
      replace hM := hM.ext hx5
      replace hx := hx.ext hx5
      replace hu := hu.ext hx5
      refine Rg.tm trivial rfl (t_assign rfl) rfl ?_
      refine Rg.done ?_
      refine Wp.ret ?_
      exact ⟨[_], ⟨rfl, trivial⟩, hv, hx⟩
    · by_cases hC : l.hgt + 1 < r.hgt
      · cases r with
        | leaf s => simp [RT.hgt] at hC
        | node rl rr =>
        rw [RT.cat_right hC]
        obtain ⟨bl, ol, p2, q2, rfl, ml, cl⟩ := hl.top
        obtain ⟨br, or_, pl, pr, rfl, mr, cr, hrl, hrr⟩ := hr
        obtain ⟨frl, frr⟩ := fr
        have e5 : (RT.node rl rr).len = rl.len + rr.len := rfl
        have e6 := RT.cat_len l rl
        simp only [RT.nodes] at hn
        by_cases hz : l.hgt = 0
        all_goals
          refine Cl.enter Tryz.func30 rfl Tryz.ntmps30 rfl rfl ?_
          refine Wp.seq (Wp.region ?_)
          refine Rg.tm trivial rfl (t_assign rfl) rfl ?_
          refine Rg.done ?_
          refine Wp.seq ?_
          refine Wp.block ?_
          refine Wp.seq (Wp.region ?_)
          refine Rg.tm trivial rfl (t_move rfl) rfl ?_
          first | refine Rg.tm trivial rfl (t_peqT pt38 rfl rfl) rfl ?_ | refine Rg.tm trivial rfl (t_peqF pt38 rfl rfl) rfl ?_
          refine Rg.tm trivial rfl (t_assign rfl) rfl ?_
          refine Rg.done ?_
          refine Wp.condF rfl ?_
          refine Wp.seq (Wp.region ?_)
          refine Rg.tm trivial rfl (t_move rfl) rfl ?_
          first | refine Rg.tm trivial rfl (t_peqT pt38 rfl rfl) rfl ?_ | refine Rg.tm trivial rfl (t_peqF pt38 rfl rfl) rfl ?_
          refine Rg.tm trivial rfl (t_assign rfl) rfl ?_
          refine Rg.done ?_
          refine Wp.condF rfl ?_
          refine Wp.seq (Wp.draw [0, 1, 2, 3, 4, 5, 6, 7, 8, 9, 10, 11, 12, 13, 14, 15, 16, 17, 18, 19, 20, 21, 22, 23, 24] [] mixed (by kernel_rfl) (by kernel_rfl) ?_)
          intro w1 hx1 _
          replace cl := cl.ext hx1
          replace cr := cr.ext hx1
          replace hrl := hrl.ext hx1
          replace hrr := hrr.ext hx1
          replace hl := hl.ext hx1
          replace hM := hM.ext hx1
          replace hx := hx.ext hx1
          refine Rg.tm trivial rfl (t_move rfl) rfl ?_
          refine Rg.tm trivial rfl (t_nilCheck rfl) rfl ?_
          refine Rg.tm trivial rfl (t_fieldAddr fa126_4 rfl) rfl ?_
          refine Rg.tm trivial rfl (t_load ty3 rfl (by apply Cells.get (i := 4); (case h => assumption); rfl)) rfl ?_
          first | refine Rg.tm trivial rfl (t_eqlT rfl rfl (by omega)) rfl ?_ | refine Rg.tm trivial rfl (t_eqlF rfl rfl (by omega)) rfl ?_ | refine Rg.tm trivial rfl (t_eql rfl rfl) rfl ?_
          refine Rg.tm trivial rfl (t_move rfl) rfl ?_
          first | refine Rg.tm ⟨_, rfl, rfl⟩ rfl (t_move rfl) rfl ?_ | refine Rg.sk (.inl ⟨_, _, rfl, rfl, rfl⟩) rfl ?_ | refine Rg.sk (.inr ⟨_, rfl, rfl⟩) rfl ?_
          first | refine Rg.tm ⟨_, rfl, rfl⟩ rfl (t_nilCheck rfl) rfl ?_ | refine Rg.sk (.inl ⟨_, _, rfl, rfl, rfl⟩) rfl ?_ | refine Rg.sk (.inr ⟨_, rfl, rfl⟩) rfl ?_
          first | refine Rg.tm ⟨_, rfl, rfl⟩ rfl (t_fieldAddr fa126_4 rfl) rfl ?_ | refine Rg.sk (.inl ⟨_, _, rfl, rfl, rfl⟩) rfl ?_ | refine Rg.sk (.inr ⟨_, rfl, rfl⟩) rfl ?_
          first | refine Rg.tm ⟨_, rfl, rfl⟩ rfl (t_load ty3 rfl (by apply Cells.get (i := 4); (case h => assumption); rfl)) rfl ?_ | refine Rg.sk (.inl ⟨_, _, rfl, rfl, rfl⟩) rfl ?_ | refine Rg.sk (.inr ⟨_, rfl, rfl⟩) rfl ?_
          first | refine Rg.tm ⟨_, rfl, rfl⟩ rfl (t_eqlT rfl rfl (by omega)) rfl ?_ | refine Rg.tm ⟨_, rfl, rfl⟩ rfl (t_eqlF rfl rfl (by omega)) rfl ?_ | refine Rg.tm ⟨_, rfl, rfl⟩ rfl (t_eql rfl rfl) rfl ?_ | refine Rg.sk (.inl ⟨_, _, rfl, rfl, rfl⟩) rfl ?_ | refine Rg.sk (.inr ⟨_, rfl, rfl⟩) rfl ?_
          first | refine Rg.tm trivial rfl (t_pickT rfl rfl) rfl ?_ | refine Rg.tm trivial rfl (t_pickF rfl rfl) rfl ?_
          refine Rg.tm trivial rfl (t_move rfl) rfl ?_
          first | refine Rg.tm ⟨_, rfl, rfl⟩ rfl (t_move rfl) rfl ?_ | refine Rg.sk (.inl ⟨_, _, rfl, rfl, rfl⟩) rfl ?_ | refine Rg.sk (.inr ⟨_, rfl, rfl⟩) rfl ?_
          first | refine Rg.tm ⟨_, rfl, rfl⟩ rfl (t_nilCheck rfl) rfl ?_ | refine Rg.sk (.inl ⟨_, _, rfl, rfl, rfl⟩) rfl ?_ | refine Rg.sk (.inr ⟨_, rfl, rfl⟩) rfl ?_
          first | refine Rg.tm ⟨_, rfl, rfl⟩ rfl (t_fieldAddr fa126_3 rfl) rfl ?_ | refine Rg.sk (.inl ⟨_, _, rfl, rfl, rfl⟩) rfl ?_ | refine Rg.sk (.inr ⟨_, rfl, rfl⟩) rfl ?_
          first | refine Rg.tm ⟨_, rfl, rfl⟩ rfl (t_load ty3 rfl (by apply Cells.get (i := 3); (case h => assumption); rfl)) rfl ?_ | refine Rg.sk (.inl ⟨_, _, rfl, rfl, rfl⟩) rfl ?_ | refine Rg.sk (.inr ⟨_, rfl, rfl⟩) rfl ?_
          first | refine Rg.tm ⟨_, rfl, rfl⟩ rfl (t_move rfl) rfl ?_ | refine Rg.sk (.inl ⟨_, _, rfl, rfl, rfl⟩) rfl ?_ | refine Rg.sk (.inr ⟨_, rfl, rfl⟩) rfl ?_
          first | refine Rg.tm ⟨_, rfl, rfl⟩ rfl (t_nilCheck rfl) rfl ?_ | refine Rg.sk (.inl ⟨_, _, rfl, rfl, rfl⟩) rfl ?_ | refine Rg.sk (.inr ⟨_, rfl, rfl⟩) rfl ?_
          first | refine Rg.tm ⟨_, rfl, rfl⟩ rfl (t_fieldAddr fa126_3 rfl) rfl ?_ | refine Rg.sk (.inl ⟨_, _, rfl, rfl, rfl⟩) rfl ?_ | refine Rg.sk (.inr ⟨_, rfl, rfl⟩) rfl ?_
          first | refine Rg.tm ⟨_, rfl, rfl⟩ rfl (t_load ty3 rfl (by apply Cells.get (i := 3); (case h => assumption); rfl)) rfl ?_ | refine Rg.sk (.inl ⟨_, _, rfl, rfl, rfl⟩) rfl ?_ | refine Rg.sk (.inr ⟨_, rfl, rfl⟩) rfl ?_
          first | refine Rg.tm ⟨_, rfl, rfl⟩ rfl (t_addI rfl rfl (by omega)) rfl ?_ | refine Rg.tm ⟨_, rfl, rfl⟩ rfl (t_add rfl rfl) rfl ?_ | refine Rg.sk (.inl ⟨_, _, rfl, rfl, rfl⟩) rfl ?_ | refine Rg.sk (.inr ⟨_, rfl, rfl⟩) rfl ?_
          first | refine Rg.tm ⟨_, rfl, rfl⟩ rfl (t_leqT rfl rfl (by omega)) rfl ?_ | refine Rg.tm ⟨_, rfl, rfl⟩ rfl (t_leqF rfl rfl (by omega)) rfl ?_ | refine Rg.tm ⟨_, rfl, rfl⟩ rfl (t_leq rfl rfl) rfl ?_ | refine Rg.sk (.inl ⟨_, _, rfl, rfl, rfl⟩) rfl ?_ | refine Rg.sk (.inr ⟨_, rfl, rfl⟩) rfl ?_
          first | refine Rg.tm trivial rfl (t_pickT rfl rfl) rfl ?_ | refine Rg.tm trivial rfl (t_pickF rfl rfl) rfl ?_
          refine Rg.tm trivial rfl (t_assign rfl) rfl ?_
          refine Rg.done ?_
          refine Wp.condF rfl ?_
          refine Wp.seq (Wp.draw [0, 1, 2, 3, 4, 5, 6, 7, 8, 9, 10] [] mixed (by kernel_rfl) (by kernel_rfl) ?_)
          intro w2 hx2 _
          replace cl := cl.ext hx2
          replace cr := cr.ext hx2
          replace hrl := hrl.ext hx2
          replace hrr := hrr.ext hx2
          replace hl := hl.ext hx2
          replace hM := hM.ext hx2
          replace hx := hx.ext hx2
          refine Rg.tm trivial rfl (t_move rfl) rfl ?_
          refine Rg.tm trivial rfl (t_nilCheck rfl) rfl ?_
          refine Rg.tm trivial rfl (t_fieldAddr fa126_4 rfl) rfl ?_
          refine Rg.tm trivial rfl (t_load ty3 rfl (by apply Cells.get (i := 4); (case h => assumption); rfl)) rfl ?_
          refine Rg.tm trivial rfl (t_move rfl) rfl ?_
          refine Rg.tm trivial rfl (t_nilCheck rfl) rfl ?_
          refine Rg.tm trivial rfl (t_fieldAddr fa126_4 rfl) rfl ?_
          refine Rg.tm trivial rfl (t_load ty3 rfl (by apply Cells.get (i := 4); (case h => assumption); rfl)) rfl ?_
          first | refine Rg.tm trivial rfl (t_addI rfl rfl (by omega)) rfl ?_ | refine Rg.tm trivial rfl (t_add rfl rfl) rfl ?_
          first | refine Rg.tm trivial rfl (t_gtrT rfl rfl (by omega)) rfl ?_ | refine Rg.tm trivial rfl (t_gtrF rfl rfl (by omega)) rfl ?_ | refine Rg.tm trivial rfl (t_gtr rfl rfl) rfl ?_
          refine Rg.tm trivial rfl (t_assign rfl) rfl ?_
          refine Rg.done ?_
          refine Wp.condF rfl ?_
          refine Wp.seq (Wp.draw [0, 1, 2, 3, 4, 5, 6, 7, 8, 9, 10] [] mixed (by kernel_rfl) (by kernel_rfl) ?_)
          intro w3 hx3 _
          replace cl := cl.ext hx3
          replace cr := cr.ext hx3
          replace hrl := hrl.ext hx3
          replace hrr := hrr.ext hx3
          replace hl := hl.ext hx3
          replace hM := hM.ext hx3
          replace hx := hx.ext hx3
          refine Rg.tm trivial rfl (t_move rfl) rfl ?_
          refine Rg.tm trivial rfl (t_nilCheck rfl) rfl ?_
          refine Rg.tm trivial rfl (t_fieldAddr fa126_4 rfl) rfl ?_
          refine Rg.tm trivial rfl (t_load ty3 rfl (by apply Cells.get (i := 4); (case h => assumption); rfl)) rfl ?_
          refine Rg.tm trivial rfl (t_move rfl) rfl ?_
          refine Rg.tm trivial rfl (t_nilCheck rfl) rfl ?_
          refine Rg.tm trivial rfl (t_fieldAddr fa126_4 rfl) rfl ?_
          refine Rg.tm trivial rfl (t_load ty3 rfl (by apply Cells.get (i := 4); (case h => assumption); rfl)) rfl ?_
          first | refine Rg.tm trivial rfl (t_addI rfl rfl (by omega)) rfl ?_ | refine Rg.tm trivial rfl (t_add rfl rfl) rfl ?_
          first | refine Rg.tm trivial rfl (t_gtrT rfl rfl (by omega)) rfl ?_ | refine Rg.tm trivial rfl (t_gtrF rfl rfl (by omega)) rfl ?_ | refine Rg.tm trivial rfl (t_gtr rfl rfl) rfl ?_
          refine Rg.tm trivial rfl (t_assign rfl) rfl ?_
          refine Rg.done ?_
          refine Wp.condT rfl ?_
          refine Wp.seq (Wp.draw [0, 1, 2, 3, 4, 6, 7, 8, 9, 5, 10, 11] [] mixed (by kernel_rfl) (by kernel_rfl) ?_)
          intro w4 hx4 _
          replace cl := cl.ext hx4
          replace cr := cr.ext hx4
          replace hrl := hrl.ext hx4
          replace hrr := hrr.ext hx4
          replace hl := hl.ext hx4
          replace hM := hM.ext hx4
          replace hx := hx.ext hx4
          refine Rg.tm trivial rfl (t_move rfl) rfl ?_
          refine Rg.tm trivial rfl (t_move rfl) rfl ?_
          refine Rg.tm trivial rfl (t_nilCheck rfl) rfl ?_
          refine Rg.tm trivial rfl (t_fieldAddr fa126_0 rfl) rfl ?_
          refine Rg.tm trivial rfl (t_load ty38 rfl (by apply Cells.get (i := 0); (case h => assumption); rfl)) rfl ?_
          refine Rg.tm trivial rfl (t_move rfl) rfl ?_
          refine Rg.tm trivial rfl (t_nilCheck rfl) rfl ?_
          refine Rg.tm trivial rfl (t_fieldAddr fa126_1 rfl) rfl ?_
          refine Rg.tm trivial rfl (t_load ty38 rfl (by apply Cells.get (i := 1); (case h => assumption); rfl)) rfl ?_
          refine Rg.wdB trivial rfl (w_call Tryz.call30 rfl (ih l rl (by omega) hM hl hrl fl frl (by omega))) rfl (fun _ _ h => h.2) ?_
          rintro u w5 ⟨hu, hx5⟩
          replace cl := cl.ext hx5
          replace cr := cr.ext hx5
          replace hrl := hrl.ext hx5
          replace hrr := hrr.ext hx5
          replace hl := hl.ext hx5
          replace hM := hM.ext hx5
          replace hx := hx.ext hx5
          refine Rg.wdB trivial rfl (w_call Tryz.call58 rfl (reb_ok hM hu hrr (RT.cat_full _ _ fl frl) frr (by omega))) rfl (fun _ _ h => h.2) ?_
          rintro v w6 ⟨hv, hx6⟩
          replace cl := cl.ext hx6
          replace cr := cr.ext hx6
          replace hrl := hrl.ext hx6
          replace hrr := hrr.ext hx6
          replace hl := hl.ext hx6
          replace hM := hM.ext hx6
          replace hx := hx.ext hx6
          replace hu := hu.ext hx6
          refine Rg.tm trivial rfl (t_assign rfl) rfl ?_
          refine Rg.done ?_
          refine Wp.ret ?_
          exact ⟨[_], ⟨rfl, trivial⟩, hv, hx⟩
      · rw [RT.cat_node hS hA hC]
        obtain ⟨bl, ol, p1, q1, rfl, ml, cl⟩ := hl.top
        obtain ⟨br, or_, p2, q2, rfl, mr, cr⟩ := hr.top
        rcases (by omega : l.hgt ≠ 0 ∨ (l.hgt = 0 ∧ r.hgt ≠ 0) ∨ (l.hgt = 0 ∧ r.hgt = 0 ∧ 32 < l.len + r.len)) with h | h | h
        all_goals
          refine Cl.enter Tryz.func30 rfl Tryz.ntmps30 rfl rfl ?_
          refine Wp.seq (Wp.region ?_)
          refine Rg.tm trivial rfl (t_assign rfl) rfl ?_
          refine Rg.done ?_
          refine Wp.seq ?_
          refine Wp.block ?_
          refine Wp.seq (Wp.region ?_)
          refine Rg.tm trivial rfl (t_move rfl) rfl ?_
          first | refine Rg.tm trivial rfl (t_peqT pt38 rfl rfl) rfl ?_ | refine Rg.tm trivial rfl (t_peqF pt38 rfl rfl) rfl ?_
          refine Rg.tm trivial rfl (t_assign rfl) rfl ?_
          refine Rg.done ?_
          refine Wp.condF rfl ?_
          refine Wp.seq (Wp.region ?_)
          refine Rg.tm trivial rfl (t_move rfl) rfl ?_
          first | refine Rg.tm trivial rfl (t_peqT pt38 rfl rfl) rfl ?_ | refine Rg.tm trivial rfl (t_peqF pt38 rfl rfl) rfl ?_
          refine Rg.tm trivial rfl (t_assign rfl) rfl ?_
          refine Rg.done ?_
          refine Wp.condF rfl ?_
          refine Wp.seq (Wp.draw [0, 1, 2, 3, 4, 5, 6, 7, 8, 9, 10, 11, 12, 13, 14, 15, 16, 17, 18, 19, 20, 21, 22, 23, 24] [] mixed (by kernel_rfl) (by kernel_rfl) ?_)
          intro w1 hx1 _
          replace cl := cl.ext hx1
          replace cr := cr.ext hx1
          replace hl := hl.ext hx1
          replace hr := hr.ext hx1
          replace hM := hM.ext hx1
          replace hx := hx.ext hx1
          refine Rg.tm trivial rfl (t_move rfl) rfl ?_
          refine Rg.tm trivial rfl (t_nilCheck rfl) rfl ?_
          refine Rg.tm trivial rfl (t_fieldAddr fa126_4 rfl) rfl ?_
          refine Rg.tm trivial rfl (t_load ty3 rfl (by apply Cells.get (i := 4); (case h => assumption); rfl)) rfl ?_
          first | refine Rg.tm trivial rfl (t_eqlT rfl rfl (by omega)) rfl ?_ | refine Rg.tm trivial rfl (t_eqlF rfl rfl (by omega)) rfl ?_ | refine Rg.tm trivial rfl (t_eql rfl rfl) rfl ?_
          refine Rg.tm trivial rfl (t_move rfl) rfl ?_
          first | refine Rg.tm ⟨_, rfl, rfl⟩ rfl (t_move rfl) rfl ?_ | refine Rg.sk (.inl ⟨_, _, rfl, rfl, rfl⟩) rfl ?_ | refine Rg.sk (.inr ⟨_, rfl, rfl⟩) rfl ?_
          first | refine Rg.tm ⟨_, rfl, rfl⟩ rfl (t_nilCheck rfl) rfl ?_ | refine Rg.sk (.inl ⟨_, _, rfl, rfl, rfl⟩) rfl ?_ | refine Rg.sk (.inr ⟨_, rfl, rfl⟩) rfl ?_
          first | refine Rg.tm ⟨_, rfl, rfl⟩ rfl (t_fieldAddr fa126_4 rfl) rfl ?_ | refine Rg.sk (.inl ⟨_, _, rfl, rfl, rfl⟩) rfl ?_ | refine Rg.sk (.inr ⟨_, rfl, rfl⟩) rfl ?_
          first | refine Rg.tm ⟨_, rfl, rfl⟩ rfl (t_load ty3 rfl (by apply Cells.get (i := 4); (case h => assumption); rfl)) rfl ?_ | refine Rg.sk (.inl ⟨_, _, rfl, rfl, rfl⟩) rfl ?_ | refine Rg.sk (.inr ⟨_, rfl, rfl⟩) rfl ?_
          first | refine Rg.tm ⟨_, rfl, rfl⟩ rfl (t_eqlT rfl rfl (by omega)) rfl ?_ | refine Rg.tm ⟨_, rfl, rfl⟩ rfl (t_eqlF rfl rfl (by omega)) rfl ?_ | refine Rg.tm ⟨_, rfl, rfl⟩ rfl (t_eql rfl rfl) rfl ?_ | refine Rg.sk (.inl ⟨_, _, rfl, rfl, rfl⟩) rfl ?_ | refine Rg.sk (.inr ⟨_, rfl, rfl⟩) rfl ?_
          first | refine Rg.tm trivial rfl (t_pickT rfl rfl) rfl ?_ | refine Rg.tm trivial rfl (t_pickF rfl rfl) rfl ?_
          refine Rg.tm trivial rfl (t_move rfl) rfl ?_
          first | refine Rg.tm ⟨_, rfl, rfl⟩ rfl (t_move rfl) rfl ?_ | refine Rg.sk (.inl ⟨_, _, rfl, rfl, rfl⟩) rfl ?_ | refine Rg.sk (.inr ⟨_, rfl, rfl⟩) rfl ?_
          first | refine Rg.tm ⟨_, rfl, rfl⟩ rfl (t_nilCheck rfl) rfl ?_ | refine Rg.sk (.inl ⟨_, _, rfl, rfl, rfl⟩) rfl ?_ | refine Rg.sk (.inr ⟨_, rfl, rfl⟩) rfl ?_
          first | refine Rg.tm ⟨_, rfl, rfl⟩ rfl (t_fieldAddr fa126_3 rfl) rfl ?_ | refine Rg.sk (.inl ⟨_, _, rfl, rfl, rfl⟩) rfl ?_ | refine Rg.sk (.inr ⟨_, rfl, rfl⟩) rfl ?_
          first | refine Rg.tm ⟨_, rfl, rfl⟩ rfl (t_load ty3 rfl (by apply Cells.get (i := 3); (case h => assumption); rfl)) rfl ?_ | refine Rg.sk (.inl ⟨_, _, rfl, rfl, rfl⟩) rfl ?_ | refine Rg.sk (.inr ⟨_, rfl, rfl⟩) rfl ?_
          first | refine Rg.tm ⟨_, rfl, rfl⟩ rfl (t_move rfl) rfl ?_ | refine Rg.sk (.inl ⟨_, _, rfl, rfl, rfl⟩) rfl ?_ | refine Rg.sk (.inr ⟨_, rfl, rfl⟩) rfl ?_
          first | refine Rg.tm ⟨_, rfl, rfl⟩ rfl (t_nilCheck rfl) rfl ?_ | refine Rg.sk (.inl ⟨_, _, rfl, rfl, rfl⟩) rfl ?_ | refine Rg.sk (.inr ⟨_, rfl, rfl⟩) rfl ?_
          first | refine Rg.tm ⟨_, rfl, rfl⟩ rfl (t_fieldAddr fa126_3 rfl) rfl ?_ | refine Rg.sk (.inl ⟨_, _, rfl, rfl, rfl⟩) rfl ?_ | refine Rg.sk (.inr ⟨_, rfl, rfl⟩) rfl ?_
          first | refine Rg.tm ⟨_, rfl, rfl⟩ rfl (t_load ty3 rfl (by apply Cells.get (i := 3); (case h => assumption); rfl)) rfl ?_ | refine Rg.sk (.inl ⟨_, _, rfl, rfl, rfl⟩) rfl ?_ | refine Rg.sk (.inr ⟨_, rfl, rfl⟩) rfl ?_
          first | refine Rg.tm ⟨_, rfl, rfl⟩ rfl (t_addI rfl rfl (by omega)) rfl ?_ | refine Rg.tm ⟨_, rfl, rfl⟩ rfl (t_add rfl rfl) rfl ?_ | refine Rg.sk (.inl ⟨_, _, rfl, rfl, rfl⟩) rfl ?_ | refine Rg.sk (.inr ⟨_, rfl, rfl⟩) rfl ?_
          first | refine Rg.tm ⟨_, rfl, rfl⟩ rfl (t_leqT rfl rfl (by omega)) rfl ?_ | refine Rg.tm ⟨_, rfl, rfl⟩ rfl (t_leqF rfl rfl (by omega)) rfl ?_ | refine Rg.tm ⟨_, rfl, rfl⟩ rfl (t_leq rfl rfl) rfl ?_ | refine Rg.sk (.inl ⟨_, _, rfl, rfl, rfl⟩) rfl ?_ | refine Rg.sk (.inr ⟨_, rfl, rfl⟩) rfl ?_
          first | refine Rg.tm trivial rfl (t_pickT rfl rfl) rfl ?_ | refine Rg.tm trivial rfl (t_pickF rfl rfl) rfl ?_
          refine Rg.tm trivial rfl (t_assign rfl) rfl ?_
          refine Rg.done ?_
          refine Wp.condF rfl ?_
          refine Wp.seq (Wp.draw [0, 1, 2, 3, 4, 5, 6, 7, 8, 9, 10] [] mixed (by kernel_rfl) (by kernel_rfl) ?_)
          intro w2 hx2 _
          replace cl := cl.ext hx2
          replace cr := cr.ext hx2
          replace hl := hl.ext hx2
          replace hr := hr.ext hx2
          replace hM := hM.ext hx2
          replace hx := hx.ext hx2
          refine Rg.tm trivial rfl (t_move rfl) rfl ?_
          refine Rg.tm trivial rfl (t_nilCheck rfl) rfl ?_
          refine Rg.tm trivial rfl (t_fieldAddr fa126_4 rfl) rfl ?_
          refine Rg.tm trivial rfl (t_load ty3 rfl (by apply Cells.get (i := 4); (case h => assumption); rfl)) rfl ?_
          refine Rg.tm trivial rfl (t_move rfl) rfl ?_
          refine Rg.tm trivial rfl (t_nilCheck rfl) rfl ?_
          refine Rg.tm trivial rfl (t_fieldAddr fa126_4 rfl) rfl ?_
          refine Rg.tm trivial rfl (t_load ty3 rfl (by apply Cells.get (i := 4); (case h => assumption); rfl)) rfl ?_
          first | refine Rg.tm trivial rfl (t_addI rfl rfl (by omega)) rfl ?_ | refine Rg.tm trivial rfl (t_add rfl rfl) rfl ?_
          first | refine Rg.tm trivial rfl (t_gtrT rfl rfl (by omega)) rfl ?_ | refine Rg.tm trivial rfl (t_gtrF rfl rfl (by omega)) rfl ?_ | refine Rg.tm trivial rfl (t_gtr rfl rfl) rfl ?_
          refine Rg.tm trivial rfl (t_assign rfl) rfl ?_
          refine Rg.done ?_
          refine Wp.condF rfl ?_
          refine Wp.seq (Wp.draw [0, 1, 2, 3, 4, 5, 6, 7, 8, 9, 10] [] mixed (by kernel_rfl) (by kernel_rfl) ?_)
          intro w3 hx3 _
          replace cl := cl.ext hx3
          replace cr := cr.ext hx3
          replace hl := hl.ext hx3
          replace hr := hr.ext hx3
          replace hM := hM.ext hx3
          replace hx := hx.ext hx3
          refine Rg.tm trivial rfl (t_move rfl) rfl ?_
          refine Rg.tm trivial rfl (t_nilCheck rfl) rfl ?_
          refine Rg.tm trivial rfl (t_fieldAddr fa126_4 rfl) rfl ?_
          refine Rg.tm trivial rfl (t_load ty3 rfl (by apply Cells.get (i := 4); (case h => assumption); rfl)) rfl ?_
          refine Rg.tm trivial rfl (t_move rfl) rfl ?_
          refine Rg.tm trivial rfl (t_nilCheck rfl) rfl ?_
          refine Rg.tm trivial rfl (t_fieldAddr fa126_4 rfl) rfl ?_
          refine Rg.tm trivial rfl (t_load ty3 rfl (by apply Cells.get (i := 4); (case h => assumption); rfl)) rfl ?_
          first | refine Rg.tm trivial rfl (t_addI rfl rfl (by omega)) rfl ?_ | refine Rg.tm trivial rfl (t_add rfl rfl) rfl ?_
          first | refine Rg.tm trivial rfl (t_gtrT rfl rfl (by omega)) rfl ?_ | refine Rg.tm trivial rfl (t_gtrF rfl rfl (by omega)) rfl ?_ | refine Rg.tm trivial rfl (t_gtr rfl rfl) rfl ?_
          refine Rg.tm trivial rfl (t_assign rfl) rfl ?_
          refine Rg.done ?_
          refine Wp.condF rfl ?_
          refine Wp.skip ?_
          refine Wp.seq (Wp.region ?_)
          refine Rg.tm trivial rfl (t_move rfl) rfl ?_
          refine Rg.tm trivial rfl (t_move rfl) rfl ?_
          refine Rg.wd trivial (w_call Tryz.call59 rfl (node_ok hM hl hr fl fr hb)) rfl ?_
          rintro v w4 ⟨hv, hx4⟩
          replace cl := cl.ext hx4
          replace cr := cr.ext hx4
          replace hl := hl.ext hx4
          replace hr := hr.ext hx4
          replace hM := hM.ext hx4
          replace hx := hx.ext hx4
          refine Rg.tm trivial rfl (t_assign rfl) rfl ?_
          refine Rg.done ?_
          refine Wp.ret ?_
          exact ⟨[_], ⟨rfl, trivial⟩, hv, hx⟩
end Go.Proofs.YtbnkncemfadfjaaGreatDoor
