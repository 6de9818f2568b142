/- The walks of package rope, third part: strings.Builder, String, Split, ByteAt. Printed by ropey.py. -/
import Derived.Test.YtbnkncemfadfjaaGreatDoorRx
import Derived.Test.YtbnkncemfadfjaaGreatDoorGs
import Derived.Test.YtbnkncemfadfjaaGreatDoorSh
namespace Go.Proofs.YtbnkncemfadfjaaGreatDoor
set_option linter.unusedVariables false
set_option linter.unusedSimpArgs false
set_option maxRecDepth 20000
open Go.Gx Go.RowKit Go.Lib

theorem lies53 : liesAt Tryz.prog Tryz.prog.depth 83 (2 / Tryz.prog.cellsOf 83) 0 83 1 = true := by kernel_rfl

theorem copyCheck_ok {B b : Nat} {bs : List Value} {w : World} (h : IsBuilder 83 5 B b bs w) :
    Cl Tryz.prog 57 #[.pointer (some ⟨b, 0, none⟩)] w (fun u w' => u = .tuple #[] ∧ BuilderAt 83 5 B b (.pointer (some ⟨b, 0, none⟩)) bs w' ∧ Below B w w') := by
  obtain ⟨j, hj, _, hjs, _⟩ := inf83
  rcases h with h | h
  · have hc : Cells w b 0 [.pointer none] := fun i v hv => by
      match i, hv with
      | 0, hv => simp at hv; subst hv; exact h.cell0
    refine Cl.enter Tryz.func57 rfl Tryz.ntmps57 rfl rfl ?_
    refine Wp.seq (Wp.region ?_)
    refine Rg.tm trivial rfl (t_move rfl) rfl ?_
    refine Rg.tm trivial rfl (t_nilCheck rfl) rfl ?_
    refine Rg.tm trivial rfl (t_fieldAddr fa83_0 rfl) rfl ?_
    refine Rg.tm trivial rfl (t_load ty80 rfl (by apply Cells.get (i := 0); (case h => assumption); rfl)) rfl ?_
    first | refine Rg.tm trivial rfl (t_peqT pt80 rfl rfl) rfl ?_ | refine Rg.tm trivial rfl (t_peqF pt80 rfl rfl) rfl ?_
    refine Rg.done ?_
    refine Wp.condT rfl ?_
    refine Wp.region ?_
    refine Rg.tm trivial rfl (t_move rfl) rfl ?_
    refine Rg.tm trivial rfl (t_move rfl) rfl ?_
    refine Rg.wd trivial (w_toUnsafe Tryz.underlying80 Tryz.underlying151 hj (by rw [hjs]; decide) h.shape (Nat.zero_lt_succ 1) rfl) rfl ?_
    rintro _ _ ⟨rfl, rfl⟩
    refine Rg.wd trivial (w_extern Tryz.func74 (by kernel_rfl) (by kernel_rfl) (by kernel_rfl) (e := Extern.AbiNoEscape.same) (by kernel_rfl) (R := fun u w' => u = .pointer (some ⟨b, 0, none⟩) ∧ w = w') rfl ⟨_, _, Lib.run_noEscape _ _, rfl, rfl⟩) rfl ?_
    rintro _ _ ⟨rfl, rfl⟩
    refine Rg.wd trivial (w_fromUnsafe Tryz.underlying151 Tryz.underlying80 hj h.shape lies53 rfl) rfl ?_
    rintro _ _ ⟨rfl, rfl⟩
    refine Rg.tm trivial rfl (t_nilCheck rfl) rfl ?_
    refine Rg.tm trivial rfl (t_fieldAddr fa83_0 rfl) rfl ?_
    refine Rg.wn trivial (w_set ty80 rfl rfl h.cell0 h.frozen0 rfl rfl) ?_
    rintro _ w2 rfl
    refine Rg.done ?_
    exact ⟨[], trivial, rfl, h.used _, (Below.refl _ _).setCell h.1 _⟩
  · have hc : Cells w b 0 [.pointer (some ⟨b, 0, none⟩)] := fun i v hv => by
      match i, hv with
      | 0, hv => simp at hv; subst hv; exact h.cell0
    refine Cl.enter Tryz.func57 rfl Tryz.ntmps57 rfl rfl ?_
    refine Wp.seq (Wp.region ?_)
    refine Rg.tm trivial rfl (t_move rfl) rfl ?_
    refine Rg.tm trivial rfl (t_nilCheck rfl) rfl ?_
    refine Rg.tm trivial rfl (t_fieldAddr fa83_0 rfl) rfl ?_
    refine Rg.tm trivial rfl (t_load ty80 rfl (by apply Cells.get (i := 0); (case h => assumption); rfl)) rfl ?_
    first | refine Rg.tm trivial rfl (t_peqT pt80 rfl rfl) rfl ?_ | refine Rg.tm trivial rfl (t_peqF pt80 rfl rfl) rfl ?_
    refine Rg.done ?_
    refine Wp.condF rfl ?_
    refine Wp.seq (Wp.region ?_)
    refine Rg.tm trivial rfl (t_move rfl) rfl ?_
    refine Rg.tm trivial rfl (t_nilCheck rfl) rfl ?_
    refine Rg.tm trivial rfl (t_fieldAddr fa83_0 rfl) rfl ?_
    refine Rg.tm trivial rfl (t_load ty80 rfl (by apply Cells.get (i := 0); (case h => assumption); rfl)) rfl ?_
    refine Rg.tm trivial rfl (t_move rfl) rfl ?_
    refine Rg.tm trivial rfl (t_pneSame Tryz.underlying80 hj rfl rfl) rfl ?_
    refine Rg.done ?_
    refine Wp.condF rfl ?_
    refine Wp.skip ?_
    exact ⟨[], trivial, rfl, h, Below.refl _ _⟩

theorem below_own {B : Nat} {w w' : World} {v : Value} {row : List Value} {e size n : Nat} (h : w.ownsRow B e size v n row) (hg : w.grownBy w' v.ownBlock) (hB : B ≤ w.heap.size) : Below B w w' :=
  (Below.refl B w).grown hg hB (fun k hk => (h.lt k hk).1)

theorem writeString_ok {B b : Nat} {bs : List Value} {s : ByteArray} {w : World} (h : IsBuilder 83 5 B b bs w) (hlen : bs.length + s.size ≤ 140737488355328) (hBw : B ≤ w.heap.size) :
    Cl Tryz.prog 28 #[.pointer (some ⟨b, 0, none⟩), .string s] w (fun u w' => u = .tuple #[.int .i64 s.size, .nilIface] ∧ BuilderAt 83 5 B b (.pointer (some ⟨b, 0, none⟩)) (bs ++ strCells s) w' ∧ Below B w w') := by
  obtain ⟨i, hi, hz, hs, hby⟩ := inf5
  refine Cl.enter Tryz.func28 rfl Tryz.ntmps28 rfl rfl ?_
  refine Wp.seq (Wp.region ?_)
  refine Rg.tm trivial rfl (t_assign rfl) rfl ?_
  refine Rg.tm trivial rfl (t_assign rfl) rfl ?_
  refine Rg.done ?_
  refine Wp.seq (Wp.region ?_)
  refine Rg.tm trivial rfl (t_move rfl) rfl ?_
  refine Rg.wd trivial (w_call Tryz.call57 rfl (copyCheck_ok h)) rfl ?_
  rintro _ w1 ⟨rfl, h1, hb1⟩
  obtain ⟨hB, v, hbk, hown, hne⟩ := h1
  have hc : Cells w1 b 0 [.pointer (some ⟨b, 0, none⟩), v] := Var.cells (t := 83) hbk
  have hle := hb1.size
  refine Rg.done ?_
  refine Wp.seq (Wp.region ?_)
  refine Rg.tm trivial rfl (t_move rfl) rfl ?_
  refine Rg.tm trivial rfl (t_move rfl) rfl ?_
  refine Rg.tm trivial rfl (t_nilCheck rfl) rfl ?_
  refine Rg.tm trivial rfl (t_fieldAddr fa83_1 rfl) rfl ?_
  refine Rg.tm trivial rfl (t_load ty81 rfl (by apply Cells.get (i := 1); (case h => assumption); rfl)) rfl ?_
  refine Rg.tm trivial rfl (t_move rfl) rfl ?_
  refine Rg.wd trivial (w_appendStr B Tryz.underlying81 Tryz.underlying9 hi hz hs hby rfl rfl hown hlen (by omega)) rfl ?_
  rintro v2 w2 ⟨hown2, hg, p2, l2, c2, rfl⟩
  have hlt : b < w1.heap.size := hc.lt
  have hbk2 : w2.heap[b]? = some (.cells #[.pointer (some ⟨b, 0, none⟩), v] 83 (0, 0)) := by rw [hg.block b hlt (fun e => hne e.symm)]; exact hbk
  have hle2 := hg.size
  refine Rg.tm trivial rfl (t_nilCheck rfl) rfl ?_
  refine Rg.tm trivial rfl (t_fieldAddr fa83_1 rfl) rfl ?_
  refine Rg.wn trivial (w_set ty81 rfl rfl (cell_of_heap hbk2 1) (frozen_of_heap hbk2 1) rfl rfl) ?_
  rintro _ w3 rfl
  refine Rg.done ?_
  refine Wp.seq (Wp.region ?_)
  refine Rg.tm trivial rfl (t_move rfl) rfl ?_
  refine Rg.tm trivial rfl (t_len Tryz.underlying9 rfl) rfl ?_
  refine Rg.tm trivial rfl (t_assign rfl) rfl ?_
  refine Rg.tm trivial rfl (t_assign rfl) rfl ?_
  refine Rg.done ?_
  refine Wp.ret ?_
  refine ⟨[_, _], ⟨rfl, rfl, trivial⟩, rfl, ?_, ?_⟩
  · exact BuilderAt.put (T := 83) (e := 5) hB hbk2 (bs' := bs ++ strCells s) (by simpa [strCells_length] using hown2) (by decide)
  · exact (hb1.trans (below_own hown hg (by omega))).setCell (p := ⟨b, 1, none⟩) hB _

theorem strCells_add (a b : ByteArray) : strCells (a ++ b) = strCells a ++ strCells b := by simp [strCells]

theorem write_ok : ∀ (t : RT) {M : List Nat} {w0 w : World} {v : Value} {b : Nat} {bs : List Value} (hl : Lies M w0 v t) (hx : Ext w0 w) (h : IsBuilder 83 5 w0.heap.size b bs w) (hlen : bs.length + t.len ≤ 140737488355328),
    Cl Tryz.prog 34 #[v, .pointer (some ⟨b, 0, none⟩)] w (fun u w' => u = .tuple #[] ∧ IsBuilder 83 5 w0.heap.size b (bs ++ strCells t.val) w' ∧ Ext w0 w') := by
  intro t
  induction t with
  | leaf s =>
    intro M w0 w v b bs hl hx h hlen
    obtain ⟨c, o, p1, q1, rfl, m, c0⟩ := hl.top
    have c1 := c0.ext hx
    have e1 : (RT.leaf s).hgt = 0 := rfl
    refine Cl.enter Tryz.func34 rfl Tryz.ntmps34 rfl rfl ?_
    refine Wp.seq ?_
    refine Wp.seq (Wp.region ?_)
    refine Rg.tm trivial rfl (t_move rfl) rfl ?_
    refine Rg.tm trivial rfl (t_nilCheck rfl) rfl ?_
    refine Rg.tm trivial rfl (t_fieldAddr fa126_4 rfl) rfl ?_
    refine Rg.tm trivial rfl (t_load ty3 rfl (by apply Cells.get (i := 4); (case h => assumption); rfl)) rfl ?_
    first | refine Rg.tm trivial rfl (t_eqlT rfl rfl (by omega)) rfl ?_ | refine Rg.tm trivial rfl (t_eqlF rfl rfl (by omega)) rfl ?_ | refine Rg.tm trivial rfl (t_eql rfl rfl) rfl ?_
    refine Rg.done ?_
    refine Wp.condT rfl ?_
    refine Wp.seq (Wp.region ?_)
    refine Rg.tm trivial rfl (t_move rfl) rfl ?_
    refine Rg.tm trivial rfl (t_move rfl) rfl ?_
    refine Rg.tm trivial rfl (t_nilCheck rfl) rfl ?_
    refine Rg.tm trivial rfl (t_fieldAddr fa126_2 rfl) rfl ?_
    refine Rg.tm trivial rfl (t_load ty9 rfl (by apply Cells.get (i := 2); (case h => assumption); rfl)) rfl ?_
    refine Rg.wd trivial (w_call Tryz.call28 rfl (writeString_ok h hlen hx.le)) rfl ?_
    rintro _ w1 ⟨rfl, h1, hb1⟩
    refine Rg.done ?_
    refine Wp.ret ?_
    exact ⟨[], trivial, rfl, .inr h1, Below.trans hx hb1⟩
  | node l r ihl ihr =>
    intro M w0 w v b bs hl hx h hlen
    obtain ⟨c, o, pl, pr, rfl, m, c0, hll, hlr⟩ := hl
    have c1 := c0.ext hx
    have e1 : (RT.node l r).hgt ≠ 0 := by simp [RT.hgt]
    have e2 : (RT.node l r).len = l.len + r.len := rfl
    refine Cl.enter Tryz.func34 rfl Tryz.ntmps34 rfl rfl ?_
    refine Wp.seq ?_
    refine Wp.seq (Wp.region ?_)
    refine Rg.tm trivial rfl (t_move rfl) rfl ?_
    refine Rg.tm trivial rfl (t_nilCheck rfl) rfl ?_
    refine Rg.tm trivial rfl (t_fieldAddr fa126_4 rfl) rfl ?_
    refine Rg.tm trivial rfl (t_load ty3 rfl (by apply Cells.get (i := 4); (case h => assumption); rfl)) rfl ?_
    first | refine Rg.tm trivial rfl (t_eqlT rfl rfl (by omega)) rfl ?_ | refine Rg.tm trivial rfl (t_eqlF rfl rfl (by omega)) rfl ?_ | refine Rg.tm trivial rfl (t_eql rfl rfl) rfl ?_
    refine Rg.done ?_
    refine Wp.condF rfl ?_
    refine Wp.skip ?_
    refine Wp.seq (Wp.region ?_)
    refine Rg.tm trivial rfl (t_move rfl) rfl ?_
    refine Rg.tm trivial rfl (t_nilCheck rfl) rfl ?_
    refine Rg.tm trivial rfl (t_fieldAddr fa126_0 rfl) rfl ?_
    refine Rg.tm trivial rfl (t_load ty38 rfl (by apply Cells.get (i := 0); (case h => assumption); rfl)) rfl ?_
    refine Rg.tm trivial rfl (t_move rfl) rfl ?_
    refine Rg.wd trivial (w_call Tryz.call34 rfl (ihl hll hx h (by omega))) rfl ?_
    rintro _ w1 ⟨rfl, h1, hx1⟩
    clear c1
    have c1 := c0.ext hx1
    refine Rg.done ?_
    refine Wp.region ?_
    refine Rg.tm trivial rfl (t_move rfl) rfl ?_
    refine Rg.tm trivial rfl (t_nilCheck rfl) rfl ?_
    refine Rg.tm trivial rfl (t_fieldAddr fa126_1 rfl) rfl ?_
    refine Rg.tm trivial rfl (t_load ty38 rfl (by apply Cells.get (i := 1); (case h => assumption); rfl)) rfl ?_
    refine Rg.tm trivial rfl (t_move rfl) rfl ?_
    refine Rg.wd trivial (w_call Tryz.call34 rfl (ihr hlr hx1 h1 (by rw [List.length_append, strCells_length, ← RT.len_val]; omega))) rfl ?_
    rintro _ w2 ⟨rfl, h2, hx2⟩
    refine Rg.done ?_
    refine ⟨[], trivial, rfl, ?_, hx2⟩
    rw [List.append_assoc, ← strCells_add] at h2
    exact h2

theorem string_ok {M : List Nat} {w : World} {v : Value} {t : Option RT} (hl : RopeV M w v t) (hb : RT.lenO t ≤ 140737488355328) :
    Cl Tryz.prog 12 #[v] w (fun u w' => u = .string (RT.valO t) ∧ Ext w w') := by
  obtain ⟨p, rfl, hl⟩ := hl
  have hx := Ext.refl w
  cases t with
  | none =>
    obtain ⟨⟩ := hl
    refine Cl.enter Tryz.func12 rfl Tryz.ntmps12 rfl rfl ?_
    refine Wp.seq (Wp.region ?_)
    refine Rg.wd trivial (w_boxed rfl rfl) rfl ?_
    rintro _ w1 ⟨b1, rfl, qb1, hx1, hv⟩
    replace hx := hx.ext hx1
    have hc := hv.cells
    refine Rg.tm trivial rfl (t_assign rfl) rfl ?_
    refine Rg.done ?_
    refine Wp.seq (Wp.region ?_)
    refine Rg.wd trivial (w_new Tryz.zeroValue83 rfl) rfl ?_
    rintro _ w2 ⟨b2, rfl, qb2, hx2, hv2⟩
    replace hx := hx.ext hx2
    replace hv := hv.ext hx2
    replace hc := hc.ext hx2
    have hle := hx1.le
    have hb2 : IsBuilder 83 5 w.heap.size b2 [] w2 := .inl ⟨by omega, _, hv2, ⟨rfl, .inl ⟨rfl, rfl⟩⟩, by simp [Value.ownBlock]⟩
    refine Rg.done ?_
    refine Wp.seq ?_
    refine Wp.seq (Wp.region ?_)
    refine Rg.tm trivial rfl (t_fieldAddr fa40_0 rfl) rfl ?_
    refine Rg.tm trivial rfl (t_load ty38 rfl (by apply Cells.get (i := 0); (case h => assumption); rfl)) rfl ?_
    first | refine Rg.tm trivial rfl (t_pneT pt38 rfl rfl) rfl ?_ | refine Rg.tm trivial rfl (t_pneF pt38 rfl rfl) rfl ?_
    refine Rg.done ?_
    refine Wp.condF rfl ?_
    refine Wp.skip ?_
    refine Wp.seq (Wp.region ?_)
    refine Rg.wd trivial (w_call Tryz.call29 rfl (Cl.of (Tryz.Builder_String_any w.heap.size b2 [] w2 hb2 hx.le))) rfl ?_
    rintro _ w3 ⟨rfl, hb3⟩
    refine Rg.tm trivial rfl (t_assign rfl) rfl ?_
    refine Rg.done ?_
    refine Wp.ret ?_
    exact ⟨[_], ⟨rfl, trivial⟩, rfl, Below.trans hx hb3⟩
  | some t =>
    obtain ⟨c, o, p1, q1, ⟨⟩, m, cl⟩ := Lies.top hl
    refine Cl.enter Tryz.func12 rfl Tryz.ntmps12 rfl rfl ?_
    refine Wp.seq (Wp.region ?_)
    refine Rg.wd trivial (w_boxed rfl rfl) rfl ?_
    rintro _ w1 ⟨b1, rfl, qb1, hx1, hv⟩
    replace hx := hx.ext hx1
    have hc := hv.cells
    refine Rg.tm trivial rfl (t_assign rfl) rfl ?_
    refine Rg.done ?_
    refine Wp.seq (Wp.region ?_)
    refine Rg.wd trivial (w_new Tryz.zeroValue83 rfl) rfl ?_
    rintro _ w2 ⟨b2, rfl, qb2, hx2, hv2⟩
    replace hx := hx.ext hx2
    replace hv := hv.ext hx2
    replace hc := hc.ext hx2
    have hle := hx1.le
    have hb2 : IsBuilder 83 5 w.heap.size b2 [] w2 := .inl ⟨by omega, _, hv2, ⟨rfl, .inl ⟨rfl, rfl⟩⟩, by simp [Value.ownBlock]⟩
    refine Rg.done ?_
    refine Wp.seq ?_
    refine Wp.seq (Wp.region ?_)
    refine Rg.tm trivial rfl (t_fieldAddr fa40_0 rfl) rfl ?_
    refine Rg.tm trivial rfl (t_load ty38 rfl (by apply Cells.get (i := 0); (case h => assumption); rfl)) rfl ?_
    first | refine Rg.tm trivial rfl (t_pneT pt38 rfl rfl) rfl ?_ | refine Rg.tm trivial rfl (t_pneF pt38 rfl rfl) rfl ?_
    refine Rg.done ?_
    refine Wp.condT rfl ?_
    refine Wp.region ?_
    refine Rg.tm trivial rfl (t_fieldAddr fa40_0 rfl) rfl ?_
    refine Rg.tm trivial rfl (t_load ty38 rfl (by apply Cells.get (i := 0); (case h => assumption); rfl)) rfl ?_
    refine Rg.wd trivial (w_call Tryz.call34 rfl (write_ok t hl hx hb2 (by simpa [RT.lenO] using hb))) rfl ?_
    rintro _ w3 ⟨rfl, hb3, hx3⟩
    rw [List.nil_append, strCells_eq] at hb3
    refine Rg.done ?_
    refine Wp.seq (Wp.region ?_)
    refine Rg.wd trivial (w_call Tryz.call29 rfl (Cl.of (Tryz.Builder_String_any w.heap.size b2 t.val.data.toList w3 hb3 hx3.le))) rfl ?_
    rintro _ w4 ⟨rfl, hb4⟩
    refine Rg.tm trivial rfl (t_assign rfl) rfl ?_
    refine Rg.done ?_
    refine Wp.ret ?_
    exact ⟨[_], ⟨rfl, trivial⟩, by simp [RT.valO, tup], Below.trans hx3 hb4⟩

def RT.splitO : Option RT → Nat → Option RT × Option RT
  | none, _ => (none, none)
  | some t, i => RT.split t i
theorem RT.good_splitO (t : Option RT) (i : Nat) (h : RT.Good t) : RT.Good (RT.splitO t i).1 ∧ RT.Good (RT.splitO t i).2 := by
  cases t with
  | none => exact ⟨trivial, trivial⟩
  | some t => exact RT.good_split t i h.1 h.2
theorem RT.val_splitO (t : Option RT) (i : Nat) : RT.valO (RT.splitO t i).1 = (RT.valO t).extract 0 i ∧ RT.valO (RT.splitO t i).2 = (RT.valO t).extract i (RT.valO t).size := by
  cases t with
  | none =>
    have h : ∀ a b : Nat, (⟨#[]⟩ : ByteArray).extract a b = ⟨#[]⟩ := fun a b => RT.extract_none (Nat.zero_le _)
    exact ⟨(h _ _).symm, (h _ _).symm⟩
  | some t => exact RT.val_split t i

theorem splitO_ok {M : List Nat} {w : World} {t : Option RT} {v : Value} {i : Int} (hM : In M w) (hl : LiesO M w v t) (g : RT.Good t) (hb : RT.lenO t < 4611686018427387904) (hi : -4611686018427387904 < i ∧ i < 4611686018427387904) :
    Cl Tryz.prog 32 #[v, .int .i64 i] w (fun u w' => SplitR M (RT.splitO t i.toNat).1 (RT.splitO t i.toNat).2 u w' ∧ Ext w w') := by
  cases t with
  | some t => exact split_ok t hM hl g.1 g.2 hb hi
  | none =>
    obtain rfl := hl
    refine Cl.enter Tryz.func32 rfl Tryz.ntmps32 rfl rfl ?_
    refine Wp.seq (Wp.region ?_)
    refine Rg.tm trivial rfl (t_assign rfl) rfl ?_
    refine Rg.tm trivial rfl (t_assign rfl) rfl ?_
    refine Rg.done ?_
    refine Wp.seq ?_
    refine Wp.block ?_
    refine Wp.seq (Wp.region ?_)
    refine Rg.tm trivial rfl (t_move rfl) rfl ?_
    first | refine Rg.tm trivial rfl (t_peqT pt38 rfl rfl) rfl ?_ | refine Rg.tm trivial rfl (t_peqF pt38 rfl rfl) rfl ?_
    refine Rg.tm trivial rfl (t_move rfl) rfl ?_
    first | refine Rg.tm ⟨_, rfl, rfl⟩ rfl (t_move rfl) rfl ?_ | refine Rg.sk (.inl ⟨_, _, rfl, rfl, rfl⟩) rfl ?_ | refine Rg.sk (.inr ⟨_, rfl, rfl⟩) rfl ?_
    first | refine Rg.tm ⟨_, rfl, rfl⟩ rfl (t_leqT rfl rfl (by omega)) rfl ?_ | refine Rg.tm ⟨_, rfl, rfl⟩ rfl (t_leqF rfl rfl (by omega)) rfl ?_ | refine Rg.tm ⟨_, rfl, rfl⟩ rfl (t_leq rfl rfl) rfl ?_ | refine Rg.sk (.inl ⟨_, _, rfl, rfl, rfl⟩) rfl ?_ | refine Rg.sk (.inr ⟨_, rfl, rfl⟩) rfl ?_
    first | refine Rg.tm trivial rfl (t_pickT rfl rfl) rfl ?_ | refine Rg.tm trivial rfl (t_pickF rfl rfl) rfl ?_
    refine Rg.tm trivial rfl (t_assign rfl) rfl ?_
    refine Rg.done ?_
    refine Wp.condT rfl ?_
    refine Wp.seq (Wp.region ?_)
    refine Rg.tm trivial rfl (t_move rfl) rfl ?_
    refine Rg.tm trivial rfl (t_assign rfl) rfl ?_
    refine Rg.tm trivial rfl (t_assign rfl) rfl ?_
    refine Rg.done ?_
    refine Wp.ret ?_
    exact ⟨[_, _], ⟨rfl, rfl, trivial⟩, ⟨_, _, rfl, rfl, rfl⟩, Ext.refl _⟩
end Go.Proofs.YtbnkncemfadfjaaGreatDoor
