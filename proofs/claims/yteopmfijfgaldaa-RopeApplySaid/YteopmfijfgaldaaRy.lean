/- The walks of package rope, third part: strings.Builder, String, Split, ByteAt. Printed by ropey.py. -/
import Derived.Test.YteopmfijfgaldaaRx
import Derived.Test.YteopmfijfgaldaaGs
import Derived.Test.YteopmfijfgaldaaSh
namespace Go.Proofs.Yteopmfijfgaldaa
set_option linter.unusedVariables false
set_option linter.unusedSimpArgs false
open Go.Gx Go.RowKit Go.Lib

theorem lies53 : liesAt Try.prog Try.prog.depth 53 (2 / Try.prog.cellsOf 53) 0 53 1 = true := by kernel_rfl

theorem copyCheck_ok {B b : Nat} {bs : List Value} {w : World} (h : IsBuilder 53 5 B b bs w) :
    Cl Try.prog 30 #[.pointer (some ⟨b, 0, none⟩)] w (fun u w' => u = .tuple #[] ∧ BuilderAt 53 5 B b (.pointer (some ⟨b, 0, none⟩)) bs w' ∧ Below B w w') := by
  obtain ⟨j, hj, _, hjs, _⟩ := inf53
  rcases h with h | h
  · have hc : Cells w b 0 [.pointer none] := fun i v hv => by
      match i, hv with
      | 0, hv => simp at hv; subst hv; exact h.cell0
    refine Cl.enter Try.func30 rfl Try.ntmps30 rfl rfl ?_
    refine Wp.seq (Wp.region ?_)
    refine Rg.tm trivial rfl (t_move rfl) rfl ?_
    refine Rg.tm trivial rfl (t_nilCheck rfl) rfl ?_
    refine Rg.tm trivial rfl (t_fieldAddr fa53_0 rfl) rfl ?_
    refine Rg.tm trivial rfl (t_load ty50 rfl (by apply Cells.get (i := 0); (case h => assumption); rfl)) rfl ?_
    first | refine Rg.tm trivial rfl (t_peqT pt50 rfl rfl) rfl ?_ | refine Rg.tm trivial rfl (t_peqF pt50 rfl rfl) rfl ?_
    refine Rg.done ?_
    refine Wp.condT rfl ?_
    refine Wp.region ?_
    refine Rg.tm trivial rfl (t_move rfl) rfl ?_
    refine Rg.tm trivial rfl (t_move rfl) rfl ?_
    refine Rg.wd trivial (w_toUnsafe Try.underlying50 Try.underlying71 hj (by rw [hjs]; decide) h.shape (Nat.zero_lt_succ 1) rfl) rfl ?_
    rintro _ _ ⟨rfl, rfl⟩
    refine Rg.wd trivial (w_extern Try.func31 (by kernel_rfl) (by kernel_rfl) (by kernel_rfl) (e := Extern.AbiNoEscape.same) (by kernel_rfl) (R := fun u w' => u = .pointer (some ⟨b, 0, none⟩) ∧ w = w') rfl ⟨_, _, Lib.run_noEscape _ _, rfl, rfl⟩) rfl ?_
    rintro _ _ ⟨rfl, rfl⟩
    refine Rg.wd trivial (w_fromUnsafe Try.underlying71 Try.underlying50 hj h.shape lies53 rfl) rfl ?_
    rintro _ _ ⟨rfl, rfl⟩
    refine Rg.tm trivial rfl (t_nilCheck rfl) rfl ?_
    refine Rg.tm trivial rfl (t_fieldAddr fa53_0 rfl) rfl ?_
    refine Rg.wn trivial (w_set ty50 rfl rfl h.cell0 h.frozen0 rfl rfl) ?_
    rintro _ w2 rfl
    refine Rg.done ?_
    exact ⟨[], trivial, rfl, h.used _, (Below.refl _ _).setCell h.1 _⟩
  · have hc : Cells w b 0 [.pointer (some ⟨b, 0, none⟩)] := fun i v hv => by
      match i, hv with
      | 0, hv => simp at hv; subst hv; exact h.cell0
    refine Cl.enter Try.func30 rfl Try.ntmps30 rfl rfl ?_
    refine Wp.seq (Wp.region ?_)
    refine Rg.tm trivial rfl (t_move rfl) rfl ?_
    refine Rg.tm trivial rfl (t_nilCheck rfl) rfl ?_
    refine Rg.tm trivial rfl (t_fieldAddr fa53_0 rfl) rfl ?_
    refine Rg.tm trivial rfl (t_load ty50 rfl (by apply Cells.get (i := 0); (case h => assumption); rfl)) rfl ?_
    first | refine Rg.tm trivial rfl (t_peqT pt50 rfl rfl) rfl ?_ | refine Rg.tm trivial rfl (t_peqF pt50 rfl rfl) rfl ?_
    refine Rg.done ?_
    refine Wp.condF rfl ?_
    refine Wp.seq (Wp.region ?_)
    refine Rg.tm trivial rfl (t_move rfl) rfl ?_
    refine Rg.tm trivial rfl (t_nilCheck rfl) rfl ?_
    refine Rg.tm trivial rfl (t_fieldAddr fa53_0 rfl) rfl ?_
    refine Rg.tm trivial rfl (t_load ty50 rfl (by apply Cells.get (i := 0); (case h => assumption); rfl)) rfl ?_
    refine Rg.tm trivial rfl (t_move rfl) rfl ?_
    refine Rg.tm trivial rfl (t_pneSame Try.underlying50 hj rfl rfl) rfl ?_
    refine Rg.done ?_
    refine Wp.condF rfl ?_
    refine Wp.skip ?_
    exact ⟨[], trivial, rfl, h, Below.refl _ _⟩

theorem below_own {B : Nat} {w w' : World} {v : Value} {row : List Value} {e size n : Nat} (h : w.ownsRow B e size v n row) (hg : w.grownBy w' v.ownBlock) (hB : B ≤ w.heap.size) : Below B w w' :=
  (Below.refl B w).grown hg hB (fun k hk => (h.lt k hk).1)

theorem writeString_ok {B b : Nat} {bs : List Value} {s : ByteArray} {w : World} (h : IsBuilder 53 5 B b bs w) (hlen : bs.length + s.size ≤ 140737488355328) (hBw : B ≤ w.heap.size) :
    Cl Try.prog 27 #[.pointer (some ⟨b, 0, none⟩), .string s] w (fun u w' => u = .tuple #[.int .i64 s.size, .nilIface] ∧ BuilderAt 53 5 B b (.pointer (some ⟨b, 0, none⟩)) (bs ++ strCells s) w' ∧ Below B w w') := by
  obtain ⟨i, hi, hz, hs, hby⟩ := inf5
  refine Cl.enter Try.func27 rfl Try.ntmps27 rfl rfl ?_
  refine Wp.seq (Wp.region ?_)
  refine Rg.tm trivial rfl (t_assign rfl) rfl ?_
  refine Rg.tm trivial rfl (t_assign rfl) rfl ?_
  refine Rg.done ?_
  refine Wp.seq (Wp.region ?_)
  refine Rg.tm trivial rfl (t_move rfl) rfl ?_
  refine Rg.wd trivial (w_call Try.call30 rfl (copyCheck_ok h)) rfl ?_
  rintro _ w1 ⟨rfl, h1, hb1⟩
  obtain ⟨hB, v, hbk, hown, hne⟩ := h1
  have hc : Cells w1 b 0 [.pointer (some ⟨b, 0, none⟩), v] := Var.cells (t := 53) hbk
  have hle := hb1.size
  refine Rg.done ?_
  refine Wp.seq (Wp.region ?_)
  refine Rg.tm trivial rfl (t_move rfl) rfl ?_
  refine Rg.tm trivial rfl (t_move rfl) rfl ?_
  refine Rg.tm trivial rfl (t_nilCheck rfl) rfl ?_
  refine Rg.tm trivial rfl (t_fieldAddr fa53_1 rfl) rfl ?_
  refine Rg.tm trivial rfl (t_load ty51 rfl (by apply Cells.get (i := 1); (case h => assumption); rfl)) rfl ?_
  refine Rg.tm trivial rfl (t_move rfl) rfl ?_
  refine Rg.wd trivial (w_appendStr B Try.underlying51 Try.underlying9 hi hz hs hby rfl rfl hown hlen (by omega)) rfl ?_
  rintro v2 w2 ⟨hown2, hg, p2, l2, c2, rfl⟩
  have hlt : b < w1.heap.size := hc.lt
  have hbk2 : w2.heap[b]? = some (.cells #[.pointer (some ⟨b, 0, none⟩), v] 53 (0, 0)) := by rw [hg.block b hlt (fun e => hne e.symm)]; exact hbk
  have hle2 := hg.size
  refine Rg.tm trivial rfl (t_nilCheck rfl) rfl ?_
  refine Rg.tm trivial rfl (t_fieldAddr fa53_1 rfl) rfl ?_
  refine Rg.wn trivial (w_set ty51 rfl rfl (cell_of_heap hbk2 1) (frozen_of_heap hbk2 1) rfl rfl) ?_
  rintro _ w3 rfl
  refine Rg.done ?_
  refine Wp.seq (Wp.region ?_)
  refine Rg.tm trivial rfl (t_move rfl) rfl ?_
  refine Rg.tm trivial rfl (t_len Try.underlying9 rfl) rfl ?_
  refine Rg.tm trivial rfl (t_assign rfl) rfl ?_
  refine Rg.tm trivial rfl (t_assign rfl) rfl ?_
  refine Rg.done ?_
  refine Wp.ret ?_
  refine ⟨[_, _], ⟨rfl, rfl, trivial⟩, rfl, ?_, ?_⟩
  · exact BuilderAt.put (T := 53) (e := 5) hB hbk2 (bs' := bs ++ strCells s) (by simpa [strCells_length] using hown2) (by decide)
  · exact (hb1.trans (below_own hown hg (by omega))).setCell (p := ⟨b, 1, none⟩) hB _

theorem strCells_add (a b : ByteArray) : strCells (a ++ b) = strCells a ++ strCells b := by simp [strCells]

theorem write_ok : ∀ (t : RT) {M : List Nat} {w0 w : World} {v : Value} {b : Nat} {bs : List Value} (hl : Lies M w0 v t) (hx : Ext w0 w) (h : IsBuilder 53 5 w0.heap.size b bs w) (hlen : bs.length + t.len ≤ 140737488355328),
    Cl Try.prog 20 #[v, .pointer (some ⟨b, 0, none⟩)] w (fun u w' => u = .tuple #[] ∧ IsBuilder 53 5 w0.heap.size b (bs ++ strCells t.val) w' ∧ Ext w0 w') := by
  intro t
  induction t with
  | leaf s =>
    intro M w0 w v b bs hl hx h hlen
    obtain ⟨c, o, p1, q1, rfl, m, c0⟩ := hl.top
    have c1 := c0.ext hx
    have e1 : (RT.leaf s).hgt = 0 := rfl
    refine Cl.enter Try.func20 rfl Try.ntmps20 rfl rfl ?_
    refine Wp.seq ?_
    refine Wp.seq (Wp.region ?_)
    refine Rg.tm trivial rfl (t_move rfl) rfl ?_
    refine Rg.tm trivial rfl (t_nilCheck rfl) rfl ?_
    refine Rg.tm trivial rfl (t_fieldAddr fa56_4 rfl) rfl ?_
    refine Rg.tm trivial rfl (t_load ty3 rfl (by apply Cells.get (i := 4); (case h => assumption); rfl)) rfl ?_
    first | refine Rg.tm trivial rfl (t_eqlT rfl rfl (by omega)) rfl ?_ | refine Rg.tm trivial rfl (t_eqlF rfl rfl (by omega)) rfl ?_ | refine Rg.tm trivial rfl (t_eql rfl rfl) rfl ?_
    refine Rg.done ?_
    refine Wp.condT rfl ?_
    refine Wp.seq (Wp.region ?_)
    refine Rg.tm trivial rfl (t_move rfl) rfl ?_
    refine Rg.tm trivial rfl (t_move rfl) rfl ?_
    refine Rg.tm trivial rfl (t_nilCheck rfl) rfl ?_
    refine Rg.tm trivial rfl (t_fieldAddr fa56_2 rfl) rfl ?_
    refine Rg.tm trivial rfl (t_load ty9 rfl (by apply Cells.get (i := 2); (case h => assumption); rfl)) rfl ?_
    refine Rg.wd trivial (w_call Try.call27 rfl (writeString_ok h hlen hx.le)) rfl ?_
    rintro _ w1 ⟨rfl, h1, hb1⟩
    refine Rg.done ?_
    refine Wp.ret ?_
    exact ⟨[], trivial, rfl, .inr h1, Below.trans hx hb1⟩
  | node l r ihl ihr =>
    intro M w0 w v b bs hl hx h hlen
    obtain ⟨c, o, pl, pr, rfl, m, c0, hll, hlr⟩ := hl
    have c1 := c0.ext hx
    have e1 : (RT.node l r).hgt ≠ 0 := by simp [RT.hgt]
    have e2 : (RT.node l r).len = l.len + r.len := rfl
    refine Cl.enter Try.func20 rfl Try.ntmps20 rfl rfl ?_
    refine Wp.seq ?_
    refine Wp.seq (Wp.region ?_)
    refine Rg.tm trivial rfl (t_move rfl) rfl ?_
    refine Rg.tm trivial rfl (t_nilCheck rfl) rfl ?_
    refine Rg.tm trivial rfl (t_fieldAddr fa56_4 rfl) rfl ?_
    refine Rg.tm trivial rfl (t_load ty3 rfl (by apply Cells.get (i := 4); (case h => assumption); rfl)) rfl ?_
    first | refine Rg.tm trivial rfl (t_eqlT rfl rfl (by omega)) rfl ?_ | refine Rg.tm trivial rfl (t_eqlF rfl rfl (by omega)) rfl ?_ | refine Rg.tm trivial rfl (t_eql rfl rfl) rfl ?_
    refine Rg.done ?_
    refine Wp.condF rfl ?_
    refine Wp.skip ?_
    refine Wp.seq (Wp.region ?_)
    refine Rg.tm trivial rfl (t_move rfl) rfl ?_
    refine Rg.tm trivial rfl (t_nilCheck rfl) rfl ?_
    refine Rg.tm trivial rfl (t_fieldAddr fa56_0 rfl) rfl ?_
    refine Rg.tm trivial rfl (t_load ty25 rfl (by apply Cells.get (i := 0); (case h => assumption); rfl)) rfl ?_
    refine Rg.tm trivial rfl (t_move rfl) rfl ?_
    refine Rg.wd trivial (w_call Try.call20 rfl (ihl hll hx h (by omega))) rfl ?_
    rintro _ w1 ⟨rfl, h1, hx1⟩
    clear c1
    have c1 := c0.ext hx1
    refine Rg.done ?_
    refine Wp.region ?_
    refine Rg.tm trivial rfl (t_move rfl) rfl ?_
    refine Rg.tm trivial rfl (t_nilCheck rfl) rfl ?_
    refine Rg.tm trivial rfl (t_fieldAddr fa56_1 rfl) rfl ?_
    refine Rg.tm trivial rfl (t_load ty25 rfl (by apply Cells.get (i := 1); (case h => assumption); rfl)) rfl ?_
    refine Rg.tm trivial rfl (t_move rfl) rfl ?_
    refine Rg.wd trivial (w_call Try.call20 rfl (ihr hlr hx1 h1 (by rw [List.length_append, strCells_length, ← RT.len_val]; omega))) rfl ?_
    rintro _ w2 ⟨rfl, h2, hx2⟩
    refine Rg.done ?_
    refine ⟨[], trivial, rfl, ?_, hx2⟩
    rw [List.append_assoc, ← strCells_add] at h2
    exact h2

theorem string_ok {M : List Nat} {w : World} {v : Value} {t : Option RT} (hl : RopeV M w v t) (hb : RT.lenO t ≤ 140737488355328) :
    Cl Try.prog 10 #[v] w (fun u w' => u = .string (RT.valO t) ∧ Ext w w') := by
  obtain ⟨p, rfl, hl⟩ := hl
  have hx := Ext.refl w
  cases t with
  | none =>
    obtain ⟨⟩ := hl
    refine Cl.enter Try.func10 rfl Try.ntmps10 rfl rfl ?_
    refine Wp.seq (Wp.region ?_)
    refine Rg.wd trivial (w_boxed rfl rfl) rfl ?_
    rintro _ w1 ⟨b1, rfl, qb1, hx1, hv⟩
    replace hx := hx.ext hx1
    have hc := hv.cells
    refine Rg.tm trivial rfl (t_assign rfl) rfl ?_
    refine Rg.done ?_
    refine Wp.seq (Wp.region ?_)
    refine Rg.wd trivial (w_new Try.zeroValue53 rfl) rfl ?_
    rintro _ w2 ⟨b2, rfl, qb2, hx2, hv2⟩
    replace hx := hx.ext hx2
    replace hv := hv.ext hx2
    replace hc := hc.ext hx2
    have hle := hx1.le
    have hb2 : IsBuilder 53 5 w.heap.size b2 [] w2 := .inl ⟨by omega, _, hv2, ⟨rfl, .inl ⟨rfl, rfl⟩⟩, by simp [Value.ownBlock]⟩
    refine Rg.done ?_
    refine Wp.seq ?_
    refine Wp.seq (Wp.region ?_)
    refine Rg.tm trivial rfl (t_fieldAddr fa27_0 rfl) rfl ?_
    refine Rg.tm trivial rfl (t_load ty25 rfl (by apply Cells.get (i := 0); (case h => assumption); rfl)) rfl ?_
    first | refine Rg.tm trivial rfl (t_pneT pt25 rfl rfl) rfl ?_ | refine Rg.tm trivial rfl (t_pneF pt25 rfl rfl) rfl ?_
    refine Rg.done ?_
    refine Wp.condF rfl ?_
    refine Wp.skip ?_
    refine Wp.seq (Wp.region ?_)
    refine Rg.wd trivial (w_call Try.call21 rfl (Cl.of (Try.Builder_String_any w.heap.size b2 [] w2 hb2 hx.le))) rfl ?_
    rintro _ w3 ⟨rfl, hb3⟩
    refine Rg.tm trivial rfl (t_assign rfl) rfl ?_
    refine Rg.done ?_
    refine Wp.ret ?_
    exact ⟨[_], ⟨rfl, trivial⟩, rfl, Below.trans hx hb3⟩
  | some t =>
    obtain ⟨c, o, p1, q1, ⟨⟩, m, cl⟩ := Lies.top hl
    refine Cl.enter Try.func10 rfl Try.ntmps10 rfl rfl ?_
    refine Wp.seq (Wp.region ?_)
    refine Rg.wd trivial (w_boxed rfl rfl) rfl ?_
    rintro _ w1 ⟨b1, rfl, qb1, hx1, hv⟩
    replace hx := hx.ext hx1
    have hc := hv.cells
    refine Rg.tm trivial rfl (t_assign rfl) rfl ?_
    refine Rg.done ?_
    refine Wp.seq (Wp.region ?_)
    refine Rg.wd trivial (w_new Try.zeroValue53 rfl) rfl ?_
    rintro _ w2 ⟨b2, rfl, qb2, hx2, hv2⟩
    replace hx := hx.ext hx2
    replace hv := hv.ext hx2
    replace hc := hc.ext hx2
    have hle := hx1.le
    have hb2 : IsBuilder 53 5 w.heap.size b2 [] w2 := .inl ⟨by omega, _, hv2, ⟨rfl, .inl ⟨rfl, rfl⟩⟩, by simp [Value.ownBlock]⟩
    refine Rg.done ?_
    refine Wp.seq ?_
    refine Wp.seq (Wp.region ?_)
    refine Rg.tm trivial rfl (t_fieldAddr fa27_0 rfl) rfl ?_
    refine Rg.tm trivial rfl (t_load ty25 rfl (by apply Cells.get (i := 0); (case h => assumption); rfl)) rfl ?_
    first | refine Rg.tm trivial rfl (t_pneT pt25 rfl rfl) rfl ?_ | refine Rg.tm trivial rfl (t_pneF pt25 rfl rfl) rfl ?_
    refine Rg.done ?_
    refine Wp.condT rfl ?_
    refine Wp.region ?_
    refine Rg.tm trivial rfl (t_fieldAddr fa27_0 rfl) rfl ?_
    refine Rg.tm trivial rfl (t_load ty25 rfl (by apply Cells.get (i := 0); (case h => assumption); rfl)) rfl ?_
    refine Rg.wd trivial (w_call Try.call20 rfl (write_ok t hl hx hb2 (by simpa [RT.lenO] using hb))) rfl ?_
    rintro _ w3 ⟨rfl, hb3, hx3⟩
    rw [List.nil_append, strCells_eq] at hb3
    refine Rg.done ?_
    refine Wp.seq (Wp.region ?_)
    refine Rg.wd trivial (w_call Try.call21 rfl (Cl.of (Try.Builder_String_any w.heap.size b2 t.val.data.toList w3 hb3 hx3.le))) rfl ?_
    rintro _ w4 ⟨rfl, hb4⟩
    refine Rg.tm trivial rfl (t_assign rfl) rfl ?_
    refine Rg.done ?_
    refine Wp.ret ?_
    exact ⟨[_], ⟨rfl, trivial⟩, by simp [RT.valO, tup], Below.trans hx3 hb4⟩

def RT.splitO : Option RT → Nat → Option RT × Option RT
  | none, _ => (none, none)
  | some t, i => RT.split t i
theorem RT.good_splitO (t : Option RT) (i : Nat) (h : RT.Good t) : RT.Good (RT.splitO t i).1 ∧ RT.Good (RT.splitO t i).2 := by
  cases t with
  | none => exact ⟨trivial, trivial⟩
  | some t => exact RT.good_split t i h.1 h.2
theorem RT.val_splitO (t : Option RT) (i : Nat) : RT.valO (RT.splitO t i).1 = (RT.valO t).extract 0 i ∧ RT.valO (RT.splitO t i).2 = (RT.valO t).extract i (RT.valO t).size := by
  cases t with
  | none =>
    have h : ∀ a b : Nat, (⟨#[]⟩ : ByteArray).extract a b = ⟨#[]⟩ := fun a b => RT.extract_none (Nat.zero_le _)
    exact ⟨(h _ _).symm, (h _ _).symm⟩
  | some t => exact RT.val_split t i

theorem splitO_ok {M : List Nat} {w : World} {t : Option RT} {v : Value} {i : Int} (hM : In M w) (hl : LiesO M w v t) (g : RT.Good t) (hb : RT.lenO t < 4611686018427387904) (hi : -4611686018427387904 < i ∧ i < 4611686018427387904) :
    Cl Try.prog 22 #[v, .int .i64 i] w (fun u w' => SplitR M (RT.splitO t i.toNat).1 (RT.splitO t i.toNat).2 u w' ∧ Ext w w') := by
  cases t with
  | some t => exact split_ok t hM hl g.1 g.2 hb hi
  | none =>
    obtain rfl := hl
    refine Cl.enter Try.func22 rfl Try.ntmps22 rfl rfl ?_
    refine Wp.seq (Wp.region ?_)
    refine Rg.tm trivial rfl (t_assign rfl) rfl ?_
    refine Rg.tm trivial rfl (t_assign rfl) rfl ?_
    refine Rg.done ?_
    refine Wp.seq ?_
    refine Wp.block ?_
    refine Wp.seq (Wp.region ?_)
    refine Rg.tm trivial rfl (t_move rfl) rfl ?_
    first | refine Rg.tm trivial rfl (t_peqT pt25 rfl rfl) rfl ?_ | refine Rg.tm trivial rfl (t_peqF pt25 rfl rfl) rfl ?_
    refine Rg.tm trivial rfl (t_move rfl) rfl ?_
    first | refine Rg.tm ⟨_, rfl, rfl⟩ rfl (t_move rfl) rfl ?_ | refine Rg.sk (.inl ⟨_, _, rfl, rfl, rfl⟩) rfl ?_ | refine Rg.sk (.inr ⟨_, rfl, rfl⟩) rfl ?_
    first | refine Rg.tm ⟨_, rfl, rfl⟩ rfl (t_leqT rfl rfl (by omega)) rfl ?_ | refine Rg.tm ⟨_, rfl, rfl⟩ rfl (t_leqF rfl rfl (by omega)) rfl ?_ | refine Rg.tm ⟨_, rfl, rfl⟩ rfl (t_leq rfl rfl) rfl ?_ | refine Rg.sk (.inl ⟨_, _, rfl, rfl, rfl⟩) rfl ?_ | refine Rg.sk (.inr ⟨_, rfl, rfl⟩) rfl ?_
    first | refine Rg.tm trivial rfl (t_pickT rfl rfl) rfl ?_ | refine Rg.tm trivial rfl (t_pickF rfl rfl) rfl ?_
    refine Rg.tm trivial rfl (t_assign rfl) rfl ?_
    refine Rg.done ?_
    refine Wp.condT rfl ?_
    refine Wp.seq (Wp.region ?_)
    refine Rg.tm trivial rfl (t_move rfl) rfl ?_
    refine Rg.tm trivial rfl (t_assign rfl) rfl ?_
    refine Rg.tm trivial rfl (t_assign rfl) rfl ?_
    refine Rg.done ?_
    refine Wp.ret ?_
    exact ⟨[_, _], ⟨rfl, rfl, trivial⟩, ⟨_, _, rfl, rfl, rfl⟩, Ext.refl _⟩

theorem ropeSplit_ok {M : List Nat} {w : World} {v : Value} {t : Option RT} {i : Int} (hM : In M w) (hl : RopeV M w v t) (g : RT.Good t) (hb : RT.lenO t < 4611686018427387904) (hi : 0 ≤ i ∧ i ≤ RT.lenO t) :
    Cl Try.prog 12 #[v, .int .i64 i] w (fun u w' => (∃ va vb, u = .tuple #[va, vb, .int .i64 0] ∧ RopeV M w' va (RT.splitO t i.toNat).1 ∧ RopeV M w' vb (RT.splitO t i.toNat).2) ∧ Ext w w') := by
  have hr := hl
  obtain ⟨p, rfl, hl⟩ := hl
  have hx := Ext.refl w
  refine Cl.enter Try.func12 rfl Try.ntmps12 rfl rfl ?_
  refine Wp.seq (Wp.region ?_)
  refine Rg.wd trivial (w_boxed rfl rfl) rfl ?_
  rintro _ w1 ⟨b2, rfl, qb2, hx1, hv2⟩
  replace hx := hx.ext hx1
  replace hl := hl.ext hx1
  replace hr := hr.ext hx1
  replace hM := hM.ext hx1
  have hc2 := hv2.cells
  refine Rg.wd trivial (w_new Try.zeroValue27 rfl) rfl ?_
  rintro _ w2 ⟨b4, rfl, qb4, hx2, hv4⟩
  replace hl := hl.fresh (Nat.le_of_eq qb4.symm)
  replace hr := hr.fresh (Nat.le_of_eq qb4.symm)
  replace hx := hx.ext hx2
  replace hl := hl.ext hx2
  replace hr := hr.ext hx2
  replace hM := hM.ext hx2
  replace hv2 := hv2.ext hx2
  replace hc2 := hc2.ext hx2
  replace hM := hM.push hv4.lt
  have hlt4 := hv4.lt
  refine Rg.wd trivial (w_new Try.zeroValue27 rfl) rfl ?_
  rintro _ w3 ⟨b5, rfl, qb5, hx3, hv5⟩
  replace hl := hl.fresh (Nat.le_of_eq qb5.symm)
  replace hr := hr.fresh (Nat.le_of_eq qb5.symm)
  replace hx := hx.ext hx3
  replace hl := hl.ext hx3
  replace hr := hr.ext hx3
  replace hM := hM.ext hx3
  replace hv2 := hv2.ext hx3
  replace hc2 := hc2.ext hx3
  replace hv4 := hv4.ext hx3
  replace hM := hM.push hv5.lt
  have k1 := hx1.le
  have k2 := hx2.le
  have l4 := qb4
  have l5 := qb5
  refine Rg.tm trivial rfl (t_assign rfl) rfl ?_
  refine Rg.done ?_
  refine Wp.seq ?_
  refine Wp.seq (Wp.region ?_)
  refine Rg.tm trivial rfl (t_move rfl) rfl ?_
  first | refine Rg.tm trivial rfl (t_lssT rfl rfl (by omega)) rfl ?_ | refine Rg.tm trivial rfl (t_lssF rfl rfl (by omega)) rfl ?_ | refine Rg.tm trivial rfl (t_lss rfl rfl) rfl ?_
  refine Rg.tm trivial rfl (t_move rfl) rfl ?_
  first | refine Rg.tm ⟨_, rfl, rfl⟩ rfl (t_move rfl) rfl ?_ | refine Rg.sk (.inl ⟨_, _, rfl, rfl, rfl⟩) rfl ?_ | refine Rg.sk (.inr ⟨_, rfl, rfl⟩) rfl ?_
  first | refine Rg.tm ⟨_, rfl, rfl⟩ rfl (t_loadA rfl (by assumption) (by exact ty27)) rfl ?_ | refine Rg.sk (.inl ⟨_, _, rfl, rfl, rfl⟩) rfl ?_ | refine Rg.sk (.inr ⟨_, rfl, rfl⟩) rfl ?_
  refine Rg.wd ⟨_, rfl, rfl⟩ (w_call Try.call11 rfl (len_ok hr)) rfl ?_
  rintro _ w4 ⟨rfl, hx4⟩
  replace hx := hx.ext hx4
  replace hl := hl.ext hx4
  replace hr := hr.ext hx4
  replace hM := hM.ext hx4
  replace hv2 := hv2.ext hx4
  replace hc2 := hc2.ext hx4
  replace hv4 := hv4.ext hx4
  replace hv5 := hv5.ext hx4
  first | refine Rg.tm ⟨_, rfl, rfl⟩ rfl (t_gtrT rfl rfl (by omega)) rfl ?_ | refine Rg.tm ⟨_, rfl, rfl⟩ rfl (t_gtrF rfl rfl (by omega)) rfl ?_ | refine Rg.tm ⟨_, rfl, rfl⟩ rfl (t_gtr rfl rfl) rfl ?_ | refine Rg.sk (.inl ⟨_, _, rfl, rfl, rfl⟩) rfl ?_ | refine Rg.sk (.inr ⟨_, rfl, rfl⟩) rfl ?_
  first | refine Rg.tm trivial rfl (t_pickT rfl rfl) rfl ?_ | refine Rg.tm trivial rfl (t_pickF rfl rfl) rfl ?_
  refine Rg.done ?_
  refine Wp.condF rfl ?_
  refine Wp.skip ?_
  refine Wp.seq (Wp.region ?_)
  refine Rg.tm trivial rfl (t_fieldAddr fa27_0 rfl) rfl ?_
  refine Rg.tm trivial rfl (t_load ty25 rfl (by apply Cells.get (i := 0); (case h => assumption); rfl)) rfl ?_
  refine Rg.tm trivial rfl (t_move rfl) rfl ?_
  refine Rg.wd trivial (w_call Try.call22 rfl (splitO_ok hM hl g hb (by omega))) rfl ?_
  rintro _ w5 ⟨⟨va, vb, rfl, ha, hb2⟩, hx5⟩
  replace hx := hx.ext hx5
  replace hl := hl.ext hx5
  replace hr := hr.ext hx5
  replace hM := hM.ext hx5
  replace hv2 := hv2.ext hx5
  replace hc2 := hc2.ext hx5
  replace hv4 := hv4.ext hx5
  replace hv5 := hv5.ext hx5
  obtain ⟨pa, rfl⟩ := ha.form
  obtain ⟨pb, rfl⟩ := hb2.form
  refine Rg.tm trivial rfl (t_move rfl) rfl ?_
  refine Rg.tm trivial rfl (t_extract rfl rfl) rfl ?_
  refine Rg.tm trivial rfl (t_extract rfl rfl) rfl ?_
  refine Rg.tm trivial rfl (t_assign rfl) rfl ?_
  refine Rg.tm trivial rfl (t_assign rfl) rfl ?_
  refine Rg.done ?_
  refine Wp.seq (Wp.region ?_)
  refine Rg.tm trivial rfl (t_move rfl) rfl ?_
  refine Rg.tm trivial rfl (t_build (bd27_0 _) rfl) rfl ?_
  refine Rg.tm trivial rfl (t_move rfl) rfl ?_
  refine Rg.tm trivial rfl (t_build (bd27_0 _) rfl) rfl ?_
  refine Rg.wn trivial (w_put hv4 rfl rfl rfl ty27 rfl rfl) ?_
  rintro _ w8 ⟨hu8, hv4'⟩
  refine Rg.wn trivial (w_put (hv5.upd hu8 (by omega)) rfl rfl rfl ty27 rfl rfl) ?_
  rintro _ w9 ⟨hu9, hv5'⟩
  refine Rg.tm trivial rfl (t_assign rfl) rfl ?_
  refine Rg.done ?_
  refine Wp.ret ?_
  refine ⟨[_, _, _], ⟨RV.cellA (vs := [_]) ty27 rfl (hv4'.upd hu9 (by omega)).cells, RV.cellA (vs := [_]) ty27 rfl hv5'.cells, rfl, trivial⟩, ⟨_, _, rfl, ⟨_, rfl, ?_⟩, ⟨_, rfl, ?_⟩⟩, (hx.upd hu8 (by omega)).upd hu9 (by omega)⟩
  · exact ((ha.upd hu8 (by simp)).upd hu9 (by simp)).drop.drop
  · exact ((hb2.upd hu8 (by simp)).upd hu9 (by simp)).drop.drop

theorem ropeSplit_no {M : List Nat} {w : World} {v : Value} {t : Option RT} {i : Int} (hM : In M w) (hl : RopeV M w v t) (hb : RT.lenO t < 4611686018427387904) (hi : i < 0 ∨ RT.lenO t < i) :
    Cl Try.prog 12 #[v, .int .i64 i] w (fun u w' => u = .tuple #[.agg #[.pointer none], .agg #[.pointer none], .int .i64 1] ∧ Ext w w') := by
  have hr := hl
  obtain ⟨p, rfl, hl⟩ := hl
  have hx := Ext.refl w
  by_cases h0 : i < 0
  ·
    refine Cl.enter Try.func12 rfl Try.ntmps12 rfl rfl ?_
    refine Wp.seq (Wp.region ?_)
    refine Rg.wd trivial (w_boxed rfl rfl) rfl ?_
    rintro _ w1 ⟨b2, rfl, qb2, hx1, hv2⟩
    replace hx := hx.ext hx1
    replace hl := hl.ext hx1
    replace hr := hr.ext hx1
    replace hM := hM.ext hx1
    have hc2 := hv2.cells
    refine Rg.wd trivial (w_new Try.zeroValue27 rfl) rfl ?_
    rintro _ w2 ⟨b4, rfl, qb4, hx2, hv4⟩
    replace hl := hl.fresh (Nat.le_of_eq qb4.symm)
    replace hr := hr.fresh (Nat.le_of_eq qb4.symm)
    replace hx := hx.ext hx2
    replace hl := hl.ext hx2
    replace hr := hr.ext hx2
    replace hM := hM.ext hx2
    replace hv2 := hv2.ext hx2
    replace hc2 := hc2.ext hx2
    replace hM := hM.push hv4.lt
    have hlt4 := hv4.lt
    refine Rg.wd trivial (w_new Try.zeroValue27 rfl) rfl ?_
    rintro _ w3 ⟨b5, rfl, qb5, hx3, hv5⟩
    replace hl := hl.fresh (Nat.le_of_eq qb5.symm)
    replace hr := hr.fresh (Nat.le_of_eq qb5.symm)
    replace hx := hx.ext hx3
    replace hl := hl.ext hx3
    replace hr := hr.ext hx3
    replace hM := hM.ext hx3
    replace hv2 := hv2.ext hx3
    replace hc2 := hc2.ext hx3
    replace hv4 := hv4.ext hx3
    replace hM := hM.push hv5.lt
    have k1 := hx1.le
    have k2 := hx2.le
    have l4 := qb4
    have l5 := qb5
    refine Rg.tm trivial rfl (t_assign rfl) rfl ?_
    refine Rg.done ?_
    refine Wp.seq ?_
    refine Wp.seq (Wp.region ?_)
    refine Rg.tm trivial rfl (t_move rfl) rfl ?_
    first | refine Rg.tm trivial rfl (t_lssT rfl rfl (by omega)) rfl ?_ | refine Rg.tm trivial rfl (t_lssF rfl rfl (by omega)) rfl ?_ | refine Rg.tm trivial rfl (t_lss rfl rfl) rfl ?_
    refine Rg.tm trivial rfl (t_move rfl) rfl ?_
    first | refine Rg.tm ⟨_, rfl, rfl⟩ rfl (t_move rfl) rfl ?_ | refine Rg.sk (.inl ⟨_, _, rfl, rfl, rfl⟩) rfl ?_ | refine Rg.sk (.inr ⟨_, rfl, rfl⟩) rfl ?_
    first | refine Rg.tm ⟨_, rfl, rfl⟩ rfl (t_loadA rfl (by assumption) (by exact ty27)) rfl ?_ | refine Rg.sk (.inl ⟨_, _, rfl, rfl, rfl⟩) rfl ?_ | refine Rg.sk (.inr ⟨_, rfl, rfl⟩) rfl ?_
    first | refine Rg.sk (.inl ⟨_, _, rfl, rfl, rfl⟩) rfl ?_ | refine Rg.sk (.inr ⟨_, rfl, rfl⟩) rfl ?_
    first | refine Rg.tm ⟨_, rfl, rfl⟩ rfl (t_gtrT rfl rfl (by omega)) rfl ?_ | refine Rg.tm ⟨_, rfl, rfl⟩ rfl (t_gtrF rfl rfl (by omega)) rfl ?_ | refine Rg.tm ⟨_, rfl, rfl⟩ rfl (t_gtr rfl rfl) rfl ?_ | refine Rg.sk (.inl ⟨_, _, rfl, rfl, rfl⟩) rfl ?_ | refine Rg.sk (.inr ⟨_, rfl, rfl⟩) rfl ?_
    first | refine Rg.tm trivial rfl (t_pickT rfl rfl) rfl ?_ | refine Rg.tm trivial rfl (t_pickF rfl rfl) rfl ?_
    refine Rg.done ?_
    refine Wp.condT rfl ?_
    refine Wp.seq (Wp.region ?_)
    refine Rg.tm trivial rfl (t_build (bd27) rfl) rfl ?_
    refine Rg.tm trivial rfl (t_build (bd27) rfl) rfl ?_
    refine Rg.wn trivial (w_put hv4 rfl rfl rfl ty27 rfl rfl) ?_
    rintro _ w8 ⟨hu8, hv4'⟩
    refine Rg.wn trivial (w_put (hv5.upd hu8 (by omega)) rfl rfl rfl ty27 rfl rfl) ?_
    rintro _ w9 ⟨hu9, hv5'⟩
    refine Rg.tm trivial rfl (t_assign rfl) rfl ?_
    refine Rg.done ?_
    refine Wp.ret ?_
    exact ⟨[_, _, _], ⟨RV.cellA (vs := [_]) ty27 rfl (hv4'.upd hu9 (by omega)).cells, RV.cellA (vs := [_]) ty27 rfl hv5'.cells, rfl, trivial⟩, rfl, (hx.upd hu8 (by omega)).upd hu9 (by omega)⟩
  ·
    refine Cl.enter Try.func12 rfl Try.ntmps12 rfl rfl ?_
    refine Wp.seq (Wp.region ?_)
    refine Rg.wd trivial (w_boxed rfl rfl) rfl ?_
    rintro _ w1 ⟨b2, rfl, qb2, hx1, hv2⟩
    replace hx := hx.ext hx1
    replace hl := hl.ext hx1
    replace hr := hr.ext hx1
    replace hM := hM.ext hx1
    have hc2 := hv2.cells
    refine Rg.wd trivial (w_new Try.zeroValue27 rfl) rfl ?_
    rintro _ w2 ⟨b4, rfl, qb4, hx2, hv4⟩
    replace hl := hl.fresh (Nat.le_of_eq qb4.symm)
    replace hr := hr.fresh (Nat.le_of_eq qb4.symm)
    replace hx := hx.ext hx2
    replace hl := hl.ext hx2
    replace hr := hr.ext hx2
    replace hM := hM.ext hx2
    replace hv2 := hv2.ext hx2
    replace hc2 := hc2.ext hx2
    replace hM := hM.push hv4.lt
    have hlt4 := hv4.lt
    refine Rg.wd trivial (w_new Try.zeroValue27 rfl) rfl ?_
    rintro _ w3 ⟨b5, rfl, qb5, hx3, hv5⟩
    replace hl := hl.fresh (Nat.le_of_eq qb5.symm)
    replace hr := hr.fresh (Nat.le_of_eq qb5.symm)
    replace hx := hx.ext hx3
    replace hl := hl.ext hx3
    replace hr := hr.ext hx3
    replace hM := hM.ext hx3
    replace hv2 := hv2.ext hx3
    replace hc2 := hc2.ext hx3
    replace hv4 := hv4.ext hx3
    replace hM := hM.push hv5.lt
    have k1 := hx1.le
    have k2 := hx2.le
    have l4 := qb4
    have l5 := qb5
    refine Rg.tm trivial rfl (t_assign rfl) rfl ?_
    refine Rg.done ?_
    refine Wp.seq ?_
    refine Wp.seq (Wp.region ?_)
    refine Rg.tm trivial rfl (t_move rfl) rfl ?_
    first | refine Rg.tm trivial rfl (t_lssT rfl rfl (by omega)) rfl ?_ | refine Rg.tm trivial rfl (t_lssF rfl rfl (by omega)) rfl ?_ | refine Rg.tm trivial rfl (t_lss rfl rfl) rfl ?_
    refine Rg.tm trivial rfl (t_move rfl) rfl ?_
    first | refine Rg.tm ⟨_, rfl, rfl⟩ rfl (t_move rfl) rfl ?_ | refine Rg.sk (.inl ⟨_, _, rfl, rfl, rfl⟩) rfl ?_ | refine Rg.sk (.inr ⟨_, rfl, rfl⟩) rfl ?_
    first | refine Rg.tm ⟨_, rfl, rfl⟩ rfl (t_loadA rfl (by assumption) (by exact ty27)) rfl ?_ | refine Rg.sk (.inl ⟨_, _, rfl, rfl, rfl⟩) rfl ?_ | refine Rg.sk (.inr ⟨_, rfl, rfl⟩) rfl ?_
    refine Rg.wd ⟨_, rfl, rfl⟩ (w_call Try.call11 rfl (len_ok hr)) rfl ?_
    rintro _ w4 ⟨rfl, hx4⟩
    replace hx := hx.ext hx4
    replace hl := hl.ext hx4
    replace hr := hr.ext hx4
    replace hM := hM.ext hx4
    replace hv2 := hv2.ext hx4
    replace hc2 := hc2.ext hx4
    replace hv4 := hv4.ext hx4
    replace hv5 := hv5.ext hx4
    first | refine Rg.tm ⟨_, rfl, rfl⟩ rfl (t_gtrT rfl rfl (by omega)) rfl ?_ | refine Rg.tm ⟨_, rfl, rfl⟩ rfl (t_gtrF rfl rfl (by omega)) rfl ?_ | refine Rg.tm ⟨_, rfl, rfl⟩ rfl (t_gtr rfl rfl) rfl ?_ | refine Rg.sk (.inl ⟨_, _, rfl, rfl, rfl⟩) rfl ?_ | refine Rg.sk (.inr ⟨_, rfl, rfl⟩) rfl ?_
    first | refine Rg.tm trivial rfl (t_pickT rfl rfl) rfl ?_ | refine Rg.tm trivial rfl (t_pickF rfl rfl) rfl ?_
    refine Rg.done ?_
    refine Wp.condT rfl ?_
    refine Wp.seq (Wp.region ?_)
    refine Rg.tm trivial rfl (t_build (bd27) rfl) rfl ?_
    refine Rg.tm trivial rfl (t_build (bd27) rfl) rfl ?_
    refine Rg.wn trivial (w_put hv4 rfl rfl rfl ty27 rfl rfl) ?_
    rintro _ w8 ⟨hu8, hv4'⟩
    refine Rg.wn trivial (w_put (hv5.upd hu8 (by omega)) rfl rfl rfl ty27 rfl rfl) ?_
    rintro _ w9 ⟨hu9, hv5'⟩
    refine Rg.tm trivial rfl (t_assign rfl) rfl ?_
    refine Rg.done ?_
    refine Wp.ret ?_
    exact ⟨[_, _, _], ⟨RV.cellA (vs := [_]) ty27 rfl (hv4'.upd hu9 (by omega)).cells, RV.cellA (vs := [_]) ty27 rfl hv5'.cells, rfl, trivial⟩, rfl, (hx.upd hu8 (by omega)).upd hu9 (by omega)⟩
end Go.Proofs.Yteopmfijfgaldaa
