/- The walks of package textedit: Builder.WriteString that keeps the variables, Validate, Apply. Printed by roped.py. -/
import Derived.Test.YtbnkncemfadfjaaGreatDoorRy
import Derived.Test.YtbnkncemfadfjaaGreatDoorGy
import Derived.Test.YtbnkncemfadfjaaGreatDoorRq
namespace Go.Proofs.YtbnkncemfadfjaaGreatDoor
set_option linter.unusedVariables false
set_option linter.unusedSimpArgs false
set_option maxRecDepth 20000
open Go.Gx Go.RowKit Go.Lib

theorem isB_ext {B b : Nat} {bs : List Value} {w w' : World} (h : IsBuilder 83 5 B b bs w) (k : Ext w w') : IsBuilder 83 5 B b bs w' :=
  h.imp (fun ⟨hB, v, hb, hown, hne⟩ => ⟨hB, v, Var.ext (cs := [_, v]) hb k, own_ext hown k, hne⟩) (fun ⟨hB, v, hb, hown, hne⟩ => ⟨hB, v, Var.ext (cs := [_, v]) hb k, own_ext hown k, hne⟩)
/-- every variable but b that is no row of bytes is kept -/
def KeepV (b : Nat) (w w' : World) : Prop := ∀ c cs t, c ≠ b → t ≠ 5 → Var w c cs t → Var w' c cs t
theorem KeepV.refl (b : Nat) (w : World) : KeepV b w w := fun _ _ _ _ _ h => h
theorem KeepV.trans {b : Nat} {w w' w'' : World} (h : KeepV b w w') (k : KeepV b w' w'') : KeepV b w w'' := fun c cs t h1 h2 h3 => k c cs t h1 h2 (h c cs t h1 h2 h3)
theorem KeepV.setCell (b o : Nat) (w : World) (v : Value) : KeepV b w (w.setCell ⟨b, o, none⟩ v) := fun c cs t h1 h2 h3 => by
  unfold Var at *
  rw [Below.heap_setCell _ _ _ _ (fun e => h1 e)]
  exact h3
theorem KeepV.grown {B b n : Nat} {w w' : World} {v : Value} {xs : List Value} (h : w.ownsRow B 5 1 v n xs) (hg : w.grownBy w' v.ownBlock) : KeepV b w w' := fun c cs t h1 h2 h3 => by
  have hlt := h3.lt
  unfold Var at *
  rw [hg.block c hlt (fun e => ?_)]
  · exact h3
  · obtain ⟨_, h | ⟨g, cap, cur, rfl, _, hh, _⟩⟩ := h
    · rw [h.1] at e; cases e
    · obtain rfl : c = g := by simpa [Value.ownBlock] using e
      rw [h3] at hh
      simp only [Option.some.injEq, Obj.cells.injEq] at hh
      exact h2 hh.2.1

theorem copyCheck_k {B b : Nat} {bs : List Value} {w : World} (h : IsBuilder 83 5 B b bs w) :
    Cl Tryz.prog 57 #[.pointer (some ⟨b, 0, none⟩)] w (fun u w' => u = .tuple #[] ∧ BuilderAt 83 5 B b (.pointer (some ⟨b, 0, none⟩)) bs w' ∧ Below B w w' ∧ KeepV b w w') := by
  obtain ⟨j, hj, _, hjs, _⟩ := inf83
  rcases h with h | h
  · have hc : Cells w b 0 [.pointer none] := fun i v hv => by
      match i, hv with
      | 0, hv => simp at hv; subst hv; exact h.cell0
    refine Cl.enter Tryz.func57 rfl Tryz.ntmps57 rfl rfl ?_
    refine Wp.seq (Wp.region ?_)
    refine Rg.tm trivial rfl (t_move rfl) rfl ?_
    refine Rg.tm trivial rfl (t_nilCheck rfl) rfl ?_
    refine Rg.tm trivial rfl (t_fieldAddr fa83_0 rfl) rfl ?_
    refine Rg.tm trivial rfl (t_load ty80 rfl (by apply Cells.get (i := 0); (case h => assumption); rfl)) rfl ?_
    first | refine Rg.tm trivial rfl (t_peqT pt80 rfl rfl) rfl ?_ | refine Rg.tm trivial rfl (t_peqF pt80 rfl rfl) rfl ?_
    refine Rg.done ?_
    refine Wp.condT rfl ?_
    refine Wp.region ?_
    refine Rg.tm trivial rfl (t_move rfl) rfl ?_
    refine Rg.tm trivial rfl (t_move rfl) rfl ?_
    refine Rg.wd trivial (w_toUnsafe Tryz.underlying80 Tryz.underlying151 hj (by rw [hjs]; decide) h.shape (Nat.zero_lt_succ 1) rfl) rfl ?_
    rintro _ _ ⟨rfl, rfl⟩
    refine Rg.wd trivial (w_extern Tryz.func74 (by kernel_rfl) (by kernel_rfl) (by kernel_rfl) (e := Extern.AbiNoEscape.same) (by kernel_rfl) (R := fun u w' => u = .pointer (some ⟨b, 0, none⟩) ∧ w = w') rfl ⟨_, _, Lib.run_noEscape _ _, rfl, rfl⟩) rfl ?_
    rintro _ _ ⟨rfl, rfl⟩
    refine Rg.wd trivial (w_fromUnsafe Tryz.underlying151 Tryz.underlying80 hj h.shape lies53 rfl) rfl ?_
    rintro _ _ ⟨rfl, rfl⟩
    refine Rg.tm trivial rfl (t_nilCheck rfl) rfl ?_
    refine Rg.tm trivial rfl (t_fieldAddr fa83_0 rfl) rfl ?_
    refine Rg.wn trivial (w_set ty80 rfl rfl h.cell0 h.frozen0 rfl rfl) ?_
    rintro _ w2 rfl
    refine Rg.done ?_
    exact ⟨[], trivial, rfl, h.used _, (Below.refl _ _).setCell h.1 _, KeepV.setCell _ _ _ _⟩
  · have hc : Cells w b 0 [.pointer (some ⟨b, 0, none⟩)] := fun i v hv => by
      match i, hv with
      | 0, hv => simp at hv; subst hv; exact h.cell0
    refine Cl.enter Tryz.func57 rfl Tryz.ntmps57 rfl rfl ?_
    refine Wp.seq (Wp.region ?_)
    refine Rg.tm trivial rfl (t_move rfl) rfl ?_
    refine Rg.tm trivial rfl (t_nilCheck rfl) rfl ?_
    refine Rg.tm trivial rfl (t_fieldAddr fa83_0 rfl) rfl ?_
    refine Rg.tm trivial rfl (t_load ty80 rfl (by apply Cells.get (i := 0); (case h => assumption); rfl)) rfl ?_
    first | refine Rg.tm trivial rfl (t_peqT pt80 rfl rfl) rfl ?_ | refine Rg.tm trivial rfl (t_peqF pt80 rfl rfl) rfl ?_
    refine Rg.done ?_
    refine Wp.condF rfl ?_
    refine Wp.seq (Wp.region ?_)
    refine Rg.tm trivial rfl (t_move rfl) rfl ?_
    refine Rg.tm trivial rfl (t_nilCheck rfl) rfl ?_
    refine Rg.tm trivial rfl (t_fieldAddr fa83_0 rfl) rfl ?_
    refine Rg.tm trivial rfl (t_load ty80 rfl (by apply Cells.get (i := 0); (case h => assumption); rfl)) rfl ?_
    refine Rg.tm trivial rfl (t_move rfl) rfl ?_
    refine Rg.tm trivial rfl (t_pneSame Tryz.underlying80 hj rfl rfl) rfl ?_
    refine Rg.done ?_
    refine Wp.condF rfl ?_
    refine Wp.skip ?_
    exact ⟨[], trivial, rfl, h, Below.refl _ _, KeepV.refl _ _⟩

theorem writeString_k {B b : Nat} {bs : List Value} {s : ByteArray} {w : World} (h : IsBuilder 83 5 B b bs w) (hlen : bs.length + s.size ≤ 140737488355328) (hBw : B ≤ w.heap.size) :
    Cl Tryz.prog 28 #[.pointer (some ⟨b, 0, none⟩), .string s] w (fun u w' => u = .tuple #[.int .i64 s.size, .nilIface] ∧ BuilderAt 83 5 B b (.pointer (some ⟨b, 0, none⟩)) (bs ++ strCells s) w' ∧ Below B w w' ∧ KeepV b w w') := by
  obtain ⟨i, hi, hz, hs, hby⟩ := inf5
  refine Cl.enter Tryz.func28 rfl Tryz.ntmps28 rfl rfl ?_
  refine Wp.seq (Wp.region ?_)
  refine Rg.tm trivial rfl (t_assign rfl) rfl ?_
  refine Rg.tm trivial rfl (t_assign rfl) rfl ?_
  refine Rg.done ?_
  refine Wp.seq (Wp.region ?_)
  refine Rg.tm trivial rfl (t_move rfl) rfl ?_
  refine Rg.wd trivial (w_call Tryz.call57 rfl (copyCheck_k h)) rfl ?_
  rintro _ w1 ⟨rfl, h1, hb1, hk1⟩
  obtain ⟨hB, v, hbk, hown, hne⟩ := h1
  have hc : Cells w1 b 0 [.pointer (some ⟨b, 0, none⟩), v] := Var.cells (t := 83) hbk
  have hle := hb1.size
  refine Rg.done ?_
  refine Wp.seq (Wp.region ?_)
  refine Rg.tm trivial rfl (t_move rfl) rfl ?_
  refine Rg.tm trivial rfl (t_move rfl) rfl ?_
  refine Rg.tm trivial rfl (t_nilCheck rfl) rfl ?_
  refine Rg.tm trivial rfl (t_fieldAddr fa83_1 rfl) rfl ?_
  refine Rg.tm trivial rfl (t_load ty81 rfl (by apply Cells.get (i := 1); (case h => assumption); rfl)) rfl ?_
  refine Rg.tm trivial rfl (t_move rfl) rfl ?_
  refine Rg.wd trivial (w_appendStr B Tryz.underlying81 Tryz.underlying9 hi hz hs hby rfl rfl hown hlen (by omega)) rfl ?_
  rintro v2 w2 ⟨hown2, hg, p2, l2, c2, rfl⟩
  have hlt : b < w1.heap.size := hc.lt
  have hbk2 : w2.heap[b]? = some (.cells #[.pointer (some ⟨b, 0, none⟩), v] 83 (0, 0)) := by rw [hg.block b hlt (fun e => hne e.symm)]; exact hbk
  have hle2 := hg.size
  refine Rg.tm trivial rfl (t_nilCheck rfl) rfl ?_
  refine Rg.tm trivial rfl (t_fieldAddr fa83_1 rfl) rfl ?_
  refine Rg.wn trivial (w_set ty81 rfl rfl (cell_of_heap hbk2 1) (frozen_of_heap hbk2 1) rfl rfl) ?_
  rintro _ w3 rfl
  refine Rg.done ?_
  refine Wp.seq (Wp.region ?_)
  refine Rg.tm trivial rfl (t_move rfl) rfl ?_
  refine Rg.tm trivial rfl (t_len Tryz.underlying9 rfl) rfl ?_
  refine Rg.tm trivial rfl (t_assign rfl) rfl ?_
  refine Rg.tm trivial rfl (t_assign rfl) rfl ?_
  refine Rg.done ?_
  refine Wp.ret ?_
  refine ⟨[_, _], ⟨rfl, rfl, trivial⟩, rfl, ?_, ?_, ?_⟩
  · exact BuilderAt.put (T := 83) (e := 5) hB hbk2 (bs' := bs ++ strCells s) (by simpa [strCells_length] using hown2) (by decide)
  · exact (hb1.trans (below_own hown hg (by omega))).setCell (p := ⟨b, 1, none⟩) hB _
  · exact (hk1.trans (KeepV.grown hown hg)).trans (KeepV.setCell _ _ _ _)

theorem validate_ok {s : ByteArray} {es : List TE} {w : World} {v : Value} (hs0 : SlC w v 3 es.length (tes es)) (hsz : s.size < 4611686018427387904) (hlen : es.length < 4611686018427387904) (hb : ∀ e ∈ es, (e.s.size : Int) ≤ 140737488355328) :
    Cl Tryz.prog 13 #[.string s, v] w (fun u w' => u = .int .i64 (codeE s.size es) ∧ Ext w w') := by
  have hx := Ext.refl w
  by_cases hbig : s.size > 2000 ∨ es.length > 50
  · have e0 : codeE s.size es = 2 := by unfold codeE; rw [if_pos hbig]
    rw [e0]
    by_cases hbig1 : s.size > 2000
    all_goals
      refine Cl.enter Tryz.func13 rfl Tryz.ntmps13 rfl rfl ?_
      refine Wp.seq (Wp.region ?_)
      refine Rg.tm trivial rfl (t_assign rfl) rfl ?_
      refine Rg.done ?_
      refine Wp.seq ?_
      refine Wp.seq (Wp.region ?_)
      refine Rg.tm trivial rfl (t_move rfl) rfl ?_
      refine Rg.tm trivial rfl (t_len Tryz.underlying9 rfl) rfl ?_
      first | refine Rg.tm trivial rfl (t_gtrT rfl rfl (by omega)) rfl ?_ | refine Rg.tm trivial rfl (t_gtrF rfl rfl (by omega)) rfl ?_ | refine Rg.tm trivial rfl (t_gtr rfl rfl) rfl ?_
      refine Rg.tm trivial rfl (t_move rfl) rfl ?_
      first | refine Rg.tm ⟨_, rfl, rfl⟩ rfl (t_move rfl) rfl ?_ | refine Rg.sk (.inl ⟨_, _, rfl, rfl, rfl⟩) rfl ?_ | refine Rg.sk (.inr ⟨_, rfl, rfl⟩) rfl ?_
      first | refine Rg.tm ⟨_, rfl, rfl⟩ rfl (t_lenC hs0 Tryz.underlying22 rfl) rfl ?_ | refine Rg.sk (.inl ⟨_, _, rfl, rfl, rfl⟩) rfl ?_ | refine Rg.sk (.inr ⟨_, rfl, rfl⟩) rfl ?_
      first | refine Rg.tm ⟨_, rfl, rfl⟩ rfl (t_gtrT rfl rfl (by omega)) rfl ?_ | refine Rg.tm ⟨_, rfl, rfl⟩ rfl (t_gtrF rfl rfl (by omega)) rfl ?_ | refine Rg.tm ⟨_, rfl, rfl⟩ rfl (t_gtr rfl rfl) rfl ?_ | refine Rg.sk (.inl ⟨_, _, rfl, rfl, rfl⟩) rfl ?_ | refine Rg.sk (.inr ⟨_, rfl, rfl⟩) rfl ?_
      first | refine Rg.tm trivial rfl (t_pickT rfl rfl) rfl ?_ | refine Rg.tm trivial rfl (t_pickF rfl rfl) rfl ?_
      refine Rg.done ?_
      refine Wp.condT rfl ?_
      refine Wp.seq (Wp.region ?_)
      refine Rg.tm trivial rfl (t_assign rfl) rfl ?_
      refine Rg.done ?_
      refine Wp.ret ?_
      exact ⟨[_], ⟨rfl, trivial⟩, rfl, hx⟩
  have n1 : s.size ≤ 2000 := by omega
  have n2 : es.length ≤ 50 := by omega
  refine Cl.enter Tryz.func13 rfl Tryz.ntmps13 rfl rfl ?_
  refine Wp.seq (Wp.region ?_)
  refine Rg.tm trivial rfl (t_assign rfl) rfl ?_
  refine Rg.done ?_
  refine Wp.seq ?_
  refine Wp.seq (Wp.region ?_)
  refine Rg.tm trivial rfl (t_move rfl) rfl ?_
  refine Rg.tm trivial rfl (t_len Tryz.underlying9 rfl) rfl ?_
  first | refine Rg.tm trivial rfl (t_gtrT rfl rfl (by omega)) rfl ?_ | refine Rg.tm trivial rfl (t_gtrF rfl rfl (by omega)) rfl ?_ | refine Rg.tm trivial rfl (t_gtr rfl rfl) rfl ?_
  refine Rg.tm trivial rfl (t_move rfl) rfl ?_
  first | refine Rg.tm ⟨_, rfl, rfl⟩ rfl (t_move rfl) rfl ?_ | refine Rg.sk (.inl ⟨_, _, rfl, rfl, rfl⟩) rfl ?_ | refine Rg.sk (.inr ⟨_, rfl, rfl⟩) rfl ?_
  first | refine Rg.tm ⟨_, rfl, rfl⟩ rfl (t_lenC hs0 Tryz.underlying22 rfl) rfl ?_ | refine Rg.sk (.inl ⟨_, _, rfl, rfl, rfl⟩) rfl ?_ | refine Rg.sk (.inr ⟨_, rfl, rfl⟩) rfl ?_
  first | refine Rg.tm ⟨_, rfl, rfl⟩ rfl (t_gtrT rfl rfl (by omega)) rfl ?_ | refine Rg.tm ⟨_, rfl, rfl⟩ rfl (t_gtrF rfl rfl (by omega)) rfl ?_ | refine Rg.tm ⟨_, rfl, rfl⟩ rfl (t_gtr rfl rfl) rfl ?_ | refine Rg.sk (.inl ⟨_, _, rfl, rfl, rfl⟩) rfl ?_ | refine Rg.sk (.inr ⟨_, rfl, rfl⟩) rfl ?_
  first | refine Rg.tm trivial rfl (t_pickT rfl rfl) rfl ?_ | refine Rg.tm trivial rfl (t_pickF rfl rfl) rfl ?_
  refine Rg.done ?_
  refine Wp.condF rfl ?_
  refine Wp.skip ?_
  refine Wp.seq (Wp.region ?_)
  refine Rg.tm trivial rfl (t_move rfl) rfl ?_
  refine Rg.tm trivial rfl (t_len Tryz.underlying9 rfl) rfl ?_
  refine Rg.tm trivial rfl (t_assign rfl) rfl ?_
  refine Rg.tm trivial rfl (t_assign rfl) rfl ?_
  refine Rg.done ?_
  refine Wp.seq ?_
  refine Wp.seq (Wp.region ?_)
  refine Rg.tm trivial rfl (t_move rfl) rfl ?_
  refine Rg.tm trivial rfl (t_lenC hs0 Tryz.underlying22 rfl) rfl ?_
  refine Rg.tm trivial rfl (t_move rfl) rfl ?_
  refine Rg.done ?_
  refine Wp.block ?_
  refine Wp.loop (ι := Nat) (fun k => [(0, .string s), (1, v), (5, .int .i64 (lastE (-1) (es.take k))), (6, .int .i64 (s.size + growE (es.take k))), (19, v), (20, .int .i64 es.length), (21, .int .i64 k)])
    (fun k w' => k ≤ es.length ∧ okE s.size (-1) (es.take k) ∧ Ext w w')
    (fun k => es.length - k) 0 (by repeat (first | exact .nil | refine .cons (by first | rfl | simp [growE, lastE]) ?_)) ⟨Nat.zero_le _, trivial, hx⟩ ?_
  clear hx
  rintro k w3 ⟨hk, hok, hx⟩
  have gl := growE_le (n := s.size) (B := 140737488355328) (by omega) (by omega) (es.take k) (p := -1) (by omega) (fun e he => hb e (List.mem_of_mem_take he)) hok
  rw [List.length_take_of_le hk] at gl
  have gl2 : -102400 ≤ growE (es.take k) ∧ growE (es.take k) ≤ 7036874417766400 := by
    have q1 : (s.size : Int) * (k : Int) ≤ 2000 * 50 := Int.mul_le_mul (by omega) (by omega) (by omega) (by omega)
    have q2 : (140737488355328 : Int) * k ≤ 140737488355328 * 50 := by omega
    omega
  have ll := lastE_le (n := s.size) (es.take k) (p := -1) (by omega) hok
  by_cases hlt : k < es.length
  · have kle := hx.le
    refine Wp.seq (Wp.region ?_)
    first | refine Rg.tm trivial rfl (t_lssT rfl rfl (by omega)) rfl ?_ | refine Rg.tm trivial rfl (t_lssF rfl rfl (by omega)) rfl ?_ | refine Rg.tm trivial rfl (t_lss rfl rfl) rfl ?_
    refine Rg.done ?_
    refine Wp.seq ?_
    refine Wp.condT rfl ?_
    refine Wp.skip ?_
    refine Wp.seq ?_
    refine Wp.block ?_
    refine Wp.seq (Wp.region ?_)
    refine Rg.ix hs0 trivial rfl rfl Tryz.underlying22 ty51 (by omega) rfl ?_
    intro bt23 ot23 ht23
    replace ht23 := ht23.ext hx
    rw [Int.toNat_natCast, tes_at es k hlt] at ht23
    have hbk := hb _ (List.getElem_mem hlt)
    obtain ⟨e, he⟩ : ∃ e, es[k] = e := ⟨_, rfl⟩
    rw [he] at ht23 hbk
    unfold TE.cells at ht23
    refine Rg.tm trivial rfl (t_loadA rfl ht23 ty51) rfl ?_
    refine Rg.wd trivial (w_new Tryz.zeroValue51 rfl) rfl ?_
    rintro _ w1 ⟨b8, rfl, qb8, hx1, hv8⟩
    replace hx := hx.ext hx1
    replace ht23 := ht23.ext hx1
    refine Rg.wn trivial (w_put hv8 rfl rfl rfl ty51 rfl rfl) ?_
    rintro _ w70 ⟨hu, hv8'⟩
    replace hx := hx.upd hu (by omega)
    clear hv8 hu ht23
    have hc8 := hv8'.cells
    clear hv8'
    refine Rg.done ?_
    refine Wp.seq ?_
    by_cases hok2 : lastE (-1) (es.take k) < e.a ∧ e.a ≤ e.b ∧ e.b ≤ s.size
    · obtain ⟨o1, o2, o3⟩ := hok2
      refine Wp.seq (Wp.region ?_)
      refine Rg.tm trivial rfl (t_fieldAddr fa51_0 rfl) rfl ?_
      refine Rg.tm trivial rfl (t_load ty3 rfl (by apply Cells.get (i := 0); (case h => assumption); rfl)) rfl ?_
      refine Rg.tm trivial rfl (t_move rfl) rfl ?_
      first | refine Rg.tm trivial rfl (t_leqT rfl rfl (by omega)) rfl ?_ | refine Rg.tm trivial rfl (t_leqF rfl rfl (by omega)) rfl ?_ | refine Rg.tm trivial rfl (t_leq rfl rfl) rfl ?_
      refine Rg.tm trivial rfl (t_move rfl) rfl ?_
      first | refine Rg.tm ⟨_, rfl, rfl⟩ rfl (t_fieldAddr fa51_1 rfl) rfl ?_ | refine Rg.sk (.inl ⟨_, _, rfl, rfl, rfl⟩) rfl ?_ | refine Rg.sk (.inr ⟨_, rfl, rfl⟩) rfl ?_
      first | refine Rg.tm ⟨_, rfl, rfl⟩ rfl (t_load ty3 rfl (by apply Cells.get (i := 1); (case h => assumption); rfl)) rfl ?_ | refine Rg.sk (.inl ⟨_, _, rfl, rfl, rfl⟩) rfl ?_ | refine Rg.sk (.inr ⟨_, rfl, rfl⟩) rfl ?_
      first | refine Rg.tm ⟨_, rfl, rfl⟩ rfl (t_fieldAddr fa51_0 rfl) rfl ?_ | refine Rg.sk (.inl ⟨_, _, rfl, rfl, rfl⟩) rfl ?_ | refine Rg.sk (.inr ⟨_, rfl, rfl⟩) rfl ?_
      first | refine Rg.tm ⟨_, rfl, rfl⟩ rfl (t_load ty3 rfl (by apply Cells.get (i := 0); (case h => assumption); rfl)) rfl ?_ | refine Rg.sk (.inl ⟨_, _, rfl, rfl, rfl⟩) rfl ?_ | refine Rg.sk (.inr ⟨_, rfl, rfl⟩) rfl ?_
      first | refine Rg.tm ⟨_, rfl, rfl⟩ rfl (t_lssT rfl rfl (by omega)) rfl ?_ | refine Rg.tm ⟨_, rfl, rfl⟩ rfl (t_lssF rfl rfl (by omega)) rfl ?_ | refine Rg.tm ⟨_, rfl, rfl⟩ rfl (t_lss rfl rfl) rfl ?_ | refine Rg.sk (.inl ⟨_, _, rfl, rfl, rfl⟩) rfl ?_ | refine Rg.sk (.inr ⟨_, rfl, rfl⟩) rfl ?_
      first | refine Rg.tm trivial rfl (t_pickT rfl rfl) rfl ?_ | refine Rg.tm trivial rfl (t_pickF rfl rfl) rfl ?_
      refine Rg.tm trivial rfl (t_move rfl) rfl ?_
      first | refine Rg.tm ⟨_, rfl, rfl⟩ rfl (t_fieldAddr fa51_1 rfl) rfl ?_ | refine Rg.sk (.inl ⟨_, _, rfl, rfl, rfl⟩) rfl ?_ | refine Rg.sk (.inr ⟨_, rfl, rfl⟩) rfl ?_
      first | refine Rg.tm ⟨_, rfl, rfl⟩ rfl (t_load ty3 rfl (by apply Cells.get (i := 1); (case h => assumption); rfl)) rfl ?_ | refine Rg.sk (.inl ⟨_, _, rfl, rfl, rfl⟩) rfl ?_ | refine Rg.sk (.inr ⟨_, rfl, rfl⟩) rfl ?_
      first | refine Rg.tm ⟨_, rfl, rfl⟩ rfl (t_move rfl) rfl ?_ | refine Rg.sk (.inl ⟨_, _, rfl, rfl, rfl⟩) rfl ?_ | refine Rg.sk (.inr ⟨_, rfl, rfl⟩) rfl ?_
      first | refine Rg.tm ⟨_, rfl, rfl⟩ rfl (t_len Tryz.underlying9 rfl) rfl ?_ | refine Rg.sk (.inl ⟨_, _, rfl, rfl, rfl⟩) rfl ?_ | refine Rg.sk (.inr ⟨_, rfl, rfl⟩) rfl ?_
      first | refine Rg.tm ⟨_, rfl, rfl⟩ rfl (t_gtrT rfl rfl (by omega)) rfl ?_ | refine Rg.tm ⟨_, rfl, rfl⟩ rfl (t_gtrF rfl rfl (by omega)) rfl ?_ | refine Rg.tm ⟨_, rfl, rfl⟩ rfl (t_gtr rfl rfl) rfl ?_ | refine Rg.sk (.inl ⟨_, _, rfl, rfl, rfl⟩) rfl ?_ | refine Rg.sk (.inr ⟨_, rfl, rfl⟩) rfl ?_
      first | refine Rg.tm trivial rfl (t_pickT rfl rfl) rfl ?_ | refine Rg.tm trivial rfl (t_pickF rfl rfl) rfl ?_
      refine Rg.done ?_
      refine Wp.condF rfl ?_
      refine Wp.skip ?_
      refine Wp.seq (Wp.region ?_)
      refine Rg.tm trivial rfl (t_fieldAddr fa51_1 rfl) rfl ?_
      refine Rg.tm trivial rfl (t_load ty3 rfl (by apply Cells.get (i := 1); (case h => assumption); rfl)) rfl ?_
      refine Rg.tm trivial rfl (t_assign rfl) rfl ?_
      refine Rg.done ?_
      refine Wp.region ?_
      refine Rg.tm trivial rfl (t_move rfl) rfl ?_
      refine Rg.tm trivial rfl (t_fieldAddr fa51_2 rfl) rfl ?_
      refine Rg.tm trivial rfl (t_load ty9 rfl (by apply Cells.get (i := 2); (case h => assumption); rfl)) rfl ?_
      refine Rg.tm trivial rfl (t_len Tryz.underlying9 rfl) rfl ?_
      refine Rg.tm trivial rfl (t_fieldAddr fa51_1 rfl) rfl ?_
      refine Rg.tm trivial rfl (t_load ty3 rfl (by apply Cells.get (i := 1); (case h => assumption); rfl)) rfl ?_
      refine Rg.tm trivial rfl (t_fieldAddr fa51_0 rfl) rfl ?_
      refine Rg.tm trivial rfl (t_load ty3 rfl (by apply Cells.get (i := 0); (case h => assumption); rfl)) rfl ?_
      first | refine Rg.tm trivial rfl (t_subI rfl rfl (by omega)) rfl ?_ | refine Rg.tm trivial rfl (t_sub rfl rfl) rfl ?_
      first | refine Rg.tm trivial rfl (t_subI rfl rfl (by omega)) rfl ?_ | refine Rg.tm trivial rfl (t_sub rfl rfl) rfl ?_
      first | refine Rg.tm trivial rfl (t_addI rfl rfl (by omega)) rfl ?_ | refine Rg.tm trivial rfl (t_add rfl rfl) rfl ?_
      refine Rg.tm trivial rfl (t_assign rfl) rfl ?_
      refine Rg.done ?_
      refine Wp.region ?_
      first | refine Rg.tm trivial rfl (t_addI rfl rfl (by omega)) rfl ?_ | refine Rg.tm trivial rfl (t_add rfl rfl) rfl ?_
      refine Rg.tm trivial rfl (t_move rfl) rfl ?_
      refine Rg.done ?_
      refine ⟨k + 1, ?_, ⟨hlt, ?_, hx⟩, by omega⟩
      · rw [List.take_succ_eq_append_getElem hlt, lastE_snoc, growE_snoc, he, ← Int.add_assoc]
        repeat (first | exact .nil | refine .cons rfl ?_)
      · rw [List.take_succ_eq_append_getElem hlt, okE_snoc, he]
        exact ⟨hok, o1, o2, o3⟩
    · have e0 : codeE s.size es = 3 := by
        unfold codeE
        rw [if_neg (by omega), if_pos]
        intro hall
        have := okE_at hlt hall
        rw [he] at this
        exact hok2 this
      rw [e0]
      by_cases hA : e.a ≤ lastE (-1) (es.take k)
      · skip
        refine Wp.seq (Wp.region ?_)
        refine Rg.tm trivial rfl (t_fieldAddr fa51_0 rfl) rfl ?_
        refine Rg.tm trivial rfl (t_load ty3 rfl (by apply Cells.get (i := 0); (case h => assumption); rfl)) rfl ?_
        refine Rg.tm trivial rfl (t_move rfl) rfl ?_
        first | refine Rg.tm trivial rfl (t_leqT rfl rfl (by omega)) rfl ?_ | refine Rg.tm trivial rfl (t_leqF rfl rfl (by omega)) rfl ?_ | refine Rg.tm trivial rfl (t_leq rfl rfl) rfl ?_
        refine Rg.tm trivial rfl (t_move rfl) rfl ?_
        first | refine Rg.tm ⟨_, rfl, rfl⟩ rfl (t_fieldAddr fa51_1 rfl) rfl ?_ | refine Rg.sk (.inl ⟨_, _, rfl, rfl, rfl⟩) rfl ?_ | refine Rg.sk (.inr ⟨_, rfl, rfl⟩) rfl ?_
        first | refine Rg.tm ⟨_, rfl, rfl⟩ rfl (t_load ty3 rfl (by apply Cells.get (i := 1); (case h => assumption); rfl)) rfl ?_ | refine Rg.sk (.inl ⟨_, _, rfl, rfl, rfl⟩) rfl ?_ | refine Rg.sk (.inr ⟨_, rfl, rfl⟩) rfl ?_
        first | refine Rg.tm ⟨_, rfl, rfl⟩ rfl (t_fieldAddr fa51_0 rfl) rfl ?_ | refine Rg.sk (.inl ⟨_, _, rfl, rfl, rfl⟩) rfl ?_ | refine Rg.sk (.inr ⟨_, rfl, rfl⟩) rfl ?_
        first | refine Rg.tm ⟨_, rfl, rfl⟩ rfl (t_load ty3 rfl (by apply Cells.get (i := 0); (case h => assumption); rfl)) rfl ?_ | refine Rg.sk (.inl ⟨_, _, rfl, rfl, rfl⟩) rfl ?_ | refine Rg.sk (.inr ⟨_, rfl, rfl⟩) rfl ?_
        first | refine Rg.tm ⟨_, rfl, rfl⟩ rfl (t_lssT rfl rfl (by omega)) rfl ?_ | refine Rg.tm ⟨_, rfl, rfl⟩ rfl (t_lssF rfl rfl (by omega)) rfl ?_ | refine Rg.tm ⟨_, rfl, rfl⟩ rfl (t_lss rfl rfl) rfl ?_ | refine Rg.sk (.inl ⟨_, _, rfl, rfl, rfl⟩) rfl ?_ | refine Rg.sk (.inr ⟨_, rfl, rfl⟩) rfl ?_
        first | refine Rg.tm trivial rfl (t_pickT rfl rfl) rfl ?_ | refine Rg.tm trivial rfl (t_pickF rfl rfl) rfl ?_
        refine Rg.tm trivial rfl (t_move rfl) rfl ?_
        first | refine Rg.tm ⟨_, rfl, rfl⟩ rfl (t_fieldAddr fa51_1 rfl) rfl ?_ | refine Rg.sk (.inl ⟨_, _, rfl, rfl, rfl⟩) rfl ?_ | refine Rg.sk (.inr ⟨_, rfl, rfl⟩) rfl ?_
        first | refine Rg.tm ⟨_, rfl, rfl⟩ rfl (t_load ty3 rfl (by apply Cells.get (i := 1); (case h => assumption); rfl)) rfl ?_ | refine Rg.sk (.inl ⟨_, _, rfl, rfl, rfl⟩) rfl ?_ | refine Rg.sk (.inr ⟨_, rfl, rfl⟩) rfl ?_
        first | refine Rg.tm ⟨_, rfl, rfl⟩ rfl (t_move rfl) rfl ?_ | refine Rg.sk (.inl ⟨_, _, rfl, rfl, rfl⟩) rfl ?_ | refine Rg.sk (.inr ⟨_, rfl, rfl⟩) rfl ?_
        first | refine Rg.tm ⟨_, rfl, rfl⟩ rfl (t_len Tryz.underlying9 rfl) rfl ?_ | refine Rg.sk (.inl ⟨_, _, rfl, rfl, rfl⟩) rfl ?_ | refine Rg.sk (.inr ⟨_, rfl, rfl⟩) rfl ?_
        first | refine Rg.tm ⟨_, rfl, rfl⟩ rfl (t_gtrT rfl rfl (by omega)) rfl ?_ | refine Rg.tm ⟨_, rfl, rfl⟩ rfl (t_gtrF rfl rfl (by omega)) rfl ?_ | refine Rg.tm ⟨_, rfl, rfl⟩ rfl (t_gtr rfl rfl) rfl ?_ | refine Rg.sk (.inl ⟨_, _, rfl, rfl, rfl⟩) rfl ?_ | refine Rg.sk (.inr ⟨_, rfl, rfl⟩) rfl ?_
        first | refine Rg.tm trivial rfl (t_pickT rfl rfl) rfl ?_ | refine Rg.tm trivial rfl (t_pickF rfl rfl) rfl ?_
        refine Rg.done ?_
        refine Wp.condT rfl ?_
        refine Wp.seq (Wp.region ?_)
        refine Rg.tm trivial rfl (t_assign rfl) rfl ?_
        refine Rg.done ?_
        refine Wp.ret ?_
        exact ⟨[_], ⟨rfl, trivial⟩, rfl, hx⟩
      · by_cases hB : e.b < e.a
        · skip
          refine Wp.seq (Wp.region ?_)
          refine Rg.tm trivial rfl (t_fieldAddr fa51_0 rfl) rfl ?_
          refine Rg.tm trivial rfl (t_load ty3 rfl (by apply Cells.get (i := 0); (case h => assumption); rfl)) rfl ?_
          refine Rg.tm trivial rfl (t_move rfl) rfl ?_
          first | refine Rg.tm trivial rfl (t_leqT rfl rfl (by omega)) rfl ?_ | refine Rg.tm trivial rfl (t_leqF rfl rfl (by omega)) rfl ?_ | refine Rg.tm trivial rfl (t_leq rfl rfl) rfl ?_
          refine Rg.tm trivial rfl (t_move rfl) rfl ?_
          first | refine Rg.tm ⟨_, rfl, rfl⟩ rfl (t_fieldAddr fa51_1 rfl) rfl ?_ | refine Rg.sk (.inl ⟨_, _, rfl, rfl, rfl⟩) rfl ?_ | refine Rg.sk (.inr ⟨_, rfl, rfl⟩) rfl ?_
          first | refine Rg.tm ⟨_, rfl, rfl⟩ rfl (t_load ty3 rfl (by apply Cells.get (i := 1); (case h => assumption); rfl)) rfl ?_ | refine Rg.sk (.inl ⟨_, _, rfl, rfl, rfl⟩) rfl ?_ | refine Rg.sk (.inr ⟨_, rfl, rfl⟩) rfl ?_
          first | refine Rg.tm ⟨_, rfl, rfl⟩ rfl (t_fieldAddr fa51_0 rfl) rfl ?_ | refine Rg.sk (.inl ⟨_, _, rfl, rfl, rfl⟩) rfl ?_ | refine Rg.sk (.inr ⟨_, rfl, rfl⟩) rfl ?_
          first | refine Rg.tm ⟨_, rfl, rfl⟩ rfl (t_load ty3 rfl (by apply Cells.get (i := 0); (case h => assumption); rfl)) rfl ?_ | refine Rg.sk (.inl ⟨_, _, rfl, rfl, rfl⟩) rfl ?_ | refine Rg.sk (.inr ⟨_, rfl, rfl⟩) rfl ?_
          first | refine Rg.tm ⟨_, rfl, rfl⟩ rfl (t_lssT rfl rfl (by omega)) rfl ?_ | refine Rg.tm ⟨_, rfl, rfl⟩ rfl (t_lssF rfl rfl (by omega)) rfl ?_ | refine Rg.tm ⟨_, rfl, rfl⟩ rfl (t_lss rfl rfl) rfl ?_ | refine Rg.sk (.inl ⟨_, _, rfl, rfl, rfl⟩) rfl ?_ | refine Rg.sk (.inr ⟨_, rfl, rfl⟩) rfl ?_
          first | refine Rg.tm trivial rfl (t_pickT rfl rfl) rfl ?_ | refine Rg.tm trivial rfl (t_pickF rfl rfl) rfl ?_
          refine Rg.tm trivial rfl (t_move rfl) rfl ?_
          first | refine Rg.tm ⟨_, rfl, rfl⟩ rfl (t_fieldAddr fa51_1 rfl) rfl ?_ | refine Rg.sk (.inl ⟨_, _, rfl, rfl, rfl⟩) rfl ?_ | refine Rg.sk (.inr ⟨_, rfl, rfl⟩) rfl ?_
          first | refine Rg.tm ⟨_, rfl, rfl⟩ rfl (t_load ty3 rfl (by apply Cells.get (i := 1); (case h => assumption); rfl)) rfl ?_ | refine Rg.sk (.inl ⟨_, _, rfl, rfl, rfl⟩) rfl ?_ | refine Rg.sk (.inr ⟨_, rfl, rfl⟩) rfl ?_
          first | refine Rg.tm ⟨_, rfl, rfl⟩ rfl (t_move rfl) rfl ?_ | refine Rg.sk (.inl ⟨_, _, rfl, rfl, rfl⟩) rfl ?_ | refine Rg.sk (.inr ⟨_, rfl, rfl⟩) rfl ?_
          first | refine Rg.tm ⟨_, rfl, rfl⟩ rfl (t_len Tryz.underlying9 rfl) rfl ?_ | refine Rg.sk (.inl ⟨_, _, rfl, rfl, rfl⟩) rfl ?_ | refine Rg.sk (.inr ⟨_, rfl, rfl⟩) rfl ?_
          first | refine Rg.tm ⟨_, rfl, rfl⟩ rfl (t_gtrT rfl rfl (by omega)) rfl ?_ | refine Rg.tm ⟨_, rfl, rfl⟩ rfl (t_gtrF rfl rfl (by omega)) rfl ?_ | refine Rg.tm ⟨_, rfl, rfl⟩ rfl (t_gtr rfl rfl) rfl ?_ | refine Rg.sk (.inl ⟨_, _, rfl, rfl, rfl⟩) rfl ?_ | refine Rg.sk (.inr ⟨_, rfl, rfl⟩) rfl ?_
          first | refine Rg.tm trivial rfl (t_pickT rfl rfl) rfl ?_ | refine Rg.tm trivial rfl (t_pickF rfl rfl) rfl ?_
          refine Rg.done ?_
          refine Wp.condT rfl ?_
          refine Wp.seq (Wp.region ?_)
          refine Rg.tm trivial rfl (t_assign rfl) rfl ?_
          refine Rg.done ?_
          refine Wp.ret ?_
          exact ⟨[_], ⟨rfl, trivial⟩, rfl, hx⟩
        · have hC : e.b > s.size := by omega
          refine Wp.seq (Wp.region ?_)
          refine Rg.tm trivial rfl (t_fieldAddr fa51_0 rfl) rfl ?_
          refine Rg.tm trivial rfl (t_load ty3 rfl (by apply Cells.get (i := 0); (case h => assumption); rfl)) rfl ?_
          refine Rg.tm trivial rfl (t_move rfl) rfl ?_
          first | refine Rg.tm trivial rfl (t_leqT rfl rfl (by omega)) rfl ?_ | refine Rg.tm trivial rfl (t_leqF rfl rfl (by omega)) rfl ?_ | refine Rg.tm trivial rfl (t_leq rfl rfl) rfl ?_
          refine Rg.tm trivial rfl (t_move rfl) rfl ?_
          first | refine Rg.tm ⟨_, rfl, rfl⟩ rfl (t_fieldAddr fa51_1 rfl) rfl ?_ | refine Rg.sk (.inl ⟨_, _, rfl, rfl, rfl⟩) rfl ?_ | refine Rg.sk (.inr ⟨_, rfl, rfl⟩) rfl ?_
          first | refine Rg.tm ⟨_, rfl, rfl⟩ rfl (t_load ty3 rfl (by apply Cells.get (i := 1); (case h => assumption); rfl)) rfl ?_ | refine Rg.sk (.inl ⟨_, _, rfl, rfl, rfl⟩) rfl ?_ | refine Rg.sk (.inr ⟨_, rfl, rfl⟩) rfl ?_
          first | refine Rg.tm ⟨_, rfl, rfl⟩ rfl (t_fieldAddr fa51_0 rfl) rfl ?_ | refine Rg.sk (.inl ⟨_, _, rfl, rfl, rfl⟩) rfl ?_ | refine Rg.sk (.inr ⟨_, rfl, rfl⟩) rfl ?_
          first | refine Rg.tm ⟨_, rfl, rfl⟩ rfl (t_load ty3 rfl (by apply Cells.get (i := 0); (case h => assumption); rfl)) rfl ?_ | refine Rg.sk (.inl ⟨_, _, rfl, rfl, rfl⟩) rfl ?_ | refine Rg.sk (.inr ⟨_, rfl, rfl⟩) rfl ?_
          first | refine Rg.tm ⟨_, rfl, rfl⟩ rfl (t_lssT rfl rfl (by omega)) rfl ?_ | refine Rg.tm ⟨_, rfl, rfl⟩ rfl (t_lssF rfl rfl (by omega)) rfl ?_ | refine Rg.tm ⟨_, rfl, rfl⟩ rfl (t_lss rfl rfl) rfl ?_ | refine Rg.sk (.inl ⟨_, _, rfl, rfl, rfl⟩) rfl ?_ | refine Rg.sk (.inr ⟨_, rfl, rfl⟩) rfl ?_
          first | refine Rg.tm trivial rfl (t_pickT rfl rfl) rfl ?_ | refine Rg.tm trivial rfl (t_pickF rfl rfl) rfl ?_
          refine Rg.tm trivial rfl (t_move rfl) rfl ?_
          first | refine Rg.tm ⟨_, rfl, rfl⟩ rfl (t_fieldAddr fa51_1 rfl) rfl ?_ | refine Rg.sk (.inl ⟨_, _, rfl, rfl, rfl⟩) rfl ?_ | refine Rg.sk (.inr ⟨_, rfl, rfl⟩) rfl ?_
          first | refine Rg.tm ⟨_, rfl, rfl⟩ rfl (t_load ty3 rfl (by apply Cells.get (i := 1); (case h => assumption); rfl)) rfl ?_ | refine Rg.sk (.inl ⟨_, _, rfl, rfl, rfl⟩) rfl ?_ | refine Rg.sk (.inr ⟨_, rfl, rfl⟩) rfl ?_
          first | refine Rg.tm ⟨_, rfl, rfl⟩ rfl (t_move rfl) rfl ?_ | refine Rg.sk (.inl ⟨_, _, rfl, rfl, rfl⟩) rfl ?_ | refine Rg.sk (.inr ⟨_, rfl, rfl⟩) rfl ?_
          first | refine Rg.tm ⟨_, rfl, rfl⟩ rfl (t_len Tryz.underlying9 rfl) rfl ?_ | refine Rg.sk (.inl ⟨_, _, rfl, rfl, rfl⟩) rfl ?_ | refine Rg.sk (.inr ⟨_, rfl, rfl⟩) rfl ?_
          first | refine Rg.tm ⟨_, rfl, rfl⟩ rfl (t_gtrT rfl rfl (by omega)) rfl ?_ | refine Rg.tm ⟨_, rfl, rfl⟩ rfl (t_gtrF rfl rfl (by omega)) rfl ?_ | refine Rg.tm ⟨_, rfl, rfl⟩ rfl (t_gtr rfl rfl) rfl ?_ | refine Rg.sk (.inl ⟨_, _, rfl, rfl, rfl⟩) rfl ?_ | refine Rg.sk (.inr ⟨_, rfl, rfl⟩) rfl ?_
          first | refine Rg.tm trivial rfl (t_pickT rfl rfl) rfl ?_ | refine Rg.tm trivial rfl (t_pickF rfl rfl) rfl ?_
          refine Rg.done ?_
          refine Wp.condT rfl ?_
          refine Wp.seq (Wp.region ?_)
          refine Rg.tm trivial rfl (t_assign rfl) rfl ?_
          refine Rg.done ?_
          refine Wp.ret ?_
          exact ⟨[_], ⟨rfl, trivial⟩, rfl, hx⟩
  · have e0 : k = es.length := by omega
    subst e0
    simp only [List.take_length] at *
    by_cases hover : (s.size : Int) + growE es > 2000
    · have e1 : codeE s.size es = 2 := by
        unfold codeE
        rw [if_neg (by omega), if_neg (fun h => h hok), if_pos hover]
      rw [e1]
      refine Wp.seq (Wp.region ?_)
      first | refine Rg.tm trivial rfl (t_lssT rfl rfl (by omega)) rfl ?_ | refine Rg.tm trivial rfl (t_lssF rfl rfl (by omega)) rfl ?_ | refine Rg.tm trivial rfl (t_lss rfl rfl) rfl ?_
      refine Rg.done ?_
      refine Wp.seq ?_
      refine Wp.condF rfl ?_
      refine Wp.exit ?_
      refine Wp.seq ?_
      refine Wp.seq (Wp.region ?_)
      refine Rg.tm trivial rfl (t_move rfl) rfl ?_
      first | refine Rg.tm trivial rfl (t_gtrT rfl rfl (by omega)) rfl ?_ | refine Rg.tm trivial rfl (t_gtrF rfl rfl (by omega)) rfl ?_ | refine Rg.tm trivial rfl (t_gtr rfl rfl) rfl ?_
      refine Rg.done ?_
      refine Wp.condT rfl ?_
      refine Wp.seq (Wp.region ?_)
      refine Rg.tm trivial rfl (t_assign rfl) rfl ?_
      refine Rg.done ?_
      refine Wp.ret ?_
      exact ⟨[_], ⟨rfl, trivial⟩, rfl, hx⟩
    · have e1 : codeE s.size es = 0 := by
        unfold codeE
        rw [if_neg (by omega), if_neg (fun h => h hok), if_neg hover]
      rw [e1]
      refine Wp.seq (Wp.region ?_)
      first | refine Rg.tm trivial rfl (t_lssT rfl rfl (by omega)) rfl ?_ | refine Rg.tm trivial rfl (t_lssF rfl rfl (by omega)) rfl ?_ | refine Rg.tm trivial rfl (t_lss rfl rfl) rfl ?_
      refine Rg.done ?_
      refine Wp.seq ?_
      refine Wp.condF rfl ?_
      refine Wp.exit ?_
      refine Wp.seq ?_
      refine Wp.seq (Wp.region ?_)
      refine Rg.tm trivial rfl (t_move rfl) rfl ?_
      first | refine Rg.tm trivial rfl (t_gtrT rfl rfl (by omega)) rfl ?_ | refine Rg.tm trivial rfl (t_gtrF rfl rfl (by omega)) rfl ?_ | refine Rg.tm trivial rfl (t_gtr rfl rfl) rfl ?_
      refine Rg.done ?_
      refine Wp.condF rfl ?_
      refine Wp.skip ?_
      refine Wp.seq (Wp.region ?_)
      refine Rg.tm trivial rfl (t_assign rfl) rfl ?_
      refine Rg.done ?_
      refine Wp.ret ?_
      exact ⟨[_], ⟨rfl, trivial⟩, rfl, hx⟩

theorem textApply_no {s : ByteArray} {es : List TE} {w : World} {v : Value} (hs0 : SlC w v 3 es.length (tes es)) (hlen : es.length < 4611686018427387904) (hb : ∀ e ∈ es, (e.s.size : Int) ≤ 140737488355328) (hsz : s.size < 4611686018427387904) (hn : codeE s.size es ≠ 0) :
    Cl Tryz.prog 8 #[.string s, v] w (fun u w' => u = .tuple #[.string ⟨#[]⟩, .int .i64 (codeE s.size es)] ∧ Ext w w') := by
  have hx := Ext.refl w
  refine Cl.enter Tryz.func8 rfl Tryz.ntmps8 rfl rfl ?_
  refine Wp.seq (Wp.region ?_)
  refine Rg.tm trivial rfl (t_assign rfl) rfl ?_
  refine Rg.tm trivial rfl (t_assign rfl) rfl ?_
  refine Rg.done ?_
  refine Wp.seq ?_
  refine Wp.seq (Wp.region ?_)
  refine Rg.tm trivial rfl (t_move rfl) rfl ?_
  refine Rg.tm trivial rfl (t_move rfl) rfl ?_
  refine Rg.wd trivial (w_call Tryz.call13 rfl (validate_ok hs0 hsz hlen hb)) rfl ?_
  rintro _ w1 ⟨rfl, hx1⟩
  replace hx := hx.ext hx1
  refine Rg.tm trivial rfl (t_assign rfl) rfl ?_
  refine Rg.done ?_
  refine Wp.seq (Wp.region ?_)
  refine Rg.tm trivial rfl (t_move rfl) rfl ?_
  first | refine Rg.tm trivial rfl (t_neqT rfl rfl (by omega)) rfl ?_ | refine Rg.tm trivial rfl (t_neqF rfl rfl (by omega)) rfl ?_ | refine Rg.tm trivial rfl (t_neq rfl rfl) rfl ?_
  refine Rg.done ?_
  refine Wp.condT rfl ?_
  refine Wp.seq (Wp.region ?_)
  refine Rg.tm trivial rfl (t_move rfl) rfl ?_
  refine Rg.tm trivial rfl (t_assign rfl) rfl ?_
  refine Rg.tm trivial rfl (t_assign rfl) rfl ?_
  refine Rg.done ?_
  refine Wp.ret ?_
  exact ⟨[_, _], ⟨rfl, rfl, trivial⟩, rfl, hx⟩

theorem textApply_ok {s : ByteArray} {es : List TE} {w : World} {v : Value} (hs0 : SlC w v 3 es.length (tes es)) (hlen : es.length < 4611686018427387904) (hb : ∀ e ∈ es, (e.s.size : Int) ≤ 140737488355328) (h0 : codeE s.size es = 0) :
    Cl Tryz.prog 8 #[.string s, v] w (fun u w' => u = .tuple #[.string (outE s es), .int .i64 0] ∧ Ext w w') := by
  have hx := Ext.refl w
  obtain ⟨z1, z2, z3, z4⟩ := codeE_zero h0
  refine Cl.enter Tryz.func8 rfl Tryz.ntmps8 rfl rfl ?_
  refine Wp.seq (Wp.region ?_)
  refine Rg.tm trivial rfl (t_assign rfl) rfl ?_
  refine Rg.tm trivial rfl (t_assign rfl) rfl ?_
  refine Rg.done ?_
  refine Wp.seq ?_
  refine Wp.seq (Wp.region ?_)
  refine Rg.tm trivial rfl (t_move rfl) rfl ?_
  refine Rg.tm trivial rfl (t_move rfl) rfl ?_
  refine Rg.wd trivial (w_call Tryz.call13 rfl (validate_ok hs0 (by omega) hlen hb)) rfl ?_
  rintro _ w1 ⟨rfl, hx1⟩
  replace hx := hx.ext hx1
  rw [h0]
  refine Rg.tm trivial rfl (t_assign rfl) rfl ?_
  refine Rg.done ?_
  refine Wp.seq (Wp.region ?_)
  refine Rg.tm trivial rfl (t_move rfl) rfl ?_
  first | refine Rg.tm trivial rfl (t_neqT rfl rfl (by omega)) rfl ?_ | refine Rg.tm trivial rfl (t_neqF rfl rfl (by omega)) rfl ?_ | refine Rg.tm trivial rfl (t_neq rfl rfl) rfl ?_
  refine Rg.done ?_
  refine Wp.condF rfl ?_
  refine Wp.skip ?_
  refine Wp.seq (Wp.region ?_)
  refine Rg.wd trivial (w_new Tryz.zeroValue83 rfl) rfl ?_
  rintro _ w2 ⟨b7, rfl, qb7, hx2, hv7⟩
  replace hx := hx.ext hx2
  have hB : IsBuilder 83 5 w.heap.size b7 [] w2 := .inl ⟨by have := hx1.le; omega, _, hv7, ⟨rfl, .inl ⟨rfl, rfl⟩⟩, by simp [Value.ownBlock]⟩
  have lt7 := hv7.lt
  refine Rg.done ?_
  refine Wp.seq (Wp.region ?_)
  refine Rg.tm trivial rfl (t_assign rfl) rfl ?_
  refine Rg.done ?_
  refine Wp.seq ?_
  refine Wp.seq (Wp.region ?_)
  refine Rg.tm trivial rfl (t_move rfl) rfl ?_
  refine Rg.tm trivial rfl (t_lenC hs0 Tryz.underlying22 rfl) rfl ?_
  refine Rg.tm trivial rfl (t_move rfl) rfl ?_
  refine Rg.done ?_
  refine Wp.block ?_
  refine Wp.loop (ι := Nat) (fun k => [(0, .string s), (1, v), (7, .pointer (some ⟨b7, 0, none⟩)), (8, .int .i64 (lastE 0 (es.take k))), (17, v), (18, .int .i64 es.length), (19, .int .i64 k)])
    (fun k w' => k ≤ es.length ∧ IsBuilder 83 5 w.heap.size b7 (strCells (appE s 0 (es.take k))) w' ∧ b7 < w'.heap.size ∧ Ext w w')
    (fun k => es.length - k) 0 (by repeat (first | exact .nil | refine .cons rfl ?_)) ⟨Nat.zero_le _, hB, lt7, hx⟩ ?_
  clear hx hB lt7 hv7 hx1 hx2
  rintro k w3 ⟨hk, hB, lt7, hx⟩
  by_cases hlt : k < es.length
  · skip
    refine Wp.seq (Wp.region ?_)
    first | refine Rg.tm trivial rfl (t_lssT rfl rfl (by omega)) rfl ?_ | refine Rg.tm trivial rfl (t_lssF rfl rfl (by omega)) rfl ?_ | refine Rg.tm trivial rfl (t_lss rfl rfl) rfl ?_
    refine Rg.done ?_
    refine Wp.seq ?_
    refine Wp.condT rfl ?_
    refine Wp.skip ?_
    refine Wp.seq ?_
    refine Wp.block ?_
    refine Wp.seq (Wp.region ?_)
    refine Rg.ix hs0 trivial rfl rfl Tryz.underlying22 ty51 (by omega) rfl ?_
    intro bt21 ot21 ht21
    replace ht21 := ht21.ext hx
    rw [Int.toNat_natCast, tes_at es k hlt] at ht21
    obtain ⟨p1, p2, p3, p4⟩ := at0 hlt h0
    have p5 := appE_le h0 (k + 1)
    have p6 := List.take_succ_eq_append_getElem hlt
    rw [p6, appE_snoc, ByteArray.size_append, ByteArray.size_append] at p5
    obtain ⟨e, he⟩ : ∃ e, es[k] = e := ⟨_, rfl⟩
    rw [he] at ht21 p2 p3 p4 p5 p6
    unfold TE.cells at ht21
    refine Rg.tm trivial rfl (t_loadA rfl ht21 ty51) rfl ?_
    refine Rg.wd trivial (w_new Tryz.zeroValue51 rfl) rfl ?_
    rintro _ wa ⟨b10, rfl, qb10, hxa, hva⟩
    refine Rg.wn trivial (w_put hva rfl rfl rfl ty51 rfl rfl) ?_
    rintro _ w3 ⟨hu, hvb10⟩
    have hx3 := hxa.upd hu (Nat.le_of_eq qb10.symm)
    replace hx := hx.ext hx3
    replace hB := isB_ext hB hx3
    have hcb10 := hvb10.cells
    clear hva hu
    refine Rg.done ?_
    refine Wp.seq (Wp.draw [0, 1, 2, 3, 4, 5, 6, 7, 8] [0] mixed (by kernel_rfl) (by kernel_rfl) ?_)
    intro w4 hx4 _
    replace hx := hx.ext hx4
    replace hcb10 := hcb10.ext hx4
    replace hB := isB_ext hB hx4
    replace hvb10 := hvb10.ext hx4
    refine Rg.tm trivial rfl (t_move rfl) rfl ?_
    refine Rg.tm trivial rfl (t_move rfl) rfl ?_
    refine Rg.tm trivial rfl (t_fieldAddr fa51_0 rfl) rfl ?_
    refine Rg.tm trivial rfl (t_load ty3 rfl (by apply Cells.get (i := 0); (case h => assumption); rfl)) rfl ?_
    refine Rg.tm trivial rfl (t_sliceS Tryz.underlying9 rfl rfl rfl (by omega)) rfl ?_
    refine Rg.tm trivial rfl (t_fieldAddr fa51_2 rfl) rfl ?_
    refine Rg.tm trivial rfl (t_load ty9 rfl (by apply Cells.get (i := 2); (case h => assumption); rfl)) rfl ?_
    refine Rg.tm trivial rfl (t_sadd rfl rfl (by omega)) rfl ?_
    have lb := hvb10.lt
    refine rg_wdC trivial rfl (w_call Tryz.call28 rfl (writeString_k hB (by rw [strCells_length, ByteArray.size_append]; omega) hx.le)) rfl (by rfl) ?_
    rintro _ w80 ⟨rfl, hB2, hb1, hkv⟩
    have hv := hkv _ _ _ (by omega) (by decide) hvb10
    replace hx : Ext w w80 := Below.trans hx hb1
    replace hB : IsBuilder 83 5 w.heap.size b7 _ w80 := .inr hB2
    replace lt7 := hB2.lt
    clear hcb10 hvb10 hkv hB2 hb1
    have hcb10 := hv.cells
    refine Rg.done ?_
    refine Wp.region ?_
    refine Rg.tm trivial rfl (t_fieldAddr fa51_1 rfl) rfl ?_
    refine Rg.tm trivial rfl (t_load ty3 rfl (by apply Cells.get (i := 1); (case h => assumption); rfl)) rfl ?_
    refine Rg.tm trivial rfl (t_assign rfl) rfl ?_
    refine Rg.done ?_
    refine Wp.region ?_
    first | refine Rg.tm trivial rfl (t_addI rfl rfl (by omega)) rfl ?_ | refine Rg.tm trivial rfl (t_add rfl rfl) rfl ?_
    refine Rg.tm trivial rfl (t_move rfl) rfl ?_
    refine Rg.done ?_
    rw [← strCells_add] at hB
    refine ⟨k + 1, ?_, ⟨hlt, ?_, lt7, hx⟩, by omega⟩
    · rw [p6, lastE_snoc]
      repeat (first | exact .nil | refine .cons rfl ?_)
    · rw [p6, appE_snoc]
      exact hB
  · have e0 : k = es.length := by omega
    subst e0
    simp only [List.take_length] at *
    have p1 := last0 (by omega) z3 es.length
    rw [List.take_length] at p1
    have p2 := (appE_le h0 es.length).2
    have p3 : (outE s es).size = (appE s 0 es).size + (s.extract (lastE 0 es).toNat s.size).size := by simp only [outE, ByteArray.size_append]
    refine Wp.seq (Wp.region ?_)
    first | refine Rg.tm trivial rfl (t_lssT rfl rfl (by omega)) rfl ?_ | refine Rg.tm trivial rfl (t_lssF rfl rfl (by omega)) rfl ?_ | refine Rg.tm trivial rfl (t_lss rfl rfl) rfl ?_
    refine Rg.done ?_
    refine Wp.seq ?_
    refine Wp.condF rfl ?_
    refine Wp.exit ?_
    refine Wp.seq (Wp.region ?_)
    refine Rg.tm trivial rfl (t_move rfl) rfl ?_
    refine Rg.tm trivial rfl (t_move rfl) rfl ?_
    refine Rg.tm trivial rfl (t_sliceS Tryz.underlying9 rfl rfl rfl (by omega)) rfl ?_
    refine Rg.wd trivial (w_call Tryz.call28 rfl (writeString_k hB (by rw [strCells_length]; simp only [Int.toNat_natCast]; omega) hx.le)) rfl ?_
    rintro _ w80 ⟨rfl, hB2, hb1, hkv⟩
    replace hx : Ext w w80 := Below.trans hx hb1
    replace hB : IsBuilder 83 5 w.heap.size b7 _ w80 := .inr hB2
    rw [← strCells_add, strCells_eq] at hB
    change IsBuilder 83 5 w.heap.size b7 (byteCells (outE s es).data.toList) w80 at hB
    refine Rg.done ?_
    refine Wp.seq (Wp.region ?_)
    refine Rg.wd trivial (w_call Tryz.call29 rfl (Cl.of (Tryz.Builder_String_any w.heap.size b7 _ w80 hB hx.le))) rfl ?_
    rintro _ w81 ⟨rfl, hb4⟩
    refine Rg.tm trivial rfl (t_assign rfl) rfl ?_
    refine Rg.tm trivial rfl (t_assign rfl) rfl ?_
    refine Rg.done ?_
    refine Wp.ret ?_
    exact ⟨[_, _], ⟨rfl, rfl, trivial⟩, by simp [tup], Below.trans hx hb4⟩
end Go.Proofs.YtbnkncemfadfjaaGreatDoor
