/- The engine's rules, more: maps whose keys are structs of plain parts. Generic in the program. -/
import Derived.Test.YtbnkncemfadfjaaGreatDoorGz
import Derived.WideKeyRuns
import Derived.ChangeMaps5
namespace Go.Gx
set_option linter.unusedVariables false
set_option linter.unusedSimpArgs false
open Go.RowKit
open Go.ChangeMaps (setBlock heap_setBlock_same heap_setBlock_other)

/-- a type of keys that can be told apart -/
structure KeyT (P : Program) (k : TypeId) (Q : Value → Prop) : Prop where
  wide : (match P.underlying k with | some (.array _ _) | some (.struct _) => true | _ => false) = true
  chk : ∀ v, Q v → ∀ (em : Bool) (w : World), (Instr.checkKey em 10000 k v).run P w = .ok () w
  eq : ∀ x y, Q x → Q y → ∃ r : Bool, (∀ w : World, (Op.equal k x y).run P w = .ok r w) ∧ (r = true → x = y)
  bits : ∀ v, Q v → Instr.sameBits 10000 v v = true
def MapA (w : World) (b : Nat) (es : Array MapEntry) : Prop := ∃ clk, w.heap[b]? = some (.map es clk)
theorem MapA.ext {w w' : World} {b : Nat} {es : Array MapEntry} (h : MapA w b es) (k : Ext w w') : MapA w' b es := by
  obtain ⟨clk, h⟩ := h
  exact ⟨clk, by rw [Below.block k b (Array.getElem?_eq_some_iff.1 h).1]; exact h⟩
theorem MapA.upd {w w' : World} {b c t : Nat} {cs : List Value} {es : Array MapEntry} (h : MapA w b es) (hv : Var w c cs t) (k : Upd c w w') : MapA w' b es := by
  obtain ⟨clk, h⟩ := h
  refine ⟨clk, ?_⟩
  rw [k.block b fun e => by subst e; unfold Var at hv; rw [hv] at h; cases h]
  exact h
theorem MapA.ne {w : World} {b c t : Nat} {cs : List Value} {es : Array MapEntry} (h : MapA w b es) (hv : Var w c cs t) : b ≠ c := fun e => by
  obtain ⟨clk, h⟩ := h
  subst e
  unfold Var at hv
  rw [hv] at h
  cases h
theorem own_map {w w' : World} {b B e size n : Nat} {es : Array MapEntry} {xs : List Value} {v : Value} (h : w.ownsRow B e size v n xs) (hm : MapA w b es) (hu : Upd b w w') : w'.ownsRow B e size v n xs := by
  obtain ⟨clk, hm⟩ := hm
  refine ⟨h.1, h.2.imp id fun ⟨g, cap, cur, h1, h2, h3, h4⟩ => ⟨g, cap, cur, h1, h2, ?_, h4⟩⟩
  rw [hu.block g fun hk => by subst hk; rw [hm] at h3; cases h3]
  exact h3
section
variable {P : Program} {k : TypeId} {Q : Value → Prop}
theorem find_of (K : KeyT P k Q) {x : Value} (hx : Q x) : ∀ (es : List MapEntry) (i : Nat), (∀ e ∈ es, Q e.key) →
    ∃ r : Option (Nat × Value), (∀ w : World, (Instr.findAsking k x es i).run P w = .ok r w) ∧ (∀ j v, r = some (j, v) → ∃ m e, j = i + m ∧ es[m]? = some e ∧ e.val = v ∧ e.key = x)
  | [], i, _ => ⟨none, fun w => by simp [Instr.findAsking], fun j v h => by cases h⟩
  | e :: es, i, hall => by
    obtain ⟨r, hr, hiff⟩ := K.eq x e.key hx (hall e (by simp))
    cases r
    · obtain ⟨r', h1, h2⟩ := find_of K hx es (i + 1) (fun y hy => hall y (by simp [hy]))
      refine ⟨r', fun w => by simp [Instr.findAsking, hr w, h1 w], fun j v hj => ?_⟩
      obtain ⟨m, e', h3, h4, h5, h6⟩ := h2 j v hj
      exact ⟨m + 1, e', by omega, by simpa using h4, h5, h6⟩
    · refine ⟨some (i, e.val), fun w => by simp [Instr.findAsking, hr w], fun j v hj => ?_⟩
      cases hj
      exact ⟨0, e, rfl, rfl, rfl, (hiff rfl).symm⟩
end
section
variable {P : Program} {n : Nat} {L : Env} {w : World} {d : Option Tmp} {ty : TypeId} {pos : String} {af : Array Edge} {g : Option (Nat × Bool)}
variable {ops : Array Oper} {dr : Option (List Nat)} {K0 : Kn} {dd : Tmp} {rest : List Oper}
/-- m[k] -/
theorem Rg.lk {t kt e : TypeId} {Q : Value → Prop} {x y : Operand} {b : Nat} {key z : Value} {es : Array MapEntry} (K : KeyT P kt Q) (ht : P.underlying t = some (.map kt e)) (hz : ∀ w, (zeroValue e).run P w = .ok z w) (hg : gYes ops ⟨some dd, .lookup t x y false, ty, pos, af, g⟩ L)
    (hx : evO L x = some (.map (some b))) (hy : evO L y = some key) (hq : Q key) (hm : MapA w b es) (hall : ∀ e ∈ es.toList, Q e.key) (hd : Nat.blt dd n = true)
    (k : ∀ v', (v' = z ∨ ∃ e ∈ es.toList, e.val = v') → Rg P ops n dr K0 rest ((dd, v') :: L) w) : Rg P ops n dr K0 (⟨some dd, .lookup t x y false, ty, pos, af, g⟩ :: rest) L w := by
  obtain ⟨clk, hm⟩ := hm
  obtain ⟨r, hr, hf⟩ := find_of K hq es.toList 0 hall
  have hlt := (Array.getElem?_eq_some_iff.1 hm).1
  refine Rg.tm (v := match r with | some (_, v) => v | none => z) hg rfl (fun a ha w' hb => ?_) hd (k _ ?_)
  · have hm' : w'.heap[b]? = some (.map es clk) := by rw [hb.block b hlt]; exact hm
    have hrun : (Instr.lookup t (.map (some b)) key false).run P w' = .ok (match r with | some (_, v) => v | none => z) w' := by
      unfold Instr.lookup
      cases r with
      | none => simp [run_underlying ht, MapKept.run_getObj_map hm', K.chk key hq, run_findKey_eq w' K.wide, hr w', hz w']
      | some q => simp [run_underlying ht, MapKept.run_getObj_map hm', K.chk key hq, run_findKey_eq w' K.wide, hr w']
    simp [execOp, ha.eval hx, ha.eval hy, hrun]
  · cases r with
    | none => exact .inl rfl
    | some q =>
      obtain ⟨m, e, _, h2, h3, _⟩ := hf q.1 q.2 rfl
      exact .inr ⟨e, List.mem_of_getElem? h2, h3⟩
/-- m[k] = v -/
theorem w_mapSet {t kt e : TypeId} {Q : Value → Prop} {x y z : Operand} {b : Nat} {key val : Value} {es : Array MapEntry} (K : KeyT P kt Q) (ht : P.underlying t = some (.map kt e)) (hx : evO L x = some (.map (some b))) (hy : evO L y = some key) (hv : evO L z = some val) (hq : Q key) (hm : MapA w b es) (hall : ∀ e ∈ es.toList, Q e.key) :
    Wl P n ⟨none, .mapUpdate t x y z, ty, pos, af, g⟩ L w (fun _ w' => ∃ es', MapA w' b es' ∧ Upd b w w' ∧ ∀ e' ∈ es'.toList, Q e'.key ∧ (e'.val = val ∨ ∃ e0 ∈ es.toList, e0.val = e'.val)) := fun a hF Q' next hn => by
  obtain ⟨clk, hm⟩ := hm
  obtain ⟨r, hr, hf⟩ := find_of K hq es.toList 0 hall
  have key1 : ∃ es' clk', (Instr.mapUpdate t (.map (some b)) key val).run P w = .ok () (setBlock w b (.map es' clk')) ∧ ∀ e' ∈ es'.toList, Q e'.key ∧ (e'.val = val ∨ ∃ e0 ∈ es.toList, e0.val = e'.val) := by
    cases r with
    | none =>
      refine ⟨es.push { key, val := val, born := clk }, clk + 1, ?_, fun e' he' => ?_⟩
      · simp [Instr.mapUpdate, run_underlying ht, MapKept.run_getObj_map hm, K.chk key hq, run_findKey_eq w K.wide, hr w, MapKept.run_setObj_map _ hm, setBlock]
      · simp only [Array.toList_push, List.mem_append, List.mem_singleton] at he'
        rcases he' with he' | rfl
        · exact ⟨hall _ he', .inr ⟨e', he', rfl⟩⟩
        · exact ⟨hq, .inl rfl⟩
    | some q =>
      obtain ⟨m, e0, h1, h2, h3, h4⟩ := hf q.1 q.2 rfl
      have hq1 : es[q.1]? = some e0 := by
        rw [h1, Nat.zero_add, ← Array.getElem?_toList]
        exact h2
      refine ⟨es.modify q.1 fun e => { e with key, val := val }, clk, ?_, fun e' he' => ?_⟩
      · simp [Instr.mapUpdate, run_underlying ht, MapKept.run_getObj_map hm, K.chk key hq, run_findKey_eq w K.wide, hr w, hq1, Instr.keyThatStays, h4, K.bits key hq, MapKept.run_setObj_map _ hm, setBlock]
      · obtain ⟨j, hj⟩ := List.getElem?_of_mem he'
        rw [Array.getElem?_toList, Array.getElem?_modify] at hj
        by_cases hjq : q.1 = j
        · rw [if_pos hjq] at hj
          subst hjq
          rw [hq1] at hj
          simp only [Option.map_some, Option.some.injEq] at hj
          rw [← hj]
          exact ⟨hq, .inl rfl⟩
        · rw [if_neg hjq] at hj
          have hmem : e' ∈ es.toList := List.mem_of_getElem? (by rw [Array.getElem?_toList]; exact hj)
          exact ⟨hall _ hmem, .inr ⟨e', hmem, rfl⟩⟩
  obtain ⟨es', clk', hrun, hgood⟩ := key1
  have hrun2 : (execOp a.eval ⟨none, .mapUpdate t x y z, ty, pos, af, g⟩).run P w = .ok .skip (setBlock w b (.map es' clk')) := by
    simp [execOp, hF.eval hx, hF.eval hy, hF.eval hv, hrun]
  unfold Oper.wp
  rw [hrun2]
  refine hn undef _ ⟨es', ⟨clk', heap_setBlock_same hm _⟩, ⟨rfl, rfl, rfl, by simp [setBlock], fun j hj => heap_setBlock_other hm _ hj⟩, hgood⟩
/-- make(map) -/
theorem w_makeMap {t : TypeId} : Wl P n ⟨d, .makeMap t none, ty, pos, af, g⟩ L w (fun v w' => ∃ b, v = .map (some b) ∧ b = w.heap.size ∧ Ext w w' ∧ MapA w' b #[]) := w_run fun a hF =>
  ⟨.map (some w.heap.size), w.alloc (.map #[] 0), by simp [execOp, Instr.makeMap], _, rfl, rfl, Ext.alloc _ _, 0, by unfold World.alloc; simp⟩
/-- &p[i] of an array behind a pointer -/
theorem t_indexAddrA {t e len : Nat} {x y : Operand} {b o size : Nat} {ag : Bool} {i : Int} {k : IntKind} (hu : P.underlying t = some (.array len e)) (ht : Ty P e size ag) (hx : evO L x = some (.pointer (some ⟨b, o, none⟩))) (hy : evO L y = some (.int k i)) (h : 0 ≤ i ∧ i < len) :
    Tm P n ⟨d, .indexAddr t x y, ty, pos, af, g⟩ L w (.pointer (some ⟨b, o + i.toNat * size, none⟩)) := fun a ha w' _ => by
  have h1 := h.1
  have h2 := h.2
  simp [execOp, ha.eval hx, ha.eval hy, Instr.indexAt, asIntOf, run_underlying hu, h1, h2, ht.sz, Instr.sureAddr, addr_add]
end
end Go.Gx
