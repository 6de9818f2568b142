/- The engine's rules, third part: slices as abstract values. Generic in the program. -/
import Derived.Test.YtbnkncemfadfjaaGreatDoorGs
namespace Go.Gx
set_option linter.unusedVariables false
set_option linter.unusedSimpArgs false
open Go.RowKit

/-- v is a slice of n elements of size cells each, which hold cs -/
def SlC (w : World) (v : Value) (size n : Nat) (cs : List Value) : Prop :=
  cs.length = n * size ∧ ∃ p cap, v = .slice p n cap ∧ n ≤ cap ∧ (cap = 0 ∨ ∃ b o, p = some ⟨b, o, none⟩ ∧ Cells w b o cs)

theorem SlC.ext {w w' : World} {v : Value} {size n : Nat} {cs : List Value} (h : SlC w v size n cs) (k : Ext w w') : SlC w' v size n cs := by
  obtain ⟨h1, p, cap, h2, h3, h4⟩ := h
  refine ⟨h1, p, cap, h2, h3, h4.imp id ?_⟩
  rintro ⟨b, o, h5, h6⟩
  exact ⟨b, o, h5, h6.ext k⟩

theorem Cells.sub {w : World} {b o : Nat} {cs : List Value} (h : Cells w b o cs) (i m : Nat) : Cells w b (o + i) ((cs.drop i).take m) := fun j v hv => by
  rw [Nat.add_assoc]
  refine h (i + j) v ?_
  rw [List.getElem?_take] at hv
  split at hv
  · rwa [List.getElem?_drop] at hv
  · cases hv

theorem SlC.cut {w : World} {p : Option Addr} {size n cap : Nat} {cs : List Value} (h : SlC w (.slice p n cap) size n cs) {l r : Nat} (h1 : l ≤ r) (h2 : r ≤ n) :
    SlC w (.slice (if cap = l then p else p.map (·.add (l * size))) (r - l) (cap - l)) size (r - l) ((cs.drop (l * size)).take ((r - l) * size)) := by
  obtain ⟨h3, p', cap', h4, h5, h6⟩ := h
  obtain ⟨rfl, _, rfl⟩ := Value.slice.inj h4
  have h7 : (r - l) * size ≤ n * size - l * size := by rw [← Nat.sub_mul]; exact Nat.mul_le_mul_right _ (by omega)
  refine ⟨by rw [List.length_take, List.length_drop, h3]; omega, _, _, rfl, by omega, ?_⟩
  rcases h6 with rfl | ⟨b, o, rfl, hc⟩
  · exact .inl (by omega)
  · by_cases hcl : cap = l
    · rw [if_pos hcl]
      refine .inr ⟨b, o, rfl, ?_⟩
      have : r - l = 0 := by omega
      rw [this, Nat.zero_mul, List.take_zero]
      intro i v hv; simp at hv
    · rw [if_neg hcl]
      exact .inr ⟨b, o + l * size, by simp [addr_add], hc.sub _ _⟩

def optV (L : Env) (d : Value) : Option Operand → Option Value
  | none => some d
  | some y => evO L y

section
variable {P : Program} {n : Nat} {L : Env} {w : World} {d : Option Tmp} {ty : TypeId} {pos : String} {af : Array Edge} {g : Option (Nat × Bool)}
variable {ops : Array Oper} {dr : Option (List Nat)} {K : Kn} {dd : Tmp} {op : Op} {rest : List Oper} {v : Value}

theorem t_sliceG {t e : TypeId} {x : Operand} {lo hi : Option Operand} {p : Option Addr} {len cap size : Nat} {ag : Bool} {l h : Int} (hu : P.underlying t = some (.slice e)) (ht : Ty P e size ag) (hx : evO L x = some (.slice p len cap))
    (hlo : optV L (.int .i64 0) lo = some (.int .i64 l)) (hhi : optV L (.int .i64 len) hi = some (.int .i64 h)) (hb : 0 ≤ l ∧ l ≤ h ∧ h ≤ cap) :
    Tm P n ⟨d, .slice t x lo hi none, ty, pos, af, g⟩ L w (.slice (if cap = l.toNat then p else p.map (·.add (l.toNat * size))) (h.toNat - l.toNat) (cap - l.toNat)) := fun a ha w' _ => by
  obtain ⟨h1, h2, h3⟩ := hb
  have h0 : 0 ≤ h := by omega
  cases lo <;> cases hi <;> simp only [optV, Option.some.injEq, Value.int.injEq, true_and] at hlo hhi
  · subst hlo; subst hhi
    simp [execOp, ha.eval hx, Instr.sliceAt, Instr.slice, run_underlying hu, Instr.sliceBounds, ht.sz]
  · subst hlo
    simp [execOp, ha.eval hx, ha.eval hhi, Instr.sliceAt, Instr.slice, run_underlying hu, Instr.sliceBounds, Instr.sliceBound, asIntOf, h0, h3, ht.sz]
  · subst hhi
    simp [execOp, ha.eval hx, ha.eval hlo, Instr.sliceAt, Instr.slice, run_underlying hu, Instr.sliceBounds, Instr.sliceBound, asIntOf, h1, h2, ht.sz]
  · have h4 : l ≤ (h.toNat : Int) := by omega
    simp [execOp, ha.eval hx, ha.eval hlo, ha.eval hhi, Instr.sliceAt, Instr.slice, run_underlying hu, Instr.sliceBounds, Instr.sliceBound, asIntOf, h0, h1, h3, h4, show l ≤ max h 0 from by omega, ht.sz]

/-- s[l:h] of a slice that reads -/
theorem Rg.sl {wB : World} {t e : TypeId} {x : Operand} {lo hi : Option Operand} {size m : Nat} {ag : Bool} {l h : Int} {cs : List Value} (hs : SlC wB v size m cs) (hg : gYes ops ⟨some dd, .slice t x lo hi none, ty, pos, af, g⟩ L) (hx : evO L x = some v) (hu : P.underlying t = some (.slice e)) (ht : Ty P e size ag)
    (hlo : optV L (.int .i64 0) lo = some (.int .i64 l)) (hhi : optV L (.int .i64 m) hi = some (.int .i64 h)) (hb : 0 ≤ l ∧ l ≤ h ∧ h ≤ m) (hd : Nat.blt dd n = true)
    (k : ∀ v', SlC wB v' size (h.toNat - l.toNat) ((cs.drop (l.toNat * size)).take ((h.toNat - l.toNat) * size)) → Rg P ops n dr K rest ((dd, v') :: L) w) : Rg P ops n dr K (⟨some dd, .slice t x lo hi none, ty, pos, af, g⟩ :: rest) L w := by
  obtain ⟨_, p, cap, rfl, h2, _⟩ := id hs
  exact Rg.tm hg rfl (t_sliceG hu ht hx hlo hhi ⟨hb.1, hb.2.1, by omega⟩) hd (k _ (hs.cut (by omega) (by omega)))
theorem t_lenC {wB : World} {t e : TypeId} {x : Operand} {size m : Nat} {cs : List Value} (hs : SlC wB v size m cs) (hu : P.underlying t = some (.slice e)) (hx : evO L x = some v) : Tm P n ⟨d, .call { callee := .builtin .len, args := #[x], argTypes := #[t] }, ty, pos, af, g⟩ L w (.int .i64 m) := by
  obtain ⟨_, p, cap, rfl, _⟩ := hs
  exact t_lenS hu hx
/-- &s[i] -/
theorem Rg.ix {wB : World} {t e : TypeId} {x y : Operand} {size m : Nat} {ag : Bool} {i : Int} {k : IntKind} {cs : List Value} (hs : SlC wB v size m cs) (hg : gYes ops ⟨some dd, .indexAddr t x y, ty, pos, af, g⟩ L) (hx : evO L x = some v) (hy : evO L y = some (.int k i)) (hu : P.underlying t = some (.slice e)) (ht : Ty P e size ag)
    (hb : 0 ≤ i ∧ i < m) (hd : Nat.blt dd n = true) (k : ∀ b o, Cells wB b o ((cs.drop (i.toNat * size)).take size) → Rg P ops n dr K rest ((dd, .pointer (some ⟨b, o, none⟩)) :: L) w) : Rg P ops n dr K (⟨some dd, .indexAddr t x y, ty, pos, af, g⟩ :: rest) L w := by
  obtain ⟨_, p, cap, rfl, h2, h3⟩ := id hs
  rcases h3 with rfl | ⟨b, o, rfl, hc⟩
  · omega
  · exact Rg.tm hg rfl (t_indexAddrL hu ht hx hy hb) hd (k _ _ (hc.sub _ _))

theorem w_buildSlice {t len e : Nat} {parts : Array (Nat × Operand)} {pv : List (Nat × Value)} {cs : List Value} (h : ∀ w, (Instr.buildSlice t len pv.toArray).run P w = .ok (.slice (some ⟨w.heap.size, 0, none⟩) len len) (w.alloc (.cells cs.toArray e))) (hp : (parts.toList.map fun q => (q.1, evO L q.2)) = pv.map fun q => (q.1, some q.2)) :
    Wl P n ⟨d, .buildSlice t len parts, ty, pos, af, g⟩ L w (fun u w' => ∃ b, u = .slice (some ⟨b, 0, none⟩) len len ∧ b = w.heap.size ∧ Ext w w' ∧ Var w' b cs e) := w_run fun a ha => by
  have : (parts.map fun q => (q.1, a.eval q.2)) = pv.toArray := by
    apply Array.toList_inj.1
    rw [Array.toList_map]
    show _ = pv
    generalize parts.toList = ps at *
    clear h
    induction ps generalizing pv with
    | nil => cases pv <;> simp_all
    | cons p ps ih =>
      cases pv with
      | nil => simp at hp
      | cons q vs =>
        simp only [List.map_cons, List.cons.injEq, Prod.mk.injEq] at hp ⊢
        refine ⟨?_, ih hp.2⟩
        rw [hp.1.1, ha.eval hp.1.2]
  refine ⟨.slice (some ⟨w.heap.size, 0, none⟩) len len, w.alloc (.cells cs.toArray e), ?_, w.heap.size, rfl, rfl, Ext.alloc _ _, ?_⟩
  · simp only [execOp]
    rw [show (parts.map fun (i, x) => (i, a.eval x)) = pv.toArray from this]
    simp [h]
  · unfold Var World.alloc; simp
end

/-- a row of the call's own, read as a slice -/
theorem own_slice {w : World} {B e size n : Nat} {v : Value} {xs : List Value} (h : w.ownsRow B e size v n xs) : SlC w v size n xs := by
  obtain ⟨h1, h2⟩ := h
  rcases h2 with ⟨rfl, rfl⟩ | ⟨b, cap, cur, rfl, hB, hh, hn, hcap, hsz, hxs⟩
  · exact ⟨h1, _, _, rfl, Nat.le_refl _, .inl rfl⟩
  · refine ⟨h1, _, _, rfl, hn, .inr ⟨b, 0, rfl, fun i v hv => ?_⟩⟩
    rw [Nat.zero_add]
    simp only [World.cell?, hh]
    subst hxs
    rw [List.getElem?_take] at hv
    split at hv
    · simpa using hv
    · cases hv
theorem own_nil (w : World) (B e size : Nat) : w.ownsRow B e size (.slice none 0 0) 0 [] := ⟨by simp, .inl ⟨rfl, rfl⟩⟩
theorem own_ext {w w' : World} {B e size n : Nat} {v : Value} {xs : List Value} (h : w.ownsRow B e size v n xs) (k : Ext w w') : w'.ownsRow B e size v n xs := by
  obtain ⟨h1, h2⟩ := h
  refine ⟨h1, h2.imp id ?_⟩
  rintro ⟨b, cap, cur, h3, hB, hh, r⟩
  exact ⟨b, cap, cur, h3, hB, by rw [k.below.block b (Array.getElem?_eq_some_iff.1 hh).1]; exact hh, r⟩
end Go.Gx
namespace Go.Gx
open Go.RowKit
section
variable {P : Program} {n : Nat} {L : Env} {w : World} {d : Option Tmp} {ty : TypeId} {pos : String} {af : Array Edge} {g : Option (Nat × Bool)}
theorem t_quoN {t t' : TypeId} {x y : Operand} {u v : Nat} (hx : evO L x = some (.int .i64 u)) (hy : evO L y = some (.int .i64 v)) (hv : 0 < v) (hu : u ≤ 9223372036854775807) : Tm P n ⟨d, .binOp .quo t x y t', ty, pos, af, g⟩ L w (.int .i64 ((u / v : Nat) : Int)) := fun a ha w' _ => by
  have h0 : (v : Int) ≠ 0 := by omega
  have h1 : ((u : Int).tdiv v) = ((u / v : Nat) : Int) := by rw [Int.tdiv_eq_ediv_of_nonneg (by omega)]; simp
  have h2 : u / v ≤ u := Nat.div_le_self _ _
  have h3 : IntKind.i64.wrap ((u / v : Nat) : Int) = ((u / v : Nat) : Int) := by
    generalize u / v = q at h2
    exact wrap_i64 (by omega) (by omega)
  simp only [execOp, eqGuard, binOp, Op.intDiv, ha.eval hx, ha.eval hy]
  rw [if_neg h0, h1, h3]
  simp
theorem t_remI {t t' : TypeId} {x y : Operand} {u v : Int} (hx : evO L x = some (.int .i64 u)) (hy : evO L y = some (.int .i64 v)) (hv : v ≠ 0) : Tm P n ⟨d, .binOp .rem t x y t', ty, pos, af, g⟩ L w (.int .i64 (u.tmod v)) := fun a ha w' _ => by
  simp only [execOp, eqGuard, binOp, Op.intDiv, ha.eval hx, ha.eval hy]
  rw [if_neg hv]
  simp
end
end Go.Gx
