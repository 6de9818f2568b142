/- The engine's rules, more: a call through a function value; a call that writes, as a bar in a region that draws. Generic in the program. -/
import Derived.Test.YtbnkncemfadfjaaGreatDoorGt
import Derived.Lib.Builder
namespace Go.Gx
set_option linter.unusedVariables false
set_option linter.unusedSimpArgs false
open Go.RowKit
section
variable {P : Program} {n : Nat} {L : Env} {w : World} {d : Option Tmp} {ty : TypeId} {pos : String} {af : Array Edge} {g : Option (Nat × Bool)}
theorem map_eval {a : Act} (hF : Fr n a L) : ∀ {ps : List Operand} {vs : List Value}, ps.map (evO L) = vs.map some → ps.map a.eval = vs
  | [], vs, h => by cases vs <;> simp_all
  | p :: ps, [], h => by simp at h
  | p :: ps, q :: vs, h => by
    simp only [List.map_cons, List.cons.injEq] at h ⊢
    exact ⟨hF.eval h.1, map_eval hF h.2⟩
theorem w_callV {x : Operand} {f : FuncId} {args : Array Operand} {at_ : Array TypeId} {vs : List Value} {R : Value → World → Prop} (hx : evO L x = some (.func (.func f) #[] #[])) (hf : ∀ (args : Array Value) (w : World), (callFunc f args).run P w = .ok (.enter f args) w)
    (ha : args.toList.map (evO L) = vs.map some) (h : Cl P f vs.toArray w R) : Wl P n ⟨d, .call { callee := .value x, args := args, argTypes := at_ }, ty, pos, af, g⟩ L w R := fun a hF Q next hn => by
  have hargs : args.map a.eval = vs.toArray := by
    apply Array.toList_inj.1
    rw [Array.toList_map]
    exact map_eval hF ha
  have hrun : (execOp a.eval ⟨d, .call { callee := .value x, args := args, argTypes := at_ }, ty, pos, af, g⟩).run P w = .ok (.enter f vs.toArray) w := by
    simp [execOp, resolve, hF.eval hx, Deferred.ofValue, invoke, hf, hargs]
  unfold Oper.wp
  rw [hrun]
  simp only [Oper.upon]
  exact Calls.mono h fun e w' ⟨v, he, hr⟩ => by subst he; exact hn v w' hr
/-- a store into one cell of a variable -/
theorem w_putF {t t0 : TypeId} {x y : Operand} {b o : Nat} {u v : Value} {old : List Value} (h : Var w b old t0) (ht : Ty P t 1 false) (hx : evO L x = some (.pointer (some ⟨b, o, none⟩))) (hy : evO L y = some v) (ho : old[o]? = some u) (hv : v.cells = #[v]) (h1 : v.oneCell' = true) :
    Wl P n ⟨none, .store t x y, ty, pos, af, g⟩ L w (StoreR w b (old.set o v) t0) := fun a hF Q next hn => by
  have hc : w.cell? ⟨b, o, none⟩ = some u := by have := h.cells o u ho; rwa [Nat.zero_add] at this
  refine w_set ht hx hy hc (Lib.frozen_of_heap h o) hv h1 a hF Q next fun z w' hw => hn z w' ?_
  subst hw
  refine ⟨⟨rfl, rfl, rfl, by simp [World.setCell], fun k hk => Below.heap_setCell _ _ _ _ (fun e => hk e)⟩, ?_⟩
  unfold Var at h ⊢
  simp [World.setCell, Array.getElem?_modify, h]
/-- structs and arrays are equal or not -/
theorem t_eqlAgg {t t' : TypeId} {x y : Operand} {xs ys : Array Value} {b : Bool} (hg : P.eqGuardType P.depth t = false) (he : ∀ w, (Op.equal t (.agg xs) (.agg ys)).run P w = .ok b w) (hx : evO L x = some (.agg xs)) (hy : evO L y = some (.agg ys)) : Tm P n ⟨d, .binOp .eql t x y t', ty, pos, af, g⟩ L w (.bool b) := fun a ha w' _ => by
  simp [execOp, ha.eval hx, ha.eval hy, eqGuard, hg, binOp, he]
theorem t_neqAgg {t t' : TypeId} {x y : Operand} {xs ys : Array Value} {b : Bool} (hg : P.eqGuardType P.depth t = false) (he : ∀ w, (Op.equal t (.agg xs) (.agg ys)).run P w = .ok b w) (hx : evO L x = some (.agg xs)) (hy : evO L y = some (.agg ys)) : Tm P n ⟨d, .binOp .neq t x y t', ty, pos, af, g⟩ L w (.bool (!b)) := fun a ha w' _ => by
  simp [execOp, ha.eval hx, ha.eval hy, eqGuard, hg, binOp, he]
end
theorem own_of_var {w : World} {B b e : Nat} {cs : List Value} (h : Var w b cs e) (hB : B ≤ b) (hm : cs.length ≤ maxLen) : w.ownsRow B e 1 (.slice (some ⟨b, 0, none⟩) cs.length cs.length) cs.length cs :=
  ⟨by simp, .inr ⟨b, cs.length, cs.toArray, rfl, hB, h, Nat.le_refl _, hm, by simp, by simp⟩⟩
theorem rg_wdC {P : Program} {n : Nat} {ops : Array Oper} {K : Kn} {L : Env} {w : World} {bars : List Nat} {R : Value → World → Prop} {dd : Tmp} {op : Op} {ty : TypeId} {pos : String} {af : Array Edge} {g : Option (Nat × Bool)} {rest : List Oper} (hg : gYes ops ⟨some dd, op, ty, pos, af, g⟩ L) (hk : wildKind op = true) (h : Wl P n ⟨some dd, op, ty, pos, af, g⟩ L w R) (hd : Nat.blt dd n = true) (hc : bars.contains rest.length = true)
    (k : ∀ v w', R v w' → Rg P ops n (some bars) K rest ((dd, v) :: L) w') : Rg P ops n (some bars) K (⟨some dd, op, ty, pos, af, g⟩ :: rest) L w := .wild R hg h (fun bs hbs => by
      injection hbs with hbs
      subst hbs
      exact ⟨hk, fun hf => absurd hc (by rw [hf]; simp)⟩) hd k
end Go.Gx
