/- The engine's rules, second part: appends, cells of a block, calls of functions without a body, strings.Builder. Generic in the program. -/
import Derived.Test.YtbnkncemfadfjaaGreatDoorGr
import Derived.Lib.AppendStr
import Derived.Lib.Builder
import Derived.Lib.UnsafeStr
namespace Go.Gx
set_option linter.unusedVariables false
set_option linter.unusedSimpArgs false
open Go.RowKit
section
variable {P : Program} {n : Nat} {L : Env} {w : World} {d : Option Tmp} {ty : TypeId} {pos : String} {af : Array Edge} {g : Option (Nat × Bool)}

/-- whatever runs to a value -/
theorem w_run {o : Oper} {R : Value → World → Prop} (h : ∀ a, Fr n a L → ∃ v w', (execOp a.eval o).run P w = .ok (.value v) w' ∧ R v w') : Wl P n o L w R := fun a hF Q next hn => by
  obtain ⟨v, w', h1, h2⟩ := h a hF
  unfold Oper.wp
  rw [h1]
  exact hn v w' h2

theorem w_set {t : TypeId} {x y : Operand} {ad : Addr} {u v : Value} (ht : Ty P t 1 false) (hx : evO L x = some (.pointer (some ad))) (hy : evO L y = some v) (hc : w.cell? ad = some u) (hf : w.frozen? ad = false) (hv : v.cells = #[v]) (h1 : v.oneCell' = true) :
    Wl P n ⟨none, .store t x y, ty, pos, af, g⟩ L w (fun _ w' => w' = w.setCell ad v) := fun a hF Q next hn => by
  have had : ad.add 0 = ad := by simp [Addr.add]
  have hst := run_store P w ad v .plain h1
  rw [hc] at hst
  simp only [hf] at hst
  have hrun : (execOp a.eval ⟨none, .store t x y, ty, pos, af, g⟩).run P w = .ok .skip (w.setCell ad v) := by
    simp only [execOp, Instr.storeAt, hF.eval hx, hF.eval hy, Instr.sureAddr, storeVar, hv, Sem.run_bind, Sem.run_pure, Result.andThen_ok, ht.sz]
    simp [storeCells, had, hst]
  unfold Oper.wp
  rw [hrun]
  exact hn undef _ rfl

/-- a call of a function without a body -/
theorem w_extern {f : FuncId} {fn : Func} {e : Array Value → Sem Value} {args : Array Operand} {at_ : Array TypeId} {vs : List Value} {R : Value → World → Prop} (hf : P.funcs[f]? = some fn) (hname : (fn.name == "runtime.NumGoroutine") = false)
    (hb : fn.body.isNone = true) (hn' : Extern.findNext fn = none) (he : Extern.find fn = some e) (ha : args.toList.map (evO L) = vs.map some) (h : ∃ v w', (e vs.toArray).run P w = .ok v w' ∧ R v w') :
    Wl P n ⟨d, .call { callee := .value (.func f), args := args, argTypes := at_ }, ty, pos, af, g⟩ L w R := w_run fun a hF => by
  have hargs : args.map a.eval = vs.toArray := by
    apply Array.toList_inj.1
    rw [Array.toList_map]
    show args.toList.map a.eval = vs
    generalize args.toList = ps at *
    clear h
    induction ps generalizing vs with
    | nil => cases vs <;> simp_all
    | cons p ps ih =>
      cases vs with
      | nil => simp at ha
      | cons q vs =>
        simp only [List.map_cons, List.cons.injEq] at ha ⊢
        exact ⟨hF.eval ha.1, ih ha.2⟩
  obtain ⟨v, w', h1, h2⟩ := h
  refine ⟨v, w', ?_, h2⟩
  simp [execOp, resolve, Act.eval, Deferred.ofValue, invoke, hargs, run_callFunc_extern hf hname hb hn' he, h1]

theorem t_pneSame {t t' te : TypeId} {j : TypeInfo} {x y : Operand} {p : Addr} (hu : P.underlying t = some (.pointer te)) (hte : P.info? te = some j) (hx : evO L x = some (.pointer (some p))) (hy : evO L y = some (.pointer (some p))) : Tm P n ⟨d, .binOp .neq t x y t', ty, pos, af, g⟩ L w (.bool false) := fun a ha w' _ => by
  simp [execOp, eqGuard, Lib.run_neq_ptr_same w' p hu hte, ha.eval hx, ha.eval hy]

def OwnR (w : World) (B : Nat) (e : TypeId) (size : Nat) (v0 : Value) (n : Nat) (xs : List Value) (v' : Value) (w' : World) : Prop :=
  w'.ownsRow B e size v' n xs ∧ w.grownBy w' v0.ownBlock ∧ ∃ p l c, v' = .slice p l c

theorem OwnR.mk {B : Nat} {e : TypeId} {size : Nat} {v0 : Value} {n : Nat} {xs : List Value} {v' : Value} {w' : World} (h : w'.ownsRow B e size v' n xs) (k : w.grownBy w' v0.ownBlock) : OwnR w B e size v0 n xs v' w' :=
  ⟨h, k, by
    rcases h.2 with ⟨hv, _⟩ | ⟨g, cap, cur, hv, _⟩
    · exact ⟨_, _, _, hv⟩
    · exact ⟨_, _, _, hv⟩⟩

/-- append(b, s...) of a string's bytes, at a row of the call's own -/
theorem w_appendStr {t u e : TypeId} {i : TypeInfo} {x y : Operand} (B : Nat) {v : Value} {m : Nat} {xs : List Value} {s : ByteArray} (ht : P.underlying t = some (.slice e)) (hu : P.underlying u = some .string) (hi : P.info? e = some i) (hz : i.zero = some (.int .u8 0)) (hs : i.size = 1) (hby : i.bytes = 1)
    (hx : evO L x = some v) (hy : evO L y = some (.string s)) (hown : w.ownsRow B e 1 v m xs) (hb : m + s.size ≤ 140737488355328) (hB : B ≤ w.heap.size) :
    Wl P n ⟨d, .call { callee := .builtin .append, args := #[x, y], argTypes := #[t, u] }, ty, pos, af, g⟩ L w (OwnR w B e 1 v (m + s.size) (xs ++ Lib.strCells s)) := w_run fun a hF => by
  obtain ⟨v', w', h1, h2, h3, _⟩ := Lib.run_append_own_string (P := P) w B t u ty e i ht hu hi hz hs hby v m xs hown s (by unfold maxLen; omega) hb hB
  refine ⟨v', w', ?_, OwnR.mk h2 h3⟩
  simp [execOp, resolve, invoke, builtin, hF.eval hx, hF.eval hy, h1]

/-- append(xs, ys...) of a slice's elements, at a row of the call's own -/
theorem w_append {t e : TypeId} {i : TypeInfo} {z : Value} {x y : Operand} (B : Nat) {size bytes : Nat} {v : Value} {m k c : Nat} {xs news : List Value} {ad : Addr} (ht : P.underlying t = some (.slice e)) (hi : P.info? e = some i) (hz : i.zero = some z) (hs : i.size = size) (hby : i.bytes = bytes) (hzs : z.cells.size = size) (hpos : 0 < size)
    (hx : evO L x = some v) (hy : evO L y = some (.slice (some ad) k c)) (hown : w.ownsRow B e size v m xs) (hl : news.length = k * size) (hnews : ∀ j u, news[j]? = some u → w.cell? (ad.add j) = some u) (h1 : ∀ u ∈ news, u.oneCell' = true)
    (h63 : m + k ≤ maxLen) (hb : (m + k) * bytes ≤ 140737488355328) (hB : B ≤ w.heap.size) :
    Wl P n ⟨d, .call { callee := .builtin .append, args := #[x, y], argTypes := #[t, t] }, ty, pos, af, g⟩ L w (OwnR w B e size v (m + k) (xs ++ news)) := w_run fun a hF => by
  obtain ⟨v', w', h2, h3, h4, _⟩ := run_append_own (P := P) w B t ty e i z size bytes ht hi hz hs hby hzs hpos v m xs hown ad k c news hl hnews h1 h63 hb hB
  refine ⟨v', w', ?_, OwnR.mk h3 h4⟩
  simp [execOp, resolve, invoke, builtin, hF.eval hx, hF.eval hy, h2]

theorem Cl.of {f : FuncId} {args : Array Value} {v : Value} {Q : World → Prop} (h : Calls P f args w fun e w' => e = .returned v ∧ Q w') : Cl P f args w (fun u w' => u = v ∧ Q w') :=
  Calls.mono h fun _ _ ⟨h1, h2⟩ => ⟨v, h1, rfl, h2⟩
end
end Go.Gx
namespace Go.Gx
open Go.RowKit
section
variable {P : Program} {n : Nat} {L : Env} {w : World} {d : Option Tmp} {ty : TypeId} {pos : String} {af : Array Edge} {g : Option (Nat × Bool)}
theorem w_toUnsafe {src dst t e : TypeId} {j : TypeInfo} {cells : Nat} {x : Operand} {ad : Addr} (hs : P.underlying src = some (.pointer t)) (hd : P.underlying dst = some .unsafePointer) (ht : P.info? t = some j) (hj : j.size ≠ 0)
    (hsh : w.shape? ad.block = some (e, cells)) (hoff : ad.off < cells) (hx : evO L x = some (.pointer (some ad))) : Wl P n ⟨d, .convert src dst x, ty, pos, af, g⟩ L w (fun u w' => u = .pointer (some ad) ∧ w = w') := w_run fun a hF =>
  ⟨_, _, by simp [execOp, hF.eval hx, Lib.run_to_unsafe w ad hs hd ht hj hsh hoff], rfl, rfl⟩
theorem w_fromUnsafe {src dst u e : TypeId} {j : TypeInfo} {cells : Nat} {x : Operand} {ad : Addr} (hs : P.underlying src = some .unsafePointer) (hd : P.underlying dst = some (.pointer u)) (hu : P.info? u = some j)
    (hsh : w.shape? ad.block = some (e, cells)) (hlies : liesAt P P.depth e (cells / P.cellsOf e) ad.off u 1 = true) (hx : evO L x = some (.pointer (some ad))) : Wl P n ⟨d, .convert src dst x, ty, pos, af, g⟩ L w (fun v w' => v = .pointer (some ad) ∧ w = w') := w_run fun a hF =>
  ⟨_, _, by simp [execOp, hF.eval hx, Lib.run_from_unsafe w ad hs hd hu hsh hlies], rfl, rfl⟩
end
end Go.Gx
