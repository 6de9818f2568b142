/- The engine's rules, more: append of a slice that reads (it may be nil). Generic in the program. -/
import Derived.Test.YtbnkncemfadfjaaGreatDoorGw
import Derived.Laws.OwnMore
import Derived.OwnWalk
import Derived.Lib.LazyBuf
namespace Go.Gx
set_option linter.unusedVariables false
set_option linter.unusedSimpArgs false
open Go.RowKit
theorem own_mono {w : World} {B B' e size n : Nat} {v : Value} {xs : List Value} (h : w.ownsRow B e size v n xs) (hb : B' ≤ B) : w.ownsRow B' e size v n xs :=
  ⟨h.1, h.2.imp id fun ⟨g, cap, cur, h1, h2, h3⟩ => ⟨g, cap, cur, h1, by omega, h3⟩⟩
section
variable {P : Program} {n : Nat} {L : Env} {w : World} {d : Option Tmp} {ty : TypeId} {pos : String} {af : Array Edge} {g : Option (Nat × Bool)}
theorem w_appendC {t e : TypeId} {i : TypeInfo} {z : Value} {x y : Operand} (B : Nat) {size bytes : Nat} {v u : Value} {m k : Nat} {xs news : List Value} (ht : P.underlying t = some (.slice e)) (hi : P.info? e = some i) (hz : i.zero = some z) (hs : i.size = size) (hby : i.bytes = bytes) (hzs : z.cells.size = size) (hpos : 0 < size)
    (hx : evO L x = some v) (hy : evO L y = some u) (hown : w.ownsRow B e size v m xs) (hsl : SlC w u size k news) (h1 : ∀ u ∈ news, u.oneCell' = true)
    (h63 : m + k ≤ maxLen) (hb : (m + k) * bytes ≤ 140737488355328) (hB : B ≤ w.heap.size) :
    Wl P n ⟨d, .call { callee := .builtin .append, args := #[x, y], argTypes := #[t, t] }, ty, pos, af, g⟩ L w (OwnR w B e size v (m + k) (xs ++ news)) := by
  obtain ⟨hl, p, cap, rfl, hkc, hd⟩ := hsl
  cases p with
  | none =>
    have hc : cap = 0 := hd.elim id fun ⟨b, o, h, _⟩ => by cases h
    subst hc
    obtain rfl : k = 0 := by omega
    obtain rfl : news = [] := List.length_eq_zero_iff.1 (by simpa using hl)
    refine w_run fun a hF => ⟨v, w, ?_, OwnR.mk (by simpa using hown) (World.grownBy.refl _ _)⟩
    have := run_append_owned_none (P := P) w B t ty e i size ht hi v m xs hown
    simp [execOp, resolve, invoke, builtin, hF.eval hx, hF.eval hy, this]
  | some ad =>
    refine w_append B ht hi hz hs hby hzs hpos hx hy hown hl (fun j u hu => ?_) h1 h63 hb hB
    rcases hd with h0 | ⟨b, o, hp, hc⟩
    · obtain rfl : k = 0 := by omega
      obtain rfl : news = [] := List.length_eq_zero_iff.1 (by simpa using hl)
      simp at hu
    · cases hp
      rw [addr_add]
      exact hc j u hu
end
end Go.Gx
namespace Go.Gx
open Go.RowKit
section
variable {P : Program} {n : Nat} {L : Env} {w : World} {d : Option Tmp} {ty : TypeId} {pos : String} {af : Array Edge} {g : Option (Nat × Bool)}
/-- a slice against nil -/
theorem t_slNil {t t' e : TypeId} {x y : Operand} {p : Option Addr} {l c : Nat} (hu : P.underlying t = some (.slice e)) (hx : evO L x = some (.slice p l c)) (hy : evO L y = some (.slice none 0 0)) : Tm P n ⟨d, .binOp .eql t x y t', ty, pos, af, g⟩ L w (.bool p.isNone) := fun a ha w' _ => by
  simp [execOp, ha.eval hx, ha.eval hy, eqGuard, binOp, run_equal_slice_nil w' t e p l c hu]
theorem t_slNN {t t' e : TypeId} {x y : Operand} {p : Option Addr} {l c : Nat} (hu : P.underlying t = some (.slice e)) (hx : evO L x = some (.slice p l c)) (hy : evO L y = some (.slice none 0 0)) : Tm P n ⟨d, .binOp .neq t x y t', ty, pos, af, g⟩ L w (.bool (!p.isNone)) := fun a ha w' _ => by
  simp [execOp, ha.eval hx, ha.eval hy, eqGuard, binOp, run_equal_slice_nil w' t e p l c hu]
end
/-- a row laid whole -/
theorem own_of_varS {w : World} {B b e n size : Nat} {cs : List Value} (h : Var w b cs e) (hB : B ≤ b) (hl : cs.length = n * size) (hm : n ≤ maxLen) : w.ownsRow B e size (.slice (some ⟨b, 0, none⟩) n n) n cs :=
  ⟨hl, .inr ⟨b, n, cs.toArray, rfl, hB, h, Nat.le_refl _, hm, by simpa using hl, List.take_of_length_le (by simpa using Nat.le_of_eq hl)⟩⟩
end Go.Gx
