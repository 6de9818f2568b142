/- The engine's rules, one an operation. Generic in the program. -/
import Derived.Test.YtbnkncemfadfjaaGreatDoorGx
namespace Go.Gx
set_option linter.unusedVariables false
set_option linter.unusedSimpArgs false
open Go.RowKit

section
variable {P : Program} {n : Nat} {N : Kn} {X : Exit → Kn} {L : Env} {w : World} {d : Option Tmp} {ty : TypeId} {pos : String} {af : Array Edge} {g : Option (Nat × Bool)}

/-! ### values alone -/
theorem t_move {x : Operand} {v : Value} (hx : evO L x = some v) : Tm P n ⟨d, .move x, ty, pos, af, g⟩ L w v := fun a ha w' _ => by
  simp [execOp, ha.eval hx]
theorem t_assign {x : Operand} {v : Value} (hx : evO L x = some v) : Tm P n ⟨d, .assign x, ty, pos, af, g⟩ L w v := fun a ha w' _ => by
  simp [execOp, ha.eval hx]
theorem t_pickT {c x y : Operand} {v : Value} (hc : evO L c = some (.bool true)) (hx : evO L x = some v) : Tm P n ⟨d, .pick c x y, ty, pos, af, g⟩ L w v := fun a ha w' _ => by
  simp [execOp, ha.eval hc, ha.eval hx, asBool]
theorem t_pickF {c x y : Operand} {v : Value} (hc : evO L c = some (.bool false)) (hy : evO L y = some v) : Tm P n ⟨d, .pick c x y, ty, pos, af, g⟩ L w v := fun a ha w' _ => by
  simp [execOp, ha.eval hc, ha.eval hy, asBool]
theorem t_nilCheck {x : Operand} {p : Addr} (hx : evO L x = some (.pointer (some p))) : Tm P n ⟨d, .nilCheck x, ty, pos, af, g⟩ L w (.pointer (some p)) := fun a ha w' _ => by
  simp [execOp, ha.eval hx]

theorem t_add {t t' : TypeId} {x y : Operand} {k : IntKind} {u v : Int} (hx : evO L x = some (.int k u)) (hy : evO L y = some (.int k v)) : Tm P n ⟨d, .binOp .add t x y t', ty, pos, af, g⟩ L w (.int k (k.wrap (u + v))) := fun a ha w' _ => by
  simp [execOp, eqGuard, binOp, Op.intArith, ha.eval hx, ha.eval hy]
theorem t_sub {t t' : TypeId} {x y : Operand} {k : IntKind} {u v : Int} (hx : evO L x = some (.int k u)) (hy : evO L y = some (.int k v)) : Tm P n ⟨d, .binOp .sub t x y t', ty, pos, af, g⟩ L w (.int k (k.wrap (u - v))) := fun a ha w' _ => by
  simp [execOp, eqGuard, binOp, Op.intArith, ha.eval hx, ha.eval hy]
theorem t_mul {t t' : TypeId} {x y : Operand} {k : IntKind} {u v : Int} (hx : evO L x = some (.int k u)) (hy : evO L y = some (.int k v)) : Tm P n ⟨d, .binOp .mul t x y t', ty, pos, af, g⟩ L w (.int k (k.wrap (u * v))) := fun a ha w' _ => by
  simp [execOp, eqGuard, binOp, Op.intArith, ha.eval hx, ha.eval hy]
theorem wrap_i64 {z : Int} (h : -9223372036854775808 ≤ z) (h' : z ≤ 9223372036854775807) : IntKind.i64.wrap z = z := by
  have := IntWalk.i64_in z
  first | exact this ⟨h, h'⟩ | exact this h h' | (simp [IntKind.wrap] <;> omega)
theorem t_addI {t t' : TypeId} {x y : Operand} {u v : Int} (hx : evO L x = some (.int .i64 u)) (hy : evO L y = some (.int .i64 v)) (h : -9223372036854775808 ≤ u + v ∧ u + v ≤ 9223372036854775807) :
    Tm P n ⟨d, .binOp .add t x y t', ty, pos, af, g⟩ L w (.int .i64 (u + v)) := by
  have := t_add (P := P) (n := n) (w := w) (d := d) (ty := ty) (pos := pos) (af := af) (g := g) (t := t) (t' := t') hx hy
  rwa [wrap_i64 h.1 h.2] at this
theorem t_subI {t t' : TypeId} {x y : Operand} {u v : Int} (hx : evO L x = some (.int .i64 u)) (hy : evO L y = some (.int .i64 v)) (h : -9223372036854775808 ≤ u - v ∧ u - v ≤ 9223372036854775807) :
    Tm P n ⟨d, .binOp .sub t x y t', ty, pos, af, g⟩ L w (.int .i64 (u - v)) := by
  have := t_sub (P := P) (n := n) (w := w) (d := d) (ty := ty) (pos := pos) (af := af) (g := g) (t := t) (t' := t') hx hy
  rwa [wrap_i64 h.1 h.2] at this
theorem t_lss {t t' : TypeId} {x y : Operand} {k : IntKind} {u v : Int} (hx : evO L x = some (.int k u)) (hy : evO L y = some (.int k v)) : Tm P n ⟨d, .binOp .lss t x y t', ty, pos, af, g⟩ L w (.bool (decide (u < v))) := fun a ha w' _ => by
  simp [execOp, eqGuard, binOp, Op.intCmp, ha.eval hx, ha.eval hy]
  try (first | rfl | (by_cases h : u = v <;> simp [h] <;> done) | (simp [bne]; done))
theorem t_lssT {t t' : TypeId} {x y : Operand} {k : IntKind} {u v : Int} (hx : evO L x = some (.int k u)) (hy : evO L y = some (.int k v)) (h : u < v) : Tm P n ⟨d, .binOp .lss t x y t', ty, pos, af, g⟩ L w (.bool true) := by
  have := t_lss (P := P) (n := n) (w := w) (d := d) (ty := ty) (pos := pos) (af := af) (g := g) (t := t) (t' := t') hx hy
  rwa [decide_eq_true h] at this
theorem t_lssF {t t' : TypeId} {x y : Operand} {k : IntKind} {u v : Int} (hx : evO L x = some (.int k u)) (hy : evO L y = some (.int k v)) (h : v ≤ u) : Tm P n ⟨d, .binOp .lss t x y t', ty, pos, af, g⟩ L w (.bool false) := by
  have := t_lss (P := P) (n := n) (w := w) (d := d) (ty := ty) (pos := pos) (af := af) (g := g) (t := t) (t' := t') hx hy
  rwa [decide_eq_false (by omega)] at this
theorem t_leq {t t' : TypeId} {x y : Operand} {k : IntKind} {u v : Int} (hx : evO L x = some (.int k u)) (hy : evO L y = some (.int k v)) : Tm P n ⟨d, .binOp .leq t x y t', ty, pos, af, g⟩ L w (.bool (decide (u ≤ v))) := fun a ha w' _ => by
  simp [execOp, eqGuard, binOp, Op.intCmp, ha.eval hx, ha.eval hy]
  try (first | rfl | (by_cases h : u = v <;> simp [h] <;> done) | (simp [bne]; done))
theorem t_leqT {t t' : TypeId} {x y : Operand} {k : IntKind} {u v : Int} (hx : evO L x = some (.int k u)) (hy : evO L y = some (.int k v)) (h : u ≤ v) : Tm P n ⟨d, .binOp .leq t x y t', ty, pos, af, g⟩ L w (.bool true) := by
  have := t_leq (P := P) (n := n) (w := w) (d := d) (ty := ty) (pos := pos) (af := af) (g := g) (t := t) (t' := t') hx hy
  rwa [decide_eq_true h] at this
theorem t_leqF {t t' : TypeId} {x y : Operand} {k : IntKind} {u v : Int} (hx : evO L x = some (.int k u)) (hy : evO L y = some (.int k v)) (h : v < u) : Tm P n ⟨d, .binOp .leq t x y t', ty, pos, af, g⟩ L w (.bool false) := by
  have := t_leq (P := P) (n := n) (w := w) (d := d) (ty := ty) (pos := pos) (af := af) (g := g) (t := t) (t' := t') hx hy
  rwa [decide_eq_false (by omega)] at this
theorem t_gtr {t t' : TypeId} {x y : Operand} {k : IntKind} {u v : Int} (hx : evO L x = some (.int k u)) (hy : evO L y = some (.int k v)) : Tm P n ⟨d, .binOp .gtr t x y t', ty, pos, af, g⟩ L w (.bool (decide (v < u))) := fun a ha w' _ => by
  simp [execOp, eqGuard, binOp, Op.intCmp, ha.eval hx, ha.eval hy]
  try (first | rfl | (by_cases h : u = v <;> simp [h] <;> done) | (simp [bne]; done))
theorem t_gtrT {t t' : TypeId} {x y : Operand} {k : IntKind} {u v : Int} (hx : evO L x = some (.int k u)) (hy : evO L y = some (.int k v)) (h : v < u) : Tm P n ⟨d, .binOp .gtr t x y t', ty, pos, af, g⟩ L w (.bool true) := by
  have := t_gtr (P := P) (n := n) (w := w) (d := d) (ty := ty) (pos := pos) (af := af) (g := g) (t := t) (t' := t') hx hy
  rwa [decide_eq_true h] at this
theorem t_gtrF {t t' : TypeId} {x y : Operand} {k : IntKind} {u v : Int} (hx : evO L x = some (.int k u)) (hy : evO L y = some (.int k v)) (h : u ≤ v) : Tm P n ⟨d, .binOp .gtr t x y t', ty, pos, af, g⟩ L w (.bool false) := by
  have := t_gtr (P := P) (n := n) (w := w) (d := d) (ty := ty) (pos := pos) (af := af) (g := g) (t := t) (t' := t') hx hy
  rwa [decide_eq_false (by omega)] at this
theorem t_geq {t t' : TypeId} {x y : Operand} {k : IntKind} {u v : Int} (hx : evO L x = some (.int k u)) (hy : evO L y = some (.int k v)) : Tm P n ⟨d, .binOp .geq t x y t', ty, pos, af, g⟩ L w (.bool (decide (v ≤ u))) := fun a ha w' _ => by
  simp [execOp, eqGuard, binOp, Op.intCmp, ha.eval hx, ha.eval hy]
  try (first | rfl | (by_cases h : u = v <;> simp [h] <;> done) | (simp [bne]; done))
theorem t_geqT {t t' : TypeId} {x y : Operand} {k : IntKind} {u v : Int} (hx : evO L x = some (.int k u)) (hy : evO L y = some (.int k v)) (h : v ≤ u) : Tm P n ⟨d, .binOp .geq t x y t', ty, pos, af, g⟩ L w (.bool true) := by
  have := t_geq (P := P) (n := n) (w := w) (d := d) (ty := ty) (pos := pos) (af := af) (g := g) (t := t) (t' := t') hx hy
  rwa [decide_eq_true h] at this
theorem t_geqF {t t' : TypeId} {x y : Operand} {k : IntKind} {u v : Int} (hx : evO L x = some (.int k u)) (hy : evO L y = some (.int k v)) (h : u < v) : Tm P n ⟨d, .binOp .geq t x y t', ty, pos, af, g⟩ L w (.bool false) := by
  have := t_geq (P := P) (n := n) (w := w) (d := d) (ty := ty) (pos := pos) (af := af) (g := g) (t := t) (t' := t') hx hy
  rwa [decide_eq_false (by omega)] at this
theorem t_eql {t t' : TypeId} {x y : Operand} {k : IntKind} {u v : Int} (hx : evO L x = some (.int k u)) (hy : evO L y = some (.int k v)) : Tm P n ⟨d, .binOp .eql t x y t', ty, pos, af, g⟩ L w (.bool (decide (u = v))) := fun a ha w' _ => by
  simp [execOp, eqGuard, binOp, Op.intCmp, ha.eval hx, ha.eval hy]
  try (first | rfl | (by_cases h : u = v <;> simp [h] <;> done) | (simp [bne]; done))
theorem t_eqlT {t t' : TypeId} {x y : Operand} {k : IntKind} {u v : Int} (hx : evO L x = some (.int k u)) (hy : evO L y = some (.int k v)) (h : u = v) : Tm P n ⟨d, .binOp .eql t x y t', ty, pos, af, g⟩ L w (.bool true) := by
  have := t_eql (P := P) (n := n) (w := w) (d := d) (ty := ty) (pos := pos) (af := af) (g := g) (t := t) (t' := t') hx hy
  rwa [decide_eq_true h] at this
theorem t_eqlF {t t' : TypeId} {x y : Operand} {k : IntKind} {u v : Int} (hx : evO L x = some (.int k u)) (hy : evO L y = some (.int k v)) (h : u ≠ v) : Tm P n ⟨d, .binOp .eql t x y t', ty, pos, af, g⟩ L w (.bool false) := by
  have := t_eql (P := P) (n := n) (w := w) (d := d) (ty := ty) (pos := pos) (af := af) (g := g) (t := t) (t' := t') hx hy
  rwa [decide_eq_false (by omega)] at this
theorem t_neq {t t' : TypeId} {x y : Operand} {k : IntKind} {u v : Int} (hx : evO L x = some (.int k u)) (hy : evO L y = some (.int k v)) : Tm P n ⟨d, .binOp .neq t x y t', ty, pos, af, g⟩ L w (.bool (decide (u ≠ v))) := fun a ha w' _ => by
  simp [execOp, eqGuard, binOp, Op.intCmp, ha.eval hx, ha.eval hy]
  try (first | rfl | (by_cases h : u = v <;> simp [h] <;> done) | (simp [bne]; done))
theorem t_neqT {t t' : TypeId} {x y : Operand} {k : IntKind} {u v : Int} (hx : evO L x = some (.int k u)) (hy : evO L y = some (.int k v)) (h : u ≠ v) : Tm P n ⟨d, .binOp .neq t x y t', ty, pos, af, g⟩ L w (.bool true) := by
  have := t_neq (P := P) (n := n) (w := w) (d := d) (ty := ty) (pos := pos) (af := af) (g := g) (t := t) (t' := t') hx hy
  rwa [decide_eq_true h] at this
theorem t_neqF {t t' : TypeId} {x y : Operand} {k : IntKind} {u v : Int} (hx : evO L x = some (.int k u)) (hy : evO L y = some (.int k v)) (h : u = v) : Tm P n ⟨d, .binOp .neq t x y t', ty, pos, af, g⟩ L w (.bool false) := by
  have := t_neq (P := P) (n := n) (w := w) (d := d) (ty := ty) (pos := pos) (af := af) (g := g) (t := t) (t' := t') hx hy
  rwa [decide_eq_false (by omega)] at this

theorem bytes_beq (a b : ByteArray) : (a.toList == b.toList) = decide (a = b) := by
  rw [ByteArray.toList_eq, ByteArray.toList_eq]
  by_cases h : a = b
  · subst h; simp
  · have h2 : ¬ a.data = b.data := fun e => h (by cases a; cases b; simp_all)
    have : ¬ a.data.toList = b.data.toList := fun e => h2 (Array.toList_inj.1 e)
    simp [h, h2]
theorem t_seql {t t' : TypeId} {x y : Operand} {u v : ByteArray} (hx : evO L x = some (.string u)) (hy : evO L y = some (.string v)) : Tm P n ⟨d, .binOp .eql t x y t', ty, pos, af, g⟩ L w (.bool (decide (u = v))) := fun a ha w' _ => by
  simp [execOp, eqGuard, binOp, Op.stringOp, ha.eval hx, ha.eval hy, bytes_beq]
theorem t_sneq {t t' : TypeId} {x y : Operand} {u v : ByteArray} (hx : evO L x = some (.string u)) (hy : evO L y = some (.string v)) : Tm P n ⟨d, .binOp .neq t x y t', ty, pos, af, g⟩ L w (.bool (!decide (u = v))) := fun a ha w' _ => by
  simp [execOp, eqGuard, binOp, Op.stringOp, ha.eval hx, ha.eval hy, bytes_beq]
theorem t_seqlT {t t' : TypeId} {x y : Operand} {u v : ByteArray} (hx : evO L x = some (.string u)) (hy : evO L y = some (.string v)) (h : u = v) : Tm P n ⟨d, .binOp .eql t x y t', ty, pos, af, g⟩ L w (.bool true) := by
  have := t_seql (P := P) (n := n) (w := w) (d := d) (ty := ty) (pos := pos) (af := af) (g := g) (t := t) (t' := t') hx hy
  rwa [decide_eq_true h] at this
theorem t_seqlF {t t' : TypeId} {x y : Operand} {u v : ByteArray} (hx : evO L x = some (.string u)) (hy : evO L y = some (.string v)) (h : u ≠ v) : Tm P n ⟨d, .binOp .eql t x y t', ty, pos, af, g⟩ L w (.bool false) := by
  have := t_seql (P := P) (n := n) (w := w) (d := d) (ty := ty) (pos := pos) (af := af) (g := g) (t := t) (t' := t') hx hy
  rwa [decide_eq_false h] at this
theorem t_sadd {t t' : TypeId} {x y : Operand} {u v : ByteArray} (hx : evO L x = some (.string u)) (hy : evO L y = some (.string v)) (h : u.size + v.size ≤ 9223372036854775807) : Tm P n ⟨d, .binOp .add t x y t', ty, pos, af, g⟩ L w (.string (u ++ v)) := fun a ha w' _ => by
  have : ¬ ((u.size + v.size : Nat) : Int) > IntKind.i64.max := by
    have e : IntKind.i64.max = 9223372036854775807 := by rfl
    rw [e]; omega
  simp only [execOp, eqGuard, binOp, Op.stringOp, ha.eval hx, ha.eval hy]
  rw [if_neg this]
  simp
theorem t_notB {t : TypeId} {x : Operand} {b : Bool} (hx : evO L x = some (.bool b)) : Tm P n ⟨d, .unOp .not t x, ty, pos, af, g⟩ L w (.bool (!b)) := fun a ha w' _ => by
  simp [execOp, Op.unary, ha.eval hx]

/-- nil tests of pointers -/
theorem t_peqT {t t' : TypeId} {x y : Operand} (hu : P.underlying t = some (.pointer (P.pointee t))) (hx : evO L x = some (.pointer none)) (hy : evO L y = some (.pointer none)) : Tm P n ⟨d, .binOp .eql t x y t', ty, pos, af, g⟩ L w (.bool true) := fun a ha w' _ => by
  simp [execOp, eqGuard, run_eql_pointer_nil w' t _ hu, run_neq_pointer_nil w' t _ hu, ha.eval hx, ha.eval hy]
theorem t_peqF {t t' : TypeId} {x y : Operand} {p : Addr} (hu : P.underlying t = some (.pointer (P.pointee t))) (hx : evO L x = some (.pointer (some p))) (hy : evO L y = some (.pointer none)) : Tm P n ⟨d, .binOp .eql t x y t', ty, pos, af, g⟩ L w (.bool false) := fun a ha w' _ => by
  simp [execOp, eqGuard, run_eql_pointer_nil w' t _ hu, run_neq_pointer_nil w' t _ hu, ha.eval hx, ha.eval hy]
theorem t_pneF {t t' : TypeId} {x y : Operand} (hu : P.underlying t = some (.pointer (P.pointee t))) (hx : evO L x = some (.pointer none)) (hy : evO L y = some (.pointer none)) : Tm P n ⟨d, .binOp .neq t x y t', ty, pos, af, g⟩ L w (.bool false) := fun a ha w' _ => by
  simp [execOp, eqGuard, run_eql_pointer_nil w' t _ hu, run_neq_pointer_nil w' t _ hu, ha.eval hx, ha.eval hy]
theorem t_pneT {t t' : TypeId} {x y : Operand} {p : Addr} (hu : P.underlying t = some (.pointer (P.pointee t))) (hx : evO L x = some (.pointer (some p))) (hy : evO L y = some (.pointer none)) : Tm P n ⟨d, .binOp .neq t x y t', ty, pos, af, g⟩ L w (.bool true) := fun a ha w' _ => by
  simp [execOp, eqGuard, run_eql_pointer_nil w' t _ hu, run_neq_pointer_nil w' t _ hu, ha.eval hx, ha.eval hy]

/-! ### types -/
structure Ty (P : Program) (t : TypeId) (size : Nat) (agg : Bool) : Prop where
  sz : ∀ w, (sizeOf t).run P w = .ok size w
  ag : ∀ w, (isAgg t).run P w = .ok agg w

/-- field f of the struct type s lies off cells behind the struct's begin -/
def FA (P : Program) (s : TypeId) (f off : Nat) : Prop := ∀ (w : World) (b o : Nat), (Instr.fieldAt s (.pointer (some ⟨b, o, none⟩)) f).run P w = .ok (.pointer (some ⟨b, o + off, none⟩)) w

theorem addr_add (b o k : Nat) : (⟨b, o, none⟩ : Addr).add k = ⟨b, o + k, none⟩ := by
  unfold Addr.add
  split <;> simp_all

theorem FA.mk {s : TypeId} {f : Nat} {fs : Array Field} {fd : Field} {k : Nat} {ag : Bool} (hu : P.underlying s = some (.struct fs)) (hf : fs[f]? = some fd) (ht : Ty P fd.type (k + 1) ag) : FA P s f fd.offset := fun w b o => by
  simp [Instr.fieldAt, run_underlying hu, hf, Instr.sureAddr, fieldPlace, ht.sz, addr_add]

theorem FA.mk2 {s : TypeId} {f off t : Nat} {fs : Array Field} {fd : Field} {k : Nat} {ag : Bool} (hu : P.underlying s = some (.struct fs)) (hf : fs[f]? = some fd) (htt : fd.type = t) (ho : fd.offset = off) (ht : Ty P t (k + 1) ag) : FA P s f off := by
  subst htt; subst ho; exact FA.mk hu hf ht

theorem t_fieldAddr {s : TypeId} {x : Operand} {f off b o : Nat} (h : FA P s f off) (hx : evO L x = some (.pointer (some ⟨b, o, none⟩))) : Tm P n ⟨d, .fieldAddr s x f, ty, pos, af, g⟩ L w (.pointer (some ⟨b, o + off, none⟩)) := fun a ha w' _ => by
  simp [execOp, ha.eval hx, h w' b o]

/-! ### cells -/
/-- from offset o on the block b holds the values vs -/
def Cells (w : World) (b o : Nat) (vs : List Value) : Prop := ∀ i v, vs[i]? = some v → w.cell? ⟨b, o + i, none⟩ = some v

theorem Cells.get {b o : Nat} {vs : List Value} (h : Cells w b o vs) (i : Nat) {v : Value} (hv : vs[i]? = some v) : w.cell? ⟨b, o + i, none⟩ = some v := h i v hv

theorem block_lt {ad : Addr} {v : Value} (h : w.cell? ad = some v) : ad.block < w.heap.size := World.block_lt_of_cell? _ _ h

theorem below_cell {w' : World} (hb : Below w.heap.size w w') {ad : Addr} {v : Value} (h : w.cell? ad = some v) : w'.cell? ad = some v := by
  rw [hb.cell (block_lt h)]; exact h

theorem t_load {t : TypeId} {x : Operand} {ad : Addr} {v : Value} (ht : Ty P t 1 false) (hx : evO L x = some (.pointer (some ad))) (hc : w.cell? ad = some v) : Tm P n ⟨d, .load t x, ty, pos, af, g⟩ L w v := fun a ha w' hw => by
  simp [execOp, ha.eval hx, Instr.loadAt, Instr.sureAddr, loadVar, ht.ag, below_cell hw hc]

theorem t_loadA {t : TypeId} {x : Operand} {b o : Nat} {vs : List Value} (hx : evO L x = some (.pointer (some ⟨b, o, none⟩))) (hc : Cells w b o vs) (ht : Ty P t vs.length true) : Tm P n ⟨d, .load t x, ty, pos, af, g⟩ L w (.agg vs.toArray) := fun a ha w' hw => by
  have hl : (loadCells ⟨b, o, none⟩ vs.length).run P w' = .ok vs.toArray w' := run_loadCells_list (P := P) w' ⟨b, o, none⟩ vs (fun j v hv => by
    rw [addr_add]; exact below_cell hw (hc j v hv))
  simp [execOp, ha.eval hx, Instr.loadAt, Instr.sureAddr, loadVar, ht.ag, ht.sz, hl]

/-! ### strings, slices, tuples -/
theorem t_len {t : TypeId} {x : Operand} {s : ByteArray} (hu : P.underlying t = some .string) (hx : evO L x = some (.string s)) : Tm P n ⟨d, .call { callee := .builtin .len, args := #[x], argTypes := #[t] }, ty, pos, af, g⟩ L w (.int .i64 s.size) := fun a ha w' _ => by
  simp [execOp, resolve, invoke, builtin, Builtin.len_, ha.eval hx, run_underlying hu, goInt]
theorem t_lenS {t e : TypeId} {x : Operand} {p : Option Addr} {l c : Nat} (hu : P.underlying t = some (.slice e)) (hx : evO L x = some (.slice p l c)) : Tm P n ⟨d, .call { callee := .builtin .len, args := #[x], argTypes := #[t] }, ty, pos, af, g⟩ L w (.int .i64 l) := fun a ha w' _ => by
  simp [execOp, resolve, invoke, builtin, Builtin.len_, ha.eval hx, run_underlying hu, goInt]
theorem t_extract {x : Operand} {vs : Array Value} {i : Nat} {v : Value} (hx : evO L x = some (.tuple vs)) (hv : vs[i]? = some v) : Tm P n ⟨d, .extract x i, ty, pos, af, g⟩ L w v := fun a ha w' _ => by
  simp [execOp, ha.eval hx, Instr.extract, hv]
theorem t_index {t : TypeId} {x y : Operand} {s : ByteArray} {k : IntKind} {i : Int} (hu : P.underlying t = some .string) (hx : evO L x = some (.string s)) (hy : evO L y = some (.int k i)) (h : 0 ≤ i ∧ i < s.size) :
    Tm P n ⟨d, .index t x y, ty, pos, af, g⟩ L w (.int .u8 ((s.data.toList.getD i.toNat 0).toNat : Int)) := fun a ha w' _ => by
  have hlt : i.toNat < s.size := by omega
  have hg : s[i.toNat]? = some (s.data.toList.getD i.toNat 0) := by
    rw [getElem?_pos s i.toNat hlt]
    congr 1
    have h2 : i.toNat < s.data.toList.length := by rw [Array.length_toList]; exact hlt
    rw [List.getD_eq_getElem?_getD, List.getElem?_eq_getElem h2]
    rfl
  simp only [execOp, ha.eval hx, ha.eval hy, Instr.index, asIntOf, Sem.run_bind, Sem.run_pure, Result.andThen_ok, run_underlying hu]
  rw [if_pos h.1, hg]
  rfl
theorem t_sliceS {t : TypeId} {x : Operand} {lo hi : Option Operand} {s : ByteArray} {l h : Int} (hu : P.underlying t = some .string) (hx : evO L x = some (.string s))
    (hlo : (match lo with | none => some (.int .i64 0) | some y => evO L y) = some (.int .i64 l)) (hhi : (match hi with | none => some (.int .i64 s.size) | some y => evO L y) = some (.int .i64 h)) (hb : 0 ≤ l ∧ l ≤ h ∧ h ≤ s.size) :
    Tm P n ⟨d, .slice t x lo hi none, ty, pos, af, g⟩ L w (.string (s.extract l.toNat h.toNat)) := fun a ha w' _ => by
  obtain ⟨h1, h2, h3⟩ := hb
  cases lo <;> cases hi <;> simp only [Option.some.injEq, Value.int.injEq, true_and] at hlo hhi
  · subst hlo; subst hhi
    simp [execOp, ha.eval hx, Instr.sliceAt, Instr.slice, run_underlying hu, Instr.sliceBounds]
  · subst hlo
    have : 0 ≤ h := by omega
    simp [execOp, ha.eval hx, ha.eval hhi, Instr.sliceAt, Instr.slice, run_underlying hu, Instr.sliceBounds, Instr.sliceBound, asIntOf, this, h3]
  · subst hhi
    simp [execOp, ha.eval hx, ha.eval hlo, Instr.sliceAt, Instr.slice, run_underlying hu, Instr.sliceBounds, Instr.sliceBound, asIntOf, h1, h2]
  · have : 0 ≤ h := by omega
    have h4 : l ≤ (h.toNat : Int) := by omega
    simp [execOp, ha.eval hx, ha.eval hlo, ha.eval hhi, Instr.sliceAt, Instr.slice, run_underlying hu, Instr.sliceBounds, Instr.sliceBound, asIntOf, this, h1, h3, h4]
    intro hc
    omega
theorem t_minI {t t' : TypeId} {x y : Operand} {u v : Int} (hx : evO L x = some (.int .i64 u)) (hy : evO L y = some (.int .i64 v)) : Tm P n ⟨d, .call { callee := .builtin .min, args := #[x, y], argTypes := #[t, t'] }, ty, pos, af, g⟩ L w (.int .i64 (min u v)) := fun a ha w' _ => by
  simp [execOp, resolve, invoke, builtin, Builtin.min_, Builtin.min2, ha.eval hx, ha.eval hy]
  omega
theorem t_maxI {t t' : TypeId} {x y : Operand} {u v : Int} (hx : evO L x = some (.int .i64 u)) (hy : evO L y = some (.int .i64 v)) : Tm P n ⟨d, .call { callee := .builtin .max, args := #[x, y], argTypes := #[t, t'] }, ty, pos, af, g⟩ L w (.int .i64 (max u v)) := fun a ha w' _ => by
  simp [execOp, resolve, invoke, builtin, Builtin.max_, Builtin.max2, ha.eval hx, ha.eval hy]
  omega

theorem t_sliceL {t e : TypeId} {x : Operand} {lo hi : Option Operand} {b o len cap size : Nat} {ag : Bool} {l h : Int} (hu : P.underlying t = some (.slice e)) (ht : Ty P e size ag) (hx : evO L x = some (.slice (some ⟨b, o, none⟩) len cap))
    (hlo : (match lo with | none => some (.int .i64 0) | some y => evO L y) = some (.int .i64 l)) (hhi : (match hi with | none => some (.int .i64 len) | some y => evO L y) = some (.int .i64 h)) (hb : 0 ≤ l ∧ l ≤ h ∧ h ≤ cap) :
    Tm P n ⟨d, .slice t x lo hi none, ty, pos, af, g⟩ L w (.slice (some (if cap = l.toNat then ⟨b, o, none⟩ else ⟨b, o + l.toNat * size, none⟩)) (h.toNat - l.toNat) (cap - l.toNat)) := fun a ha w' _ => by
  obtain ⟨h1, h2, h3⟩ := hb
  have h0 : 0 ≤ h := by omega
  cases lo <;> cases hi <;> simp only [Option.some.injEq, Value.int.injEq, true_and] at hlo hhi
  · subst hlo; subst hhi
    simp [execOp, ha.eval hx, Instr.sliceAt, Instr.slice, run_underlying hu, Instr.sliceBounds, ht.sz, addr_add, apply_ite]
  · subst hlo
    simp [execOp, ha.eval hx, ha.eval hhi, Instr.sliceAt, Instr.slice, run_underlying hu, Instr.sliceBounds, Instr.sliceBound, asIntOf, h0, h3, ht.sz, addr_add, apply_ite]
  · subst hhi
    simp [execOp, ha.eval hx, ha.eval hlo, Instr.sliceAt, Instr.slice, run_underlying hu, Instr.sliceBounds, Instr.sliceBound, asIntOf, h1, h2, ht.sz, addr_add, apply_ite]
  · have h4 : l ≤ (h.toNat : Int) := by omega
    simp [execOp, ha.eval hx, ha.eval hlo, ha.eval hhi, Instr.sliceAt, Instr.slice, run_underlying hu, Instr.sliceBounds, Instr.sliceBound, asIntOf, h0, h1, h3, h4, show l ≤ max h 0 from by omega, ht.sz, addr_add, apply_ite]
theorem t_sliceN {t e : TypeId} {x : Operand} {lo hi : Option Operand} {size : Nat} {ag : Bool} (hu : P.underlying t = some (.slice e)) (ht : Ty P e size ag) (hx : evO L x = some (.slice none 0 0))
    (hlo : (match lo with | none => some (.int .i64 0) | some y => evO L y) = some (.int .i64 0)) (hhi : (match hi with | none => some (.int .i64 0) | some y => evO L y) = some (.int .i64 0)) :
    Tm P n ⟨d, .slice t x lo hi none, ty, pos, af, g⟩ L w (.slice none 0 0) := fun a ha w' _ => by
  cases lo <;> cases hi <;> simp only [Option.some.injEq, Value.int.injEq, true_and] at hlo hhi
  · simp [execOp, ha.eval hx, Instr.sliceAt, Instr.slice, run_underlying hu, Instr.sliceBounds, ht.sz]
  · simp [execOp, ha.eval hx, ha.eval hhi, Instr.sliceAt, Instr.slice, run_underlying hu, Instr.sliceBounds, Instr.sliceBound, asIntOf, ht.sz]
  · simp [execOp, ha.eval hx, ha.eval hlo, Instr.sliceAt, Instr.slice, run_underlying hu, Instr.sliceBounds, Instr.sliceBound, asIntOf, ht.sz]
  · simp [execOp, ha.eval hx, ha.eval hlo, ha.eval hhi, Instr.sliceAt, Instr.slice, run_underlying hu, Instr.sliceBounds, Instr.sliceBound, asIntOf, ht.sz]
theorem t_indexAddrL {t e : TypeId} {x y : Operand} {b o len cap size : Nat} {ag : Bool} {i : Int} {k : IntKind} (hu : P.underlying t = some (.slice e)) (ht : Ty P e size ag) (hx : evO L x = some (.slice (some ⟨b, o, none⟩) len cap)) (hy : evO L y = some (.int k i)) (h : 0 ≤ i ∧ i < len) :
    Tm P n ⟨d, .indexAddr t x y, ty, pos, af, g⟩ L w (.pointer (some ⟨b, o + i.toNat * size, none⟩)) := fun a ha w' _ => by
  simp [execOp, ha.eval hx, ha.eval hy, Instr.indexAt, asIntOf, run_underlying hu, h, ht.sz, addr_add]
theorem t_build {t : TypeId} {parts : Array (Nat × Operand)} {pv : List (Nat × Value)} {v : Value} (h : ∀ w, (Instr.build t pv.toArray).run P w = .ok v w) (hp : (parts.toList.map fun q => (q.1, evO L q.2)) = pv.map fun q => (q.1, some q.2)) :
    Tm P n ⟨d, .build t parts, ty, pos, af, g⟩ L w v := fun a ha w' _ => by
  have : (parts.map fun q => (q.1, a.eval q.2)) = pv.toArray := by
    apply Array.toList_inj.1
    rw [Array.toList_map]
    show _ = pv
    generalize parts.toList = ps at *
    clear h
    induction ps generalizing pv with
    | nil => cases pv <;> simp_all
    | cons p ps ih =>
      cases pv with
      | nil => simp at hp
      | cons q vs =>
        simp only [List.map_cons, List.cons.injEq, Prod.mk.injEq] at hp ⊢
        refine ⟨?_, ih hp.2⟩
        rw [hp.1.1, ha.eval hp.1.2]
  simp only [execOp]
  rw [show (parts.map fun (i, x) => (i, a.eval x)) = pv.toArray from this]
  simp [h]
theorem t_field {t : TypeId} {x : Operand} {i : Nat} {u v : Value} (hx : evO L x = some u) (h : ∀ w, (Instr.field t u i).run P w = .ok v w) : Tm P n ⟨d, .field t x i, ty, pos, af, g⟩ L w v := fun a ha w' _ => by
  simp [execOp, ha.eval hx, h]

/-! ### operations that turn the world -/
def Rt (R : Value → World → Prop) : Ending → World → Prop := fun e w => ∃ v, e = .returned v ∧ R v w

/-- a call: what it hands back -/
abbrev Cl (P : Program) (f : FuncId) (args : Array Value) (w : World) (R : Value → World → Prop) : Prop := Calls P f args w (Rt R)

theorem Cl.mono {f : FuncId} {args : Array Value} {R R' : Value → World → Prop} (h : Cl P f args w R) (k : ∀ v w', R v w' → R' v w') : Cl P f args w R' :=
  Calls.mono h fun _ w' ⟨v, e, r⟩ => ⟨v, e, k v w' r⟩

theorem w_call {f : FuncId} {args : Array Operand} {at_ : Array TypeId} {vs : List Value} {R : Value → World → Prop} (hf : ∀ (args : Array Value) (w : World), (callFunc f args).run P w = .ok (.enter f args) w)
    (ha : args.toList.map (evO L) = vs.map some) (h : Cl P f vs.toArray w R) : Wl P n ⟨d, .call { callee := .value (.func f), args := args, argTypes := at_ }, ty, pos, af, g⟩ L w R := fun a hF Q next hn => by
  have hargs : args.map a.eval = vs.toArray := by
    apply Array.toList_inj.1
    rw [Array.toList_map]
    show args.toList.map a.eval = vs
    generalize args.toList = ps at *
    induction ps generalizing vs with
    | nil => cases vs <;> simp_all
    | cons p ps ih =>
      cases vs with
      | nil => simp at ha
      | cons q vs =>
        simp only [List.map_cons, List.cons.injEq] at ha ⊢
        refine ⟨hF.eval ha.1, ?_⟩
        have : ∀ (ps : List Operand) (vs : List Value), ps.map (evO L) = vs.map some → ps.map a.eval = vs := by
          intro ps
          induction ps with
          | nil => intro vs h; cases vs <;> simp_all
          | cons p ps ih =>
            intro vs h
            cases vs with
            | nil => simp at h
            | cons q vs =>
              simp only [List.map_cons, List.cons.injEq] at h ⊢
              exact ⟨hF.eval h.1, ih vs h.2⟩
        exact this ps vs ha.2
  have hrun : (execOp a.eval ⟨d, .call { callee := .value (.func f), args := args, argTypes := at_ }, ty, pos, af, g⟩).run P w = .ok (.enter f vs.toArray) w := by
    simp [execOp, resolve, Act.eval, Deferred.ofValue, invoke, hf, hargs]
  unfold Oper.wp
  rw [hrun]
  simp only [Oper.upon]
  exact Calls.mono h fun e w' ⟨v, he, hr⟩ => by subst he; exact hn v w' hr

theorem w_alloc {t : TypeId} {z : Value} (hz : ∀ w, (zeroValue t).run P w = .ok z w) : Wl P n ⟨d, .alloc t, ty, pos, af, g⟩ L w (fun v w' => v = .pointer (some ⟨w.heap.size, 0, none⟩) ∧ w' = w.alloc (.cells z.cells t)) := fun a hF Q next hn => by
  have hrun : (execOp a.eval ⟨d, .alloc t, ty, pos, af, g⟩).run P w = .ok (.value (.pointer (some ⟨w.heap.size, 0, none⟩))) (w.alloc (.cells z.cells t)) := by
    simp only [execOp, Instr.alloc, Sem.run_bind, hz, newVar, newRow, run_newObj, Result.andThen_ok, Sem.run_pure]
    rfl
  unfold Oper.wp
  rw [hrun]
  exact hn _ _ ⟨rfl, rfl⟩
theorem w_box {t : TypeId} {x : Operand} {v : Value} (hx : evO L x = some v) : Wl P n ⟨d, .box t x, ty, pos, af, g⟩ L w (fun u w' => u = .pointer (some ⟨w.heap.size, 0, none⟩) ∧ w' = w.alloc (.cells v.cells t)) := fun a hF Q next hn => by
  have hrun : (execOp a.eval ⟨d, .box t x, ty, pos, af, g⟩).run P w = .ok (.value (.pointer (some ⟨w.heap.size, 0, none⟩))) (w.alloc (.cells v.cells t)) := by
    simp only [execOp, Instr.box, hF.eval hx, Sem.run_bind, newVar, newRow, run_newObj, Result.andThen_ok, Sem.run_pure]
    rfl
  unfold Oper.wp
  rw [hrun]
  exact hn _ _ ⟨rfl, rfl⟩
/-- a store of a whole block -/
theorem w_storeB {t t0 : TypeId} {x y : Operand} {b : Nat} {v : Value} {cs : Array Value} {ag : Bool} (ht : Ty P t v.cells.size ag) (hx : evO L x = some (.pointer (some ⟨b, 0, none⟩))) (hy : evO L y = some v) (hc : w.heap[b]? = some (.cells cs t0 (0, 0)))
    (hs : cs.size = v.cells.size) (h1 : ∀ u ∈ v.cells.toList, u.oneCell' = true) : Wl P n ⟨none, .store t x y, ty, pos, af, g⟩ L w (fun _ w' => w' = w.setRow b v.cells) := fun a hF Q next hn => by
  have hst := run_storeCells_from (P := P) b t0 v.cells.toList 0 cs w hc (by simp [hs]) h1
  have hrun : (execOp a.eval ⟨none, .store t x y, ty, pos, af, g⟩).run P w = .ok .skip (w.setRow b v.cells) := by
    simp [execOp, Instr.storeAt, hF.eval hx, hF.eval hy, Instr.sureAddr, storeVar, ht.sz, hst]
  unfold Oper.wp
  rw [hrun]
  exact hn undef _ rfl

/-! ### a function -/
def argsEnv : Nat → List Value → Env
  | _, [] => []
  | i, v :: vs => (i, v) :: argsEnv (i + 1) vs

theorem look_args : ∀ (vs : List Value) (i s : Nat) (v : Value), look (argsEnv i vs) s = some v → ∃ j, s = i + j ∧ vs[j]? = some v
  | [], _, _, _, h => by cases h
  | u :: vs, i, s, v, h => by
    simp only [argsEnv, look] at h
    split at h
    · rename_i he
      have := Nat.eq_of_beq_eq_true he
      exact ⟨0, by omega, by simpa using h⟩
    · obtain ⟨j, h1, h2⟩ := look_args vs (i + 1) s v h
      exact ⟨j + 1, by omega, by simpa using h2⟩

theorem Fr.enter {m : Nat} (vs : List Value) (hm : vs.length ≤ m) : Fr m { tmps := vs.toArray ++ Array.replicate (m - vs.toArray.size) undef, defers := [] } (argsEnv 0 vs) := by
  refine ⟨rfl, by simp; omega, fun s v h => ?_⟩
  obtain ⟨j, h1, h2⟩ := look_args vs 0 s v h
  obtain ⟨hj, h3⟩ := List.getElem?_eq_some_iff.1 h2
  have e : s = j := by omega
  subst e
  refine ⟨by omega, ?_⟩
  rw [Array.getD_eq_getD_getElem?, Array.getElem?_append_left (by simpa using hj)]
  simp [h2]

/-- what a result reads as -/
def RV (P : Program) (L : Env) (w : World) : ResultVar → Value → Prop
  | .tmp t, v => look L t = some v
  | .cell a t, v => ∃ ad, look L a = some (.pointer (some ad)) ∧ (loadVar t ad).run P w = .ok v w

def RVs (P : Program) (L : Env) (w : World) : List ResultVar → List Value → Prop
  | [], [] => True
  | r :: rs, v :: vs => RV P L w r v ∧ RVs P L w rs vs
  | _, _ => False

def tup (vs : List Value) : Value := match vs with
  | [v] => v
  | _ => .tuple vs.toArray

def RetK (P : Program) (rs : List ResultVar) (R : Value → World → Prop) : Kn := fun L w => ∃ vs, RVs P L w rs vs ∧ R (tup vs) w

def RetX (P : Program) (rs : List ResultVar) (R : Value → World → Prop) : Exit → Kn
  | .ret => RetK P rs R
  | _ => fun _ _ => False

def rvRead (tmps : Array Value) (r : ResultVar) : Sem Value := match r with
  | .tmp t => pure (tmps.getD t undef)
  | .cell p t => do loadVar t (← asAddr (tmps.getD p undef))

theorem results_rv (fn : Func) (tmps : Array Value) : results fn tmps = (do
    let vs ← fn.results.mapM (rvRead tmps)
    pure (if h : vs.size = 1 then vs[0] else .tuple vs)) := by
  unfold results
  congr 2

theorem mapM_results {a : Act} {m : Nat} (ha : Fr m a L) : ∀ (rs : List ResultVar) (vs : List Value), RVs P L w rs vs → (rs.mapM (rvRead a.tmps)).run P w = .ok vs w
  | [], [], _ => by simp
  | r :: rs, v :: vs, h => by
    obtain ⟨h1, h2⟩ := h
    have ih := mapM_results ha rs vs h2
    have h3 : (rvRead a.tmps r).run P w = .ok v w := by
      cases r with
      | tmp t =>
        have := (ha.vals t v h1).2
        simp only [rvRead, this, Sem.run_pure]
      | cell p t =>
        obtain ⟨ad, h4, h5⟩ := h1
        have := (ha.vals p _ h4).2
        simp only [rvRead, this, asAddr, Sem.run_bind, Sem.run_pure, Result.andThen_ok, h5]
    simp only [List.mapM_cons, Sem.run_bind, h3, Result.andThen_ok, ih, Sem.run_pure]
  | [], _ :: _, h => h.elim
  | _ :: _, [], h => h.elim

theorem results_run {fn : Func} {rs : List ResultVar} (hr : fn.results = rs.toArray) {a : Act} {m : Nat} (ha : Fr m a L) {vs : List Value} (h : RVs P L w rs vs) : (results fn a.tmps).run P w = .ok (tup vs) w := by
  have := mapM_results (P := P) ha rs vs h
  rw [results_rv, hr]
  simp only [List.mapM_toArray, Sem.run_bind, Sem.run_map, this, Result.andThen_ok, Sem.run_pure]
  congr 1
  match vs with
  | [] => rfl
  | [v] => rfl
  | v :: u :: vs => rw [dif_neg (by simp)]; rfl

theorem Cl.enter {f : FuncId} {fn : Func} {c : Code} {vs : List Value} {m : Nat} {rs : List ResultVar} {R : Value → World → Prop} (hf : P.funcs[f]? = some fn) (hb : fn.body = some c) (hm : fn.ntmps = m) (hr : fn.results = rs.toArray)
    (hle : Nat.ble vs.length m = true) (h : Wp P m c (RetK P rs R) (RetX P rs R) (argsEnv 0 vs) w) : Cl P f vs.toArray w R := by
  refine calls_of_wp hf hb ?_
  rw [hm]
  refine wp_mono (h _ (Fr.enter vs (Nat.le_of_ble_eq_true hle))) fun e a w q => ?_
  cases e with
  | normal =>
    obtain ⟨L', h1, vs', h2, h3⟩ := q
    exact ⟨h1.defers, _, results_run hr h1 h2, _, rfl, h3⟩
  | ret =>
    obtain ⟨L', h1, vs', h2, h3⟩ := q
    exact ⟨h1.defers, _, results_run hr h1 h2, _, rfl, h3⟩
  | panic _ => exact q.elim
  | outgrown => exact q.elim
  | exit _ => obtain ⟨_, _, q⟩ := q; exact q.elim
  | goto _ => obtain ⟨_, _, q⟩ := q; exact q.elim

section
variable {ops : Array Oper} {dr : Option (List Nat)} {K : Kn} {dd : Tmp} {op : Op} {rest : List Oper} {v : Value}
theorem Rg.tm (hg : gYes ops ⟨some dd, op, ty, pos, af, g⟩ L) (hw : wildKind op = false) (h : Tm P n ⟨some dd, op, ty, pos, af, g⟩ L w v) (hd : Nat.blt dd n = true) (k : Rg P ops n dr K rest ((dd, v) :: L) w) :
    Rg P ops n dr K (⟨some dd, op, ty, pos, af, g⟩ :: rest) L w := .tame v hg hw h hd k
theorem Rg.sk (hg : gNo ops ⟨some dd, op, ty, pos, af, g⟩ L ∨ gOff ops ⟨some dd, op, ty, pos, af, g⟩ L) (hd : Nat.blt dd n = true) (k : Rg P ops n dr K rest ((dd, undef) :: L) w) :
    Rg P ops n dr K (⟨some dd, op, ty, pos, af, g⟩ :: rest) L w := .skip hg hd k
/-- an operation that may turn the world, with a slot -/
theorem Rg.wd {R : Value → World → Prop} (hg : gYes ops ⟨some dd, op, ty, pos, af, g⟩ L) (h : Wl P n ⟨some dd, op, ty, pos, af, g⟩ L w R) (hd : Nat.blt dd n = true)
    (k : ∀ v w', R v w' → Rg P ops n none K rest ((dd, v) :: L) w') : Rg P ops n none K (⟨some dd, op, ty, pos, af, g⟩ :: rest) L w := .wild R hg h (fun _ h => nomatch h) hd k
/-- the same without a slot -/
theorem Rg.wn {R : Value → World → Prop} (hg : gYes ops ⟨none, op, ty, pos, af, g⟩ L) (h : Wl P n ⟨none, op, ty, pos, af, g⟩ L w R)
    (k : ∀ v w', R v w' → Rg P ops n none K rest L w') : Rg P ops n none K (⟨none, op, ty, pos, af, g⟩ :: rest) L w := .wild R hg h (fun _ h => nomatch h) rfl k
/-- in a region that draws its order: nothing that was there is turned -/
theorem Rg.wdB {bars : List Nat} {R : Value → World → Prop} (hg : gYes ops ⟨some dd, op, ty, pos, af, g⟩ L) (hk : wildKind op = true) (h : Wl P n ⟨some dd, op, ty, pos, af, g⟩ L w R) (hd : Nat.blt dd n = true) (hb : ∀ v w', R v w' → Below w.heap.size w w')
    (k : ∀ v w', R v w' → Rg P ops n (some bars) K rest ((dd, v) :: L) w') : Rg P ops n (some bars) K (⟨some dd, op, ty, pos, af, g⟩ :: rest) L w := .wild R hg h (fun _ _ => ⟨hk, fun _ => hb⟩) hd k
/-- .. or behind it nothing is left that might have come ahead of it -/
theorem Rg.wnB {bars : List Nat} {R : Value → World → Prop} (hg : gYes ops ⟨none, op, ty, pos, af, g⟩ L) (hk : wildKind op = true) (h : Wl P n ⟨none, op, ty, pos, af, g⟩ L w R) (hc : bars.contains rest.length = true)
    (k : ∀ v w', R v w' → Rg P ops n (some bars) K rest L w') : Rg P ops n (some bars) K (⟨none, op, ty, pos, af, g⟩ :: rest) L w := .wild R hg h (fun bs hbs => by
      injection hbs with hbs
      subst hbs
      exact ⟨hk, fun hf => absurd hc (by rw [hf]; simp)⟩) rfl k
end
end

/-! ### worlds that keep all that was -/
def Ext (w w' : World) : Prop := Below w.heap.size w w'
theorem Ext.refl (w : World) : Ext w w := Below.refl _ _
theorem Ext.ext {a b c : World} (h : Ext a b) (k : Ext b c) : Ext a c := Below.trans h (Below.mono k h.size)
theorem Ext.below {w w' : World} (h : Ext w w') : Below w.heap.size w w' := h
theorem Ext.le {w w' : World} (h : Ext w w') : w.heap.size ≤ w'.heap.size := h.size
theorem Ext.drew (w : World) : Ext w w.drew := (Below.refl _ _).drew
theorem Ext.alloc (w : World) (o : Obj) : Ext w (w.alloc o) := (Below.refl _ _).alloc (Nat.le_refl _) o
theorem Ext.cell {w w' : World} (h : Ext w w') {ad : Addr} {v : Value} (hc : w.cell? ad = some v) : w'.cell? ad = some v := below_cell h hc
theorem Cells.ext {w w' : World} {b o : Nat} {vs : List Value} (h : Cells w b o vs) (k : Ext w w') : Cells w' b o vs := fun i v hv => k.cell (h i v hv)
theorem Cells.alloc (w : World) (vs : List Value) (t : TypeId) : Cells (w.alloc (.cells vs.toArray t)) w.heap.size 0 vs := fun i v hv => by
  rw [Nat.zero_add, World.cell?_alloc_new]; simpa using hv
theorem Cells.lt {w : World} {b o : Nat} {v : Value} {vs : List Value} (h : Cells w b o (v :: vs)) : b < w.heap.size := block_lt (h 0 v rfl)

theorem Wp.draw {P : Program} {n : Nat} {N : Kn} {X : Exit → Kn} {L : Env} {w : World} {id : Nat} {ops : Array Oper} (plan : List Nat) (bars : List Nat) (hm : P.follows .mixedOrders = true) (hs : Region.noSelect ops = true)
    (hp : (planOk ops bars plan (Array.replicate ops.size false) && Nat.ble plan.length ops.size) = true)
    (h : ∀ w1, Ext w w1 → w1.heap = w.heap → Rg P ops n (some bars) N (planOps ops plan) L w1) : Wp P n (.region id ops true) N X L w := Wp.regionD plan bars hm hs hp (h _ (Ext.drew w) rfl)

/-! ### variables: blocks of the call's own, known whole -/
def Var (w : World) (b : Nat) (cs : List Value) (t : TypeId) : Prop := w.heap[b]? = some (.cells cs.toArray t (0, 0))
theorem Var.lt {w : World} {b : Nat} {cs : List Value} {t : TypeId} (h : Var w b cs t) : b < w.heap.size := (Array.getElem?_eq_some_iff.1 h).1
theorem Var.ext {w w' : World} {b : Nat} {cs : List Value} {t : TypeId} (h : Var w b cs t) (k : Ext w w') : Var w' b cs t := by
  unfold Var; rw [k.below.block b h.lt]; exact h
theorem Var.cells {w : World} {b : Nat} {cs : List Value} {t : TypeId} (h : Var w b cs t) : Cells w b 0 cs := fun i v hv => by
  unfold Var at h
  simp only [World.cell?, h, Nat.zero_add]
  simpa using hv

/-- only block b is another -/
structure Upd (b : Nat) (w w' : World) : Prop where
  os : w'.os = w.os
  tape : w'.tape = w.tape
  output : w'.output = w.output
  size : w'.heap.size = w.heap.size
  block : ∀ k, k ≠ b → w'.heap[k]? = w.heap[k]?

theorem Upd.setRow (w : World) (b : Nat) (cs : Array Value) : Upd b w (w.setRow b cs) := ⟨by unfold World.setRow; rfl, by unfold World.setRow; rfl, by unfold World.setRow; rfl, by unfold World.setRow; simp, fun k hk => by
  unfold World.setRow
  simp only [Array.getElem?_modify]
  rw [if_neg (Ne.symm hk)]⟩
theorem Ext.upd {w0 w w' : World} {b : Nat} (h : Ext w0 w) (k : Upd b w w') (hb : w0.heap.size ≤ b) : Ext w0 w' :=
  ⟨k.os.trans h.os, k.tape.trans h.tape, k.output.trans h.output, Nat.le_trans h.le (Nat.le_of_eq k.size.symm), fun i hi => (k.block i (by omega)).trans (h.below.block i hi)⟩
theorem Cells.upd {w w' : World} {b c o : Nat} {vs : List Value} (h : Cells w c o vs) (k : Upd b w w') (hc : c ≠ b) : Cells w' c o vs := fun i v hv => by
  rw [World.cell?_of_block (w := w) (a := ⟨c, o + i, none⟩) (k.block c hc)]; exact h i v hv
theorem Var.upd {w w' : World} {b c : Nat} {cs : List Value} {t : TypeId} (h : Var w c cs t) (k : Upd b w w') (hc : c ≠ b) : Var w' c cs t := by
  unfold Var; rw [k.block c hc]; exact h

def AllocR (w : World) (cs : List Value) (t : TypeId) (v : Value) (w' : World) : Prop := ∃ b, v = .pointer (some ⟨b, 0, none⟩) ∧ b = w.heap.size ∧ Ext w w' ∧ Var w' b cs t
theorem AllocR.mk (w : World) (cs : List Value) (t : TypeId) : AllocR w cs t (.pointer (some ⟨w.heap.size, 0, none⟩)) (w.alloc (.cells cs.toArray t)) :=
  ⟨_, rfl, rfl, Ext.alloc _ _, by unfold Var World.alloc; simp⟩
theorem AllocR.below {w : World} {cs : List Value} {t : TypeId} {v : Value} {w' : World} (h : AllocR w cs t v w') : Below w.heap.size w w' := by obtain ⟨_, _, _, h, _⟩ := h; exact h

section
variable {P : Program} {n : Nat} {L : Env} {w : World} {d : Option Tmp} {ty : TypeId} {pos : String} {af : Array Edge} {g : Option (Nat × Bool)}
theorem w_new {t : TypeId} {z : Value} {cs : List Value} (hz : ∀ w, (zeroValue t).run P w = .ok z w) (hc : z.cells = cs.toArray) : Wl P n ⟨d, .alloc t, ty, pos, af, g⟩ L w (AllocR w cs t) := fun a hF Q next hn =>
  w_alloc hz a hF Q next fun v w' ⟨h1, h2⟩ => hn v w' (by subst h1; subst h2; rw [hc]; exact AllocR.mk _ _ _)
theorem w_boxed {t : TypeId} {x : Operand} {v : Value} {cs : List Value} (hx : evO L x = some v) (hc : v.cells = cs.toArray) : Wl P n ⟨d, .box t x, ty, pos, af, g⟩ L w (AllocR w cs t) := fun a hF Q next hn =>
  w_box hx a hF Q next fun v w' ⟨h1, h2⟩ => hn v w' (by subst h1; subst h2; rw [hc]; exact AllocR.mk _ _ _)
def StoreR (w : World) (b : Nat) (cs : List Value) (t0 : TypeId) (_ : Value) (w' : World) : Prop := Upd b w w' ∧ Var w' b cs t0
theorem w_put {t t0 : TypeId} {x y : Operand} {b : Nat} {v : Value} {old cs : List Value} {ag : Bool} (h : Var w b old t0) (hx : evO L x = some (.pointer (some ⟨b, 0, none⟩))) (hy : evO L y = some v) (hc : v.cells = cs.toArray) (ht : Ty P t cs.length ag)
    (hs : old.length = cs.length) (h1 : cs.all (·.oneCell') = true) : Wl P n ⟨none, .store t x y, ty, pos, af, g⟩ L w (StoreR w b cs t0) := fun a hF Q next hn => by
  refine w_storeB (cs := old.toArray) (v := v) (t0 := t0) (by rw [hc]; simpa using ht) hx hy h (by rw [hc]; simpa using hs) (by rw [hc]; simpa using h1) a hF Q next fun u w' hw => hn u w' ?_
  subst hw
  rw [hc]
  refine ⟨Upd.setRow _ _ _, ?_⟩
  have := setRow_heap w b old.toArray cs.toArray t0 (0, 0) h
  exact this
end

theorem RV.cellA {P : Program} {L : Env} {w : World} {a t b o : Nat} {vs : List Value} (ht : Ty P t vs.length true) (hl : look L a = some (.pointer (some ⟨b, o, none⟩))) (hc : Cells w b o vs) : RV P L w (.cell a t) (.agg vs.toArray) :=
  ⟨_, hl, by
    have h := run_loadCells_list (P := P) w ⟨b, o, none⟩ vs (fun j v hv => by rw [addr_add]; exact hc j v hv)
    simp [loadVar, ht.ag, ht.sz, h]⟩
end Go.Gx
