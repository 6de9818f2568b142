/- Tokens compared. -/
import Derived.Test.YteopmfijfgaldaaDoorLd
import Derived.Laws.StructEq
namespace Go.Proofs.YteopmfijfgaldaaDoor
set_option linter.unusedVariables false
set_option linter.unusedSimpArgs false
set_option maxRecDepth 20000
open Go.Gx Go.RowKit Go.Lib
theorem part3 (xs : Array Value) (v : Value) (o : Nat) (h : xs[o]? = some v) (w : World) : (part 3 xs o).run Tryd.prog w = .ok v w := by
  have h1 := ty3.ag w
  have h2 := ty3.sz w
  simp [part, h1, h2, h]
theorem part9 (xs : Array Value) (v : Value) (o : Nat) (h : xs[o]? = some v) (w : World) : (part 9 xs o).run Tryd.prog w = .ok v w := by
  have h1 := ty9.ag w
  have h2 := ty9.sz w
  simp [part, h1, h2, h]
theorem fields39 : (Tryd.prog.fieldsOf 39).toList.map (fun f => (f.name != "_", f.type, f.offset)) = [(true, 3, 0), (true, 9, 1)] := by kernel_rfl
theorem under39 : Tryd.prog.underlying 39 = some (.struct (Tryd.prog.fieldsOf 39)) := by kernel_rfl
theorem eq39 (a b : Int) (x y : ByteArray) (w : World) : (Op.equal 39 (.agg #[.int .i64 a, .string x]) (.agg #[.int .i64 b, .string y])).run Tryd.prog w = .ok (a == b && x.toList == y.toList) w := by
  have hf := fields39
  unfold Op.equal
  rw [show Op.maxDepth = 9999 + 1 from rfl, run_equalIn_struct w 9999 39 _ _ under39 (by kernel_rfl)]
  generalize (Tryd.prog.fieldsOf 39).toList = fs at hf ⊢
  rcases fs with _ | ⟨f0, _ | ⟨f1, _ | ⟨f2, r⟩⟩⟩
  · cases hf
  · simp at hf
  · simp only [List.map_cons, List.map_nil, List.cons.injEq, Prod.mk.injEq, and_true, bne_iff_ne, ne_eq] at hf
    obtain ⟨⟨n0, t0, o0⟩, n1, t1, o1⟩ := hf
    have e1 : (Op.equalIn 9999 3 (.int .i64 a) (.int .i64 b)).run Tryd.prog w = .ok (a == b) w := run_equalIn_int w 9998 3 .i64 .i64 a b Tryd.underlying3
    have e2 : (Op.equalIn 9999 9 (.string x) (.string y)).run Tryd.prog w = .ok (x.toList == y.toList) w := run_equalIn_string w 9998 9 x y Tryd.underlying9
    generalize (x.toList == y.toList) = r at e2 ⊢
    have p1 := part3 #[.int .i64 a, .string x] (.int .i64 a) 0 rfl w
    have p2 := part3 #[.int .i64 b, .string y] (.int .i64 b) 0 rfl w
    have p3 := part9 #[.int .i64 a, .string x] (.string x) 1 rfl w
    have p4 := part9 #[.int .i64 b, .string y] (.string y) 1 rfl w
    simp only [Op.eqFields, t0, t1, o0, o1, n0, n1, ne_eq, not_false_eq_true, if_true, Sem.run_bind, p1, p2, Result.andThen_ok, e1]
    cases a == b
    · simp
    · simp [p3, p4, e2]
      cases r <;> simp
  · simp at hf
end Go.Proofs.YteopmfijfgaldaaDoor
