/- The engine's rules, more: what is kept but for some blocks; make, conversions between text and bytes, closures, maps. Generic in the program. -/
import Derived.Test.YtbnkncemfadfjaaGreatDoorGy
import Derived.Laws.CopyRow
import Derived.Laws.IdiomStrings
import Derived.Laws.MakeOwn
import Derived.Lib.ConvBytes
namespace Go.Gx
set_option linter.unusedVariables false
set_option linter.unusedSimpArgs false
open Go.RowKit

/-- all is kept but the blocks Z -/
structure Kp (Z : List Nat) (w w' : World) : Prop where
  base : Below 0 w w'
  block : ∀ k, k < w.heap.size → k ∉ Z → w'.heap[k]? = w.heap[k]?
theorem Kp.refl (Z : List Nat) (w : World) : Kp Z w w := ⟨Below.refl _ _, fun _ _ _ => rfl⟩
theorem Kp.trans {Z : List Nat} {a b c : World} (h : Kp Z a b) (k : Kp Z b c) : Kp Z a c :=
  ⟨Below.trans h.base k.base, fun i h1 h2 => (k.block i (Nat.lt_of_lt_of_le h1 h.base.size) h2).trans (h.block i h1 h2)⟩
theorem Ext.kp {w w' : World} (h : Ext w w') (Z : List Nat) : Kp Z w w' := ⟨⟨h.os, h.tape, h.output, h.size, fun _ hk => absurd hk (Nat.not_lt_zero _)⟩, fun k hk _ => Below.block h k hk⟩
theorem Upd.kp {b : Nat} {Z : List Nat} {w w' : World} (h : Upd b w w') (hb : b ∈ Z) : Kp Z w w' := by
  exact ⟨⟨h.os, h.tape, h.output, Nat.le_of_eq h.size.symm, fun _ hk => absurd hk (Nat.not_lt_zero _)⟩, fun k hk hz => h.block k fun e => hz (by rw [e]; exact hb)⟩
theorem Kp.ext {Z : List Nat} {w0 w w' : World} (h : Ext w0 w) (k : Kp Z w w') (hz : ∀ z ∈ Z, w0.heap.size ≤ z) : Ext w0 w' :=
  ⟨k.base.os.trans h.os, k.base.tape.trans h.tape, k.base.output.trans h.output, Nat.le_trans h.size k.base.size, fun i hi => (k.block i (Nat.lt_of_lt_of_le hi h.size) fun e => by have := hz i e; omega).trans (Below.block h i hi)⟩
theorem Kp.le {Z : List Nat} {w w' : World} (h : Kp Z w w') : w.heap.size ≤ w'.heap.size := h.base.size
theorem Var.kp {Z : List Nat} {w w' : World} {b : Nat} {cs : List Value} {t : TypeId} (h : Var w b cs t) (k : Kp Z w w') (hb : b ∉ Z) : Var w' b cs t := by
  have hlt := h.lt
  unfold Var at *
  rw [k.block b hlt hb]
  exact h
theorem own_kp {Z : List Nat} {w w' : World} {B e size n : Nat} {v : Value} {xs : List Value} (h : w.ownsRow B e size v n xs) (k : Kp Z w w') (hz : ∀ z ∈ Z, ∀ cs, w.heap[z]? ≠ some (.cells cs e (0, 0))) : w'.ownsRow B e size v n xs := by
  refine ⟨h.1, h.2.imp id fun ⟨g, cap, cur, h1, h2, h3, h4⟩ => ⟨g, cap, cur, h1, h2, ?_, h4⟩⟩
  rw [k.block g (Array.getElem?_eq_some_iff.1 h3).1 fun e => hz g e cur h3]
  exact h3
theorem var_ne {w : World} {b t t' : Nat} {cs : List Value} (h : Var w b cs t) (ht : t ≠ t') : ∀ cs', w.heap[b]? ≠ some (.cells cs' t' (0, 0)) := fun cs' e => by
  unfold Var at h
  rw [h] at e
  simp only [Option.some.injEq, Obj.cells.injEq] at e
  exact ht e.2.1
theorem Var.ne {w : World} {b b' t t' : Nat} {cs cs' : List Value} (h : Var w b cs t) (h' : Var w b' cs' t') (ht : t ≠ t') : b ≠ b' := fun e => by
  subst e
  exact var_ne h ht _ h'
/-- the block of an owned row has the row's type -/
theorem own_block {w : World} {B e size n k : Nat} {v : Value} {xs : List Value} (h : w.ownsRow B e size v n xs) (hk : some k = v.ownBlock) : ∃ cs, w.heap[k]? = some (.cells cs e (0, 0)) := by
  rcases h.2 with ⟨rfl, _⟩ | ⟨g, cap, cur, rfl, _, hg, _⟩
  · cases hk
  · obtain rfl : k = g := by simpa [Value.ownBlock] using hk
    exact ⟨cur, hg⟩
theorem Var.grown {w w' : World} {b t B e size n : Nat} {cs xs : List Value} {v : Value} (h : Var w b cs t) (hown : w.ownsRow B e size v n xs) (hg : w.grownBy w' v.ownBlock) (ht : t ≠ e) : Var w' b cs t := by
  have hlt := h.lt
  have hne : some b ≠ v.ownBlock := fun hk => by
    obtain ⟨cs', hc⟩ := own_block hown hk
    exact var_ne h ht cs' hc
  unfold Var at *
  rw [hg.block b hlt hne]
  exact h
theorem own_grown {w w' : World} {B e size n B2 e2 size2 n2 : Nat} {v v2 : Value} {xs xs2 : List Value} (h : w.ownsRow B e size v n xs) (hown : w.ownsRow B2 e2 size2 v2 n2 xs2) (hg : w.grownBy w' v2.ownBlock) (ht : e ≠ e2) : w'.ownsRow B e size v n xs := by
  refine ⟨h.1, h.2.imp id fun ⟨g, cap, cur, h1, h2, h3, h4⟩ => ⟨g, cap, cur, h1, h2, ?_, h4⟩⟩
  have hlt := (Array.getElem?_eq_some_iff.1 h3).1
  rw [hg.block g hlt fun hk => ?_]
  · exact h3
  · obtain ⟨cs', hc⟩ := own_block hown hk
    rw [h3] at hc
    simp only [Option.some.injEq, Obj.cells.injEq] at hc
    exact ht hc.2.1
theorem own_upd {w w' : World} {b t B e size n : Nat} {cs xs : List Value} {v : Value} (h : w.ownsRow B e size v n xs) (hv : Var w b cs t) (hu : Upd b w w') (ht : t ≠ e) : w'.ownsRow B e size v n xs := by
  refine ⟨h.1, h.2.imp id fun ⟨g, cap, cur, h1, h2, h3, h4⟩ => ⟨g, cap, cur, h1, h2, ?_, h4⟩⟩
  rw [hu.block g fun hk => by subst hk; exact var_ne hv ht _ h3]
  exact h3
/-- a row that holds a text's bytes -/
def ByAt (w : World) (b e : Nat) (s : ByteArray) : Prop := ∃ arr fr, w.heap[b]? = some (.cells arr e fr) ∧ ∀ j, j < s.size → arr[j]? = some (.int .u8 (s.data.toList.getD j 0).toNat)
theorem ByAt.ext {w w' : World} {b e : Nat} {s : ByteArray} (h : ByAt w b e s) (k : Ext w w') : ByAt w' b e s := by
  obtain ⟨arr, fr, h1, h2⟩ := h
  exact ⟨arr, fr, by rw [Below.block k b (Array.getElem?_eq_some_iff.1 h1).1]; exact h1, h2⟩
theorem ByAt.grown {w w' : World} {b e B e2 size n : Nat} {s : ByteArray} {xs : List Value} {v : Value} (h : ByAt w b e s) (hown : w.ownsRow B e2 size v n xs) (hg : w.grownBy w' v.ownBlock) (ht : e ≠ e2) : ByAt w' b e s := by
  obtain ⟨arr, fr, h1, h2⟩ := h
  refine ⟨arr, fr, ?_, h2⟩
  rw [hg.block b (Array.getElem?_eq_some_iff.1 h1).1 fun hk => ?_]
  · exact h1
  · obtain ⟨cs', hc⟩ := own_block hown hk
    rw [h1] at hc
    simp only [Option.some.injEq, Obj.cells.injEq] at hc
    exact ht hc.2.1
theorem ByAt.cell {w : World} {b e : Nat} {s : ByteArray} (h : ByAt w b e s) {j : Nat} (hj : j < s.size) : w.cell? ⟨b, j, none⟩ = some (.int .u8 (s.data.toList.getD j 0).toNat) := by
  obtain ⟨arr, fr, h1, h2⟩ := h
  simp [World.cell?, h1, h2 j hj]

section
variable {P : Program} {n : Nat} {L : Env} {w : World} {d : Option Tmp} {ty : TypeId} {pos : String} {af : Array Edge} {g : Option (Nat × Bool)}
/-- make([]T, n) -/
theorem w_make {t e : TypeId} {i : TypeInfo} {z : Value} {x y : Operand} {size bytes : Nat} {m : Nat} (ht : P.underlying t = some (.slice e)) (hi : P.info? e = some i) (hz : i.zero = some z) (hs : i.size = size) (hby : i.bytes = bytes)
    (hx : evO L x = some (.int .i64 m)) (hy : evO L y = some (.int .i64 m)) (hb : bytes * m ≤ 281474976710656) (h63 : m ≤ 9223372036854775807) :
    Wl P n ⟨d, .makeSlice t x y, ty, pos, af, g⟩ L w (fun v w' => ∃ b, v = .slice (some ⟨b, 0, none⟩) m m ∧ b = w.heap.size ∧ Ext w w' ∧ Var w' b (madeCells z.cells (m * size)).toList e) := w_run fun a hF => by
  have hb' : (i.bytes : Int) * (m : Int) ≤ 281474976710656 := by
    have h : ((i.bytes * m : Nat) : Int) ≤ 281474976710656 := by rw [hby]; omega
    rwa [Int.natCast_mul] at h
  have hr := run_make (P := P) w t e i z ht hi hz .i64 .i64 m m (by omega) (Int.le_refl _) hb' (by omega)
  simp only [Int.toNat_natCast] at hr
  rw [hs] at hr
  refine ⟨.slice (some ⟨w.heap.size, 0, none⟩) m m, w.alloc (.cells (madeCells z.cells (m * size)) e), ?_, ⟨w.heap.size, rfl, rfl, Ext.alloc _ _, ?_⟩⟩
  · simp [execOp, hF.eval hx, hF.eval hy, hr]
  · unfold Var World.alloc
    simp
/-- []byte(s) -/
theorem w_strBytes {src dst e : TypeId} {x : Operand} {s : ByteArray} (hs : P.underlying src = some .string) (hd : P.underlying dst = some (.slice e)) (he : P.underlying e = some (.int .u8)) (hx : evO L x = some (.string s)) :
    Wl P n ⟨d, .convert src dst x, ty, pos, af, g⟩ L w (fun v w' => ∃ b cap, v = .slice (some ⟨b, 0, none⟩) s.size cap ∧ s.size ≤ cap ∧ Ext w w' ∧ ByAt w' b e s) := w_run fun a hF => by
  refine ⟨.slice (some ⟨w.heap.size, 0, none⟩) s.size (grownCap w s.size 0 e), Lib.bytesWorld w e s, ?_, ⟨_, _, rfl, grownCap_ge w s.size 0 e, ?_, ?_⟩⟩
  · simp [execOp, hF.eval hx, Lib.run_convert_string_bytes w src dst e s hs hd he]
  · exact ⟨by simp [Lib.bytesWorld, World.freeze]; rfl, by simp [Lib.bytesWorld, World.freeze], by simp [Lib.bytesWorld, World.freeze]; rfl, by rw [Lib.bytesWorld_size]; omega, fun k hk => Lib.bytesWorld_at_old w e s k hk⟩
  · refine ⟨_, _, Lib.bytesWorld_at_new w e s, fun j hj => ?_⟩
    have h1 := Lib.bytesWorld_cell w e s j hj
    simp only [World.cell?, Lib.bytesWorld_at_new] at h1
    simpa using h1
/-- string(b) -/
theorem t_bytesStr {src dst e : TypeId} {x : Operand} {v : Value} {l : List UInt8} (hs : P.underlying src = some (.slice e)) (he : P.underlying e = some (.int .u8)) (hd : P.underlying dst = some .string) (hsl : SlC w v 1 l.length (l.map fun b => .int .u8 b.toNat)) (hx : evO L x = some v) :
    Tm P n ⟨d, .convert src dst x, ty, pos, af, g⟩ L w (.string ⟨l.toArray⟩) := fun a ha w' hw => by
  obtain ⟨_, p, cap, rfl, hc, hd'⟩ := hsl
  cases p with
  | none =>
    have h0 : cap = 0 := hd'.elim id fun ⟨b, o, h, _⟩ => by cases h
    subst h0
    obtain rfl : l = [] := List.length_eq_zero_iff.1 (by omega)
    have hr : (convert src dst (.slice none 0 0)).run P w' = .ok (.string ⟨#[]⟩) w' := by
      rw [run_convert_bytes_string w' src dst e none 0 0 hs he hd]
      simp [Conv.bytesToString]
      rfl
    simp [execOp, ha.eval hx, hr]
  | some ad =>
    have hr := run_convert_bytes_back (P := P) w' src dst e ad cap l hs he hd (fun j hj => by
      rcases hd' with h0 | ⟨b, o, hp, hcell⟩
      · omega
      · cases hp
        rw [addr_add]
        have := hcell j (.int .u8 l[j].toNat) (by rw [List.getElem?_map, List.getElem?_eq_getElem hj]; rfl)
        exact below_cell hw this)
    simp [execOp, ha.eval hx, hr]
theorem t_makeFunc {f : FuncId} {cap : Array Operand} {vs : List Value} (h : cap.toList.map (evO L) = vs.map some) : Tm P n ⟨d, .makeFunc (.func f) #[] cap, ty, pos, af, g⟩ L w (.func (.func f) #[] vs.toArray) := fun a ha w' _ => by
  have hc : cap.map a.eval = vs.toArray := by
    apply Array.toList_inj.1
    rw [Array.toList_map]
    exact map_eval ha h
  simp [execOp, Instr.makeFunc, hc]
/-- a call of a closure -/
theorem w_callK {x : Operand} {f : FuncId} {cap : List Value} {args : Array Operand} {at_ : Array TypeId} {vs : List Value} {R : Value → World → Prop} (hx : evO L x = some (.func (.func f) #[] cap.toArray)) (hf : ∀ (args : Array Value) (w : World), (callFunc f args).run P w = .ok (.enter f args) w)
    (ha : args.toList.map (evO L) = vs.map some) (h : Cl P f (vs ++ cap).toArray w R) : Wl P n ⟨d, .call { callee := .value x, args := args, argTypes := at_ }, ty, pos, af, g⟩ L w R := fun a hF Q next hn => by
  have hargs : args.map a.eval = vs.toArray := by
    apply Array.toList_inj.1
    rw [Array.toList_map]
    exact map_eval hF ha
  have hrun : (execOp a.eval ⟨d, .call { callee := .value x, args := args, argTypes := at_ }, ty, pos, af, g⟩).run P w = .ok (.enter f (vs ++ cap).toArray) w := by
    simp [execOp, resolve, hF.eval hx, Deferred.ofValue, invoke, hf, hargs]
  unfold Oper.wp
  rw [hrun]
  simp only [Oper.upon]
  exact Calls.mono h fun e w' ⟨v, he, hr⟩ => by subst he; exact hn v w' hr
theorem run_equal_fn0 {P : Program} {w : World} {t : TypeId} {ps rs : Array TypeId} {vr : Bool} (h : P.underlying t = some (.func ps rs vr)) : (Op.equal t .nilFunc .nilFunc).run P w = .ok true w := by
  unfold Op.equal
  rw [show Op.maxDepth = 9999 + 1 from rfl]
  generalize 9999 = dd
  simp [Op.equalIn, run_underlying h]
theorem run_equal_fn1 {P : Program} {w : World} {t : TypeId} {ps rs : Array TypeId} {vr : Bool} {fn : Fn} {c1 c2 : Array Value} (h : P.underlying t = some (.func ps rs vr)) : (Op.equal t (.func fn c1 c2) .nilFunc).run P w = .ok false w := by
  unfold Op.equal
  rw [show Op.maxDepth = 9999 + 1 from rfl]
  generalize 9999 = dd
  simp [Op.equalIn, run_underlying h]
/-- a function value against nil -/
theorem t_fnNilT {t t' : TypeId} {x y : Operand} {ps rs : Array TypeId} {vr : Bool} (hu : P.underlying t = some (.func ps rs vr)) (hx : evO L x = some .nilFunc) (hy : evO L y = some .nilFunc) : Tm P n ⟨d, .binOp .eql t x y t', ty, pos, af, g⟩ L w (.bool true) := fun a ha w' _ => by
  simp [execOp, ha.eval hx, ha.eval hy, eqGuard, binOp, run_equal_fn0 hu]
theorem t_fnNilF {t t' : TypeId} {x y : Operand} {ps rs : Array TypeId} {vr : Bool} {fn : Fn} {c1 c2 : Array Value} (hu : P.underlying t = some (.func ps rs vr)) (hx : evO L x = some (.func fn c1 c2)) (hy : evO L y = some .nilFunc) : Tm P n ⟨d, .binOp .eql t x y t', ty, pos, af, g⟩ L w (.bool false) := fun a ha w' _ => by
  simp [execOp, ha.eval hx, ha.eval hy, eqGuard, binOp, run_equal_fn1 hu]
/-- a store of a whole element into a row of the call's own -/
theorem w_putAt {t t0 : TypeId} {x y : Operand} {b o : Nat} {v : Value} {old cs : List Value} {ag : Bool} (h : Var w b old t0) (hx : evO L x = some (.pointer (some ⟨b, o, none⟩))) (hy : evO L y = some v) (hc : v.cells = cs.toArray) (ht : Ty P t cs.length ag) (hl : o + cs.length ≤ old.length) (h1 : ∀ u ∈ cs, u.oneCell' = true) :
    Wl P n ⟨none, .store t x y, ty, pos, af, g⟩ L w (StoreR w b (old.take o ++ cs ++ old.drop (o + cs.length)) t0) := fun a hF Q next hn => by
  have hst := run_storeCells_at (P := P) b o t0 cs 0 old.toArray w h (by simpa using hl) h1
  simp only [Nat.add_zero, List.toList_toArray] at hst
  have hrun : (execOp a.eval ⟨none, .store t x y, ty, pos, af, g⟩).run P w = .ok .skip (w.setRow b (old.take o ++ cs ++ old.drop (o + cs.length)).toArray) := by
    simp [execOp, Instr.storeAt, hF.eval hx, hF.eval hy, Instr.sureAddr, storeVar, ht.sz, hc, hst]
  unfold Oper.wp
  rw [hrun]
  refine hn undef _ ⟨Upd.setRow w b _, ?_⟩
  unfold Var at h ⊢
  exact setRow_heap w b old.toArray _ t0 _ h
/-- a store into one cell of an owned row -/
theorem w_setOwn {t e : TypeId} {x y : Operand} {B gb k cap size o : Nat} {xs : List Value} {u v : Value} (h : w.ownsRow B e size (.slice (some ⟨gb, 0, none⟩) k cap) k xs) (ht : Ty P t 1 false) (hx : evO L x = some (.pointer (some ⟨gb, o, none⟩))) (hy : evO L y = some v) (ho : xs[o]? = some u) (hv : v.cells = #[v]) (h1 : v.oneCell' = true) :
    Wl P n ⟨none, .store t x y, ty, pos, af, g⟩ L w (fun _ w' => w'.ownsRow B e size (.slice (some ⟨gb, 0, none⟩) k cap) k (xs.set o v) ∧ Upd gb w w') := fun a hF Q next hn => by
  have hlt : o < k * size := by rw [← h.1]; exact (List.getElem?_eq_some_iff.1 ho).1
  have hc : w.cell? ⟨gb, o, none⟩ = some u := by rw [h.cellAt o hlt]; exact ho
  have hfr : w.frozen? ⟨gb, o, none⟩ = false := by
    rcases h.2 with ⟨h', _⟩ | ⟨g', cap', cur, h', _, hg, _⟩
    · cases h'
    · cases h'
      exact Lib.frozen_of_heap hg o
  refine w_set ht hx hy hc hfr hv h1 a hF Q next fun z w' hw => hn z w' ?_
  subst hw
  obtain ⟨h2, h3⟩ := h.stored o v
  exact ⟨h2, rfl, rfl, rfl, by simp [World.setCell], fun j hj => Below.heap_setCell _ _ _ _ (fun e => hj e)⟩
end
end Go.Gx
