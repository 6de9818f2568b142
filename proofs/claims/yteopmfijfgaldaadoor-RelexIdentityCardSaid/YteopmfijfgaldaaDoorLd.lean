/- The walks of the lexer's laws: Tokenize and the helpers. Printed by doorm.py. -/
import Derived.Test.YteopmfijfgaldaaDoorLc
namespace Go.Proofs.YteopmfijfgaldaaDoor
set_option linter.unusedVariables false
set_option linter.unusedSimpArgs false
set_option maxRecDepth 20000
open Go.Gx Go.RowKit Go.Lib

theorem below_own2 {B : Nat} {w w' : World} {v : Value} {row : List Value} {e size n : Nat} (h : w.ownsRow B e size v n row) (hg : w.grownBy w' v.ownBlock) (hB : B ≤ w.heap.size) : Below B w w' :=
  (Below.refl B w).grown hg hB (fun k hk => (h.lt k hk).1)
theorem own_ext3 {w w1 w2 : World} {v : Value} {row : List Value} {e size n : Nat} (hx : Ext w w1) (h : w1.ownsRow w.heap.size e size v n row) (hg : w1.grownBy w2 v.ownBlock) : Ext w w2 :=
  Below.trans hx (below_own2 h hg hx.le)
/-- tokens as cells -/
def tcs : List (Int × ByteArray) → List Value
  | [] => []
  | t :: l => .int .i64 t.1 :: .string t.2 :: tcs l
theorem tcs_length : ∀ l, (tcs l).length = l.length * 2
  | [] => rfl
  | t :: l => by simp [tcs, tcs_length l]; omega
theorem tcs_append : ∀ a b, tcs (a ++ b) = tcs a ++ tcs b
  | [], b => rfl
  | t :: a, b => by simp [tcs, tcs_append a b]
theorem tcs_drop : ∀ (l : List (Int × ByteArray)) (k : Nat), (tcs l).drop (k * 2) = tcs (l.drop k)
  | l, 0 => rfl
  | [], k + 1 => by simp [tcs]
  | t :: l, k + 1 => by
    rw [show (k + 1) * 2 = k * 2 + 1 + 1 from by omega]
    simp only [tcs, List.drop_succ_cons]
    exact tcs_drop l k
theorem tcs_at (l : List (Int × ByteArray)) (k : Nat) (h : k < l.length) : ((tcs l).drop (k * 2)).take 2 = [.int .i64 l[k].1, .string l[k].2] := by
  rw [tcs_drop, List.drop_eq_getElem_cons h]; rfl

theorem tokenize_ok {w : World} {s : ByteArray} (hs : s.size ≤ 2000) (hA : Asc w) : Cl Tryd.prog 19 #[.string s] w (fun u w' => (∃ v, u = .tuple #[v, .int .i64 0] ∧ SlC w' v 2 (toks s).length (tcs (toks s))) ∧ Ext w w') := by
  obtain ⟨i, hi, hz, hsi, hby⟩ := inf39
  have hx := Ext.refl w
  refine Cl.enter Tryd.func19 rfl Tryd.ntmps19 rfl rfl ?_
  refine Wp.seq (Wp.region ?_)
  refine Rg.tm trivial rfl (t_assign rfl) rfl ?_
  refine Rg.tm trivial rfl (t_assign rfl) rfl ?_
  refine Rg.done ?_
  refine Wp.seq ?_
  refine Wp.seq (Wp.region ?_)
  refine Rg.tm trivial rfl (t_move rfl) rfl ?_
  refine Rg.tm trivial rfl (t_len Tryd.underlying9 rfl) rfl ?_
  first | refine Rg.tm trivial rfl (t_gtrT rfl rfl (by omega)) rfl ?_ | refine Rg.tm trivial rfl (t_gtrF rfl rfl (by omega)) rfl ?_ | refine Rg.tm trivial rfl (t_gtr rfl rfl) rfl ?_
  refine Rg.done ?_
  refine Wp.condF rfl ?_
  refine Wp.skip ?_
  refine Wp.seq (Wp.region ?_)
  refine Rg.tm trivial rfl (t_assign rfl) rfl ?_
  refine Rg.done ?_
  refine Wp.seq ?_
  refine Wp.block ?_
  refine Wp.loop (ι := ByteArray × List (Int × ByteArray) × Value) (fun j => [(0, .string j.1), (4, j.2.2)])
    (fun j w' => j.2.1 ++ toks j.1 = toks s ∧ j.1.size + j.2.1.length ≤ 2000 ∧ w'.ownsRow w.heap.size 39 2 j.2.2 j.2.1.length (tcs j.2.1) ∧ Ext w w')
    (fun j => j.1.size) (s, [], .slice none 0 0) (by repeat (first | exact .nil | refine .cons rfl ?_)) ⟨rfl, hs, own_nil _ _ _ _, hx⟩ ?_
  clear hx
  rintro ⟨r, l, v⟩ w3 ⟨he, hn, hown, hx⟩
  simp only at he hn hown ⊢
  by_cases hlt : 0 < r.size
  · have hin := tok_in hlt
    refine Wp.seq ?_
    refine Wp.seq (Wp.region ?_)
    refine Rg.tm trivial rfl (t_move rfl) rfl ?_
    refine Rg.tm trivial rfl (t_len Tryd.underlying9 rfl) rfl ?_
    first | refine Rg.tm trivial rfl (t_gtrT rfl rfl (by omega)) rfl ?_ | refine Rg.tm trivial rfl (t_gtrF rfl rfl (by omega)) rfl ?_ | refine Rg.tm trivial rfl (t_gtr rfl rfl) rfl ?_
    refine Rg.done ?_
    refine Wp.condT rfl ?_
    refine Wp.skip ?_
    refine Wp.block ?_
    refine Wp.seq (Wp.region ?_)
    refine Rg.tm trivial rfl (t_move rfl) rfl ?_
    refine Rg.wd trivial (w_call Tryd.call31 rfl (first_ok (by omega) hlt (hA.ext hx))) rfl ?_
    rintro _ w1 ⟨rfl, hx1⟩
    replace hown := own_ext hown hx1
    replace hx := hx.ext hx1
    refine Rg.tm trivial rfl (t_move rfl) rfl ?_
    refine Rg.tm trivial rfl (t_extract rfl rfl) rfl ?_
    refine Rg.tm trivial rfl (t_extract rfl rfl) rfl ?_
    refine Rg.tm trivial rfl (t_assign rfl) rfl ?_
    refine Rg.tm trivial rfl (t_assign rfl) rfl ?_
    refine Rg.done ?_
    refine Wp.seq (Wp.region ?_)
    refine Rg.tm trivial rfl (t_move rfl) rfl ?_
    refine Rg.tm trivial rfl (t_move rfl) rfl ?_
    refine Rg.tm trivial rfl (t_move rfl) rfl ?_
    refine Rg.tm trivial rfl (t_move rfl) rfl ?_
    refine Rg.tm trivial rfl (t_sliceS Tryd.underlying9 rfl rfl rfl (by omega)) rfl ?_
    refine Rg.tm trivial rfl (t_build (bd39_0_1 _ _) rfl) rfl ?_
    refine Rg.wd trivial (w_buildSlice (bs35_1 _ _) rfl) rfl ?_
    rintro _ wb ⟨bb, rfl, qb, hxb, hvb⟩
    replace hx := hx.ext hxb
    replace hown := own_ext hown hxb
    refine Rg.wd trivial (w_append w.heap.size Tryd.underlying35 hi hz hsi hby rfl (by decide) rfl rfl hown rfl (fun j u hu => by rw [addr_add]; exact hvb.cells j u hu) (by simp [Value.oneCell']) (by unfold maxLen; omega) (by omega) hx.le) rfl ?_
    rintro v2 wc ⟨hown2, hgr, p2, l2, c2, rfl⟩
    replace hx := own_ext3 hx hown hgr
    refine Rg.tm trivial rfl (t_assign rfl) rfl ?_
    refine Rg.done ?_
    refine Wp.region ?_
    refine Rg.tm trivial rfl (t_move rfl) rfl ?_
    refine Rg.tm trivial rfl (t_move rfl) rfl ?_
    refine Rg.tm trivial rfl (t_sliceS Tryd.underlying9 rfl rfl rfl (by omega)) rfl ?_
    refine Rg.tm trivial rfl (t_assign rfl) rfl ?_
    refine Rg.done ?_
    refine ⟨(r.extract (tok r).1 r.size, l ++ [((tok r).2, r.extract 0 (tok r).1)], .slice p2 l2 c2), by repeat (first | exact .nil | refine .cons rfl ?_), ⟨?_, ?_, ?_, hx⟩, by simp only [size_tail]; omega⟩
    · rw [← he, toks_cons hlt, List.append_assoc]; rfl
    · simp only [List.length_append, List.length_cons, List.length_nil, size_tail]; omega
    · rw [tcs_append, List.length_append]
      exact hown2
  · have e0 : r.size = 0 := by omega
    rw [toks_nil e0, List.append_nil] at he
    refine Wp.seq ?_
    refine Wp.seq (Wp.region ?_)
    refine Rg.tm trivial rfl (t_move rfl) rfl ?_
    refine Rg.tm trivial rfl (t_len Tryd.underlying9 rfl) rfl ?_
    first | refine Rg.tm trivial rfl (t_gtrT rfl rfl (by omega)) rfl ?_ | refine Rg.tm trivial rfl (t_gtrF rfl rfl (by omega)) rfl ?_ | refine Rg.tm trivial rfl (t_gtr rfl rfl) rfl ?_
    refine Rg.done ?_
    refine Wp.condF rfl ?_
    refine Wp.exit ?_
    refine Wp.seq (Wp.region ?_)
    refine Rg.tm trivial rfl (t_move rfl) rfl ?_
    refine Rg.tm trivial rfl (t_assign rfl) rfl ?_
    refine Rg.tm trivial rfl (t_assign rfl) rfl ?_
    refine Rg.done ?_
    refine Wp.ret ?_
    exact ⟨[_, _], ⟨rfl, rfl, trivial⟩, ⟨v, rfl, by rw [← he]; exact own_slice hown⟩, hx⟩
theorem tokenize_no {w : World} {s : ByteArray} (hs : 2000 < s.size) : Cl Tryd.prog 19 #[.string s] w (fun u w' => u = .tuple #[.slice none 0 0, .int .i64 2] ∧ w = w') := by
  refine Cl.enter Tryd.func19 rfl Tryd.ntmps19 rfl rfl ?_
  refine Wp.seq (Wp.region ?_)
  refine Rg.tm trivial rfl (t_assign rfl) rfl ?_
  refine Rg.tm trivial rfl (t_assign rfl) rfl ?_
  refine Rg.done ?_
  refine Wp.seq ?_
  refine Wp.seq (Wp.region ?_)
  refine Rg.tm trivial rfl (t_move rfl) rfl ?_
  refine Rg.tm trivial rfl (t_len Tryd.underlying9 rfl) rfl ?_
  first | refine Rg.tm trivial rfl (t_gtrT rfl rfl (by omega)) rfl ?_ | refine Rg.tm trivial rfl (t_gtrF rfl rfl (by omega)) rfl ?_ | refine Rg.tm trivial rfl (t_gtr rfl rfl) rfl ?_
  refine Rg.done ?_
  refine Wp.condT rfl ?_
  refine Wp.seq (Wp.region ?_)
  refine Rg.tm trivial rfl (t_assign rfl) rfl ?_
  refine Rg.tm trivial rfl (t_assign rfl) rfl ?_
  refine Rg.done ?_
  refine Wp.ret ?_
  exact ⟨[_, _], ⟨rfl, rfl, trivial⟩, rfl, rfl⟩
end Go.Proofs.YteopmfijfgaldaaDoor
