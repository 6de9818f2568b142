/- The walks of the lexer's laws, second part: EqualLists, source. Printed by doorn.py. -/
import Derived.Test.YteopmfijfgaldaaDoorLe
namespace Go.Proofs.YteopmfijfgaldaaDoor
set_option linter.unusedVariables false
set_option linter.unusedSimpArgs false
set_option maxRecDepth 20000
open Go.Gx Go.RowKit Go.Lib

theorem equal_ok {w : World} {v1 v2 : Value} {l : List (Int × ByteArray)} (hs0 : SlC w v1 2 l.length (tcs l)) (hz0 : SlC w v2 2 l.length (tcs l)) (hlen : l.length < 4611686018427387904) :
    Cl Tryd.prog 22 #[v1, v2] w (fun u w' => u = .bool true ∧ Ext w w') := by
  have hx := Ext.refl w
  refine Cl.enter Tryd.func22 rfl Tryd.ntmps22 rfl rfl ?_
  refine Wp.seq (Wp.region ?_)
  refine Rg.tm trivial rfl (t_assign rfl) rfl ?_
  refine Rg.done ?_
  refine Wp.seq ?_
  refine Wp.seq (Wp.region ?_)
  refine Rg.tm trivial rfl (t_move rfl) rfl ?_
  refine Rg.tm trivial rfl (t_lenC hs0 Tryd.underlying35 rfl) rfl ?_
  refine Rg.tm trivial rfl (t_move rfl) rfl ?_
  refine Rg.tm trivial rfl (t_lenC hz0 Tryd.underlying35 rfl) rfl ?_
  first | refine Rg.tm trivial rfl (t_neqT rfl rfl (by omega)) rfl ?_ | refine Rg.tm trivial rfl (t_neqF rfl rfl (by omega)) rfl ?_ | refine Rg.tm trivial rfl (t_neq rfl rfl) rfl ?_
  refine Rg.done ?_
  refine Wp.condF rfl ?_
  refine Wp.skip ?_
  refine Wp.seq ?_
  refine Wp.seq (Wp.region ?_)
  refine Rg.tm trivial rfl (t_move rfl) rfl ?_
  refine Rg.tm trivial rfl (t_lenC hs0 Tryd.underlying35 rfl) rfl ?_
  refine Rg.tm trivial rfl (t_move rfl) rfl ?_
  refine Rg.done ?_
  refine Wp.block ?_
  refine Wp.loop (ι := Nat) (fun k => [(0, v1), (1, v2), (12, .int .i64 l.length), (13, .int .i64 k)])
    (fun k w' => k ≤ l.length ∧ Ext w w') (fun k => l.length - k) 0 (by repeat (first | exact .nil | refine .cons rfl ?_)) ⟨Nat.zero_le _, hx⟩ ?_
  clear hx
  rintro k w3 ⟨hk, hx⟩
  by_cases hlt : k < l.length
  · skip
    refine Wp.seq (Wp.region ?_)
    first | refine Rg.tm trivial rfl (t_lssT rfl rfl (by omega)) rfl ?_ | refine Rg.tm trivial rfl (t_lssF rfl rfl (by omega)) rfl ?_ | refine Rg.tm trivial rfl (t_lss rfl rfl) rfl ?_
    refine Rg.done ?_
    refine Wp.seq ?_
    refine Wp.condT rfl ?_
    refine Wp.skip ?_
    refine Wp.seq ?_
    refine Wp.block ?_
    refine Wp.seq (Wp.region ?_)
    refine Rg.tm trivial rfl (t_move rfl) rfl ?_
    refine Rg.tm trivial rfl (t_assign rfl) rfl ?_
    refine Rg.done ?_
    refine Wp.seq (Wp.draw [0, 1, 2, 3, 4, 5, 6, 7, 8] [] mixed (by kernel_rfl) (by kernel_rfl) ?_)
    intro w1 hx1 _
    replace hx := hx.ext hx1
    refine Rg.tm trivial rfl (t_move rfl) rfl ?_
    refine Rg.tm trivial rfl (t_move rfl) rfl ?_
    refine Rg.ix hs0 trivial rfl rfl Tryd.underlying35 ty39 (by omega) rfl ?_
    intro bt18 ot18 ht18
    replace ht18 := ht18.ext hx
    rw [Int.toNat_natCast, tcs_at l k hlt] at ht18
    refine Rg.tm trivial rfl (t_loadA rfl ht18 ty39) rfl ?_
    refine Rg.tm trivial rfl (t_move rfl) rfl ?_
    refine Rg.tm trivial rfl (t_move rfl) rfl ?_
    refine Rg.ix hz0 trivial rfl rfl Tryd.underlying35 ty39 (by omega) rfl ?_
    intro bt22 ot22 ht22
    replace ht22 := ht22.ext hx
    rw [Int.toNat_natCast, tcs_at l k hlt] at ht22
    refine Rg.tm trivial rfl (t_loadA rfl ht22 ty39) rfl ?_
    refine Rg.tm trivial rfl (t_neqAgg (b := true) (by kernel_rfl) (fun w => (eq39 _ _ _ _ w).trans (by simp)) rfl rfl) rfl ?_
    refine Rg.done ?_
    refine Wp.condF rfl ?_
    refine Wp.skip ?_
    refine Wp.region ?_
    first | refine Rg.tm trivial rfl (t_addI rfl rfl (by omega)) rfl ?_ | refine Rg.tm trivial rfl (t_add rfl rfl) rfl ?_
    refine Rg.tm trivial rfl (t_move rfl) rfl ?_
    refine Rg.done ?_
    exact ⟨k + 1, by repeat (first | exact .nil | refine .cons rfl ?_), ⟨hlt, hx⟩, by omega⟩
  · skip
    refine Wp.seq (Wp.region ?_)
    first | refine Rg.tm trivial rfl (t_lssT rfl rfl (by omega)) rfl ?_ | refine Rg.tm trivial rfl (t_lssF rfl rfl (by omega)) rfl ?_ | refine Rg.tm trivial rfl (t_lss rfl rfl) rfl ?_
    refine Rg.done ?_
    refine Wp.seq ?_
    refine Wp.condF rfl ?_
    refine Wp.exit ?_
    refine Wp.seq (Wp.region ?_)
    refine Rg.tm trivial rfl (t_assign rfl) rfl ?_
    refine Rg.done ?_
    refine Wp.ret ?_
    exact ⟨[_], ⟨rfl, trivial⟩, rfl, hx⟩

theorem catT_append : ∀ a b : List (Int × ByteArray), catT (a ++ b) = catT a ++ catT b
  | [], b => by
    show catT b = ByteArray.empty ++ catT b
    rw [ByteArray.empty_append]
  | t :: a, b => by
    show t.2 ++ catT (a ++ b) = t.2 ++ catT a ++ catT b
    rw [catT_append a b, ByteArray.append_assoc]
theorem catT_succ {l : List (Int × ByteArray)} {k : Nat} (h : k < l.length) : catT (l.take (k + 1)) = catT (l.take k) ++ l[k].2 := by
  rw [List.take_succ_eq_append_getElem h, catT_append]
  show _ ++ (l[k].2 ++ ByteArray.empty) = _
  rw [ByteArray.append_empty]
theorem catT_le {l : List (Int × ByteArray)} (k : Nat) : (catT (l.take k)).size ≤ (catT l).size := by
  have := congrArg ByteArray.size (catT_append (l.take k) (l.drop k))
  rw [List.take_append_drop, ByteArray.size_append] at this
  omega
theorem source_ok {w : World} {v : Value} {l : List (Int × ByteArray)} (hs0 : SlC w v 2 l.length (tcs l)) (hlen : l.length < 4611686018427387904) (hb : (catT l).size ≤ 1099511627776) :
    Cl Tryd.prog 20 #[v] w (fun u w' => u = .string (catT l) ∧ Ext w w') := by
  have hx := Ext.refl w
  refine Cl.enter Tryd.func20 rfl Tryd.ntmps20 rfl rfl ?_
  refine Wp.seq (Wp.region ?_)
  refine Rg.tm trivial rfl (t_assign rfl) rfl ?_
  refine Rg.done ?_
  refine Wp.seq (Wp.region ?_)
  refine Rg.tm trivial rfl (t_assign rfl) rfl ?_
  refine Rg.done ?_
  refine Wp.seq ?_
  refine Wp.seq (Wp.region ?_)
  refine Rg.tm trivial rfl (t_move rfl) rfl ?_
  refine Rg.tm trivial rfl (t_lenC hs0 Tryd.underlying35 rfl) rfl ?_
  refine Rg.tm trivial rfl (t_move rfl) rfl ?_
  refine Rg.done ?_
  refine Wp.block ?_
  refine Wp.loop (ι := Nat) (fun k => [(3, .string (catT (l.take k))), (6, v), (7, .int .i64 l.length), (8, .int .i64 k)])
    (fun k w' => k ≤ l.length ∧ Ext w w') (fun k => l.length - k) 0 (by repeat (first | exact .nil | refine .cons rfl ?_)) ⟨Nat.zero_le _, hx⟩ ?_
  clear hx
  rintro k w3 ⟨hk, hx⟩
  by_cases hlt : k < l.length
  · have es := catT_succ hlt
    have el := catT_le (l := l) (k + 1)
    rw [es, ByteArray.size_append] at el
    refine Wp.seq (Wp.region ?_)
    first | refine Rg.tm trivial rfl (t_lssT rfl rfl (by omega)) rfl ?_ | refine Rg.tm trivial rfl (t_lssF rfl rfl (by omega)) rfl ?_ | refine Rg.tm trivial rfl (t_lss rfl rfl) rfl ?_
    refine Rg.done ?_
    refine Wp.seq ?_
    refine Wp.condT rfl ?_
    refine Wp.skip ?_
    refine Wp.seq ?_
    refine Wp.block ?_
    refine Wp.seq (Wp.region ?_)
    refine Rg.ix hs0 trivial rfl rfl Tryd.underlying35 ty39 (by omega) rfl ?_
    intro bt10 ot10 ht10
    replace ht10 := ht10.ext hx
    rw [Int.toNat_natCast, tcs_at l k hlt] at ht10
    refine Rg.tm trivial rfl (t_loadA rfl ht10 ty39) rfl ?_
    refine Rg.wd trivial (w_new Tryd.zeroValue39 rfl) rfl ?_
    rintro _ wa ⟨b5, rfl, qb5, hxa, hva⟩
    refine Rg.wn trivial (w_put hva rfl rfl rfl ty39 rfl rfl) ?_
    rintro _ w1 ⟨hu, hvb5⟩
    have hx1 := hxa.upd hu (Nat.le_of_eq qb5.symm)
    replace hx := hx.ext hx1
    have hcb5 := hvb5.cells
    clear hva hu
    refine Rg.done ?_
    refine Wp.region ?_
    refine Rg.tm trivial rfl (t_move rfl) rfl ?_
    refine Rg.tm trivial rfl (t_fieldAddr fa39_1 rfl) rfl ?_
    refine Rg.tm trivial rfl (t_load ty9 rfl (by apply Cells.get (i := 1); (case h => assumption); rfl)) rfl ?_
    refine Rg.tm trivial rfl (t_sadd rfl rfl (by omega)) rfl ?_
    refine Rg.tm trivial rfl (t_assign rfl) rfl ?_
    refine Rg.done ?_
    refine Wp.region ?_
    first | refine Rg.tm trivial rfl (t_addI rfl rfl (by omega)) rfl ?_ | refine Rg.tm trivial rfl (t_add rfl rfl) rfl ?_
    refine Rg.tm trivial rfl (t_move rfl) rfl ?_
    refine Rg.done ?_
    refine ⟨k + 1, ?_, ⟨hlt, hx⟩, by omega⟩
    rw [es]
    repeat (first | exact .nil | refine .cons rfl ?_)
  · have e0 : k = l.length := by omega
    subst e0
    rw [List.take_length]
    refine Wp.seq (Wp.region ?_)
    first | refine Rg.tm trivial rfl (t_lssT rfl rfl (by omega)) rfl ?_ | refine Rg.tm trivial rfl (t_lssF rfl rfl (by omega)) rfl ?_ | refine Rg.tm trivial rfl (t_lss rfl rfl) rfl ?_
    refine Rg.done ?_
    refine Wp.seq ?_
    refine Wp.condF rfl ?_
    refine Wp.exit ?_
    refine Wp.seq (Wp.region ?_)
    refine Rg.tm trivial rfl (t_move rfl) rfl ?_
    refine Rg.tm trivial rfl (t_assign rfl) rfl ?_
    refine Rg.done ?_
    refine Wp.ret ?_
    exact ⟨[_], ⟨rfl, trivial⟩, rfl, hx⟩

theorem isIdent_yes {w : World} {s : ByteArray} (h0 : 0 < s.size) (h1 : s.size ≤ 30) (ht : tok s = (s.size, 103)) (hA : Asc w) : Cl Tryd.prog 30 #[.string s] w (fun u w' => u = .bool true ∧ Ext w w') := by
  have hx := Ext.refl w
  have hk : (tok s).2 = 103 := by rw [ht]
  have hn : (tok s).1 = s.size := by rw [ht]
  refine Cl.enter Tryd.func30 rfl Tryd.ntmps30 rfl rfl ?_
  refine Wp.seq (Wp.region ?_)
  refine Rg.tm trivial rfl (t_assign rfl) rfl ?_
  refine Rg.done ?_
  refine Wp.seq ?_
  refine Wp.seq (Wp.region ?_)
  refine Rg.tm trivial rfl (t_move rfl) rfl ?_
  refine Rg.tm trivial rfl (t_len Tryd.underlying9 rfl) rfl ?_
  first | refine Rg.tm trivial rfl (t_eqlT rfl rfl (by omega)) rfl ?_ | refine Rg.tm trivial rfl (t_eqlF rfl rfl (by omega)) rfl ?_ | refine Rg.tm trivial rfl (t_eql rfl rfl) rfl ?_
  refine Rg.tm trivial rfl (t_move rfl) rfl ?_
  first | refine Rg.tm ⟨_, rfl, rfl⟩ rfl (t_move rfl) rfl ?_ | refine Rg.sk (.inl ⟨_, _, rfl, rfl, rfl⟩) rfl ?_ | refine Rg.sk (.inr ⟨_, rfl, rfl⟩) rfl ?_
  refine Rg.tm ⟨_, rfl, rfl⟩ rfl (t_len Tryd.underlying9 rfl) rfl ?_
  first | refine Rg.tm ⟨_, rfl, rfl⟩ rfl (t_gtrT rfl rfl (by omega)) rfl ?_ | refine Rg.tm ⟨_, rfl, rfl⟩ rfl (t_gtrF rfl rfl (by omega)) rfl ?_ | refine Rg.tm ⟨_, rfl, rfl⟩ rfl (t_gtr rfl rfl) rfl ?_ | refine Rg.sk (.inl ⟨_, _, rfl, rfl, rfl⟩) rfl ?_ | refine Rg.sk (.inr ⟨_, rfl, rfl⟩) rfl ?_
  first | refine Rg.tm trivial rfl (t_pickT rfl rfl) rfl ?_ | refine Rg.tm trivial rfl (t_pickF rfl rfl) rfl ?_
  refine Rg.done ?_
  refine Wp.condF rfl ?_
  refine Wp.skip ?_
  refine Wp.seq (Wp.region ?_)
  refine Rg.tm trivial rfl (t_move rfl) rfl ?_
  refine Rg.wd trivial (w_call Tryd.call31 rfl (first_ok (by omega) h0 (hA.ext hx))) rfl ?_
  rintro _ w1 ⟨rfl, hx1⟩
  replace hx := hx.ext hx1
  rw [hk, hn]
  refine Rg.tm trivial rfl (t_move rfl) rfl ?_
  refine Rg.tm trivial rfl (t_extract rfl rfl) rfl ?_
  refine Rg.tm trivial rfl (t_extract rfl rfl) rfl ?_
  refine Rg.tm trivial rfl (t_assign rfl) rfl ?_
  refine Rg.tm trivial rfl (t_assign rfl) rfl ?_
  refine Rg.done ?_
  refine Wp.seq (Wp.region ?_)
  refine Rg.tm trivial rfl (t_move rfl) rfl ?_
  refine Rg.tm trivial rfl (t_move rfl) rfl ?_
  refine Rg.tm trivial rfl (t_len Tryd.underlying9 rfl) rfl ?_
  first | refine Rg.tm trivial rfl (t_eqlT rfl rfl (by omega)) rfl ?_ | refine Rg.tm trivial rfl (t_eqlF rfl rfl (by omega)) rfl ?_ | refine Rg.tm trivial rfl (t_eql rfl rfl) rfl ?_
  refine Rg.tm trivial rfl (t_move rfl) rfl ?_
  first | refine Rg.tm ⟨_, rfl, rfl⟩ rfl (t_move rfl) rfl ?_ | refine Rg.sk (.inl ⟨_, _, rfl, rfl, rfl⟩) rfl ?_ | refine Rg.sk (.inr ⟨_, rfl, rfl⟩) rfl ?_
  first | refine Rg.tm ⟨_, rfl, rfl⟩ rfl (t_eqlT rfl rfl (by omega)) rfl ?_ | refine Rg.tm ⟨_, rfl, rfl⟩ rfl (t_eqlF rfl rfl (by omega)) rfl ?_ | refine Rg.tm ⟨_, rfl, rfl⟩ rfl (t_eql rfl rfl) rfl ?_ | refine Rg.sk (.inl ⟨_, _, rfl, rfl, rfl⟩) rfl ?_ | refine Rg.sk (.inr ⟨_, rfl, rfl⟩) rfl ?_
  first | refine Rg.tm trivial rfl (t_pickT rfl rfl) rfl ?_ | refine Rg.tm trivial rfl (t_pickF rfl rfl) rfl ?_
  refine Rg.tm trivial rfl (t_assign rfl) rfl ?_
  refine Rg.done ?_
  refine Wp.ret ?_
  exact ⟨[_], ⟨rfl, trivial⟩, rfl, hx⟩

theorem isIdent_kw {w : World} {s : ByteArray} (h0 : 0 < s.size) (h1 : s.size ≤ 30) (ht : tok s = (s.size, 104)) (hA : Asc w) : Cl Tryd.prog 30 #[.string s] w (fun u w' => u = .bool false ∧ Ext w w') := by
  have hx := Ext.refl w
  have hk : (tok s).2 = 104 := by rw [ht]
  have hn : (tok s).1 = s.size := by rw [ht]
  refine Cl.enter Tryd.func30 rfl Tryd.ntmps30 rfl rfl ?_
  refine Wp.seq (Wp.region ?_)
  refine Rg.tm trivial rfl (t_assign rfl) rfl ?_
  refine Rg.done ?_
  refine Wp.seq ?_
  refine Wp.seq (Wp.region ?_)
  refine Rg.tm trivial rfl (t_move rfl) rfl ?_
  refine Rg.tm trivial rfl (t_len Tryd.underlying9 rfl) rfl ?_
  first | refine Rg.tm trivial rfl (t_eqlT rfl rfl (by omega)) rfl ?_ | refine Rg.tm trivial rfl (t_eqlF rfl rfl (by omega)) rfl ?_ | refine Rg.tm trivial rfl (t_eql rfl rfl) rfl ?_
  refine Rg.tm trivial rfl (t_move rfl) rfl ?_
  first | refine Rg.tm ⟨_, rfl, rfl⟩ rfl (t_move rfl) rfl ?_ | refine Rg.sk (.inl ⟨_, _, rfl, rfl, rfl⟩) rfl ?_ | refine Rg.sk (.inr ⟨_, rfl, rfl⟩) rfl ?_
  refine Rg.tm ⟨_, rfl, rfl⟩ rfl (t_len Tryd.underlying9 rfl) rfl ?_
  first | refine Rg.tm ⟨_, rfl, rfl⟩ rfl (t_gtrT rfl rfl (by omega)) rfl ?_ | refine Rg.tm ⟨_, rfl, rfl⟩ rfl (t_gtrF rfl rfl (by omega)) rfl ?_ | refine Rg.tm ⟨_, rfl, rfl⟩ rfl (t_gtr rfl rfl) rfl ?_ | refine Rg.sk (.inl ⟨_, _, rfl, rfl, rfl⟩) rfl ?_ | refine Rg.sk (.inr ⟨_, rfl, rfl⟩) rfl ?_
  first | refine Rg.tm trivial rfl (t_pickT rfl rfl) rfl ?_ | refine Rg.tm trivial rfl (t_pickF rfl rfl) rfl ?_
  refine Rg.done ?_
  refine Wp.condF rfl ?_
  refine Wp.skip ?_
  refine Wp.seq (Wp.region ?_)
  refine Rg.tm trivial rfl (t_move rfl) rfl ?_
  refine Rg.wd trivial (w_call Tryd.call31 rfl (first_ok (by omega) h0 (hA.ext hx))) rfl ?_
  rintro _ w1 ⟨rfl, hx1⟩
  replace hx := hx.ext hx1
  rw [hk, hn]
  refine Rg.tm trivial rfl (t_move rfl) rfl ?_
  refine Rg.tm trivial rfl (t_extract rfl rfl) rfl ?_
  refine Rg.tm trivial rfl (t_extract rfl rfl) rfl ?_
  refine Rg.tm trivial rfl (t_assign rfl) rfl ?_
  refine Rg.tm trivial rfl (t_assign rfl) rfl ?_
  refine Rg.done ?_
  refine Wp.seq (Wp.region ?_)
  refine Rg.tm trivial rfl (t_move rfl) rfl ?_
  refine Rg.tm trivial rfl (t_move rfl) rfl ?_
  refine Rg.tm trivial rfl (t_len Tryd.underlying9 rfl) rfl ?_
  first | refine Rg.tm trivial rfl (t_eqlT rfl rfl (by omega)) rfl ?_ | refine Rg.tm trivial rfl (t_eqlF rfl rfl (by omega)) rfl ?_ | refine Rg.tm trivial rfl (t_eql rfl rfl) rfl ?_
  refine Rg.tm trivial rfl (t_move rfl) rfl ?_
  first | refine Rg.tm ⟨_, rfl, rfl⟩ rfl (t_move rfl) rfl ?_ | refine Rg.sk (.inl ⟨_, _, rfl, rfl, rfl⟩) rfl ?_ | refine Rg.sk (.inr ⟨_, rfl, rfl⟩) rfl ?_
  first | refine Rg.tm ⟨_, rfl, rfl⟩ rfl (t_eqlT rfl rfl (by omega)) rfl ?_ | refine Rg.tm ⟨_, rfl, rfl⟩ rfl (t_eqlF rfl rfl (by omega)) rfl ?_ | refine Rg.tm ⟨_, rfl, rfl⟩ rfl (t_eql rfl rfl) rfl ?_ | refine Rg.sk (.inl ⟨_, _, rfl, rfl, rfl⟩) rfl ?_ | refine Rg.sk (.inr ⟨_, rfl, rfl⟩) rfl ?_
  first | refine Rg.tm trivial rfl (t_pickT rfl rfl) rfl ?_ | refine Rg.tm trivial rfl (t_pickF rfl rfl) rfl ?_
  refine Rg.tm trivial rfl (t_assign rfl) rfl ?_
  refine Rg.done ?_
  refine Wp.ret ?_
  exact ⟨[_], ⟨rfl, trivial⟩, rfl, hx⟩
end Go.Proofs.YteopmfijfgaldaaDoor
