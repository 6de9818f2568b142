/- The laws LexerResumes and LexerLines: Mod, significant, and the walks. Printed by doorp.py. -/
import Derived.Test.YteopmfijfgaldaaDoorLg
import Derived.Test.YteopmfijfgaldaaDoorGy
import Derived.Test.YteopmfijfgaldaaDoorPc
namespace Go.Proofs.YteopmfijfgaldaaDoor
set_option linter.unusedVariables false
set_option linter.unusedSimpArgs false
set_option maxRecDepth 20000
open Go.Gx Go.RowKit Go.Lib

theorem mod_ok {w : World} {a m : Int} (hm : 0 < m) (hm2 : m < 4611686018427387904) : Cl Tryd.prog 21 #[.int .i64 a, .int .i64 m] w (fun u w' => (∃ r : Nat, u = .int .i64 r ∧ (r : Int) < m ∧ (r : Int) = a % m) ∧ w = w') := by
  have e1 : a.tmod m = if 0 ≤ a ∨ a % m = 0 then a % m else a % m - m := by
    rw [Int.tmod_eq_emod]
    have hd : m ∣ a ↔ a % m = 0 := Int.dvd_iff_emod_eq_zero
    have habs : m.natAbs = m := by omega
    split <;> rename_i h <;> split <;> rename_i h' <;> simp_all <;> omega
  have e2 := Int.emod_nonneg a (by omega : m ≠ 0)
  have e3 := Int.emod_lt_of_pos a hm
  obtain ⟨r, hr⟩ : ∃ r : Nat, a % m = r := ⟨(a % m).toNat, by omega⟩
  by_cases hneg : a.tmod m < 0
  · skip
    have e4 : a.tmod m + m = r := by split at e1 <;> omega
    refine Cl.enter Tryd.func21 rfl Tryd.ntmps21 rfl rfl ?_
    refine Wp.seq (Wp.region ?_)
    refine Rg.tm trivial rfl (t_assign rfl) rfl ?_
    refine Rg.done ?_
    refine Wp.seq (Wp.region ?_)
    refine Rg.tm trivial rfl (t_move rfl) rfl ?_
    refine Rg.tm trivial rfl (t_move rfl) rfl ?_
    refine Rg.tm trivial rfl (t_remI rfl rfl (by omega)) rfl ?_
    refine Rg.tm trivial rfl (t_assign rfl) rfl ?_
    refine Rg.done ?_
    refine Wp.seq ?_
    refine Wp.seq (Wp.region ?_)
    refine Rg.tm trivial rfl (t_move rfl) rfl ?_
    first | refine Rg.tm trivial rfl (t_lssT rfl rfl (by omega)) rfl ?_ | refine Rg.tm trivial rfl (t_lssF rfl rfl (by omega)) rfl ?_ | refine Rg.tm trivial rfl (t_lss rfl rfl) rfl ?_
    refine Rg.done ?_
    refine Wp.condT rfl ?_
    refine Wp.region ?_
    refine Rg.tm trivial rfl (t_move rfl) rfl ?_
    refine Rg.tm trivial rfl (t_move rfl) rfl ?_
    first | refine Rg.tm trivial rfl (t_addI rfl rfl (by omega)) rfl ?_ | refine Rg.tm trivial rfl (t_add rfl rfl) rfl ?_
    refine Rg.tm trivial rfl (t_assign rfl) rfl ?_
    refine Rg.done ?_
    refine Wp.seq (Wp.region ?_)
    refine Rg.tm trivial rfl (t_move rfl) rfl ?_
    refine Rg.tm trivial rfl (t_assign rfl) rfl ?_
    refine Rg.done ?_
    refine Wp.ret ?_
    exact ⟨[_], ⟨rfl, trivial⟩, ⟨r, by simp only [tup]; congr 1, by omega, hr.symm⟩, rfl⟩
  · skip
    have e4 : a.tmod m = r := by split at e1 <;> omega
    refine Cl.enter Tryd.func21 rfl Tryd.ntmps21 rfl rfl ?_
    refine Wp.seq (Wp.region ?_)
    refine Rg.tm trivial rfl (t_assign rfl) rfl ?_
    refine Rg.done ?_
    refine Wp.seq (Wp.region ?_)
    refine Rg.tm trivial rfl (t_move rfl) rfl ?_
    refine Rg.tm trivial rfl (t_move rfl) rfl ?_
    refine Rg.tm trivial rfl (t_remI rfl rfl (by omega)) rfl ?_
    refine Rg.tm trivial rfl (t_assign rfl) rfl ?_
    refine Rg.done ?_
    refine Wp.seq ?_
    refine Wp.seq (Wp.region ?_)
    refine Rg.tm trivial rfl (t_move rfl) rfl ?_
    first | refine Rg.tm trivial rfl (t_lssT rfl rfl (by omega)) rfl ?_ | refine Rg.tm trivial rfl (t_lssF rfl rfl (by omega)) rfl ?_ | refine Rg.tm trivial rfl (t_lss rfl rfl) rfl ?_
    refine Rg.done ?_
    refine Wp.condF rfl ?_
    refine Wp.skip ?_
    refine Wp.seq (Wp.region ?_)
    refine Rg.tm trivial rfl (t_move rfl) rfl ?_
    refine Rg.tm trivial rfl (t_assign rfl) rfl ?_
    refine Rg.done ?_
    refine Wp.ret ?_
    exact ⟨[_], ⟨rfl, trivial⟩, ⟨r, by simp only [tup]; congr 1, by omega, hr.symm⟩, rfl⟩

theorem resumesLaw {w : World} {s : ByteArray} {i : Int} (hA : Asc w) : Cl Tryd.prog 7 #[.string s, .int .i64 i] w (fun u w' => u = .bool true ∧ Ext w w') := by
  have hx := Ext.refl w
  by_cases hs : 2000 < s.size
  · skip
    refine Cl.enter Tryd.func7 rfl Tryd.ntmps7 rfl rfl ?_
    refine Wp.seq (Wp.region ?_)
    refine Rg.tm trivial rfl (t_assign rfl) rfl ?_
    refine Rg.done ?_
    refine Wp.seq ?_
    refine Wp.seq (Wp.region ?_)
    refine Rg.wd trivial (w_call Tryd.call18 rfl (lexample_ok (hA.ext hx))) rfl ?_
    rintro _ w1 ⟨rfl, hx1⟩
    replace hx := hx.ext hx1
    refine Rg.tm trivial rfl (t_notB rfl) rfl ?_
    refine Rg.done ?_
    refine Wp.condF rfl ?_
    refine Wp.skip ?_
    refine Wp.seq (Wp.region ?_)
    refine Rg.tm trivial rfl (t_move rfl) rfl ?_
    refine Rg.wd trivial (w_call Tryd.call19 rfl (tokenize_no hs)) rfl ?_
    rintro _ _ ⟨rfl, rfl⟩
    refine Rg.tm trivial rfl (t_move rfl) rfl ?_
    refine Rg.tm trivial rfl (t_extract rfl rfl) rfl ?_
    refine Rg.tm trivial rfl (t_extract rfl rfl) rfl ?_
    refine Rg.tm trivial rfl (t_assign rfl) rfl ?_
    refine Rg.tm trivial rfl (t_assign rfl) rfl ?_
    refine Rg.done ?_
    refine Wp.seq ?_
    refine Wp.seq (Wp.region ?_)
    refine Rg.tm trivial rfl (t_move rfl) rfl ?_
    first | refine Rg.tm trivial rfl (t_neqT rfl rfl (by omega)) rfl ?_ | refine Rg.tm trivial rfl (t_neqF rfl rfl (by omega)) rfl ?_ | refine Rg.tm trivial rfl (t_neq rfl rfl) rfl ?_
    refine Rg.tm trivial rfl (t_move rfl) rfl ?_
    first | refine Rg.tm ⟨_, rfl, rfl⟩ rfl (t_move rfl) rfl ?_ | refine Rg.sk (.inl ⟨_, _, rfl, rfl, rfl⟩) rfl ?_ | refine Rg.sk (.inr ⟨_, rfl, rfl⟩) rfl ?_
    first | refine Rg.tm ⟨_, rfl, rfl⟩ rfl (t_lenS Tryd.underlying35 rfl) rfl ?_ | refine Rg.sk (.inl ⟨_, _, rfl, rfl, rfl⟩) rfl ?_ | refine Rg.sk (.inr ⟨_, rfl, rfl⟩) rfl ?_
    first | refine Rg.tm ⟨_, rfl, rfl⟩ rfl (t_eqlT rfl rfl (by omega)) rfl ?_ | refine Rg.tm ⟨_, rfl, rfl⟩ rfl (t_eqlF rfl rfl (by omega)) rfl ?_ | refine Rg.tm ⟨_, rfl, rfl⟩ rfl (t_eql rfl rfl) rfl ?_ | refine Rg.sk (.inl ⟨_, _, rfl, rfl, rfl⟩) rfl ?_ | refine Rg.sk (.inr ⟨_, rfl, rfl⟩) rfl ?_
    first | refine Rg.tm trivial rfl (t_pickT rfl rfl) rfl ?_ | refine Rg.tm trivial rfl (t_pickF rfl rfl) rfl ?_
    refine Rg.done ?_
    refine Wp.condT rfl ?_
    refine Wp.seq (Wp.region ?_)
    refine Rg.wd trivial (w_call Tryd.call18 rfl (lexample_ok (hA.ext hx))) rfl ?_
    rintro _ w2 ⟨rfl, hx2⟩
    replace hx := hx.ext hx2
    refine Rg.tm trivial rfl (t_move rfl) rfl ?_
    first | refine Rg.tm ⟨_, rfl, rfl⟩ rfl (t_move rfl) rfl ?_ | refine Rg.sk (.inl ⟨_, _, rfl, rfl, rfl⟩) rfl ?_ | refine Rg.sk (.inr ⟨_, rfl, rfl⟩) rfl ?_
    first | refine Rg.tm ⟨_, rfl, rfl⟩ rfl (t_eqlT rfl rfl (by omega)) rfl ?_ | refine Rg.tm ⟨_, rfl, rfl⟩ rfl (t_eqlF rfl rfl (by omega)) rfl ?_ | refine Rg.tm ⟨_, rfl, rfl⟩ rfl (t_eql rfl rfl) rfl ?_ | refine Rg.sk (.inl ⟨_, _, rfl, rfl, rfl⟩) rfl ?_ | refine Rg.sk (.inr ⟨_, rfl, rfl⟩) rfl ?_
    first | refine Rg.tm ⟨_, rfl, rfl⟩ rfl (t_move rfl) rfl ?_ | refine Rg.sk (.inl ⟨_, _, rfl, rfl, rfl⟩) rfl ?_ | refine Rg.sk (.inr ⟨_, rfl, rfl⟩) rfl ?_
    first | refine Rg.tm ⟨_, rfl, rfl⟩ rfl (t_move rfl) rfl ?_ | refine Rg.sk (.inl ⟨_, _, rfl, rfl, rfl⟩) rfl ?_ | refine Rg.sk (.inr ⟨_, rfl, rfl⟩) rfl ?_
    first | refine Rg.tm ⟨_, rfl, rfl⟩ rfl (t_len Tryd.underlying9 rfl) rfl ?_ | refine Rg.sk (.inl ⟨_, _, rfl, rfl, rfl⟩) rfl ?_ | refine Rg.sk (.inr ⟨_, rfl, rfl⟩) rfl ?_
    first | refine Rg.tm ⟨_, rfl, rfl⟩ rfl (t_gtrT rfl rfl (by omega)) rfl ?_ | refine Rg.tm ⟨_, rfl, rfl⟩ rfl (t_gtrF rfl rfl (by omega)) rfl ?_ | refine Rg.tm ⟨_, rfl, rfl⟩ rfl (t_gtr rfl rfl) rfl ?_ | refine Rg.sk (.inl ⟨_, _, rfl, rfl, rfl⟩) rfl ?_ | refine Rg.sk (.inr ⟨_, rfl, rfl⟩) rfl ?_
    first | refine Rg.tm ⟨_, rfl, rfl⟩ rfl (t_pickT rfl rfl) rfl ?_ | refine Rg.tm ⟨_, rfl, rfl⟩ rfl (t_pickF rfl rfl) rfl ?_ | refine Rg.sk (.inl ⟨_, _, rfl, rfl, rfl⟩) rfl ?_ | refine Rg.sk (.inr ⟨_, rfl, rfl⟩) rfl ?_
    first | refine Rg.tm trivial rfl (t_pickT rfl rfl) rfl ?_ | refine Rg.tm trivial rfl (t_pickF rfl rfl) rfl ?_
    refine Rg.tm trivial rfl (t_assign rfl) rfl ?_
    refine Rg.done ?_
    refine Wp.ret ?_
    exact ⟨[_], ⟨rfl, trivial⟩, rfl, hx⟩
  have hn := toks_length s
  by_cases h0 : (toks s).length = 0
  · skip
    refine Cl.enter Tryd.func7 rfl Tryd.ntmps7 rfl rfl ?_
    refine Wp.seq (Wp.region ?_)
    refine Rg.tm trivial rfl (t_assign rfl) rfl ?_
    refine Rg.done ?_
    refine Wp.seq ?_
    refine Wp.seq (Wp.region ?_)
    refine Rg.wd trivial (w_call Tryd.call18 rfl (lexample_ok (hA.ext hx))) rfl ?_
    rintro _ w1 ⟨rfl, hx1⟩
    replace hx := hx.ext hx1
    refine Rg.tm trivial rfl (t_notB rfl) rfl ?_
    refine Rg.done ?_
    refine Wp.condF rfl ?_
    refine Wp.skip ?_
    refine Wp.seq (Wp.region ?_)
    refine Rg.tm trivial rfl (t_move rfl) rfl ?_
    refine Rg.wd trivial (w_call Tryd.call19 rfl (tokenize_ok (by omega) (hA.ext hx))) rfl ?_
    rintro _ w2 ⟨⟨v3, rfl, hv3⟩, hx2⟩
    replace hx := hx.ext hx2
    refine Rg.tm trivial rfl (t_move rfl) rfl ?_
    refine Rg.tm trivial rfl (t_extract rfl rfl) rfl ?_
    refine Rg.tm trivial rfl (t_extract rfl rfl) rfl ?_
    refine Rg.tm trivial rfl (t_assign rfl) rfl ?_
    refine Rg.tm trivial rfl (t_assign rfl) rfl ?_
    refine Rg.done ?_
    refine Wp.seq ?_
    refine Wp.seq (Wp.region ?_)
    refine Rg.tm trivial rfl (t_move rfl) rfl ?_
    first | refine Rg.tm trivial rfl (t_neqT rfl rfl (by omega)) rfl ?_ | refine Rg.tm trivial rfl (t_neqF rfl rfl (by omega)) rfl ?_ | refine Rg.tm trivial rfl (t_neq rfl rfl) rfl ?_
    refine Rg.tm trivial rfl (t_move rfl) rfl ?_
    first | refine Rg.tm ⟨_, rfl, rfl⟩ rfl (t_move rfl) rfl ?_ | refine Rg.sk (.inl ⟨_, _, rfl, rfl, rfl⟩) rfl ?_ | refine Rg.sk (.inr ⟨_, rfl, rfl⟩) rfl ?_
    refine Rg.tm ⟨_, rfl, rfl⟩ rfl (t_lenC hv3 Tryd.underlying35 rfl) rfl ?_
    first | refine Rg.tm ⟨_, rfl, rfl⟩ rfl (t_eqlT rfl rfl (by omega)) rfl ?_ | refine Rg.tm ⟨_, rfl, rfl⟩ rfl (t_eqlF rfl rfl (by omega)) rfl ?_ | refine Rg.tm ⟨_, rfl, rfl⟩ rfl (t_eql rfl rfl) rfl ?_ | refine Rg.sk (.inl ⟨_, _, rfl, rfl, rfl⟩) rfl ?_ | refine Rg.sk (.inr ⟨_, rfl, rfl⟩) rfl ?_
    first | refine Rg.tm trivial rfl (t_pickT rfl rfl) rfl ?_ | refine Rg.tm trivial rfl (t_pickF rfl rfl) rfl ?_
    refine Rg.done ?_
    refine Wp.condT rfl ?_
    refine Wp.seq (Wp.region ?_)
    refine Rg.wd trivial (w_call Tryd.call18 rfl (lexample_ok (hA.ext hx))) rfl ?_
    rintro _ w3 ⟨rfl, hx3⟩
    replace hx := hx.ext hx3
    replace hv3 := hv3.ext hx3
    refine Rg.tm trivial rfl (t_move rfl) rfl ?_
    first | refine Rg.tm ⟨_, rfl, rfl⟩ rfl (t_move rfl) rfl ?_ | refine Rg.sk (.inl ⟨_, _, rfl, rfl, rfl⟩) rfl ?_ | refine Rg.sk (.inr ⟨_, rfl, rfl⟩) rfl ?_
    first | refine Rg.tm ⟨_, rfl, rfl⟩ rfl (t_eqlT rfl rfl (by omega)) rfl ?_ | refine Rg.tm ⟨_, rfl, rfl⟩ rfl (t_eqlF rfl rfl (by omega)) rfl ?_ | refine Rg.tm ⟨_, rfl, rfl⟩ rfl (t_eql rfl rfl) rfl ?_ | refine Rg.sk (.inl ⟨_, _, rfl, rfl, rfl⟩) rfl ?_ | refine Rg.sk (.inr ⟨_, rfl, rfl⟩) rfl ?_
    first | refine Rg.tm ⟨_, rfl, rfl⟩ rfl (t_move rfl) rfl ?_ | refine Rg.sk (.inl ⟨_, _, rfl, rfl, rfl⟩) rfl ?_ | refine Rg.sk (.inr ⟨_, rfl, rfl⟩) rfl ?_
    first | refine Rg.tm ⟨_, rfl, rfl⟩ rfl (t_move rfl) rfl ?_ | refine Rg.sk (.inl ⟨_, _, rfl, rfl, rfl⟩) rfl ?_ | refine Rg.sk (.inr ⟨_, rfl, rfl⟩) rfl ?_
    first | refine Rg.tm ⟨_, rfl, rfl⟩ rfl (t_len Tryd.underlying9 rfl) rfl ?_ | refine Rg.sk (.inl ⟨_, _, rfl, rfl, rfl⟩) rfl ?_ | refine Rg.sk (.inr ⟨_, rfl, rfl⟩) rfl ?_
    first | refine Rg.tm ⟨_, rfl, rfl⟩ rfl (t_gtrT rfl rfl (by omega)) rfl ?_ | refine Rg.tm ⟨_, rfl, rfl⟩ rfl (t_gtrF rfl rfl (by omega)) rfl ?_ | refine Rg.tm ⟨_, rfl, rfl⟩ rfl (t_gtr rfl rfl) rfl ?_ | refine Rg.sk (.inl ⟨_, _, rfl, rfl, rfl⟩) rfl ?_ | refine Rg.sk (.inr ⟨_, rfl, rfl⟩) rfl ?_
    first | refine Rg.tm ⟨_, rfl, rfl⟩ rfl (t_pickT rfl rfl) rfl ?_ | refine Rg.tm ⟨_, rfl, rfl⟩ rfl (t_pickF rfl rfl) rfl ?_ | refine Rg.sk (.inl ⟨_, _, rfl, rfl, rfl⟩) rfl ?_ | refine Rg.sk (.inr ⟨_, rfl, rfl⟩) rfl ?_
    first | refine Rg.tm trivial rfl (t_pickT rfl rfl) rfl ?_ | refine Rg.tm trivial rfl (t_pickF rfl rfl) rfl ?_
    refine Rg.tm trivial rfl (t_assign rfl) rfl ?_
    refine Rg.done ?_
    refine Wp.ret ?_
    exact ⟨[_], ⟨rfl, trivial⟩, rfl, hx⟩
  · skip
    refine Cl.enter Tryd.func7 rfl Tryd.ntmps7 rfl rfl ?_
    refine Wp.seq (Wp.region ?_)
    refine Rg.tm trivial rfl (t_assign rfl) rfl ?_
    refine Rg.done ?_
    refine Wp.seq ?_
    refine Wp.seq (Wp.region ?_)
    refine Rg.wd trivial (w_call Tryd.call18 rfl (lexample_ok (hA.ext hx))) rfl ?_
    rintro _ w1 ⟨rfl, hx1⟩
    replace hx := hx.ext hx1
    refine Rg.tm trivial rfl (t_notB rfl) rfl ?_
    refine Rg.done ?_
    refine Wp.condF rfl ?_
    refine Wp.skip ?_
    refine Wp.seq (Wp.region ?_)
    refine Rg.tm trivial rfl (t_move rfl) rfl ?_
    refine Rg.wd trivial (w_call Tryd.call19 rfl (tokenize_ok (by omega) (hA.ext hx))) rfl ?_
    rintro _ w2 ⟨⟨v3, rfl, hv3⟩, hx2⟩
    replace hx := hx.ext hx2
    refine Rg.tm trivial rfl (t_move rfl) rfl ?_
    refine Rg.tm trivial rfl (t_extract rfl rfl) rfl ?_
    refine Rg.tm trivial rfl (t_extract rfl rfl) rfl ?_
    refine Rg.tm trivial rfl (t_assign rfl) rfl ?_
    refine Rg.tm trivial rfl (t_assign rfl) rfl ?_
    refine Rg.done ?_
    refine Wp.seq ?_
    refine Wp.seq (Wp.region ?_)
    refine Rg.tm trivial rfl (t_move rfl) rfl ?_
    first | refine Rg.tm trivial rfl (t_neqT rfl rfl (by omega)) rfl ?_ | refine Rg.tm trivial rfl (t_neqF rfl rfl (by omega)) rfl ?_ | refine Rg.tm trivial rfl (t_neq rfl rfl) rfl ?_
    refine Rg.tm trivial rfl (t_move rfl) rfl ?_
    first | refine Rg.tm ⟨_, rfl, rfl⟩ rfl (t_move rfl) rfl ?_ | refine Rg.sk (.inl ⟨_, _, rfl, rfl, rfl⟩) rfl ?_ | refine Rg.sk (.inr ⟨_, rfl, rfl⟩) rfl ?_
    refine Rg.tm ⟨_, rfl, rfl⟩ rfl (t_lenC hv3 Tryd.underlying35 rfl) rfl ?_
    first | refine Rg.tm ⟨_, rfl, rfl⟩ rfl (t_eqlT rfl rfl (by omega)) rfl ?_ | refine Rg.tm ⟨_, rfl, rfl⟩ rfl (t_eqlF rfl rfl (by omega)) rfl ?_ | refine Rg.tm ⟨_, rfl, rfl⟩ rfl (t_eql rfl rfl) rfl ?_ | refine Rg.sk (.inl ⟨_, _, rfl, rfl, rfl⟩) rfl ?_ | refine Rg.sk (.inr ⟨_, rfl, rfl⟩) rfl ?_
    first | refine Rg.tm trivial rfl (t_pickT rfl rfl) rfl ?_ | refine Rg.tm trivial rfl (t_pickF rfl rfl) rfl ?_
    refine Rg.done ?_
    refine Wp.condF rfl ?_
    refine Wp.skip ?_
    refine Wp.seq (Wp.region ?_)
    refine Rg.tm trivial rfl (t_move rfl) rfl ?_
    refine Rg.tm trivial rfl (t_move rfl) rfl ?_
    refine Rg.tm trivial rfl (t_lenC hv3 Tryd.underlying35 rfl) rfl ?_
    first | refine Rg.tm trivial rfl (t_addI rfl rfl (by omega)) rfl ?_ | refine Rg.tm trivial rfl (t_add rfl rfl) rfl ?_
    refine Rg.wd trivial (w_call Tryd.call21 rfl (mod_ok (by omega) (by omega))) rfl ?_
    rintro _ _ ⟨⟨k, rfl, hk, _⟩, rfl⟩
    refine Rg.tm trivial rfl (t_assign rfl) rfl ?_
    refine Rg.done ?_
    refine Wp.seq (Wp.region ?_)
    refine Rg.tm trivial rfl (t_move rfl) rfl ?_
    refine Rg.tm trivial rfl (t_move rfl) rfl ?_
    refine Rg.sl hv3 trivial rfl Tryd.underlying35 ty39 rfl rfl (by omega) rfl ?_
    intro vt42 ht42
    simp only [Int.toNat_natCast] at ht42
    rw [List.take_of_length_le (by rw [List.length_drop, tcs_length, ← Nat.sub_mul]; exact Nat.le_refl _), tcs_drop, show (toks s).length - k = ((toks s).drop k).length from by rw [List.length_drop]] at ht42
    have ed := toks_drop k s
    have en : ((toks s).drop k).length ≤ 2000 := by rw [List.length_drop]; omega
    have ec : (catT ((toks s).drop k)).size ≤ 2000 := by
      have h1 := congrArg ByteArray.size (catT_append ((toks s).take k) ((toks s).drop k))
      rw [List.take_append_drop, cat_toks, ByteArray.size_append] at h1
      omega
    refine Rg.wd trivial (w_call Tryd.call20 rfl (source_ok ht42 (by omega) (by omega))) rfl ?_
    rintro _ w3 ⟨rfl, hx3⟩
    replace hx := hx.ext hx3
    replace hv3 := hv3.ext hx3
    replace ht42 := ht42.ext hx3
    refine Rg.wd trivial (w_call Tryd.call19 rfl (tokenize_ok (by omega) (hA.ext hx))) rfl ?_
    rintro _ w4 ⟨⟨v4, rfl, hv4⟩, hx4⟩
    replace hx := hx.ext hx4
    replace hv3 := hv3.ext hx4
    replace ht42 := ht42.ext hx4
    rw [ed] at hv4
    refine Rg.tm trivial rfl (t_move rfl) rfl ?_
    refine Rg.tm trivial rfl (t_extract rfl rfl) rfl ?_
    refine Rg.tm trivial rfl (t_extract rfl rfl) rfl ?_
    refine Rg.tm trivial rfl (t_assign rfl) rfl ?_
    refine Rg.tm trivial rfl (t_assign rfl) rfl ?_
    refine Rg.done ?_
    refine Wp.seq (Wp.region ?_)
    refine Rg.wd trivial (w_call Tryd.call18 rfl (lexample_ok (hA.ext hx))) rfl ?_
    rintro _ w5 ⟨rfl, hx5⟩
    replace hx := hx.ext hx5
    replace hv3 := hv3.ext hx5
    replace ht42 := ht42.ext hx5
    replace hv4 := hv4.ext hx5
    refine Rg.tm trivial rfl (t_move rfl) rfl ?_
    first | refine Rg.tm ⟨_, rfl, rfl⟩ rfl (t_move rfl) rfl ?_ | refine Rg.sk (.inl ⟨_, _, rfl, rfl, rfl⟩) rfl ?_ | refine Rg.sk (.inr ⟨_, rfl, rfl⟩) rfl ?_
    first | refine Rg.tm ⟨_, rfl, rfl⟩ rfl (t_eqlT rfl rfl (by omega)) rfl ?_ | refine Rg.tm ⟨_, rfl, rfl⟩ rfl (t_eqlF rfl rfl (by omega)) rfl ?_ | refine Rg.tm ⟨_, rfl, rfl⟩ rfl (t_eql rfl rfl) rfl ?_ | refine Rg.sk (.inl ⟨_, _, rfl, rfl, rfl⟩) rfl ?_ | refine Rg.sk (.inr ⟨_, rfl, rfl⟩) rfl ?_
    first | refine Rg.tm trivial rfl (t_pickT rfl rfl) rfl ?_ | refine Rg.tm trivial rfl (t_pickF rfl rfl) rfl ?_
    refine Rg.tm trivial rfl (t_move rfl) rfl ?_
    first | refine Rg.tm ⟨_, rfl, rfl⟩ rfl (t_move rfl) rfl ?_ | refine Rg.sk (.inl ⟨_, _, rfl, rfl, rfl⟩) rfl ?_ | refine Rg.sk (.inr ⟨_, rfl, rfl⟩) rfl ?_
    first | refine Rg.tm ⟨_, rfl, rfl⟩ rfl (t_move rfl) rfl ?_ | refine Rg.sk (.inl ⟨_, _, rfl, rfl, rfl⟩) rfl ?_ | refine Rg.sk (.inr ⟨_, rfl, rfl⟩) rfl ?_
    first | refine Rg.tm ⟨_, rfl, rfl⟩ rfl (t_move rfl) rfl ?_ | refine Rg.sk (.inl ⟨_, _, rfl, rfl, rfl⟩) rfl ?_ | refine Rg.sk (.inr ⟨_, rfl, rfl⟩) rfl ?_
    refine Rg.sl hv3 ⟨_, rfl, rfl⟩ rfl Tryd.underlying35 ty39 rfl rfl (by omega) rfl ?_
    intro vt56 ht56
    simp only [Int.toNat_natCast] at ht56
    rw [List.take_of_length_le (by rw [List.length_drop, tcs_length, ← Nat.sub_mul]; exact Nat.le_refl _), tcs_drop, show (toks s).length - k = ((toks s).drop k).length from by rw [List.length_drop]] at ht56
    refine Rg.wd ⟨_, rfl, rfl⟩ (w_call Tryd.call22 rfl (equal_ok hv4 ht56 (by omega))) rfl ?_
    rintro _ w6 ⟨rfl, hx6⟩
    replace hx := hx.ext hx6
    replace hv3 := hv3.ext hx6
    replace ht42 := ht42.ext hx6
    replace hv4 := hv4.ext hx6
    replace ht56 := ht56.ext hx6
    first | refine Rg.tm trivial rfl (t_pickT rfl rfl) rfl ?_ | refine Rg.tm trivial rfl (t_pickF rfl rfl) rfl ?_
    refine Rg.tm trivial rfl (t_assign rfl) rfl ?_
    refine Rg.done ?_
    refine Wp.ret ?_
    exact ⟨[_], ⟨rfl, trivial⟩, rfl, hx⟩

theorem sig_length (l : List (Int × ByteArray)) : (sig l).length ≤ l.length := List.length_filter_le _ _
theorem sig_take {l : List (Int × ByteArray)} {k : Nat} (h : k < l.length) : sig (l.take (k + 1)) = sig (l.take k) ++ (if l[k].1 = 101 then [] else [l[k]]) := by
  rw [List.take_succ_eq_append_getElem h]
  unfold sig
  rw [List.filter_append]
  congr 1
  by_cases h : l[k].1 = 101
  · rw [if_pos h]; simp [h]
  · rw [if_neg h]; simp [h]
theorem tcs_one (l : List (Int × ByteArray)) : ∀ u ∈ tcs l, u.oneCell' = true := by
  induction l with
  | nil => intro u hu; cases hu
  | cons t l ih =>
    intro u hu
    simp only [tcs, List.mem_cons] at hu
    rcases hu with rfl | rfl | hu
    · rfl
    · rfl
    · exact ih u hu
theorem significant_ok {w : World} {v : Value} {l : List (Int × ByteArray)} (hs0 : SlC w v 2 l.length (tcs l)) (hlen : l.length ≤ 10000) :
    Cl Tryd.prog 23 #[v] w (fun u w' => w'.ownsRow w.heap.size 39 2 u (sig l).length (tcs (sig l)) ∧ Ext w w') := by
  obtain ⟨i, hi, hz, hsi, hby⟩ := inf39
  have hx := Ext.refl w
  refine Cl.enter Tryd.func23 rfl Tryd.ntmps23 rfl rfl ?_
  refine Wp.seq (Wp.region ?_)
  refine Rg.tm trivial rfl (t_assign rfl) rfl ?_
  refine Rg.done ?_
  refine Wp.seq (Wp.region ?_)
  refine Rg.tm trivial rfl (t_assign rfl) rfl ?_
  refine Rg.done ?_
  refine Wp.seq ?_
  refine Wp.seq (Wp.region ?_)
  refine Rg.tm trivial rfl (t_move rfl) rfl ?_
  refine Rg.tm trivial rfl (t_lenC hs0 Tryd.underlying35 rfl) rfl ?_
  refine Rg.tm trivial rfl (t_move rfl) rfl ?_
  refine Rg.done ?_
  refine Wp.block ?_
  refine Wp.loop (ι := Nat × Value) (fun j => [(3, j.2), (6, v), (7, .int .i64 l.length), (8, .int .i64 j.1)])
    (fun j w' => j.1 ≤ l.length ∧ w'.ownsRow w.heap.size 39 2 j.2 (sig (l.take j.1)).length (tcs (sig (l.take j.1))) ∧ Ext w w')
    (fun j => l.length - j.1) (0, .slice none 0 0) (by repeat (first | exact .nil | refine .cons rfl ?_)) ⟨Nat.zero_le _, own_nil _ _ _ _, hx⟩ ?_
  clear hx
  rintro ⟨k, vr⟩ w3 ⟨hk, hown, hx⟩
  simp only at hk hown ⊢
  by_cases hlt : k < l.length
  · have es := sig_take hlt
    have en := sig_length (l.take (k + 1))
    rw [List.length_take] at en
    rw [es] at en
    by_cases hsp : (l[k]).1 = 101
    · rw [if_pos hsp] at es en
      refine Wp.seq (Wp.region ?_)
      first | refine Rg.tm trivial rfl (t_lssT rfl rfl (by omega)) rfl ?_ | refine Rg.tm trivial rfl (t_lssF rfl rfl (by omega)) rfl ?_ | refine Rg.tm trivial rfl (t_lss rfl rfl) rfl ?_
      refine Rg.done ?_
      refine Wp.seq ?_
      refine Wp.condT rfl ?_
      refine Wp.skip ?_
      refine Wp.seq ?_
      refine Wp.block ?_
      refine Wp.seq (Wp.region ?_)
      refine Rg.ix hs0 trivial rfl rfl Tryd.underlying35 ty39 (by omega) rfl ?_
      intro bt10 ot10 ht10
      replace ht10 := ht10.ext hx
      rw [Int.toNat_natCast, tcs_at l k hlt] at ht10
      refine Rg.tm trivial rfl (t_loadA rfl ht10 ty39) rfl ?_
      refine Rg.wd trivial (w_new Tryd.zeroValue39 rfl) rfl ?_
      rintro _ wa ⟨b5, rfl, qb5, hxa, hva⟩
      refine Rg.wn trivial (w_put hva rfl rfl rfl ty39 rfl rfl) ?_
      rintro _ w1 ⟨hu, hvb5⟩
      have hx1 := hxa.upd hu (Nat.le_of_eq qb5.symm)
      replace hx := hx.ext hx1
      replace hown := own_ext hown hx1
      have hcb5 := hvb5.cells
      clear hva hu
      refine Rg.done ?_
      refine Wp.seq (Wp.region ?_)
      refine Rg.tm trivial rfl (t_fieldAddr fa39_0 rfl) rfl ?_
      refine Rg.tm trivial rfl (t_load ty3 rfl (by apply Cells.get (i := 0); (case h => assumption); rfl)) rfl ?_
      first | refine Rg.tm trivial rfl (t_neqT rfl rfl (by omega)) rfl ?_ | refine Rg.tm trivial rfl (t_neqF rfl rfl (by omega)) rfl ?_ | refine Rg.tm trivial rfl (t_neq rfl rfl) rfl ?_
      refine Rg.done ?_
      refine Wp.condF rfl ?_
      refine Wp.skip ?_
      refine Wp.region ?_
      first | refine Rg.tm trivial rfl (t_addI rfl rfl (by omega)) rfl ?_ | refine Rg.tm trivial rfl (t_add rfl rfl) rfl ?_
      refine Rg.tm trivial rfl (t_move rfl) rfl ?_
      refine Rg.done ?_
      refine ⟨(k + 1, vr), by repeat (first | exact .nil | refine .cons rfl ?_), ⟨hlt, ?_, hx⟩, by simp only; omega⟩
      rw [es, List.append_nil]
      exact hown
    · rw [if_neg hsp] at es en
      refine Wp.seq (Wp.region ?_)
      first | refine Rg.tm trivial rfl (t_lssT rfl rfl (by omega)) rfl ?_ | refine Rg.tm trivial rfl (t_lssF rfl rfl (by omega)) rfl ?_ | refine Rg.tm trivial rfl (t_lss rfl rfl) rfl ?_
      refine Rg.done ?_
      refine Wp.seq ?_
      refine Wp.condT rfl ?_
      refine Wp.skip ?_
      refine Wp.seq ?_
      refine Wp.block ?_
      refine Wp.seq (Wp.region ?_)
      refine Rg.ix hs0 trivial rfl rfl Tryd.underlying35 ty39 (by omega) rfl ?_
      intro bt10 ot10 ht10
      replace ht10 := ht10.ext hx
      rw [Int.toNat_natCast, tcs_at l k hlt] at ht10
      refine Rg.tm trivial rfl (t_loadA rfl ht10 ty39) rfl ?_
      refine Rg.wd trivial (w_new Tryd.zeroValue39 rfl) rfl ?_
      rintro _ wa ⟨b5, rfl, qb5, hxa, hva⟩
      refine Rg.wn trivial (w_put hva rfl rfl rfl ty39 rfl rfl) ?_
      rintro _ w1 ⟨hu, hvb5⟩
      have hx1 := hxa.upd hu (Nat.le_of_eq qb5.symm)
      replace hx := hx.ext hx1
      replace hown := own_ext hown hx1
      have hcb5 := hvb5.cells
      clear hva hu
      refine Rg.done ?_
      refine Wp.seq (Wp.region ?_)
      refine Rg.tm trivial rfl (t_fieldAddr fa39_0 rfl) rfl ?_
      refine Rg.tm trivial rfl (t_load ty3 rfl (by apply Cells.get (i := 0); (case h => assumption); rfl)) rfl ?_
      first | refine Rg.tm trivial rfl (t_neqT rfl rfl (by omega)) rfl ?_ | refine Rg.tm trivial rfl (t_neqF rfl rfl (by omega)) rfl ?_ | refine Rg.tm trivial rfl (t_neq rfl rfl) rfl ?_
      refine Rg.done ?_
      refine Wp.condT rfl ?_
      refine Wp.region ?_
      refine Rg.tm trivial rfl (t_move rfl) rfl ?_
      refine Rg.tm trivial rfl (t_loadA rfl (by assumption) (by exact ty39)) rfl ?_
      refine Rg.wd trivial (w_buildSlice (bs35_1 _ _) rfl) rfl ?_
      rintro _ wb ⟨bb, rfl, qb, hxb, hvb⟩
      replace hx := hx.ext hxb
      replace hown := own_ext hown hxb
      refine Rg.wd trivial (w_append w.heap.size Tryd.underlying35 hi hz hsi hby rfl (by decide) rfl rfl hown rfl (fun j u hu => by rw [addr_add]; exact hvb.cells j u hu) (by simp [Value.oneCell']) (by simp only [List.length_append, List.length_cons, List.length_nil] at en; unfold maxLen; omega) (by simp only [List.length_append, List.length_cons, List.length_nil] at en; omega) hx.le) rfl ?_
      rintro v2 wc ⟨hown2, hgr, p2, l2, c2, rfl⟩
      replace hx := own_ext3 hx hown hgr
      refine Rg.tm trivial rfl (t_assign rfl) rfl ?_
      refine Rg.done ?_
      refine Wp.region ?_
      first | refine Rg.tm trivial rfl (t_addI rfl rfl (by omega)) rfl ?_ | refine Rg.tm trivial rfl (t_add rfl rfl) rfl ?_
      refine Rg.tm trivial rfl (t_move rfl) rfl ?_
      refine Rg.done ?_
      refine ⟨(k + 1, .slice p2 l2 c2), by repeat (first | exact .nil | refine .cons rfl ?_), ⟨hlt, ?_, hx⟩, by simp only; omega⟩
      rw [es, tcs_append, List.length_append]
      exact hown2
  · have e0 : k = l.length := by omega
    subst e0
    rw [List.take_length] at hown
    refine Wp.seq (Wp.region ?_)
    first | refine Rg.tm trivial rfl (t_lssT rfl rfl (by omega)) rfl ?_ | refine Rg.tm trivial rfl (t_lssF rfl rfl (by omega)) rfl ?_ | refine Rg.tm trivial rfl (t_lss rfl rfl) rfl ?_
    refine Rg.done ?_
    refine Wp.seq ?_
    refine Wp.condF rfl ?_
    refine Wp.exit ?_
    refine Wp.seq (Wp.region ?_)
    refine Rg.tm trivial rfl (t_move rfl) rfl ?_
    refine Rg.tm trivial rfl (t_assign rfl) rfl ?_
    refine Rg.done ?_
    refine Wp.ret ?_
    exact ⟨[_], ⟨rfl, trivial⟩, hown, hx⟩

theorem linesTLaw {w : World} {s1 s2 : ByteArray} (hA : Asc w) : Cl Tryd.prog 8 #[.string s1, .string s2] w (fun u w' => u = .bool true ∧ Ext w w') := by
  obtain ⟨i, hi, hz, hsi, hby⟩ := inf39
  have hx := Ext.refl w
  obtain ⟨a, ha⟩ : ∃ x, s1.extract 0 (900 : Int).toNat = x := ⟨_, rfl⟩
  obtain ⟨b, hb⟩ : ∃ x, s2.extract 0 (900 : Int).toNat = x := ⟨_, rfl⟩
  have na : a.size ≤ 900 := by rw [← ha, ByteArray.size_extract]; omega
  have nb : b.size ≤ 900 := by rw [← hb, ByteArray.size_extract]; omega
  have nc : (a ++ nl).size = a.size + 1 := by rw [ByteArray.size_append, nl_size]
  have nd : (a ++ nl ++ b).size = a.size + 1 + b.size := by rw [ByteArray.size_append, nc]
  have el := lines a b
  have ta := toks_length a
  have tb := toks_length b
  have tc := toks_length (a ++ nl ++ b)
  have sa := sig_length (toks a)
  have sb := sig_length (toks b)
  have sc := sig_length (toks (a ++ nl ++ b))
  refine Cl.enter Tryd.func8 rfl Tryd.ntmps8 rfl rfl ?_
  refine Wp.seq (Wp.region ?_)
  refine Rg.tm trivial rfl (t_assign rfl) rfl ?_
  refine Rg.done ?_
  refine Wp.seq ?_
  refine Wp.seq (Wp.region ?_)
  refine Rg.wd trivial (w_call Tryd.call18 rfl (lexample_ok (hA.ext hx))) rfl ?_
  rintro _ w1 ⟨rfl, hx1⟩
  replace hx := hx.ext hx1
  refine Rg.tm trivial rfl (t_notB rfl) rfl ?_
  refine Rg.done ?_
  refine Wp.condF rfl ?_
  refine Wp.skip ?_
  refine Wp.seq (Wp.region ?_)
  refine Rg.tm trivial rfl (t_move rfl) rfl ?_
  refine Rg.wd trivial (w_call Tryd.call12 rfl (short_ok (n := 900) (by decide))) rfl ?_
  rintro _ _ ⟨rfl, rfl⟩
  rw [ha]
  refine Rg.tm trivial rfl (t_move rfl) rfl ?_
  refine Rg.wd trivial (w_call Tryd.call12 rfl (short_ok (n := 900) (by decide))) rfl ?_
  rintro _ _ ⟨rfl, rfl⟩
  rw [hb]
  refine Rg.tm trivial rfl (t_assign rfl) rfl ?_
  refine Rg.tm trivial rfl (t_assign rfl) rfl ?_
  refine Rg.done ?_
  refine Wp.seq (Wp.region ?_)
  refine Rg.tm trivial rfl (t_move rfl) rfl ?_
  refine Rg.wd trivial (w_call Tryd.call19 rfl (tokenize_ok (by omega) (hA.ext hx))) rfl ?_
  rintro _ w2 ⟨⟨v1, rfl, hv1⟩, hx2⟩
  replace hx := hx.ext hx2
  refine Rg.tm trivial rfl (t_move rfl) rfl ?_
  refine Rg.tm trivial rfl (t_extract rfl rfl) rfl ?_
  refine Rg.tm trivial rfl (t_extract rfl rfl) rfl ?_
  refine Rg.tm trivial rfl (t_assign rfl) rfl ?_
  refine Rg.tm trivial rfl (t_assign rfl) rfl ?_
  refine Rg.done ?_
  refine Wp.seq (Wp.region ?_)
  refine Rg.tm trivial rfl (t_move rfl) rfl ?_
  refine Rg.wd trivial (w_call Tryd.call19 rfl (tokenize_ok (by omega) (hA.ext hx))) rfl ?_
  rintro _ w3 ⟨⟨v2, rfl, hv2⟩, hx3⟩
  replace hx := hx.ext hx3
  replace hv1 := hv1.ext hx3
  refine Rg.tm trivial rfl (t_move rfl) rfl ?_
  refine Rg.tm trivial rfl (t_extract rfl rfl) rfl ?_
  refine Rg.tm trivial rfl (t_extract rfl rfl) rfl ?_
  refine Rg.tm trivial rfl (t_assign rfl) rfl ?_
  refine Rg.tm trivial rfl (t_assign rfl) rfl ?_
  refine Rg.done ?_
  refine Wp.seq (Wp.region ?_)
  refine Rg.tm trivial rfl (t_move rfl) rfl ?_
  refine Rg.tm trivial rfl (t_sadd (v := nl) rfl rfl (by rw [nl_size]; omega)) rfl ?_
  refine Rg.tm trivial rfl (t_move rfl) rfl ?_
  refine Rg.tm trivial rfl (t_sadd rfl rfl (by omega)) rfl ?_
  refine Rg.wd trivial (w_call Tryd.call19 rfl (tokenize_ok (by omega) (hA.ext hx))) rfl ?_
  rintro _ w4 ⟨⟨v3, rfl, hv3⟩, hx4⟩
  replace hx := hx.ext hx4
  replace hv1 := hv1.ext hx4
  replace hv2 := hv2.ext hx4
  refine Rg.tm trivial rfl (t_move rfl) rfl ?_
  refine Rg.tm trivial rfl (t_extract rfl rfl) rfl ?_
  refine Rg.tm trivial rfl (t_extract rfl rfl) rfl ?_
  refine Rg.tm trivial rfl (t_assign rfl) rfl ?_
  refine Rg.tm trivial rfl (t_assign rfl) rfl ?_
  refine Rg.done ?_
  refine Wp.seq (Wp.region ?_)
  refine Rg.tm trivial rfl (t_move rfl) rfl ?_
  refine Rg.wd trivial (w_call Tryd.call23 rfl (significant_ok hv1 (by omega))) rfl ?_
  rintro v4 w5 ⟨ho4, hx5⟩
  have hx0 := hx
  replace hv2 := hv2.ext hx5
  replace hx := hx5
  refine Rg.tm trivial rfl (t_move rfl) rfl ?_
  refine Rg.wd trivial (w_call Tryd.call23 rfl (significant_ok hv2 (by omega))) rfl ?_
  rintro v5 w6 ⟨ho5, hx6⟩
  replace ho4 := own_ext ho4 hx6
  have hs5 := own_slice ho5
  replace hx := hx.ext hx6
  replace hv2 := hv2.ext hx6
  refine Rg.wd trivial (w_appendC _ Tryd.underlying35 hi hz hsi hby rfl (by decide) rfl rfl ho4 hs5 (tcs_one _) (by unfold maxLen; omega) (by omega) hx.le) rfl ?_
  rintro v6 wc ⟨ho6, hgr, p2, l2, c2, rfl⟩
  rw [← tcs_append, ← List.length_append, ← el] at ho6
  replace hx := own_ext3 hx ho4 hgr
  have hs6 := own_slice ho6
  replace hv3 := hv3.ext hx
  refine Rg.tm trivial rfl (t_assign rfl) rfl ?_
  refine Rg.done ?_
  refine Wp.seq (Wp.region ?_)
  refine Rg.wd trivial (w_call Tryd.call18 rfl (lexample_ok (hA.ext (hx0.ext hx)))) rfl ?_
  rintro _ w7 ⟨rfl, hx7⟩
  replace hx := hx.ext hx7
  replace hs6 := hs6.ext hx7
  replace hv3 := hv3.ext hx7
  refine Rg.tm trivial rfl (t_move rfl) rfl ?_
  first | refine Rg.tm ⟨_, rfl, rfl⟩ rfl (t_move rfl) rfl ?_ | refine Rg.sk (.inl ⟨_, _, rfl, rfl, rfl⟩) rfl ?_ | refine Rg.sk (.inr ⟨_, rfl, rfl⟩) rfl ?_
  first | refine Rg.tm ⟨_, rfl, rfl⟩ rfl (t_eqlT rfl rfl (by omega)) rfl ?_ | refine Rg.tm ⟨_, rfl, rfl⟩ rfl (t_eqlF rfl rfl (by omega)) rfl ?_ | refine Rg.tm ⟨_, rfl, rfl⟩ rfl (t_eql rfl rfl) rfl ?_ | refine Rg.sk (.inl ⟨_, _, rfl, rfl, rfl⟩) rfl ?_ | refine Rg.sk (.inr ⟨_, rfl, rfl⟩) rfl ?_
  first | refine Rg.tm trivial rfl (t_pickT rfl rfl) rfl ?_ | refine Rg.tm trivial rfl (t_pickF rfl rfl) rfl ?_
  refine Rg.tm trivial rfl (t_move rfl) rfl ?_
  first | refine Rg.tm ⟨_, rfl, rfl⟩ rfl (t_move rfl) rfl ?_ | refine Rg.sk (.inl ⟨_, _, rfl, rfl, rfl⟩) rfl ?_ | refine Rg.sk (.inr ⟨_, rfl, rfl⟩) rfl ?_
  first | refine Rg.tm ⟨_, rfl, rfl⟩ rfl (t_eqlT rfl rfl (by omega)) rfl ?_ | refine Rg.tm ⟨_, rfl, rfl⟩ rfl (t_eqlF rfl rfl (by omega)) rfl ?_ | refine Rg.tm ⟨_, rfl, rfl⟩ rfl (t_eql rfl rfl) rfl ?_ | refine Rg.sk (.inl ⟨_, _, rfl, rfl, rfl⟩) rfl ?_ | refine Rg.sk (.inr ⟨_, rfl, rfl⟩) rfl ?_
  first | refine Rg.tm trivial rfl (t_pickT rfl rfl) rfl ?_ | refine Rg.tm trivial rfl (t_pickF rfl rfl) rfl ?_
  refine Rg.tm trivial rfl (t_move rfl) rfl ?_
  first | refine Rg.tm ⟨_, rfl, rfl⟩ rfl (t_move rfl) rfl ?_ | refine Rg.sk (.inl ⟨_, _, rfl, rfl, rfl⟩) rfl ?_ | refine Rg.sk (.inr ⟨_, rfl, rfl⟩) rfl ?_
  first | refine Rg.tm ⟨_, rfl, rfl⟩ rfl (t_eqlT rfl rfl (by omega)) rfl ?_ | refine Rg.tm ⟨_, rfl, rfl⟩ rfl (t_eqlF rfl rfl (by omega)) rfl ?_ | refine Rg.tm ⟨_, rfl, rfl⟩ rfl (t_eql rfl rfl) rfl ?_ | refine Rg.sk (.inl ⟨_, _, rfl, rfl, rfl⟩) rfl ?_ | refine Rg.sk (.inr ⟨_, rfl, rfl⟩) rfl ?_
  first | refine Rg.tm trivial rfl (t_pickT rfl rfl) rfl ?_ | refine Rg.tm trivial rfl (t_pickF rfl rfl) rfl ?_
  refine Rg.tm trivial rfl (t_move rfl) rfl ?_
  first | refine Rg.tm ⟨_, rfl, rfl⟩ rfl (t_move rfl) rfl ?_ | refine Rg.sk (.inl ⟨_, _, rfl, rfl, rfl⟩) rfl ?_ | refine Rg.sk (.inr ⟨_, rfl, rfl⟩) rfl ?_
  refine Rg.wd ⟨_, rfl, rfl⟩ (w_call Tryd.call23 rfl (significant_ok hv3 (by omega))) rfl ?_
  rintro v7 w8 ⟨ho7, hx8⟩
  have hs7 := own_slice ho7
  replace hx := hx.ext hx8
  replace hs6 := hs6.ext hx8
  replace hv3 := hv3.ext hx8
  first | refine Rg.tm ⟨_, rfl, rfl⟩ rfl (t_move rfl) rfl ?_ | refine Rg.sk (.inl ⟨_, _, rfl, rfl, rfl⟩) rfl ?_ | refine Rg.sk (.inr ⟨_, rfl, rfl⟩) rfl ?_
  refine Rg.wd ⟨_, rfl, rfl⟩ (w_call Tryd.call22 rfl (equal_ok hs7 hs6 (by omega))) rfl ?_
  rintro _ w9 ⟨rfl, hx9⟩
  replace hx := hx.ext hx9
  replace hs6 := hs6.ext hx9
  replace hv3 := hv3.ext hx9
  first | refine Rg.tm trivial rfl (t_pickT rfl rfl) rfl ?_ | refine Rg.tm trivial rfl (t_pickF rfl rfl) rfl ?_
  refine Rg.tm trivial rfl (t_assign rfl) rfl ?_
  refine Rg.done ?_
  refine Wp.ret ?_
  exact ⟨[_], ⟨rfl, trivial⟩, rfl, hx0.ext hx⟩
end Go.Proofs.YteopmfijfgaldaaDoor
