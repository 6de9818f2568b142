/- The lexer's example and the law LexerLossless. Printed by dooro.py. -/
import Derived.Test.YteopmfijfgaldaaDoorLf
namespace Go.Proofs.YteopmfijfgaldaaDoor
set_option linter.unusedVariables false
set_option linter.unusedSimpArgs false
set_option maxRecDepth 20000
open Go.Gx Go.RowKit Go.Lib

def exA : ByteArray := ⟨#[97, 47, 47, 98]⟩
def exB : ByteArray := ⟨#[97, 95, 49]⟩
def exC : ByteArray := ⟨#[117, 115, 101]⟩
def exT : List (Int × ByteArray) := [(103, ⟨#[97]⟩), (102, ⟨#[47, 47, 98]⟩)]
theorem exA_toks : toks exA = exT := by kernel_rfl
theorem exB_tok : tok exB = (exB.size, 103) := by kernel_rfl
theorem exC_tok : tok exC = (exC.size, 104) := by kernel_rfl
theorem slc_var {w : World} {b e size n : Nat} {cs : List Value} (h : Var w b cs e) (hl : cs.length = n * size) : SlC w (.slice (some ⟨b, 0, none⟩) n n) size n cs := ⟨hl, _, _, rfl, Nat.le_refl _, .inr ⟨b, 0, rfl, h.cells⟩⟩

theorem lexample_ok {w : World} (hA : Asc w) : Cl Tryd.prog 18 #[] w (fun u w' => u = .bool true ∧ Ext w w') := by
  have hx := Ext.refl w
  refine Cl.enter Tryd.func18 rfl Tryd.ntmps18 rfl rfl ?_
  refine Wp.seq (Wp.region ?_)
  refine Rg.tm trivial rfl (t_assign rfl) rfl ?_
  refine Rg.done ?_
  refine Wp.seq (Wp.region ?_)
  refine Rg.wd trivial (w_call Tryd.call19 rfl (tokenize_ok (s := exA) (by decide) (hA.ext hx))) rfl ?_
  rintro _ w1 ⟨⟨v1, rfl, hv1⟩, hx1⟩
  replace hx := hx.ext hx1
  rw [exA_toks] at hv1
  refine Rg.tm trivial rfl (t_move rfl) rfl ?_
  refine Rg.tm trivial rfl (t_extract rfl rfl) rfl ?_
  refine Rg.tm trivial rfl (t_extract rfl rfl) rfl ?_
  refine Rg.tm trivial rfl (t_assign rfl) rfl ?_
  refine Rg.tm trivial rfl (t_assign rfl) rfl ?_
  refine Rg.done ?_
  refine Wp.seq (Wp.region ?_)
  refine Rg.tm trivial rfl (t_move rfl) rfl ?_
  first | refine Rg.tm trivial rfl (t_eqlT rfl rfl (by omega)) rfl ?_ | refine Rg.tm trivial rfl (t_eqlF rfl rfl (by omega)) rfl ?_ | refine Rg.tm trivial rfl (t_eql rfl rfl) rfl ?_
  refine Rg.tm trivial rfl (t_move rfl) rfl ?_
  first | refine Rg.tm ⟨_, rfl, rfl⟩ rfl (t_move rfl) rfl ?_ | refine Rg.sk (.inl ⟨_, _, rfl, rfl, rfl⟩) rfl ?_ | refine Rg.sk (.inr ⟨_, rfl, rfl⟩) rfl ?_
  first | refine Rg.tm ⟨_, rfl, rfl⟩ rfl (t_build (bd39_0_1 _ _) rfl) rfl ?_ | refine Rg.sk (.inl ⟨_, _, rfl, rfl, rfl⟩) rfl ?_ | refine Rg.sk (.inr ⟨_, rfl, rfl⟩) rfl ?_
  first | refine Rg.tm ⟨_, rfl, rfl⟩ rfl (t_build (bd39_0_1 _ _) rfl) rfl ?_ | refine Rg.sk (.inl ⟨_, _, rfl, rfl, rfl⟩) rfl ?_ | refine Rg.sk (.inr ⟨_, rfl, rfl⟩) rfl ?_
  refine Rg.wd ⟨_, rfl, rfl⟩ (w_buildSlice (bs35_2 _ _ _ _) rfl) rfl ?_
  rintro _ wb ⟨bb, rfl, qb, hxb, hvb⟩
  replace hx := hx.ext hxb
  replace hv1 := hv1.ext hxb
  have hv2 : SlC wb (.slice (some ⟨bb, 0, none⟩) 2 2) 2 exT.length (tcs exT) := slc_var hvb rfl
  refine Rg.wd ⟨_, rfl, rfl⟩ (w_call Tryd.call22 rfl (equal_ok hv1 hv2 (by decide))) rfl ?_
  rintro _ w2 ⟨rfl, hx2⟩
  replace hx := hx.ext hx2
  replace hv1 := hv1.ext hx2
  first | refine Rg.tm trivial rfl (t_pickT rfl rfl) rfl ?_ | refine Rg.tm trivial rfl (t_pickF rfl rfl) rfl ?_
  refine Rg.tm trivial rfl (t_move rfl) rfl ?_
  refine Rg.wd ⟨_, rfl, rfl⟩ (w_call Tryd.call30 rfl (isIdent_yes (s := exB) (by decide) (by decide) exB_tok (hA.ext hx))) rfl ?_
  rintro _ w3 ⟨rfl, hx3⟩
  replace hx := hx.ext hx3
  replace hv1 := hv1.ext hx3
  first | refine Rg.tm trivial rfl (t_pickT rfl rfl) rfl ?_ | refine Rg.tm trivial rfl (t_pickF rfl rfl) rfl ?_
  refine Rg.tm trivial rfl (t_move rfl) rfl ?_
  refine Rg.wd ⟨_, rfl, rfl⟩ (w_call Tryd.call30 rfl (isIdent_kw (s := exC) (by decide) (by decide) exC_tok (hA.ext hx))) rfl ?_
  rintro _ w4 ⟨rfl, hx4⟩
  replace hx := hx.ext hx4
  replace hv1 := hv1.ext hx4
  first | refine Rg.tm ⟨_, rfl, rfl⟩ rfl (t_notB rfl) rfl ?_ | refine Rg.sk (.inl ⟨_, _, rfl, rfl, rfl⟩) rfl ?_ | refine Rg.sk (.inr ⟨_, rfl, rfl⟩) rfl ?_
  first | refine Rg.tm trivial rfl (t_pickT rfl rfl) rfl ?_ | refine Rg.tm trivial rfl (t_pickF rfl rfl) rfl ?_
  refine Rg.tm trivial rfl (t_assign rfl) rfl ?_
  refine Rg.done ?_
  refine Wp.ret ?_
  exact ⟨[_], ⟨rfl, trivial⟩, rfl, hx⟩

theorem losslessLaw {w : World} {s : ByteArray} (hA : Asc w) : Cl Tryd.prog 6 #[.string s] w (fun u w' => u = .bool true ∧ Ext w w') := by
  have hx := Ext.refl w
  by_cases hs : 2000 < s.size
  · skip
    refine Cl.enter Tryd.func6 rfl Tryd.ntmps6 rfl rfl ?_
    refine Wp.seq (Wp.region ?_)
    refine Rg.tm trivial rfl (t_assign rfl) rfl ?_
    refine Rg.done ?_
    refine Wp.seq ?_
    refine Wp.seq (Wp.region ?_)
    refine Rg.wd trivial (w_call Tryd.call18 rfl (lexample_ok (hA.ext hx))) rfl ?_
    rintro _ w1 ⟨rfl, hx1⟩
    replace hx := hx.ext hx1
    refine Rg.tm trivial rfl (t_notB rfl) rfl ?_
    refine Rg.done ?_
    refine Wp.condF rfl ?_
    refine Wp.skip ?_
    refine Wp.seq (Wp.region ?_)
    refine Rg.tm trivial rfl (t_move rfl) rfl ?_
    refine Rg.wd trivial (w_call Tryd.call19 rfl (tokenize_no hs)) rfl ?_
    rintro _ _ ⟨rfl, rfl⟩
    refine Rg.tm trivial rfl (t_move rfl) rfl ?_
    refine Rg.tm trivial rfl (t_extract rfl rfl) rfl ?_
    refine Rg.tm trivial rfl (t_extract rfl rfl) rfl ?_
    refine Rg.tm trivial rfl (t_assign rfl) rfl ?_
    refine Rg.tm trivial rfl (t_assign rfl) rfl ?_
    refine Rg.done ?_
    refine Wp.seq ?_
    refine Wp.seq (Wp.region ?_)
    refine Rg.tm trivial rfl (t_move rfl) rfl ?_
    first | refine Rg.tm trivial rfl (t_neqT rfl rfl (by omega)) rfl ?_ | refine Rg.tm trivial rfl (t_neqF rfl rfl (by omega)) rfl ?_ | refine Rg.tm trivial rfl (t_neq rfl rfl) rfl ?_
    refine Rg.done ?_
    refine Wp.condT rfl ?_
    refine Wp.seq (Wp.region ?_)
    refine Rg.wd trivial (w_call Tryd.call18 rfl (lexample_ok (hA.ext hx))) rfl ?_
    rintro _ w2 ⟨rfl, hx2⟩
    replace hx := hx.ext hx2
    refine Rg.tm trivial rfl (t_move rfl) rfl ?_
    first | refine Rg.tm ⟨_, rfl, rfl⟩ rfl (t_move rfl) rfl ?_ | refine Rg.sk (.inl ⟨_, _, rfl, rfl, rfl⟩) rfl ?_ | refine Rg.sk (.inr ⟨_, rfl, rfl⟩) rfl ?_
    refine Rg.tm ⟨_, rfl, rfl⟩ rfl (t_len Tryd.underlying9 rfl) rfl ?_
    first | refine Rg.tm ⟨_, rfl, rfl⟩ rfl (t_gtrT rfl rfl (by omega)) rfl ?_ | refine Rg.tm ⟨_, rfl, rfl⟩ rfl (t_gtrF rfl rfl (by omega)) rfl ?_ | refine Rg.tm ⟨_, rfl, rfl⟩ rfl (t_gtr rfl rfl) rfl ?_ | refine Rg.sk (.inl ⟨_, _, rfl, rfl, rfl⟩) rfl ?_ | refine Rg.sk (.inr ⟨_, rfl, rfl⟩) rfl ?_
    first | refine Rg.tm trivial rfl (t_pickT rfl rfl) rfl ?_ | refine Rg.tm trivial rfl (t_pickF rfl rfl) rfl ?_
    refine Rg.tm trivial rfl (t_move rfl) rfl ?_
    first | refine Rg.tm ⟨_, rfl, rfl⟩ rfl (t_move rfl) rfl ?_ | refine Rg.sk (.inl ⟨_, _, rfl, rfl, rfl⟩) rfl ?_ | refine Rg.sk (.inr ⟨_, rfl, rfl⟩) rfl ?_
    first | refine Rg.tm ⟨_, rfl, rfl⟩ rfl (t_lenS Tryd.underlying35 rfl) rfl ?_ | refine Rg.sk (.inl ⟨_, _, rfl, rfl, rfl⟩) rfl ?_ | refine Rg.sk (.inr ⟨_, rfl, rfl⟩) rfl ?_
    first | refine Rg.tm ⟨_, rfl, rfl⟩ rfl (t_eqlT rfl rfl (by omega)) rfl ?_ | refine Rg.tm ⟨_, rfl, rfl⟩ rfl (t_eqlF rfl rfl (by omega)) rfl ?_ | refine Rg.tm ⟨_, rfl, rfl⟩ rfl (t_eql rfl rfl) rfl ?_ | refine Rg.sk (.inl ⟨_, _, rfl, rfl, rfl⟩) rfl ?_ | refine Rg.sk (.inr ⟨_, rfl, rfl⟩) rfl ?_
    first | refine Rg.tm trivial rfl (t_pickT rfl rfl) rfl ?_ | refine Rg.tm trivial rfl (t_pickF rfl rfl) rfl ?_
    refine Rg.tm trivial rfl (t_assign rfl) rfl ?_
    refine Rg.done ?_
    refine Wp.ret ?_
    exact ⟨[_], ⟨rfl, trivial⟩, rfl, hx⟩
  · have hn := toks_length s
    refine Cl.enter Tryd.func6 rfl Tryd.ntmps6 rfl rfl ?_
    refine Wp.seq (Wp.region ?_)
    refine Rg.tm trivial rfl (t_assign rfl) rfl ?_
    refine Rg.done ?_
    refine Wp.seq ?_
    refine Wp.seq (Wp.region ?_)
    refine Rg.wd trivial (w_call Tryd.call18 rfl (lexample_ok (hA.ext hx))) rfl ?_
    rintro _ w1 ⟨rfl, hx1⟩
    replace hx := hx.ext hx1
    refine Rg.tm trivial rfl (t_notB rfl) rfl ?_
    refine Rg.done ?_
    refine Wp.condF rfl ?_
    refine Wp.skip ?_
    refine Wp.seq (Wp.region ?_)
    refine Rg.tm trivial rfl (t_move rfl) rfl ?_
    refine Rg.wd trivial (w_call Tryd.call19 rfl (tokenize_ok (by omega) (hA.ext hx))) rfl ?_
    rintro _ w2 ⟨⟨v3, rfl, hv3⟩, hx2⟩
    replace hx := hx.ext hx2
    refine Rg.tm trivial rfl (t_move rfl) rfl ?_
    refine Rg.tm trivial rfl (t_extract rfl rfl) rfl ?_
    refine Rg.tm trivial rfl (t_extract rfl rfl) rfl ?_
    refine Rg.tm trivial rfl (t_assign rfl) rfl ?_
    refine Rg.tm trivial rfl (t_assign rfl) rfl ?_
    refine Rg.done ?_
    refine Wp.seq ?_
    refine Wp.seq (Wp.region ?_)
    refine Rg.tm trivial rfl (t_move rfl) rfl ?_
    first | refine Rg.tm trivial rfl (t_neqT rfl rfl (by omega)) rfl ?_ | refine Rg.tm trivial rfl (t_neqF rfl rfl (by omega)) rfl ?_ | refine Rg.tm trivial rfl (t_neq rfl rfl) rfl ?_
    refine Rg.done ?_
    refine Wp.condF rfl ?_
    refine Wp.skip ?_
    refine Wp.seq ?_
    refine Wp.seq (Wp.region ?_)
    refine Rg.tm trivial rfl (t_move rfl) rfl ?_
    refine Rg.tm trivial rfl (t_lenC hv3 Tryd.underlying35 rfl) rfl ?_
    refine Rg.tm trivial rfl (t_move rfl) rfl ?_
    refine Rg.done ?_
    refine Wp.block ?_
    refine Wp.loop (ι := Nat) (fun k => [(0, .string s), (3, v3), (27, v3), (28, .int .i64 (toks s).length), (29, .int .i64 k)])
      (fun k w' => k ≤ (toks s).length ∧ SlC w' v3 2 (toks s).length (tcs (toks s)) ∧ Ext w w') (fun k => (toks s).length - k) 0 (by repeat (first | exact .nil | refine .cons rfl ?_)) ⟨Nat.zero_le _, hv3, hx⟩ ?_
    clear hx hv3
    rintro k w3 ⟨hk, hl3, hx⟩
    by_cases hlt : k < (toks s).length
    · have hpos := toks_full s _ (List.getElem_mem hlt)
      obtain ⟨t, ht0⟩ : ∃ t, (toks s)[k] = t := ⟨_, rfl⟩
      rw [ht0] at hpos
      have hne : t.2 ≠ ⟨#[]⟩ := fun e => by rw [e] at hpos; exact Nat.lt_irrefl _ hpos
      refine Wp.seq (Wp.region ?_)
      first | refine Rg.tm trivial rfl (t_lssT rfl rfl (by omega)) rfl ?_ | refine Rg.tm trivial rfl (t_lssF rfl rfl (by omega)) rfl ?_ | refine Rg.tm trivial rfl (t_lss rfl rfl) rfl ?_
      refine Rg.done ?_
      refine Wp.seq ?_
      refine Wp.condT rfl ?_
      refine Wp.skip ?_
      refine Wp.seq ?_
      refine Wp.block ?_
      refine Wp.seq (Wp.region ?_)
      refine Rg.ix hl3 trivial rfl rfl Tryd.underlying35 ty39 (by omega) rfl ?_
      intro bt31 ot31 ht31
      rw [Int.toNat_natCast, tcs_at _ k hlt, ht0] at ht31
      refine Rg.tm trivial rfl (t_loadA rfl ht31 ty39) rfl ?_
      refine Rg.wd trivial (w_new Tryd.zeroValue39 rfl) rfl ?_
      rintro _ wa ⟨b6, rfl, qb6, hxa, hva⟩
      refine Rg.wn trivial (w_put hva rfl rfl rfl ty39 rfl rfl) ?_
      rintro _ w3 ⟨hu, hvb6⟩
      have hx3 := hxa.upd hu (Nat.le_of_eq qb6.symm)
      replace hx := hx.ext hx3
      replace hl3 := hl3.ext hx3
      have hcb6 := hvb6.cells
      clear hva hu
      refine Rg.done ?_
      refine Wp.seq (Wp.region ?_)
      refine Rg.tm trivial rfl (t_fieldAddr fa39_1 rfl) rfl ?_
      refine Rg.tm trivial rfl (t_load ty9 rfl (by apply Cells.get (i := 1); (case h => assumption); rfl)) rfl ?_
      first | refine Rg.tm trivial rfl (t_seqlT rfl rfl (by first | with_reducible rfl | assumption)) rfl ?_ | refine Rg.tm trivial rfl (t_seqlF rfl rfl (by assumption)) rfl ?_ | refine Rg.tm trivial rfl (t_seql rfl rfl) rfl ?_
      refine Rg.done ?_
      refine Wp.condF rfl ?_
      refine Wp.skip ?_
      refine Wp.region ?_
      first | refine Rg.tm trivial rfl (t_addI rfl rfl (by omega)) rfl ?_ | refine Rg.tm trivial rfl (t_add rfl rfl) rfl ?_
      refine Rg.tm trivial rfl (t_move rfl) rfl ?_
      refine Rg.done ?_
      exact ⟨k + 1, by repeat (first | exact .nil | refine .cons rfl ?_), ⟨hlt, hl3, hx⟩, by omega⟩
    · have ec := cat_toks s
      refine Wp.seq (Wp.region ?_)
      first | refine Rg.tm trivial rfl (t_lssT rfl rfl (by omega)) rfl ?_ | refine Rg.tm trivial rfl (t_lssF rfl rfl (by omega)) rfl ?_ | refine Rg.tm trivial rfl (t_lss rfl rfl) rfl ?_
      refine Rg.done ?_
      refine Wp.seq ?_
      refine Wp.condF rfl ?_
      refine Wp.exit ?_
      refine Wp.seq (Wp.region ?_)
      refine Rg.wd trivial (w_call Tryd.call18 rfl (lexample_ok (hA.ext hx))) rfl ?_
      rintro _ w3 ⟨rfl, hx3⟩
      replace hx := hx.ext hx3
      replace hl3 := hl3.ext hx3
      refine Rg.tm trivial rfl (t_move rfl) rfl ?_
      first | refine Rg.tm ⟨_, rfl, rfl⟩ rfl (t_move rfl) rfl ?_ | refine Rg.sk (.inl ⟨_, _, rfl, rfl, rfl⟩) rfl ?_ | refine Rg.sk (.inr ⟨_, rfl, rfl⟩) rfl ?_
      refine Rg.wd ⟨_, rfl, rfl⟩ (w_call Tryd.call20 rfl (source_ok hl3 (by omega) (by rw [ec]; omega))) rfl ?_
      rintro _ w4 ⟨rfl, hx4⟩
      replace hx := hx.ext hx4
      replace hl3 := hl3.ext hx4
      first | refine Rg.tm ⟨_, rfl, rfl⟩ rfl (t_move rfl) rfl ?_ | refine Rg.sk (.inl ⟨_, _, rfl, rfl, rfl⟩) rfl ?_ | refine Rg.sk (.inr ⟨_, rfl, rfl⟩) rfl ?_
      first | refine Rg.tm ⟨_, rfl, rfl⟩ rfl (t_seqlT rfl rfl (by first | with_reducible rfl | assumption)) rfl ?_ | refine Rg.tm ⟨_, rfl, rfl⟩ rfl (t_seqlF rfl rfl (by assumption)) rfl ?_ | refine Rg.tm ⟨_, rfl, rfl⟩ rfl (t_seql rfl rfl) rfl ?_ | refine Rg.sk (.inl ⟨_, _, rfl, rfl, rfl⟩) rfl ?_ | refine Rg.sk (.inr ⟨_, rfl, rfl⟩) rfl ?_
      first | refine Rg.tm trivial rfl (t_pickT rfl rfl) rfl ?_ | refine Rg.tm trivial rfl (t_pickF rfl rfl) rfl ?_
      refine Rg.tm trivial rfl (t_assign rfl) rfl ?_
      refine Rg.done ?_
      refine Wp.ret ?_
      exact ⟨[_], ⟨rfl, trivial⟩, rfl, hx⟩
end Go.Proofs.YteopmfijfgaldaaDoor
