/- The reparse package: equal, isToken, significantWidth. Printed by r6/Va.py. -/
import Derived.Test.YtcelfjbajdffkaaGreatDoorXk
import Derived.Test.YtcelfjbajdffkaaGreatDoorXq
import Derived.Test.YtcelfjbajdffkaaGreatDoorXp
import Derived.Test.YtcelfjbajdffkaaGreatDoorXa
set_option linter.unusedVariables false
set_option linter.unusedSimpArgs false
namespace Go.Proofs.YtcelfjbajdffkaaGreatDoor.Par
set_option maxRecDepth 20000
open Go.Gx Go.RowKit Go.Lib
open Lexi (Asc)
open Lexi (tok toks tokenize_ok first_ok)
theorem eqFunc_ok {w : World} {v1 v2 : Value} {l1 l2 : List Gt} {f : FuncId} (hs1 : SlC w v1 3 l1.length (encs Gt.cells l1)) (hs2 : SlC w v2 3 l2.length (encs Gt.cells l2)) (ho1 : ∀ g ∈ l1,(g.cells.all (·.oneCell')) = true) (ho2 : ∀ g ∈ l2,(g.cells.all (·.oneCell')) = true) (hcf : ∀ (args : Array Value) (w : World),(callFunc f args).run Tryz.prog w = .ok (.enter f args) w) (hlen : l1.length < 4611686018427387904)
  (hp : ∀ w1,Ext w w1 → ∀ a ∈ l1,∀ b ∈ l2,Cl Tryz.prog f #[.agg a.cells.toArray,.agg b.cells.toArray] w1 (fun u w2 => (∃ c,u = .bool c ∧ (c = true ↔ a.er = b.er)) ∧ Ext w1 w2)) :
  Cl Tryz.prog 69 #[v1,v2,.func (.func f) #[] #[]] w (fun u w' => (∃ c,u = .bool c ∧ (c = true ↔ erL l1 = erL l2)) ∧ Ext w w') := by
 have hx := Ext.refl w
 by_cases hll : l1.length = l2.length
 ·skip
  refine Cl.enter Tryz.func69 rfl Tryz.ntmps69 rfl rfl (.sr (.as rfl rfl (.done (.seq (.sr (.mv rfl rfl (.tq (t_lenC hs1 Tryz.underlying23 rfl) rfl (.mv rfl rfl (.tq (t_lenC hs2 Tryz.underlying23 rfl) rfl ?_)))))))))
  refine .tq (t_neqF rfl rfl (by omega)) rfl ?_
  refine .done (.condF rfl (Wp.skip (.seq (.sr (.mv rfl rfl (.tq (t_lenC hs1 Tryz.underlying23 rfl) rfl (.mv rfl rfl (.done (Wp.block ?_)))))))))
  refine Wp.loop (ι := Nat) (fun k => [(1,v2),(2,.func (.func f) #[] #[]),(15,v1),(16,.int .i64 l1.length),(17,.int .i64 k)])
   (fun k w' => k ≤ l1.length ∧ Ext w w' ∧ (erL l1).take k = (erL l2).take k) (fun k => l1.length - k) 0 (by repeat (first | exact .nil | refine .cons rfl ?_)) ⟨Nat.zero_le _,Ext.refl _,rfl⟩ ?_
  rintro k w1 ⟨hk,hy,he⟩
  replace hx := hx.ext hy
  replace hs1 := hs1.ext hy
  replace hs2 := hs2.ext hy
  by_cases hlt : k < l1.length
  ·have hlt2 : k < l2.length := by omega
   have hltE : k < (erL l1).length := by rw [erL_len]; exact hlt
   have hltE2 : k < (erL l2).length := by rw [erL_len]; exact hlt2
   have hem := erL_at l1 k hlt
   have hem2 := erL_at l2 k hlt2
   obtain ⟨a,ham,hae⟩ : ∃ a,a ∈ l1 ∧ a = l1[k] := ⟨_,List.getElem_mem hlt,rfl⟩
   obtain ⟨b,hbm,hbe⟩ : ∃ b,b ∈ l2 ∧ b = l2[k] := ⟨_,List.getElem_mem hlt2,rfl⟩
   have hoa := ho1 a ham
   have hob := ho2 b hbm
   refine .sr ?_
   first | refine .tq (t_lssT rfl rfl (by omega)) rfl ?_ | refine .tq (t_lssF rfl rfl (by omega)) rfl ?_ | refine .tq (t_lss rfl rfl) rfl ?_
   refine .done (.seq (.condT rfl (Wp.skip (.seq (Wp.block (.sr (.mv rfl rfl ?_)))))))
   refine Rg.ix hs1 trivial rfl rfl Tryz.underlying23 ty25 (by omega) rfl ?_
   intro bt20 ot20 ht20
   rw [Int.toNat_natCast,encs_at Gt.len l1 k hlt,← hae] at ht20
   refine .tq (t_loadA rfl ht20 (by rw [Gt.len]; exact ty25)) rfl ?_
   refine Rg.wd trivial (w_new Tryz.zeroValue25 rfl) rfl ?_
   rintro _ wab8 ⟨b8,rfl,qb8,hxab8,hvab8⟩
   refine .as rfl rfl ?_
   refine Rg.wn trivial (w_put (cs := a.cells) hvab8 rfl rfl rfl (by rw [Gt.len]; exact ty25) (by rw [Gt.len]; rfl) (hoa)) ?_
   rintro _ w2 ⟨hub8,hvb8⟩
   have hx2 := hxab8.upd hub8 (Nat.le_of_eq qb8.symm)
   clear hvab8 hub8 hxab8
   replace hx := hx.ext hx2
   replace hs1 := hs1.ext hx2
   replace hs2 := hs2.ext hx2
   replace hy := hy.ext hx2
   replace ht20 := ht20.ext hx2
   clear qb8
   refine .done (.sr (.mv rfl rfl (.mv rfl rfl ?_)))
   refine Rg.ix hs2 trivial rfl rfl Tryz.underlying23 ty25 (by omega) rfl ?_
   intro bt24 ot24 ht24
   rw [Int.toNat_natCast,encs_at Gt.len l2 k hlt2,← hbe] at ht24
   refine .tq (t_loadA rfl ht24 (by rw [Gt.len]; exact ty25)) rfl ?_
   refine Rg.wd trivial (w_new Tryz.zeroValue25 rfl) rfl ?_
   rintro _ wab9 ⟨b9,rfl,qb9,hxab9,hvab9⟩
   refine Rg.wn trivial (w_put (cs := b.cells) hvab9 rfl rfl rfl (by rw [Gt.len]; exact ty25) (by rw [Gt.len]; rfl) (hob)) ?_
   rintro _ w3 ⟨hub9,hvb9⟩
   have hx3 := hxab9.upd hub9 (Nat.le_of_eq qb9.symm)
   clear hvab9 hub9 hxab9
   replace hx := hx.ext hx3
   replace hs1 := hs1.ext hx3
   replace hs2 := hs2.ext hx3
   replace hy := hy.ext hx3
   replace ht20 := ht20.ext hx3
   replace hvb8 := hvb8.ext hx3
   replace ht24 := ht24.ext hx3
   clear qb9
   refine .done (.sr (.mv rfl rfl ?_))
   refine .tq (t_loadA rfl hvb8.cells (by rw [Gt.len]; exact ty25)) rfl ?_
   refine .tq (t_loadA rfl hvb9.cells (by rw [Gt.len]; exact ty25)) rfl ?_
   refine Rg.wd trivial (w_callV rfl hcf rfl (vs := [.agg a.cells.toArray,.agg b.cells.toArray]) (hp _ hx a ham b hbm)) rfl ?_
   rintro _ w4 ⟨⟨c,rfl,hc⟩,hx4⟩
   replace hx := hx.ext hx4
   replace hs1 := hs1.ext hx4
   replace hs2 := hs2.ext hx4
   replace hy := hy.ext hx4
   replace ht20 := ht20.ext hx4
   replace hvb8 := hvb8.ext hx4
   replace ht24 := ht24.ext hx4
   replace hvb9 := hvb9.ext hx4
   refine .tq (t_notB rfl) rfl (.done ?_)
   cases c with
   | true =>
    refine .condF rfl (Wp.skip (Wp.region ?_))
    first | refine .tq (t_addI rfl rfl (by omega)) rfl ?_ | refine .tq (t_add rfl rfl) rfl ?_
    refine .mv rfl rfl (.done ?_)
    exact ⟨k + 1,by repeat (first | exact .nil | refine .cons rfl ?_),⟨hlt,hy,by rw [List.take_succ_eq_append_getElem hltE,List.take_succ_eq_append_getElem hltE2,he,hem,hem2,← hae,← hbe,hc.1 rfl]⟩,by omega⟩
   | false =>
    refine .condT rfl (.sr (.as rfl rfl (.done (Wp.ret ?_))))
    refine ⟨[_],⟨rfl,trivial⟩,⟨false,rfl,⟨fun e => (nomatch e),fun e => ?_⟩⟩,hx⟩
    refine hc.2 ?_
    rw [hae,hbe,← hem,← hem2]
    simp only [e]
  ·skip
   refine .sr ?_
   first | refine .tq (t_lssT rfl rfl (by omega)) rfl ?_ | refine .tq (t_lssF rfl rfl (by omega)) rfl ?_ | refine .tq (t_lss rfl rfl) rfl ?_
   refine .done (.seq (.condF rfl (Wp.exit (.sr (.as rfl rfl (.done (Wp.ret ?_)))))))
   refine ⟨[_],⟨rfl,trivial⟩,⟨true,rfl,⟨fun _ => ?_,fun _ => rfl⟩⟩,hx⟩
   have hkl : k = (erL l1).length := by rw [erL_len]; omega
   rw [hkl,List.take_length,show (erL l1).length = (erL l2).length from by rw [erL_len,erL_len,hll],List.take_length] at he
   exact he
 ·skip
  refine Cl.enter Tryz.func69 rfl Tryz.ntmps69 rfl rfl (.sr (.as rfl rfl (.done (.seq (.sr (.mv rfl rfl (.tq (t_lenC hs1 Tryz.underlying23 rfl) rfl (.mv rfl rfl (.tq (t_lenC hs2 Tryz.underlying23 rfl) rfl ?_)))))))))
  refine .tq (t_neqT rfl rfl (by omega)) rfl ?_
  refine .done (.condT rfl (.sr (.as rfl rfl (.done (Wp.ret ?_)))))
  exact ⟨[_],⟨rfl,trivial⟩,⟨false,rfl,⟨fun e => (nomatch e),fun e => absurd (by rw [← erL_len,e,erL_len]) hll⟩⟩,hx⟩
theorem treeEq_ok : ∀ (n : Nat) (g h : Gt),g.er.cnt ≤ n → g.er.cnt ≤ 1000000 → ∀ (w : World),GoL w g → GoL w h → Cl Tryz.prog 35 #[.agg g.cells.toArray,.agg h.cells.toArray] w (fun u w' => (∃ c,u = .bool c ∧ (c = true ↔ g.er = h.er)) ∧ Ext w w') := by
 intro n
 induction n with
 | zero =>
  intro g h hn
  cases g
  simp [Gt.er,Tr.cnt] at hn
 | succ n ih =>
  intro g h hn hc w hg hh
  obtain ⟨k1,t1,c1,l1⟩ := g
  obtain ⟨k2,t2,c2,l2⟩ := h
  cases hg with
  | mk hs1 h1 hb1 hk1 =>
   cases hh with
   | mk hs2 h2 hb2 hk2 =>
    simp only [Gt.er,Tr.cnt] at hn hc
    have hlenk := len_cntL (erL l1)
    rw [erL_len] at hlenk
    have hx := Ext.refl w
    by_cases e1 : k1 = k2
    ·by_cases e2 : t1 = t2
     ·skip
      refine Cl.enter Tryz.func35 rfl Tryz.ntmps35 rfl rfl (.sr (Rg.wd trivial (w_boxed (cs := [.int .i64 k1,.string t1,c1]) rfl rfl) rfl ?_))
      rintro _ w1 ⟨b2,rfl,q2,hx1,hv2⟩
      replace hx := hx.ext hx1
      refine Rg.wd trivial (w_boxed (cs := [.int .i64 k2,.string t2,c2]) rfl rfl) rfl ?_
      rintro _ w2 ⟨b3,rfl,q3,hx2,hv3⟩
      replace hx := hx.ext hx2
      replace hv2 := hv2.ext hx2
      refine .as rfl rfl (.done (.sr (.tq (t_fieldAddr fa25_0 rfl) rfl (.tq (t_load ty3 rfl (Cells.get (i := 0) hv2.cells rfl)) rfl (.tq (t_fieldAddr fa25_0 rfl) rfl (.tq (t_load ty3 rfl (Cells.get (i := 0) hv3.cells rfl)) rfl (.tq (t_eqlT rfl rfl e1) rfl (.mv rfl rfl ?_))))))))
      first | refine .gd (t_fieldAddr fa25_1 rfl) rfl ?_ | refine .so rfl rfl ?_
      refine .gd (t_load ty9 rfl (Cells.get (i := 1) hv2.cells rfl)) rfl ?_
      first | refine .gd (t_fieldAddr fa25_1 rfl) rfl ?_ | refine .so rfl rfl ?_
      refine .gd (t_load ty9 rfl (Cells.get (i := 1) hv3.cells rfl)) rfl (.gd (t_seqlT rfl rfl e2) rfl (.tq (t_pickT rfl rfl) rfl (.mv rfl rfl ?_)))
      first | refine .gd (t_fieldAddr fa25_2 rfl) rfl ?_ | refine .so rfl rfl ?_
      refine .gd (t_load ty23 rfl (Cells.get (i := 2) hv2.cells rfl)) rfl ?_
      first | refine .gd (t_fieldAddr fa25_2 rfl) rfl ?_ | refine .so rfl rfl ?_
      refine .gd (t_load ty23 rfl (Cells.get (i := 2) hv3.cells rfl)) rfl ?_
      refine Rg.wd ⟨_,rfl,rfl⟩ (w_call Tryz.call69 rfl (eqFunc_ok (hs1.ext hx) (hs2.ext hx) (fun g hg => (show GoL w g from hk1 g hg).oneL) (fun g hg => (show GoL w g from hk2 g hg).oneL) Tryz.call35 (by omega) (fun w1 hx1 a ha b hb => ih a b (by
       have := cntL_mem (l := erL l1) (t := a.er) (by rw [erL_map]; exact List.mem_map_of_mem ha)
       omega) (by
       have := cntL_mem (l := erL l1) (t := a.er) (by rw [erL_map]; exact List.mem_map_of_mem ha)
       omega) w1 (GoL.ext (show GoL w a from hk1 a ha) (hx.ext hx1)) (GoL.ext (show GoL w b from hk2 b hb) (hx.ext hx1))))) rfl ?_
      rintro _ w3 ⟨⟨c,rfl,hc2⟩,hx3⟩
      replace hx := hx.ext hx3
      replace hv2 := hv2.ext hx3
      replace hv3 := hv3.ext hx3
      refine .tq (t_pickT rfl rfl) rfl (.as rfl rfl (.done (Wp.ret ?_)))
      refine ⟨[_],⟨rfl,trivial⟩,⟨c,rfl,?_⟩,hx⟩
      rw [hc2]
      simp only [Gt.er,e1,e2,Tr.mk.injEq,true_and]
     ·skip
      refine Cl.enter Tryz.func35 rfl Tryz.ntmps35 rfl rfl (.sr (Rg.wd trivial (w_boxed (cs := [.int .i64 k1,.string t1,c1]) rfl rfl) rfl ?_))
      rintro _ w1 ⟨b2,rfl,q2,hx1,hv2⟩
      replace hx := hx.ext hx1
      refine Rg.wd trivial (w_boxed (cs := [.int .i64 k2,.string t2,c2]) rfl rfl) rfl ?_
      rintro _ w2 ⟨b3,rfl,q3,hx2,hv3⟩
      replace hx := hx.ext hx2
      replace hv2 := hv2.ext hx2
      refine .as rfl rfl (.done (.sr (.tq (t_fieldAddr fa25_0 rfl) rfl (.tq (t_load ty3 rfl (Cells.get (i := 0) hv2.cells rfl)) rfl (.tq (t_fieldAddr fa25_0 rfl) rfl (.tq (t_load ty3 rfl (Cells.get (i := 0) hv3.cells rfl)) rfl (.tq (t_eqlT rfl rfl e1) rfl (.mv rfl rfl ?_))))))))
      first | refine .gd (t_fieldAddr fa25_1 rfl) rfl ?_ | refine .so rfl rfl ?_
      refine .gd (t_load ty9 rfl (Cells.get (i := 1) hv2.cells rfl)) rfl ?_
      first | refine .gd (t_fieldAddr fa25_1 rfl) rfl ?_ | refine .so rfl rfl ?_
      refine .gd (t_load ty9 rfl (Cells.get (i := 1) hv3.cells rfl)) rfl (.gd (t_seqlF rfl rfl e2) rfl (.tq (t_pickT rfl rfl) rfl (.mv rfl rfl (.so rfl rfl (.so rfl rfl (.so rfl rfl (.so rfl rfl (.so rfl rfl (.tq (t_pickF rfl rfl) rfl (.as rfl rfl (.done (Wp.ret ?_))))))))))))
      refine ⟨[_],⟨rfl,trivial⟩,⟨false,rfl,⟨fun e => (nomatch e),fun e => ?_⟩⟩,hx⟩
      exact absurd (by injection e) e2
    ·skip
     refine Cl.enter Tryz.func35 rfl Tryz.ntmps35 rfl rfl (.sr (Rg.wd trivial (w_boxed (cs := [.int .i64 k1,.string t1,c1]) rfl rfl) rfl ?_))
     rintro _ w1 ⟨b2,rfl,q2,hx1,hv2⟩
     replace hx := hx.ext hx1
     refine Rg.wd trivial (w_boxed (cs := [.int .i64 k2,.string t2,c2]) rfl rfl) rfl ?_
     rintro _ w2 ⟨b3,rfl,q3,hx2,hv3⟩
     replace hx := hx.ext hx2
     replace hv2 := hv2.ext hx2
     refine .as rfl rfl (.done (.sr (.tq (t_fieldAddr fa25_0 rfl) rfl (.tq (t_load ty3 rfl (Cells.get (i := 0) hv2.cells rfl)) rfl (.tq (t_fieldAddr fa25_0 rfl) rfl (.tq (t_load ty3 rfl (Cells.get (i := 0) hv3.cells rfl)) rfl (.tq (t_eqlF rfl rfl e1) rfl (.mv rfl rfl (.so rfl rfl (.so rfl rfl (.so rfl rfl (.so rfl rfl ?_))))))))))))
     refine .so rfl rfl (.tq (t_pickF rfl rfl) rfl (.mv rfl rfl (.so rfl rfl (.so rfl rfl (.so rfl rfl (.so rfl rfl (.so rfl rfl (.tq (t_pickF rfl rfl) rfl (.as rfl rfl (.done (Wp.ret ?_)))))))))))
     refine ⟨[_],⟨rfl,trivial⟩,⟨false,rfl,⟨fun e => (nomatch e),fun e => ?_⟩⟩,hx⟩
     exact absurd (by injection e) e1
theorem isToken_ok {w : World} {g : Gt} : Cl Tryz.prog 76 #[.agg g.cells.toArray] w (fun u w' => u = .bool (decide (100 ≤ g.er.kd)) ∧ Ext w w') := by
 have hx := Ext.refl w
 obtain ⟨k,t,cv,l⟩ := g
 refine Cl.enter Tryz.func76 rfl Tryz.ntmps76 rfl rfl (.sr (Rg.wd trivial (w_boxed (cs := [.int .i64 k,.string t,cv]) rfl rfl) rfl ?_))
 rintro _ w1 ⟨b2,rfl,q2,hx1,hv2⟩
 replace hx := hx.ext hx1
 refine .as rfl rfl (.done (.sr (.tq (t_fieldAddr fa25_0 rfl) rfl (.tq (t_load ty3 rfl (Cells.get (i := 0) hv2.cells rfl)) rfl ?_))))
 first | refine .tq (t_geqT rfl rfl (by omega)) rfl ?_ | refine .tq (t_geqF rfl rfl (by omega)) rfl ?_ | refine .tq (t_geq rfl rfl) rfl ?_
 refine .as rfl rfl (.done (Wp.ret ?_))
 exact ⟨[_],⟨rfl,trivial⟩,rfl,hx⟩
theorem B_cons (t : Tok) (l : List Tok) : B (t :: l) = t.2.size + B l := by simp [B]
theorem B_nil : B [] = 0 := rfl
theorem toks_step {s : ByteArray} {o : Nat} (ho : o < s.size) : toks (s.extract o s.size) = ((tok (s.extract o s.size)).2,(s.extract o s.size).extract 0 (tok (s.extract o s.size)).1) :: toks (s.extract (o + (tok (s.extract o s.size)).1) s.size) := by
 have hz : 0 < (s.extract o s.size).size := by rw [Lexi.size_tail]; omega
 have hin := Lexi.tok_in hz
 rw [Lexi.toks_cons hz,Lexi.tail_tail (by omega)]
theorem sigWidth_ok {w : World} {s : ByteArray} (hs : s.size ≤ 2000) (hA : Asc w) : Cl Tryz.prog 75 #[.string s] w (fun u w' => u = .int .i64 (B (taken (toks s))) ∧ Ext w w') := by
 have hx := Ext.refl w
 refine Cl.enter Tryz.func75 rfl Tryz.ntmps75 rfl rfl (.sr (.as rfl rfl (.done (.sr (.as rfl rfl (.done (.seq (Wp.block ?_))))))))
 refine Wp.loop (ι := Nat) (fun o => [(0,.string s),(3,.int .i64 o)])
  (fun o w' => o ≤ s.size ∧ Ext w w' ∧ B (taken (toks s)) = o + B (taken (toks (s.extract o s.size)))) (fun o => s.size - o) 0 (by repeat (first | exact .nil | refine .cons rfl ?_)) ⟨Nat.zero_le _,hx,by rw [Lexi.full]; omega⟩ ?_
 clear hx
 rintro o w9 ⟨ho,hx,he⟩
 by_cases hlt : o < s.size
 ·have hz : 0 < (s.extract o s.size).size := by rw [Lexi.size_tail]; omega
  have hin := Lexi.tok_in hz
  rw [Lexi.size_tail] at hin
  have hst := toks_step hlt
  have hsz : ((s.extract o s.size).extract 0 (tok (s.extract o s.size)).1).size = (tok (s.extract o s.size)).1 := by rw [ByteArray.size_extract,Lexi.size_tail]; omega
  rw [hst] at he
  simp only [taken] at he
  cases ht : isTriv (tok (s.extract o s.size)).2 with
  | true =>
   rw [ht] at he
   simp only [if_true,B_cons,B_nil,hsz] at he
   simp only [isTriv,Bool.or_eq_true,beq_iff_eq] at ht
   rcases ht with ht | ht
   ·skip
    refine .seq (.sr (.mv rfl rfl (.mv rfl rfl (.tq (t_len Tryz.underlying9 rfl) rfl ?_))))
    first | refine .tq (t_lssT rfl rfl (by omega)) rfl ?_ | refine .tq (t_lssF rfl rfl (by omega)) rfl ?_ | refine .tq (t_lss rfl rfl) rfl ?_
    refine .done (.condT rfl (Wp.skip (Wp.block (.sr (.mv rfl rfl (.mv rfl rfl ?_))))))
    refine .tq (t_sliceS Tryz.underlying9 rfl rfl rfl (by omega)) rfl ?_
    refine Rg.wd trivial (w_call Tryz.call46 rfl (first_ok (by rw [Lexi.size_tail]; omega) hz (hA.ext hx))) rfl ?_
    rintro _ w1 ⟨rfl,hx1⟩
    replace hx := hx.ext hx1
    refine .mv rfl rfl (.tq (t_extract rfl rfl) rfl (.tq (t_extract rfl rfl) rfl (.as rfl rfl (.as rfl rfl (.done (.sr (.mv rfl rfl (.mv rfl rfl ?_))))))))
    first | refine .tq (t_addI rfl rfl (by omega)) rfl ?_ | refine .tq (t_add rfl rfl) rfl ?_
    refine .as rfl rfl (.done (.sr (.mv rfl rfl (.tq (t_neqF rfl rfl ht) rfl (.mv rfl rfl (.so rfl rfl (.so rfl rfl (.tq (t_pickF rfl rfl) rfl (.done (.condF rfl (Wp.skip ?_)))))))))))
    exact ⟨o + (tok (s.extract o s.size)).1,by repeat (first | exact .nil | refine .cons rfl ?_),⟨by omega,hx,by rw [he]; omega⟩,by omega⟩
   ·skip
    refine .seq (.sr (.mv rfl rfl (.mv rfl rfl (.tq (t_len Tryz.underlying9 rfl) rfl ?_))))
    first | refine .tq (t_lssT rfl rfl (by omega)) rfl ?_ | refine .tq (t_lssF rfl rfl (by omega)) rfl ?_ | refine .tq (t_lss rfl rfl) rfl ?_
    refine .done (.condT rfl (Wp.skip (Wp.block (.sr (.mv rfl rfl (.mv rfl rfl ?_))))))
    refine .tq (t_sliceS Tryz.underlying9 rfl rfl rfl (by omega)) rfl ?_
    refine Rg.wd trivial (w_call Tryz.call46 rfl (first_ok (by rw [Lexi.size_tail]; omega) hz (hA.ext hx))) rfl ?_
    rintro _ w1 ⟨rfl,hx1⟩
    replace hx := hx.ext hx1
    refine .mv rfl rfl (.tq (t_extract rfl rfl) rfl (.tq (t_extract rfl rfl) rfl (.as rfl rfl (.as rfl rfl (.done (.sr (.mv rfl rfl (.mv rfl rfl ?_))))))))
    first | refine .tq (t_addI rfl rfl (by omega)) rfl ?_ | refine .tq (t_add rfl rfl) rfl ?_
    refine .as rfl rfl (.done (.sr (.mv rfl rfl ?_)))
    refine .tq (t_neqT rfl rfl (by show (tok (s.extract (o : Int).toNat s.size)).2 ≠ 101; rw [Int.toNat_natCast,ht]; decide)) rfl ?_
    refine .mv rfl rfl ?_
    first | refine .gd (t_move rfl) rfl ?_ | refine .so rfl rfl ?_
    refine .gd (t_neqF rfl rfl ht) rfl (.tq (t_pickT rfl rfl) rfl (.done (.condF rfl (Wp.skip ?_))))
    exact ⟨o + (tok (s.extract o s.size)).1,by repeat (first | exact .nil | refine .cons rfl ?_),⟨by omega,hx,by rw [he]; omega⟩,by omega⟩
  | false =>
   rw [ht] at he
   simp only [Bool.false_eq_true,if_false,B_cons,B_nil,hsz] at he
   simp only [isTriv,Bool.or_eq_false_iff,beq_iff_eq,beq_eq_false_iff_ne,ne_eq] at ht
   refine .seq (.sr (.mv rfl rfl (.mv rfl rfl (.tq (t_len Tryz.underlying9 rfl) rfl ?_))))
   first | refine .tq (t_lssT rfl rfl (by omega)) rfl ?_ | refine .tq (t_lssF rfl rfl (by omega)) rfl ?_ | refine .tq (t_lss rfl rfl) rfl ?_
   refine .done (.condT rfl (Wp.skip (Wp.block (.sr (.mv rfl rfl (.mv rfl rfl ?_))))))
   refine .tq (t_sliceS Tryz.underlying9 rfl rfl rfl (by omega)) rfl ?_
   refine Rg.wd trivial (w_call Tryz.call46 rfl (first_ok (by rw [Lexi.size_tail]; omega) hz (hA.ext hx))) rfl ?_
   rintro _ w1 ⟨rfl,hx1⟩
   replace hx := hx.ext hx1
   refine .mv rfl rfl (.tq (t_extract rfl rfl) rfl (.tq (t_extract rfl rfl) rfl (.as rfl rfl (.as rfl rfl (.done (.sr (.mv rfl rfl (.mv rfl rfl ?_))))))))
   first | refine .tq (t_addI rfl rfl (by omega)) rfl ?_ | refine .tq (t_add rfl rfl) rfl ?_
   refine .as rfl rfl (.done (.sr (.mv rfl rfl (.tq (t_neqT rfl rfl ht.1) rfl (.mv rfl rfl ?_)))))
   first | refine .gd (t_move rfl) rfl ?_ | refine .so rfl rfl ?_
   refine .gd (t_neqT rfl rfl ht.2) rfl ?_
   first | refine .tq (t_pickT rfl rfl) rfl ?_ | refine .tq (t_pickF rfl rfl) rfl ?_
   refine .done (.condT rfl (Wp.exit (.sr (.mv rfl rfl (.as rfl rfl (.done (Wp.ret ?_)))))))
   refine ⟨[_],⟨rfl,trivial⟩,?_,hx⟩
   rw [he]
   simp only [tup,Nat.add_zero]
   rfl
 ·have hoz : o = s.size := by omega
  have hn : toks (s.extract o s.size) = [] := Lexi.toks_nil (by rw [Lexi.size_tail]; omega)
  rw [hn] at he
  refine .seq (.sr (.mv rfl rfl (.mv rfl rfl (.tq (t_len Tryz.underlying9 rfl) rfl ?_))))
  first | refine .tq (t_lssT rfl rfl (by omega)) rfl ?_ | refine .tq (t_lssF rfl rfl (by omega)) rfl ?_ | refine .tq (t_lss rfl rfl) rfl ?_
  refine .done (.condF rfl (Wp.exit (.sr (.mv rfl rfl (.as rfl rfl (.done (Wp.ret ?_)))))))
  refine ⟨[_],⟨rfl,trivial⟩,?_,hx⟩
  rw [he]
  simp [tup,taken,B]
end Go.Proofs.YtcelfjbajdffkaaGreatDoor.Par
namespace Go.Proofs.YtcelfjbajdffkaaGreatDoor.Par
set_option maxRecDepth 20000
open Go.Gx Go.RowKit Go.Lib
open Lexi (Asc)
open Lexi (tok toks strCells_add isB_ext writeString_k)
def byt (l : List UInt8) : ByteArray := ⟨l.toArray⟩
theorem byt_list (l : List UInt8) : (byt l).data.toList = l := rfl
theorem byt_size (l : List UInt8) : (byt l).size = l.length := by simp [byt,ByteArray.size]
theorem byt_of (s : ByteArray) : byt s.data.toList = s := rfl
theorem cells_of (s : ByteArray) : strCells s = Lib.byteCells s.data.toList := strCells_eq s
theorem source_ok : ∀ (n : Nat) (g : Gt),g.er.cnt ≤ n → g.er.wf → g.er.txt.length ≤ 1000000 → g.er.cnt ≤ 1000000 → ∀ (w : World),GoL w g → Cl Tryz.prog 22 #[.agg g.cells.toArray] w (fun u w' => u = .string (byt g.er.txt) ∧ Ext w w') := by
 intro n
 induction n with
 | zero =>
  intro g hn
  cases g
  simp [Gt.er,Tr.cnt] at hn
 | succ n ih =>
  intro g hn hwf ht hc w hg
  obtain ⟨k,t,cv,l⟩ := g
  cases hg with
  | mk hs1 h1 hb1 hk1 =>
   simp only [Gt.er,Tr.cnt] at hn hc
   simp only [Gt.er,Tr.txt,List.length_append] at ht
   have hlenk := len_cntL (erL l)
   rw [erL_len] at hlenk
   have hx := Ext.refl w
   have hgs : GsL w l := hk1
   rcases hwf with ⟨h100,hnil⟩ | ⟨h0,h100,hnb,hwl⟩
   ·skip
    refine Cl.enter Tryz.func22 rfl Tryz.ntmps22 rfl rfl (.sr (Rg.wd trivial (w_boxed (cs := [.int .i64 k,.string t,cv]) rfl rfl) rfl ?_))
    rintro _ w1 ⟨b2,rfl,q2,hx1,hv2⟩
    replace hx := hx.ext hx1
    refine .as rfl rfl (.done (.seq (.sr (.tq (t_fieldAddr fa25_0 rfl) rfl (.tq (t_load ty3 rfl (Cells.get (i := 0) hv2.cells rfl)) rfl ?_)))))
    refine .tq (t_geqT rfl rfl (by omega)) rfl ?_
    refine .done (.condT rfl (.sr (.tq (t_fieldAddr fa25_1 rfl) rfl (.tq (t_load ty9 rfl (Cells.get (i := 1) hv2.cells rfl)) rfl (.as rfl rfl (.done (Wp.ret ?_)))))))
    refine ⟨[_],⟨rfl,trivial⟩,?_,hx⟩
    simp only [Gt.er,Tr.txt,hnil,txtL,List.append_nil,byt_of,tup]
   ·skip
    refine Cl.enter Tryz.func22 rfl Tryz.ntmps22 rfl rfl (.sr (Rg.wd trivial (w_boxed (cs := [.int .i64 k,.string t,cv]) rfl rfl) rfl ?_))
    rintro _ w1 ⟨b2,rfl,q2,hx1,hv2⟩
    replace hx := hx.ext hx1
    refine .as rfl rfl (.done (.seq (.sr (.tq (t_fieldAddr fa25_0 rfl) rfl (.tq (t_load ty3 rfl (Cells.get (i := 0) hv2.cells rfl)) rfl ?_)))))
    refine .tq (t_geqF rfl rfl (by omega)) rfl ?_
    refine .done (.condF rfl (Wp.skip (.sr (Rg.wd trivial (w_new Tryz.zeroValue86 rfl) rfl ?_))))
    rintro _ w2 ⟨b7,rfl,qb7,hx2,hv7⟩
    replace hx := hx.ext hx2
    replace hv2 := hv2.ext hx2
    have hB : IsBuilder 86 5 w.heap.size b7 [] w2 := .inl ⟨by have := hx1.le; omega,_,hv7,⟨rfl,.inl ⟨rfl,rfl⟩⟩,by simp [Value.ownBlock]⟩
    have lt7 := hv7.lt
    refine .done (.seq (.sr (.tq (t_fieldAddr fa25_2 rfl) rfl (.tq (t_load ty23 rfl (Cells.get (i := 2) hv2.cells rfl)) rfl (.tq (t_lenC hs1 Tryz.underlying23 rfl) rfl (.mv rfl rfl (.done (Wp.block ?_))))))))
    refine Wp.loop (ι := Nat) (fun k => [(3,.pointer (some ⟨b7,0,none⟩)),(12,cv),(13,.int .i64 l.length),(14,.int .i64 k)])
     (fun k w' => k ≤ l.length ∧ IsBuilder 86 5 w.heap.size b7 (Lib.byteCells (txtL ((erL l).take k))) w' ∧ b7 < w'.heap.size ∧ Ext w w')
     (fun k => l.length - k) 0 (by repeat (first | exact .nil | refine .cons rfl ?_)) ⟨Nat.zero_le _,hB,lt7,hx⟩ ?_
    clear hx hB lt7 hv7 hv2
    rintro j w3 ⟨hj,hB,lt7,hx⟩
    by_cases hlt : j < l.length
    ·have hltE : j < (erL l).length := by rw [erL_len]; exact hlt
     obtain ⟨c,hcm,hce⟩ : ∃ c,c ∈ l ∧ c = l[j] := ⟨_,List.getElem_mem hlt,rfl⟩
     have hem : (erL l)[j] = c.er := by rw [erL_at l j hlt,hce]
     have hmem : c.er ∈ erL l := by rw [erL_map]; exact List.mem_map_of_mem hcm
     have hcw := wfL_mem hwl _ hmem
     have hcc := cntL_mem hmem
     have hct := txtL_take (erL l) j hltE
     have hcl := txtL_le (erL l) (j + 1)
     rw [hem] at hct
     have hgc := (hgs c hcm).ext hx
     have hoc := hgc.oneL
     have hs3 := hs1.ext hx
     refine .sr ?_
     first | refine .tq (t_lssT rfl rfl (by omega)) rfl ?_ | refine .tq (t_lssF rfl rfl (by omega)) rfl ?_ | refine .tq (t_lss rfl rfl) rfl ?_
     refine .done (.seq (.condT rfl (Wp.skip (.seq (Wp.block (.sr ?_))))))
     refine Rg.ix hs3 trivial rfl rfl Tryz.underlying23 ty25 (by omega) rfl ?_
     intro bt16 ot16 ht16
     rw [Int.toNat_natCast,encs_at Gt.len l j hlt,← hce] at ht16
     refine .tq (t_loadA rfl ht16 (by rw [Gt.len]; exact ty25)) rfl ?_
     refine Rg.wd trivial (w_new Tryz.zeroValue25 rfl) rfl ?_
     rintro _ wab5 ⟨b5,rfl,qb5,hxab5,hvab5⟩
     have hxbb := hxab5.le
     refine Rg.wn trivial (w_put (cs := c.cells) hvab5 rfl rfl rfl (by rw [Gt.len]; exact ty25) (by rw [Gt.len]; rfl) (hoc)) ?_
     rintro _ w4 ⟨hub5,hvb5⟩
     have hx4 := hxab5.upd hub5 (Nat.le_of_eq qb5.symm)
     clear hvab5 hub5 hxab5
     replace hx := hx.ext hx4
     replace hgc := hgc.ext hx4
     replace ht16 := ht16.ext hx4
     clear qb5
     refine .done ?_
     replace hB := isB_ext hB hx4
     refine Wp.region ?_
     refine .tq (t_loadA rfl hvb5.cells (by rw [Gt.len]; exact ty25)) rfl ?_
     refine Rg.wd trivial (w_call Tryz.call22 rfl (ih c (by omega) hcw (by omega) (by omega) _ hgc)) rfl ?_
     rintro _ w5 ⟨rfl,hx5⟩
     replace hx := hx.ext hx5
     replace hgc := hgc.ext hx5
     replace ht16 := ht16.ext hx5
     replace hvb5 := hvb5.ext hx5
     replace hB := isB_ext hB hx5
     refine Rg.wd trivial (w_call Tryz.call44 rfl (writeString_k hB (by rw [Lib.byteCells_length,byt_size]; omega) hx.le)) rfl ?_
     rintro _ w80 ⟨rfl,hB2,hb1,hkv⟩
     replace hx : Ext w w80 := Below.trans hx hb1
     replace hB : IsBuilder 86 5 w.heap.size b7 _ w80 := .inr hB2
     replace lt7 := hB2.lt
     rw [cells_of,byt_list,← Lib.byteCells_append] at hB
     refine .done (Wp.region ?_)
     first | refine .tq (t_addI rfl rfl (by omega)) rfl ?_ | refine .tq (t_add rfl rfl) rfl ?_
     refine .mv rfl rfl (.done ?_)
     refine ⟨j + 1,by repeat (first | exact .nil | refine .cons rfl ?_),⟨hlt,?_,lt7,hx⟩,by omega⟩
     rw [List.take_succ_eq_append_getElem hltE,hem,txtL_app]
     simpa [txtL] using hB
    ·have e0 : (erL l).take j = erL l := by rw [show j = (erL l).length from by rw [erL_len]; omega,List.take_length]
     rw [e0] at hB
     refine .sr ?_
     first | refine .tq (t_lssT rfl rfl (by omega)) rfl ?_ | refine .tq (t_lssF rfl rfl (by omega)) rfl ?_ | refine .tq (t_lss rfl rfl) rfl ?_
     refine .done (.seq (.condF rfl (Wp.exit (.sr (Rg.wd trivial (w_call Tryz.call45 rfl (Cl.of (Tryz.Builder_String_any w.heap.size b7 _ w3 hB hx.le))) rfl ?_)))))
     rintro _ w81 ⟨rfl,hb4⟩
     refine .as rfl rfl (.done (Wp.ret ?_))
     refine ⟨[_],⟨rfl,trivial⟩,?_,Below.trans hx hb4⟩
     simp only [tup,Gt.er,Tr.txt,hnb]
     rfl
structure Cm where
 g : Gt
 start : Nat
 fin : Nat
 look : Nat
def Cm.er (c : Cm) : Ch := ⟨c.g.er,c.start,c.fin,c.look⟩
def Cm.cells (c : Cm) : List Value := c.g.cells ++ [.int .i64 c.start,.int .i64 c.fin,.int .i64 c.look]
theorem Cm.len (c : Cm) : c.cells.length = 6 := by simp [Cm.cells,Gt.len]
def cms (s : ByteArray) : Nat → List Gt → List Cm
 | _,[] => []
 | o,g :: l => ⟨g,o,o + g.er.txt.length,sw s (sw s (o + g.er.txt.length))⟩ :: cms s (o + g.er.txt.length) l
theorem cms_er (s : ByteArray) : ∀ (l : List Gt) (o : Nat),(cms s o l).map Cm.er = chs s o (erL l)
 | [],_ => rfl
 | g :: l,o => by simp only [cms,List.map_cons,erL,chs,cms_er s l]; rfl
theorem cms_g (s : ByteArray) : ∀ (l : List Gt) (o : Nat),(cms s o l).map Cm.g = l
 | [],_ => rfl
 | g :: l,o => by simp only [cms,List.map_cons,cms_g s l]
theorem cms_length (s : ByteArray) (l : List Gt) (o : Nat) : (cms s o l).length = l.length := by
 have := congrArg List.length (cms_g s l o)
 simpa using this
theorem cms_snoc (s : ByteArray) : ∀ (l : List Gt) (o : Nat) (g : Gt),cms s o (l ++ [g]) = cms s o l ++ [⟨g,o + (txtL (erL l)).length,o + (txtL (erL l)).length + g.er.txt.length,sw s (sw s (o + (txtL (erL l)).length + g.er.txt.length))⟩]
 | [],o,g => by simp [cms,erL,txtL]
 | x :: l,o,g => by
  simp only [List.cons_append,cms,erL,txtL,List.length_append]
  rw [cms_snoc s l,Nat.add_assoc]
theorem sw_le {s : ByteArray} {o : Nat} (h : o ≤ s.size) : o ≤ sw s o ∧ sw s o ≤ s.size := by
 have h1 := B_toks (s.extract o s.size)
 have h2 := congrArg B (taken_left (toks (s.extract o s.size)))
 rw [B_app] at h2
 have h3 := Lexi.size_tail s o
 unfold sw
 omega
theorem cm_one {w : World} {c : Cm} (h : GoL w c.g) : (c.cells.all (·.oneCell')) = true := by
 have := h.oneL
 simp only [Cm.cells,List.all_append,this,Bool.true_and]
 rfl
set_option maxHeartbeats 1000000 in
theorem children_ok {w : World} {s : ByteArray} {k : Int} {t : ByteArray} {cv : Value} {l : List Gt} (hs : s.size ≤ 2000) (hA : Asc w) (hg : GoL w (.mk k t cv l)) (hwf : wfL (erL l)) (ht : (txtL (erL l)).length ≤ s.size) (hc : cntL (erL l) ≤ 1000000) :
  Cl Tryz.prog 37 #[.string s,.agg (Gt.mk k t cv l).cells.toArray] w (fun u w' => SlC w' u 6 l.length (encs Cm.cells (cms s 0 l)) ∧ Ext w w') := by
 obtain ⟨i,hi,hz,hsi,hby⟩ := inf116
 have hx := Ext.refl w
 have hlenk := len_cntL (erL l)
 rw [erL_len] at hlenk
 cases hg with
 | mk hs1 h1 hb1 hk1 =>
  have hgs : GsL w l := hk1
  refine Cl.enter Tryz.func37 rfl Tryz.ntmps37 rfl rfl (.sr (Rg.wd trivial (w_boxed (cs := [.int .i64 k,.string t,cv]) rfl rfl) rfl ?_))
  rintro _ w1 ⟨b3,rfl,q3,hx1,hv3⟩
  replace hx := hx.ext hx1
  refine .as rfl rfl (.done (.sr (.as rfl rfl (.done (.sr (.as rfl rfl (.done (.seq (.sr (.tq (t_fieldAddr fa25_2 rfl) rfl (.tq (t_load ty23 rfl (Cells.get (i := 2) hv3.cells rfl)) rfl (.tq (t_lenC hs1 Tryz.underlying23 rfl) rfl ?_))))))))))))
  refine .mv rfl rfl (.done (Wp.block ?_))
  refine Wp.loop (ι := Nat × Value) (fun j => [(0,.string s),(5,j.2),(6,.int .i64 ((txtL ((erL l).take j.1)).length)),(12,cv),(13,.int .i64 l.length),(14,.int .i64 j.1)])
   (fun j w' => j.1 ≤ l.length ∧ w'.ownsRow w.heap.size 116 6 j.2 j.1 (encs Cm.cells (cms s 0 (l.take j.1))) ∧ Ext w w')
   (fun j => l.length - j.1) (0,.slice none 0 0) (by repeat (first | exact .nil | refine .cons rfl ?_)) ⟨Nat.zero_le _,own_nil _ _ _ _,hx⟩ ?_
  clear hx hv3
  rintro ⟨j,vr⟩ w3 ⟨hj,hown,hx⟩
  simp only at hj hown ⊢
  by_cases hlt : j < l.length
  ·have hltE : j < (erL l).length := by rw [erL_len]; exact hlt
   obtain ⟨c,hcm,hce⟩ : ∃ c,c ∈ l ∧ c = l[j] := ⟨_,List.getElem_mem hlt,rfl⟩
   have hem : (erL l)[j] = c.er := by rw [erL_at l j hlt,hce]
   have hmem : c.er ∈ erL l := by rw [erL_map]; exact List.mem_map_of_mem hcm
   have hcw := wfL_mem hwf _ hmem
   have hcc := cntL_mem hmem
   have hct := txtL_take (erL l) j hltE
   have hcl := txtL_le (erL l) (j + 1)
   have hcx := txtL_mem hmem
   rw [hem] at hct
   have hgc := (hgs c hcm).ext hx
   have hoc := hgc.oneL
   have hs3 := hs1.ext hx
   obtain ⟨o,ho⟩ : ∃ o,(txtL ((erL l).take j)).length = o := ⟨_,rfl⟩
   rw [ho] at hct ⊢
   have hsw1 := sw_le (s := s) (o := o + c.er.txt.length) (by omega)
   have hsw2 := sw_le (s := s) (o := sw s (o + c.er.txt.length)) hsw1.2
   obtain ⟨ck,ct,ccv,cl⟩ := c
   obtain ⟨cp,cn,cc,rfl⟩ : ∃ p n c,ccv = .slice p n c := by
    cases hgc with
    | mk h1 _ _ _ =>
     obtain ⟨_,p,c,e,_⟩ := h1
     exact ⟨_,_,_,e⟩
   have hcone := cm_one (c := ⟨.mk ck ct (.slice cp cn cc) cl,o,o + (Gt.mk ck ct (.slice cp cn cc) cl).er.txt.length,sw s (sw s (o + (Gt.mk ck ct (.slice cp cn cc) cl).er.txt.length))⟩) hgc
   obtain ⟨tl,htl⟩ : ∃ tl,(Gt.mk ck ct (.slice cp cn cc) cl).er.txt.length = tl := ⟨_,rfl⟩
   rw [htl] at hct hsw1 hsw2 hcone hcx
   refine .sr ?_
   first | refine .tq (t_lssT rfl rfl (by omega)) rfl ?_ | refine .tq (t_lssF rfl rfl (by omega)) rfl ?_ | refine .tq (t_lss rfl rfl) rfl ?_
   refine .done (.seq (.condT rfl (Wp.skip (.seq (Wp.block (.sr ?_))))))
   refine Rg.ix hs3 trivial rfl rfl Tryz.underlying23 ty25 (by omega) rfl ?_
   intro bt16 ot16 ht16
   rw [Int.toNat_natCast,encs_at Gt.len l j hlt,← hce] at ht16
   refine .tq (t_loadA rfl ht16 (by rw [Gt.len]; exact ty25)) rfl ?_
   refine Rg.wd trivial (w_new Tryz.zeroValue25 rfl) rfl ?_
   rintro _ wab8 ⟨b8,rfl,qb8,hxab8,hvab8⟩
   refine Rg.wn trivial (w_put (cs := (Gt.mk ck ct (.slice cp cn cc) cl).cells) hvab8 rfl rfl rfl (by rw [Gt.len]; exact ty25) (by rw [Gt.len]; rfl) (hoc)) ?_
   rintro _ w4 ⟨hub8,hvb8⟩
   have hx4 := hxab8.upd hub8 (Nat.le_of_eq qb8.symm)
   clear hvab8 hub8 hxab8
   replace hx := hx.ext hx4
   replace hgc := hgc.ext hx4
   replace ht16 := ht16.ext hx4
   clear qb8
   refine .done ?_
   replace hown := own_ext hown hx4
   refine .sr (.mv rfl rfl ?_)
   refine .tq (t_loadA rfl hvb8.cells (by rw [Gt.len]; exact ty25)) rfl ?_
   refine Rg.wd trivial (w_call Tryz.call22 rfl (source_ok _ (.mk ck ct (.slice cp cn cc) cl) (Nat.le_refl _) hcw (by rw [htl]; omega) (by omega) _ hgc)) rfl ?_
   rintro _ w5 ⟨rfl,hx5⟩
   replace hx := hx.ext hx5
   replace hgc := hgc.ext hx5
   replace ht16 := ht16.ext hx5
   replace hvb8 := hvb8.ext hx5
   replace hown := own_ext hown hx5
   refine .tq (t_len Tryz.underlying9 rfl) rfl ?_
   rw [byt_size,htl]
   first | refine .tq (t_addI rfl rfl (by omega)) rfl ?_ | refine .tq (t_add rfl rfl) rfl ?_
   rw [show ((o : Int) + (tl : Nat)) = ((o + tl : Nat) : Int) from rfl]
   refine .as rfl rfl (.done (.sr (.mv rfl rfl (.as rfl rfl (.done (.seq (.sr (.mv rfl rfl (.done (Wp.block ?_))))))))))
   refine Wp.loop (ι := Nat) (fun q => [(0,.string s),(5,vr),(6,.int .i64 o),(8,.pointer (some ⟨b8,0,none⟩)),(9,.int .i64 ((o + tl : Nat) : Int)),(10,.int .i64 ((if q = 0 then o + tl else if q = 1 then sw s (o + tl) else sw s (sw s (o + tl)) : Nat) : Int)),(12,cv),(13,.int .i64 l.length),(14,.int .i64 j),(24,.int .i64 q)])
    (fun q w' => q ≤ 2 ∧ Ext w5 w') (fun q => 2 - q) 0 (by simp only [if_true]; repeat (first | exact .nil | refine .cons rfl ?_)) ⟨Nat.zero_le _,Ext.refl _⟩ ?_
   rintro q w6 ⟨hq,hy⟩
   replace hx := hx.ext hy
   replace hvb8 := hvb8.ext hy
   replace hown := own_ext hown hy
   by_cases hq2 : q < 2
   ·obtain ⟨z,hz1⟩ : ∃ z,(if q = 0 then o + tl else if q = 1 then sw s (o + tl) else sw s (sw s (o + tl)) : Nat) = z := ⟨_,rfl⟩
    have hz2 : z ≤ s.size := by rw [← hz1]; split <;> (try split) <;> omega
    have hz3 : (if q + 1 = 0 then o + tl else if q + 1 = 1 then sw s (o + tl) else sw s (sw s (o + tl)) : Nat) = sw s z := by
     rw [← hz1]
     rcases q with _ | _ | q
     ·rfl
     ·rfl
     ·omega
    have hz4 := (sw_le hz2).2
    have hz5 : z + B (taken (toks (s.extract z s.size))) = sw s z := rfl
    rw [hz1]
    refine .sr ?_
    first | refine .tq (t_lssT rfl rfl (by omega)) rfl ?_ | refine .tq (t_lssF rfl rfl (by omega)) rfl ?_ | refine .tq (t_lss rfl rfl) rfl ?_
    refine .done (.seq (.condT rfl (Wp.skip (.seq (Wp.block (Wp.region (.mv rfl rfl (.mv rfl rfl (.mv rfl rfl ?_)))))))))
    refine .tq (t_sliceS Tryz.underlying9 rfl rfl rfl (by omega)) rfl ?_
    refine Rg.wd trivial (w_call Tryz.call75 rfl (sigWidth_ok (s := s.extract z s.size) (by rw [Lexi.size_tail]; omega) (hA.ext hx))) rfl ?_
    rintro _ w7 ⟨rfl,hx7⟩
    replace hx := hx.ext hx7
    replace hy := hy.ext hx7
    first | refine .tq (t_addI rfl rfl (by omega)) rfl ?_ | refine .tq (t_add rfl rfl) rfl ?_
    rw [show ((z : Int) + (B (taken (toks (s.extract z s.size))) : Nat)) = ((sw s z : Nat) : Int) from by rw [← hz5]; rfl]
    refine .as rfl rfl (.done (Wp.region ?_))
    first | refine .tq (t_addI rfl rfl (by omega)) rfl ?_ | refine .tq (t_add rfl rfl) rfl ?_
    refine .mv rfl rfl (.done ?_)
    exact ⟨q + 1,by rw [hz3]; repeat (first | exact .nil | refine .cons rfl ?_),⟨hq2,hy⟩,by omega⟩
   ·obtain rfl : q = 2 := by omega
    simp only [show ((2 : Nat) = 0) = False from by simp,show ((2 : Nat) = 1) = False from by simp,if_false]
    refine .sr ?_
    first | refine .tq (t_lssT rfl rfl (by omega)) rfl ?_ | refine .tq (t_lssF rfl rfl (by omega)) rfl ?_ | refine .tq (t_lss rfl rfl) rfl ?_
    refine .done (.seq (.condF rfl (Wp.exit (.sr (.mv rfl rfl ?_)))))
    refine .tq (t_loadA rfl hvb8.cells (by rw [Gt.len]; exact ty25)) rfl ?_
    refine .mv rfl rfl (.mv rfl rfl (.mv rfl rfl (.tq (t_build (bd116_0_1_2_3 _ _ _ _ _ _ _ _) rfl) rfl (Rg.wd trivial (w_buildSlice (bs75_1 _ _ _ _ _ _ _ _) rfl) rfl ?_))))
    rintro _ wb ⟨bb,rfl,qb,hxb,hvb⟩
    replace hx := hx.ext hxb
    replace hown := own_ext hown hxb
    refine Rg.wd trivial (w_append w.heap.size Tryz.underlying75 hi hz hsi hby rfl (by decide) rfl rfl hown rfl (fun j u hu => by rw [addr_add]; exact hvb.cells j u hu) (List.all_eq_true.1 hcone) (by unfold maxLen; omega) (by omega) hx.le) rfl ?_
    rintro v2 wc ⟨hown2,hgr,p2,l2,c2,rfl⟩
    replace hx := own_ext3 hx hown hgr
    refine .as rfl rfl (.done (Wp.region (.mv rfl rfl (.as rfl rfl (.done (Wp.region ?_))))))
    first | refine .tq (t_addI rfl rfl (by omega)) rfl ?_ | refine .tq (t_add rfl rfl) rfl ?_
    refine .mv rfl rfl (.done ?_)
    refine ⟨(j + 1,.slice p2 l2 c2),by rw [hct]; repeat (first | exact .nil | refine .cons rfl ?_),⟨hlt,?_,hx⟩,by simp only; omega⟩
    have e5 : encs Cm.cells (cms s 0 (l.take (j + 1))) = encs Cm.cells (cms s 0 (l.take j)) ++ Cm.cells ⟨.mk ck ct (.slice cp cn cc) cl,o,o + tl,sw s (sw s (o + tl))⟩ := by
     rw [List.take_succ_eq_append_getElem hlt,← hce,cms_snoc,encs_app,show txtL (erL (l.take j)) = txtL ((erL l).take j) from by rw [erL_map,erL_map,List.map_take],ho,htl]
     simp only [Nat.zero_add,encs,List.flatMap_cons,List.flatMap_nil,List.append_nil]
    rw [e5]
    exact hown2
  ·obtain rfl : j = l.length := by omega
   rw [List.take_length] at hown
   refine .sr ?_
   first | refine .tq (t_lssT rfl rfl (by omega)) rfl ?_ | refine .tq (t_lssF rfl rfl (by omega)) rfl ?_ | refine .tq (t_lss rfl rfl) rfl ?_
   refine .done (.seq (.condF rfl (Wp.exit (.sr (.mv rfl rfl (.as rfl rfl (.done (Wp.ret ?_))))))))
   exact ⟨[_],⟨rfl,trivial⟩,own_slice hown,hx⟩
end Go.Proofs.YtcelfjbajdffkaaGreatDoor.Par
namespace Go.Proofs.YtcelfjbajdffkaaGreatDoor.Par
set_option maxRecDepth 20000
open Go.Gx Go.RowKit Go.Lib
open Lexi (Asc)
open Lexi (tok toks tcs tcs_at tcs_drop tcs_length TE)
theorem B_drop (l : List Tok) (j : Nat) (h : j < l.length) : B (l.drop j) = l[j].2.size + B (l.drop (j + 1)) := by
 rw [List.drop_eq_getElem_cons h,B_cons]
theorem B_take (l : List Tok) (j : Nat) (h : j < l.length) : B (l.take (j + 1)) = B (l.take j) + l[j].2.size := by
 rw [List.take_succ_eq_append_getElem h,B_app,B_cons,B_nil,Nat.add_zero]
theorem B_le_drop (l : List Tok) (j : Nat) : B (l.drop j) ≤ B l := by
 have := B_app (l.take j) (l.drop j)
 rw [List.take_append_drop] at this
 omega
theorem skip_ok {wB w : World} {v : Value} {u l : List Tok} (hs : SlC wB v 2 (u ++ l).length (tcs (u ++ l))) (hv : V (u ++ l)) (hb : B (u ++ l) ≤ 1000000) (hwB : Ext wB w) :
  Cl Tryz.prog 40 #[v,.int .i64 (B u : Nat)] w (fun r w' => SlC wB r 2 l.length (tcs l) ∧ Ext w w') := by
 have hx := Ext.refl w
 refine Cl.enter Tryz.func40 rfl Tryz.ntmps40 rfl rfl (.sr (.as rfl rfl (.done (.seq (Wp.block ?_)))))
 refine Wp.loop (ι := Nat × Value) (fun j => [(0,j.2),(1,.int .i64 (B (u.drop j.1) : Nat))])
  (fun j w' => j.1 ≤ u.length ∧ SlC wB j.2 2 ((u ++ l).drop j.1).length (tcs ((u ++ l).drop j.1)) ∧ Ext w w') (fun j => u.length - j.1) (0,v) (by repeat (first | exact .nil | refine .cons rfl ?_)) ⟨Nat.zero_le _,hs,hx⟩ ?_
 clear hx
 rintro ⟨j,vr⟩ w3 ⟨hj,hr0,hx⟩
 simp only at hj hr0 ⊢
 by_cases hlt : j < u.length
 ·have hlt2 : j < (u ++ l).length := by rw [List.length_append]; omega
  have hbd := B_drop u j hlt
  have hu := B_le_drop u j
  have hua := B_app u l
  have hpos : 0 < u[j].2.size := (hv _ (List.mem_append_left _ (List.getElem_mem hlt))).1
  have hd0 : 0 < ((u ++ l).drop j).length := by rw [List.length_drop]; omega
  have hget : ((u ++ l).drop j)[0] = u[j] := by rw [List.getElem_drop]; simp [List.getElem_append_left hlt]
  have hlen : ((u ++ l).drop (j + 1)).length = ((u ++ l).drop j).length - 1 := by rw [List.length_drop,List.length_drop]; omega
  refine .seq (.sr (.mv rfl rfl ?_))
  refine .tq (t_gtrT rfl rfl (by omega)) rfl ?_
  refine .done (.condT rfl (Wp.skip (Wp.block (.sr (.mv rfl rfl (.mv rfl rfl ?_))))))
  refine Rg.ix hr0 trivial rfl rfl Tryz.underlying49 ty55 (by omega) rfl ?_
  intro bt9 ot9 ht9
  replace ht9 := ht9.ext (hwB.ext hx)
  rw [show (0 : Int).toNat = 0 from rfl,tcs_at _ 0 hd0,hget] at ht9
  refine .tq (t_fieldAddr fa55_1 rfl) rfl (.tq (t_load ty9 rfl (Cells.get (i := 1) ht9 rfl)) rfl (.tq (t_len Tryz.underlying9 rfl) rfl ?_))
  refine .tq (t_subI rfl rfl (by omega)) rfl ?_
  rw [show ((B (u.drop j) : Nat) : Int) - (u[j].2.size : Nat) = ((B (u.drop (j + 1)) : Nat) : Int) from by omega]
  refine .as rfl rfl (.done (Wp.region (.mv rfl rfl ?_)))
  refine Rg.sl hr0 trivial rfl Tryz.underlying49 ty55 rfl rfl (by omega) rfl ?_
  intro vt15 ht150
  refine .as rfl rfl (.done ?_)
  refine ⟨(j + 1,vt15),by repeat (first | exact .nil | refine .cons rfl ?_),⟨hlt,?_,hx⟩,by simp only; omega⟩
  have e : (tcs ((u ++ l).drop j)).drop ((1 : Int).toNat * 2) = tcs ((u ++ l).drop (j + 1)) := by
   rw [show (1 : Int).toNat = 1 from rfl,tcs_drop,List.drop_drop]
  have h := ht150
  rw [e] at h
  rw [hlen]
  have e2 : (tcs ((u ++ l).drop (j + 1))).take ((((((u ++ l).drop j).length : Nat) : Int).toNat - (1 : Int).toNat) * 2) = tcs ((u ++ l).drop (j + 1)) := List.take_of_length_le (by rw [tcs_length,hlen]; simp)
  rw [e2] at h
  exact h
 ·obtain rfl : j = u.length := by omega
  have hz : B (u.drop u.length) = 0 := by rw [List.drop_length]; rfl
  rw [List.drop_left' rfl] at hr0
  refine .seq (.sr (.mv rfl rfl ?_))
  refine .tq (t_gtrF rfl rfl (by omega)) rfl ?_
  refine .done (.condF rfl (Wp.exit (.sr (.mv rfl rfl (.as rfl rfl (.done (Wp.ret ?_)))))))
  exact ⟨[_],⟨rfl,trivial⟩,hr0,hx⟩
theorem eq55_no {a b : Int} {x y : ByteArray} (h : (a,x) ≠ (b,y)) : (a == b && x.toList == y.toList) = false := by
 rw [bytes_beq]
 by_cases h1 : a = b
 ·subst h1
  have h2 : x ≠ y := fun e => h (by rw [e])
  simp [h2]
 ·simp [h1]
theorem stable_ok {w : World} {v1 v2 : Value} {T N : List Tok} {e : TE} (hs1 : SlC w v1 2 T.length (tcs T)) (hs2 : SlC w v2 2 N.length (tcs N)) (hb1 : B T ≤ 1000000) (hl1 : T.length ≤ 1000000) (hl2 : N.length ≤ 1000000) :
  Cl Tryz.prog 38 #[v1,v2,.agg e.cells.toArray] w (fun r w' => (∃ n : Nat,r = .int .i64 n ∧ n ≤ T.length ∧ ∃ x x' z,T = x ++ z ∧ N = x' ++ z ∧ z.length = n) ∧ Ext w w') := by
 have hx := Ext.refl w
 obtain ⟨ea,eb,es⟩ := e
 refine Cl.enter Tryz.func38 rfl Tryz.ntmps38 rfl rfl (.sr (Rg.wd trivial (w_boxed (cs := [.int .i64 ea,.int .i64 eb,.string es]) rfl rfl) rfl ?_))
 rintro _ w1 ⟨b5,rfl,q5,hx1,hv5⟩
 replace hx := hx.ext hx1
 replace hs1 := hs1.ext hx1
 replace hs2 := hs2.ext hx1
 refine .as rfl rfl (.done (.sr (.as rfl rfl (.as rfl rfl (.done (.seq (.sr (.mv rfl rfl (.tq (t_lenC hs1 Tryz.underlying49 rfl) rfl (.mv rfl rfl (.done (Wp.block ?_))))))))))))
 refine Wp.loop (ι := Nat) (fun k => [(0,v1),(1,v2),(5,.pointer (some ⟨b5,0,none⟩)),(7,.int .i64 0),(8,.int .i64 (B (T.take k) : Nat)),(11,v1),(12,.int .i64 T.length),(13,.int .i64 k)])
  (fun k w' => k ≤ T.length ∧ Ext w1 w') (fun k => T.length - k) 0 (by repeat (first | exact .nil | refine .cons rfl ?_)) ⟨Nat.zero_le _,Ext.refl _⟩ ?_
 rintro k w3 ⟨hk,hy⟩
 replace hx := hx.ext hy
 replace hs1 := hs1.ext hy
 replace hs2 := hs2.ext hy
 replace hv5 := hv5.ext hy
 by_cases hlt : k < T.length
 ·have hbt := B_take T k hlt
  have hbl := B_app (T.take (k + 1)) (T.drop (k + 1))
  rw [List.take_append_drop] at hbl
  refine .sr ?_
  first | refine .tq (t_lssT rfl rfl (by omega)) rfl ?_ | refine .tq (t_lssF rfl rfl (by omega)) rfl ?_ | refine .tq (t_lss rfl rfl) rfl ?_
  refine .done (.seq (.condT rfl (Wp.skip (.seq (Wp.block (.sr ?_))))))
  refine Rg.ix hs1 trivial rfl rfl Tryz.underlying49 ty55 (by omega) rfl ?_
  intro bt15 ot15 ht15
  rw [Int.toNat_natCast,tcs_at T k hlt] at ht15
  refine .tq (t_loadA rfl ht15 ty55) rfl (Rg.wd trivial (w_new Tryz.zeroValue55 rfl) rfl ?_)
  rintro _ wab10 ⟨b10,rfl,qb10,hxab10,hvab10⟩
  refine Rg.wn trivial (w_put (cs := [.int .i64 T[k].1,.string T[k].2]) hvab10 rfl rfl rfl (ty55) (rfl) (rfl)) ?_
  rintro _ w4 ⟨hub10,hvb10⟩
  have hx4 := hxab10.upd hub10 (Nat.le_of_eq qb10.symm)
  clear hvab10 hub10 hxab10
  replace hx := hx.ext hx4
  replace hs1 := hs1.ext hx4
  replace hs2 := hs2.ext hx4
  replace hv5 := hv5.ext hx4
  replace hy := hy.ext hx4
  replace ht15 := ht15.ext hx4
  clear qb10
  refine .done (Wp.region (.mv rfl rfl (.tq (t_fieldAddr fa55_1 rfl) rfl (.tq (t_load ty9 rfl (Cells.get (i := 1) hvb10.cells rfl)) rfl (.tq (t_len Tryz.underlying9 rfl) rfl ?_)))))
  refine .tq (t_addI rfl rfl (by omega)) rfl ?_
  rw [show ((B (T.take k) : Nat) : Int) + (T[k].2.size : Nat) = ((B (T.take (k + 1)) : Nat) : Int) from by omega]
  refine .as rfl rfl (.done (Wp.region ?_))
  first | refine .tq (t_addI rfl rfl (by omega)) rfl ?_ | refine .tq (t_add rfl rfl) rfl ?_
  refine .mv rfl rfl (.done ?_)
  exact ⟨k + 1,by repeat (first | exact .nil | refine .cons rfl ?_),⟨hlt,hy⟩,by omega⟩
 ·obtain rfl : k = T.length := by omega
  rw [List.take_length]
  refine .sr ?_
  first | refine .tq (t_lssT rfl rfl (by omega)) rfl ?_ | refine .tq (t_lssF rfl rfl (by omega)) rfl ?_ | refine .tq (t_lss rfl rfl) rfl ?_
  refine .done (.seq (.condF rfl (Wp.exit (.seq (Wp.block ?_)))))
  refine Wp.loop (ι := Nat) (fun n => [(0,v1),(1,v2),(5,.pointer (some ⟨b5,0,none⟩)),(7,.int .i64 n),(8,.int .i64 (B (T.take (T.length - n)) : Nat))])
   (fun n w' => n ≤ T.length ∧ n ≤ N.length ∧ T.drop (T.length - n) = N.drop (N.length - n) ∧ Ext w3 w') (fun n => T.length - n) 0 (by rw [Nat.sub_zero,List.take_length]; repeat (first | exact .nil | refine .cons rfl ?_)) ⟨Nat.zero_le _,Nat.zero_le _,by simp,Ext.refl _⟩ ?_
  rintro n w4 ⟨hn1,hn2,he,hz⟩
  replace hx := hx.ext hz
  replace hs1 := hs1.ext hz
  replace hs2 := hs2.ext hz
  replace hv5 := hv5.ext hz
  have hfin : ∃ x x' z,T = x ++ z ∧ N = x' ++ z ∧ z.length = n := ⟨_,_,_,(List.take_append_drop (T.length - n) T).symm,by rw [he,List.take_append_drop],by rw [List.length_drop]; omega⟩
  by_cases h1 : n < T.length
  ·by_cases h2 : n < N.length
   ·have hi1 : T.length - 1 - n < T.length := by omega
    have hi2 : N.length - 1 - n < N.length := by omega
    have hte := B_take T (T.length - 1 - n) hi1
    rw [show T.length - 1 - n + 1 = T.length - n from by omega] at hte
    have hbl := B_app (T.take (T.length - n)) (T.drop (T.length - n))
    rw [List.take_append_drop] at hbl
    have hd1 : T.drop (T.length - (n + 1)) = T[T.length - 1 - n] :: T.drop (T.length - n) := by
     rw [show T.length - (n + 1) = T.length - 1 - n from by omega,List.drop_eq_getElem_cons hi1,show T.length - 1 - n + 1 = T.length - n from by omega]
    have hd2 : N.drop (N.length - (n + 1)) = N[N.length - 1 - n] :: N.drop (N.length - n) := by
     rw [show N.length - (n + 1) = N.length - 1 - n from by omega,List.drop_eq_getElem_cons hi2,show N.length - 1 - n + 1 = N.length - n from by omega]
    have hci1 : ((T.length : Int) - 1 - (n : Nat)) = ((T.length - 1 - n : Nat) : Int) := by omega
    have hci2 : ((N.length : Int) - 1 - (n : Nat)) = ((N.length - 1 - n : Nat) : Int) := by omega
    have hlt1 : T.take (T.length - (n + 1)) = T.take (T.length - 1 - n) := by rw [show T.length - (n + 1) = T.length - 1 - n from by omega]
    by_cases heq : T[T.length - 1 - n] = N[N.length - 1 - n]
    ·skip
     refine .seq ?_
     refine Wp.seq (Wp.draw [0,1,2,3,4,5,6,7,8,9,10,11,12,13,14,15,16,17,18,19,20,21,22,23,24,25,26,27,28] [] mixed (by kernel_rfl) (by kernel_rfl) ?_)
     intro w5 hx5 _
     replace hx := hx.ext hx5
     replace hs1 := hs1.ext hx5
     replace hs2 := hs2.ext hx5
     replace hv5 := hv5.ext hx5
     replace hz := hz.ext hx5
     refine .mv rfl rfl (.mv rfl rfl (.tq (t_lenC hs1 Tryz.underlying49 rfl) rfl ?_))
     refine .tq (t_lssT rfl rfl (by omega)) rfl ?_
     refine .mv rfl rfl ?_
     first | refine .gd (t_move rfl) rfl ?_ | refine .so rfl rfl ?_
     first | refine .gd (t_move rfl) rfl ?_ | refine .so rfl rfl ?_
     first | refine .gd (t_lenC hs2 Tryz.underlying49 rfl) rfl ?_ | refine .so rfl rfl ?_
     refine .gd (t_lssT rfl rfl (by omega)) rfl ?_
     first | refine .tq (t_pickT rfl rfl) rfl ?_ | refine .tq (t_pickF rfl rfl) rfl ?_
     refine .mv rfl rfl ?_
     first | refine .gd (t_move rfl) rfl ?_ | refine .so rfl rfl ?_
     first | refine .gd (t_move rfl) rfl ?_ | refine .so rfl rfl ?_
     first | refine .gd (t_lenC hs1 Tryz.underlying49 rfl) rfl ?_ | refine .so rfl rfl ?_
     first | refine .gd (t_subI rfl rfl (by omega)) rfl ?_ | refine .gd (t_sub rfl rfl) rfl ?_ | refine .so rfl rfl ?_
     first | refine .gd (t_move rfl) rfl ?_ | refine .so rfl rfl ?_
     first | refine .gd (t_subI rfl rfl (by omega)) rfl ?_ | refine .gd (t_sub rfl rfl) rfl ?_ | refine .so rfl rfl ?_
     rw [hci1]
     refine Rg.ix hs1 ⟨_,rfl,rfl⟩ rfl rfl Tryz.underlying49 ty55 (by omega) rfl ?_
     intro bt40 ot40 ht40
     rw [Int.toNat_natCast,tcs_at T _ hi1] at ht40
     refine .gd (t_loadA rfl ht40 ty55) rfl ?_
     first | refine .gd (t_move rfl) rfl ?_ | refine .so rfl rfl ?_
     first | refine .gd (t_move rfl) rfl ?_ | refine .so rfl rfl ?_
     first | refine .gd (t_lenC hs2 Tryz.underlying49 rfl) rfl ?_ | refine .so rfl rfl ?_
     first | refine .gd (t_subI rfl rfl (by omega)) rfl ?_ | refine .gd (t_sub rfl rfl) rfl ?_ | refine .so rfl rfl ?_
     first | refine .gd (t_move rfl) rfl ?_ | refine .so rfl rfl ?_
     first | refine .gd (t_subI rfl rfl (by omega)) rfl ?_ | refine .gd (t_sub rfl rfl) rfl ?_ | refine .so rfl rfl ?_
     rw [hci2]
     refine Rg.ix hs2 ⟨_,rfl,rfl⟩ rfl rfl Tryz.underlying49 ty55 (by omega) rfl ?_
     intro bt48 ot48 ht48
     rw [Int.toNat_natCast,tcs_at N _ hi2] at ht48
     refine .gd (t_loadA rfl ht48 ty55) rfl ?_
     refine .gd (t_eqlAgg (b := true) (by kernel_rfl) (fun w => (Lexi.eq39 _ _ _ _ w).trans (by rw [heq]; simp)) rfl rfl) rfl ?_
     first | refine .tq (t_pickT rfl rfl) rfl ?_ | refine .tq (t_pickF rfl rfl) rfl ?_
     refine .done (.condT rfl (Wp.skip (Wp.block (.sr (.mv rfl rfl (.mv rfl rfl (.mv rfl rfl (.tq (t_lenC hs1 Tryz.underlying49 rfl) rfl ?_))))))))
     first | refine .tq (t_subI rfl rfl (by omega)) rfl ?_ | refine .tq (t_sub rfl rfl) rfl ?_
     refine .mv rfl rfl ?_
     first | refine .tq (t_subI rfl rfl (by omega)) rfl ?_ | refine .tq (t_sub rfl rfl) rfl ?_
     rw [hci1]
     refine Rg.ix hs1 trivial rfl rfl Tryz.underlying49 ty55 (by omega) rfl ?_
     intro bt59 ot59 ht59
     rw [Int.toNat_natCast,tcs_at T _ hi1] at ht59
     refine .tq (t_fieldAddr fa55_1 rfl) rfl (.tq (t_load ty9 rfl (Cells.get (i := 1) ht59 rfl)) rfl (.tq (t_len Tryz.underlying9 rfl) rfl ?_))
     refine .tq (t_subI rfl rfl (by omega)) rfl ?_
     rw [show ((B (T.take (T.length - n)) : Nat) : Int) - (T[T.length - 1 - n].2.size : Nat) = ((B (T.take (T.length - (n + 1))) : Nat) : Int) from by rw [hlt1]; omega]
     refine .as rfl rfl (.done (.seq (.sr (.mv rfl rfl (.tq (t_fieldAddr fa41_1 rfl) rfl (.tq (t_load ty3 rfl (Cells.get (i := 1) hv5.cells rfl)) rfl ?_))))))
     first | refine .tq (t_lssT rfl rfl (by omega)) rfl ?_ | refine .tq (t_lssF rfl rfl (by omega)) rfl ?_ | refine .tq (t_lss rfl rfl) rfl ?_
     refine .done ?_
     by_cases hend : ((B (T.take (T.length - (n + 1))) : Nat) : Int) < eb
     ·rw [decide_eq_true hend]
      refine .condT rfl (Wp.exit (.sr (.mv rfl rfl (.as rfl rfl (.done (Wp.ret ?_))))))
      exact ⟨[_],⟨rfl,trivial⟩,⟨n,rfl,hn1,hfin⟩,hx⟩
     ·rw [decide_eq_false hend]
      refine .condF rfl (Wp.skip (Wp.region (.mv rfl rfl ?_)))
      first | refine .tq (t_addI rfl rfl (by omega)) rfl ?_ | refine .tq (t_add rfl rfl) rfl ?_
      refine .as rfl rfl (.done ?_)
      exact ⟨n + 1,by repeat (first | exact .nil | refine .cons rfl ?_),⟨h1,h2,by rw [hd1,hd2,heq,he],hz⟩,by omega⟩
    ·skip
     refine .seq ?_
     refine Wp.seq (Wp.draw [0,1,2,3,4,5,6,7,8,9,10,11,12,13,14,15,16,17,18,19,20,21,22,23,24,25,26,27,28] [] mixed (by kernel_rfl) (by kernel_rfl) ?_)
     intro w5 hx5 _
     replace hx := hx.ext hx5
     replace hs1 := hs1.ext hx5
     replace hs2 := hs2.ext hx5
     replace hv5 := hv5.ext hx5
     replace hz := hz.ext hx5
     refine .mv rfl rfl (.mv rfl rfl (.tq (t_lenC hs1 Tryz.underlying49 rfl) rfl ?_))
     refine .tq (t_lssT rfl rfl (by omega)) rfl ?_
     refine .mv rfl rfl ?_
     first | refine .gd (t_move rfl) rfl ?_ | refine .so rfl rfl ?_
     first | refine .gd (t_move rfl) rfl ?_ | refine .so rfl rfl ?_
     first | refine .gd (t_lenC hs2 Tryz.underlying49 rfl) rfl ?_ | refine .so rfl rfl ?_
     refine .gd (t_lssT rfl rfl (by omega)) rfl ?_
     first | refine .tq (t_pickT rfl rfl) rfl ?_ | refine .tq (t_pickF rfl rfl) rfl ?_
     refine .mv rfl rfl ?_
     first | refine .gd (t_move rfl) rfl ?_ | refine .so rfl rfl ?_
     first | refine .gd (t_move rfl) rfl ?_ | refine .so rfl rfl ?_
     first | refine .gd (t_lenC hs1 Tryz.underlying49 rfl) rfl ?_ | refine .so rfl rfl ?_
     first | refine .gd (t_subI rfl rfl (by omega)) rfl ?_ | refine .gd (t_sub rfl rfl) rfl ?_ | refine .so rfl rfl ?_
     first | refine .gd (t_move rfl) rfl ?_ | refine .so rfl rfl ?_
     first | refine .gd (t_subI rfl rfl (by omega)) rfl ?_ | refine .gd (t_sub rfl rfl) rfl ?_ | refine .so rfl rfl ?_
     rw [hci1]
     refine Rg.ix hs1 ⟨_,rfl,rfl⟩ rfl rfl Tryz.underlying49 ty55 (by omega) rfl ?_
     intro bt40 ot40 ht40
     rw [Int.toNat_natCast,tcs_at T _ hi1] at ht40
     refine .gd (t_loadA rfl ht40 ty55) rfl ?_
     first | refine .gd (t_move rfl) rfl ?_ | refine .so rfl rfl ?_
     first | refine .gd (t_move rfl) rfl ?_ | refine .so rfl rfl ?_
     first | refine .gd (t_lenC hs2 Tryz.underlying49 rfl) rfl ?_ | refine .so rfl rfl ?_
     first | refine .gd (t_subI rfl rfl (by omega)) rfl ?_ | refine .gd (t_sub rfl rfl) rfl ?_ | refine .so rfl rfl ?_
     first | refine .gd (t_move rfl) rfl ?_ | refine .so rfl rfl ?_
     first | refine .gd (t_subI rfl rfl (by omega)) rfl ?_ | refine .gd (t_sub rfl rfl) rfl ?_ | refine .so rfl rfl ?_
     rw [hci2]
     refine Rg.ix hs2 ⟨_,rfl,rfl⟩ rfl rfl Tryz.underlying49 ty55 (by omega) rfl ?_
     intro bt48 ot48 ht48
     rw [Int.toNat_natCast,tcs_at N _ hi2] at ht48
     refine .gd (t_loadA rfl ht48 ty55) rfl ?_
     refine .gd (t_eqlAgg (b := false) (by kernel_rfl) (fun w => (Lexi.eq39 _ _ _ _ w).trans (congrArg (fun b => Result.ok b w) (eq55_no heq))) rfl rfl) rfl ?_
     first | refine .tq (t_pickT rfl rfl) rfl ?_ | refine .tq (t_pickF rfl rfl) rfl ?_
     refine .done (.condF rfl (Wp.exit (.sr (.mv rfl rfl (.as rfl rfl (.done (Wp.ret ?_)))))))
     exact ⟨[_],⟨rfl,trivial⟩,⟨n,rfl,hn1,hfin⟩,hx⟩
   ·skip
    refine .seq ?_
    refine Wp.seq (Wp.draw [0,1,2,3,4,5,6,7,8,9,10,11,12,13,14,15,16,17,18,19,20,21,22,23,24,25,26,27,28] [] mixed (by kernel_rfl) (by kernel_rfl) ?_)
    intro w5 hx5 _
    replace hx := hx.ext hx5
    replace hs1 := hs1.ext hx5
    replace hs2 := hs2.ext hx5
    replace hv5 := hv5.ext hx5
    replace hz := hz.ext hx5
    refine .mv rfl rfl (.mv rfl rfl (.tq (t_lenC hs1 Tryz.underlying49 rfl) rfl ?_))
    refine .tq (t_lssT rfl rfl (by omega)) rfl ?_
    refine .mv rfl rfl ?_
    first | refine .gd (t_move rfl) rfl ?_ | refine .so rfl rfl ?_
    first | refine .gd (t_move rfl) rfl ?_ | refine .so rfl rfl ?_
    first | refine .gd (t_lenC hs2 Tryz.underlying49 rfl) rfl ?_ | refine .so rfl rfl ?_
    refine .gd (t_lssF rfl rfl (by omega)) rfl ?_
    first | refine .tq (t_pickT rfl rfl) rfl ?_ | refine .tq (t_pickF rfl rfl) rfl ?_
    refine .mv rfl rfl (.so rfl rfl (.so rfl rfl (.so rfl rfl (.so rfl rfl (.so rfl rfl (.so rfl rfl (.so rfl rfl (.so rfl rfl (.so rfl rfl (.so rfl rfl (.so rfl rfl (.so rfl rfl ?_))))))))))))
    refine .so rfl rfl (.so rfl rfl (.so rfl rfl (.so rfl rfl (.so rfl rfl ?_))))
    first | refine .tq (t_pickT rfl rfl) rfl ?_ | refine .tq (t_pickF rfl rfl) rfl ?_
    refine .done (.condF rfl (Wp.exit (.sr (.mv rfl rfl (.as rfl rfl (.done (Wp.ret ?_)))))))
    exact ⟨[_],⟨rfl,trivial⟩,⟨n,rfl,hn1,hfin⟩,hx⟩
  ·skip
   refine .seq ?_
   refine Wp.seq (Wp.draw [0,1,2,3,4,5,6,7,8,9,10,11,12,13,14,15,16,17,18,19,20,21,22,23,24,25,26,27,28] [] mixed (by kernel_rfl) (by kernel_rfl) ?_)
   intro w5 hx5 _
   replace hx := hx.ext hx5
   replace hs1 := hs1.ext hx5
   replace hs2 := hs2.ext hx5
   replace hv5 := hv5.ext hx5
   replace hz := hz.ext hx5
   refine .mv rfl rfl (.mv rfl rfl (.tq (t_lenC hs1 Tryz.underlying49 rfl) rfl ?_))
   refine .tq (t_lssF rfl rfl (by omega)) rfl ?_
   refine .mv rfl rfl (.so rfl rfl (.so rfl rfl (.so rfl rfl (.so rfl rfl ?_))))
   first | refine .tq (t_pickT rfl rfl) rfl ?_ | refine .tq (t_pickF rfl rfl) rfl ?_
   refine .mv rfl rfl (.so rfl rfl (.so rfl rfl (.so rfl rfl (.so rfl rfl (.so rfl rfl (.so rfl rfl (.so rfl rfl (.so rfl rfl (.so rfl rfl (.so rfl rfl (.so rfl rfl (.so rfl rfl ?_))))))))))))
   refine .so rfl rfl (.so rfl rfl (.so rfl rfl (.so rfl rfl (.so rfl rfl ?_))))
   first | refine .tq (t_pickT rfl rfl) rfl ?_ | refine .tq (t_pickF rfl rfl) rfl ?_
   refine .done (.condF rfl (Wp.exit (.sr (.mv rfl rfl (.as rfl rfl (.done (Wp.ret ?_)))))))
   exact ⟨[_],⟨rfl,trivial⟩,⟨n,rfl,hn1,hfin⟩,hx⟩
end Go.Proofs.YtcelfjbajdffkaaGreatDoor.Par
