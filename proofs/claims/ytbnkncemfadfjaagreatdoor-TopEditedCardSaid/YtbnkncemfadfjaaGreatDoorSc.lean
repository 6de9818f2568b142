/- The walks of package workspace and of the server's setInputs, replace. Printed by r3/toph.py. -/
import Derived.Test.YtbnkncemfadfjaaGreatDoorSb
import Derived.Test.YtbnkncemfadfjaaGreatDoorLf
namespace Go.Proofs.YtbnkncemfadfjaaGreatDoor
set_option linter.unusedVariables false
set_option linter.unusedSimpArgs false
set_option maxRecDepth 20000
open Go.Gx Go.RowKit Go.Lib
open Lexi (nameM Asc tokM isIdent_yes)

theorem Kp.mono {Z Z' : List Nat} {w w' : World} (h : Kp Z w w') (hz : ∀ z ∈ Z, z ∈ Z') : Kp Z' w w' := ⟨h.base, fun k h1 h2 => h.block k h1 fun h3 => h2 (hz k h3)⟩
theorem var_inp {w w' : World} {b t bI bM : Nat} {cs : List Value} (h : Var w b cs t) (hI : Inp w bI bM) (hk : Kp [bI, bM] w w') (ht : t ≠ 130) : Var w' b cs t := by
  obtain ⟨r, a, b1, c, es, h1, h2⟩ := hI
  refine h.kp hk fun hm => ?_
  simp only [List.mem_cons, List.not_mem_nil, or_false] at hm
  rcases hm with e | e
  · exact h.ne h1 ht e
  · exact h2.1.ne h e.symm
theorem own_inp {w w' : World} {B e size m bI bM : Nat} {v : Value} {xs : List Value} (h : w.ownsRow B e size v m xs) (hI : Inp w bI bM) (hk : Kp [bI, bM] w w') (ht : e ≠ 130) : w'.ownsRow B e size v m xs := by
  obtain ⟨r, a, b1, c, es, h1, ⟨clk, h2⟩, _⟩ := hI
  refine own_kp h hk fun z hz cs hc => ?_
  simp only [List.mem_cons, List.not_mem_nil, or_false] at hz
  rcases hz with rfl | rfl
  · exact var_ne h1 (Ne.symm ht) cs hc
  · rw [h2] at hc
    cases hc
theorem dat_inp {w w' : World} {bD bI bM : Nat} (h : Dat w bD bI) (hI : Inp w bI bM) (hk : Kp [bI, bM] w w') : Dat w' bD bI := by
  obtain ⟨f, a, b, c, x, y, h⟩ := h
  exact ⟨f, a, b, c, x, y, var_inp h hI hk (by decide)⟩

abbrev MD := ByteArray × ByteArray
def mcs : List MD → List Value
  | [] => []
  | m :: l => .string m.1 :: .string m.2 :: mcs l
theorem mcs_length : ∀ l, (mcs l).length = l.length * 2
  | [] => rfl
  | t :: l => by simp [mcs, mcs_length l]; omega
theorem mcs_drop : ∀ (l : List MD) (k : Nat), (mcs l).drop (k * 2) = mcs (l.drop k)
  | l, 0 => rfl
  | [], k + 1 => by simp [mcs]
  | t :: l, k + 1 => by
    rw [show (k + 1) * 2 = k * 2 + 1 + 1 from by omega]
    simp only [mcs, List.drop_succ_cons]
    exact mcs_drop l k
theorem mcs_at (l : List MD) (k : Nat) (h : k < l.length) : ((mcs l).drop (k * 2)).take 2 = [.string l[k].1, .string l[k].2] := by
  rw [mcs_drop, List.drop_eq_getElem_cons h]; rfl
theorem mcs_one (l : List MD) : ∀ u ∈ mcs l, u.oneCell' = true := by
  induction l with
  | nil => intro u hu; cases hu
  | cons t l ih =>
    intro u hu
    simp only [mcs, List.mem_cons] at hu
    rcases hu with rfl | rfl | hu
    · rfl
    · rfl
    · exact ih u hu
def idxF (q : MD → Bool) : Nat → List MD → Int
  | _, [] => -1
  | k, m :: l => if q m then k else idxF q (k + 1) l
theorem idxF_no {q : MD → Bool} : ∀ (l : List MD) (k : Nat), (∀ m ∈ l, q m = false) → idxF q k l = -1
  | [], _, _ => rfl
  | m :: l, k, h => by
    unfold idxF
    rw [if_neg (by rw [h m (by simp)]; simp)]
    exact idxF_no l (k + 1) fun x hx => h x (List.mem_cons_of_mem _ hx)
theorem clo76_ok {w : World} {bn : Nat} {nm sr name : ByteArray} (hv : Var w bn [.string name] 9) : Cl Tryz.prog 76 #[.agg #[.string nm, .string sr], .pointer (some ⟨bn, 0, none⟩)] w (fun u w' => u = .bool (decide (nm = name)) ∧ Ext w w') := by
  have hx := Ext.refl w
  have hcn := hv.cells
  refine Cl.enter Tryz.func76 rfl Tryz.ntmps76 rfl rfl ?_
  refine Wp.seq (Wp.region ?_)
  refine Rg.wd trivial (w_boxed rfl rfl) rfl ?_
  rintro _ w1 ⟨b2, rfl, qb2, hx1, hv2⟩
  replace hx := hx.ext hx1
  replace hcn := hcn.ext hx1
  have hc2 := hv2.cells
  refine Rg.tm trivial rfl (t_assign rfl) rfl ?_
  refine Rg.done ?_
  refine Wp.seq (Wp.region ?_)
  refine Rg.tm trivial rfl (t_fieldAddr fa45_0 rfl) rfl ?_
  refine Rg.tm trivial rfl (t_load ty9 rfl (by apply Cells.get (i := 0); (case h => assumption); rfl)) rfl ?_
  refine Rg.tm trivial rfl (t_load ty9 rfl (by first | assumption | (apply Cells.get (i := 0); (case h => assumption); rfl))) rfl ?_
  first | refine Rg.tm trivial rfl (t_seqlT rfl rfl (by first | with_reducible rfl | assumption)) rfl ?_ | refine Rg.tm trivial rfl (t_seqlF rfl rfl (by assumption)) rfl ?_ | refine Rg.tm trivial rfl (t_seql rfl rfl) rfl ?_
  refine Rg.tm trivial rfl (t_assign rfl) rfl ?_
  refine Rg.done ?_
  refine Wp.ret ?_
  exact ⟨[_], ⟨rfl, trivial⟩, rfl, hx⟩
theorem clo78_ok {w : World} {nm sr : ByteArray} (hs : sr.size ≤ 2000) : Cl Tryz.prog 78 #[.agg #[.string nm, .string sr]] w (fun u w' => u = .bool false ∧ Ext w w') := by
  have hx := Ext.refl w
  refine Cl.enter Tryz.func78 rfl Tryz.ntmps78 rfl rfl ?_
  refine Wp.seq (Wp.region ?_)
  refine Rg.wd trivial (w_boxed rfl rfl) rfl ?_
  rintro _ w1 ⟨b1, rfl, qb1, hx1, hv1⟩
  replace hx := hx.ext hx1
  have hc1 := hv1.cells
  refine Rg.tm trivial rfl (t_assign rfl) rfl ?_
  refine Rg.done ?_
  refine Wp.seq (Wp.region ?_)
  refine Rg.tm trivial rfl (t_fieldAddr fa45_1 rfl) rfl ?_
  refine Rg.tm trivial rfl (t_load ty9 rfl (by apply Cells.get (i := 1); (case h => assumption); rfl)) rfl ?_
  refine Rg.tm trivial rfl (t_len Tryz.underlying9 rfl) rfl ?_
  first | refine Rg.tm trivial rfl (t_gtrT rfl rfl (by omega)) rfl ?_ | refine Rg.tm trivial rfl (t_gtrF rfl rfl (by omega)) rfl ?_ | refine Rg.tm trivial rfl (t_gtr rfl rfl) rfl ?_
  refine Rg.tm trivial rfl (t_assign rfl) rfl ?_
  refine Rg.done ?_
  refine Wp.ret ?_
  exact ⟨[_], ⟨rfl, trivial⟩, rfl, hx⟩
theorem clo79_ok {w : World} {sr : ByteArray} (hA : Asc w) : Cl Tryz.prog 79 #[.agg #[.string nameM, .string sr]] w (fun u w' => u = .bool false ∧ Ext w w') := by
  have hx := Ext.refl w
  refine Cl.enter Tryz.func79 rfl Tryz.ntmps79 rfl rfl ?_
  refine Wp.seq (Wp.region ?_)
  refine Rg.wd trivial (w_boxed rfl rfl) rfl ?_
  rintro _ w1 ⟨b1, rfl, qb1, hx1, hv1⟩
  replace hx := hx.ext hx1
  have hc1 := hv1.cells
  refine Rg.tm trivial rfl (t_assign rfl) rfl ?_
  refine Rg.done ?_
  refine Wp.seq (Wp.region ?_)
  refine Rg.tm trivial rfl (t_fieldAddr fa45_0 rfl) rfl ?_
  refine Rg.tm trivial rfl (t_load ty9 rfl (by apply Cells.get (i := 0); (case h => assumption); rfl)) rfl ?_
  refine Rg.wd trivial (w_call Tryz.call80 rfl (isIdent_yes (s := nameM) (by decide) (by decide) tokM (hA.ext hx))) rfl ?_
  rintro _ w2 ⟨rfl, hx2⟩
  replace hx := hx.ext hx2
  replace hv1 := hv1.ext hx2
  replace hc1 := hc1.ext hx2
  refine Rg.tm trivial rfl (t_notB rfl) rfl ?_
  refine Rg.tm trivial rfl (t_assign rfl) rfl ?_
  refine Rg.done ?_
  refine Wp.ret ?_
  exact ⟨[_], ⟨rfl, trivial⟩, rfl, hx⟩
theorem indexF_ok {w : World} {v : Value} {mods : List MD} {f : FuncId} {cap : List Value} {q : MD → Bool} (hs0 : SlC w v 2 mods.length (mcs mods)) (hl : mods.length ≤ 1000) (hcf : ∀ (args : Array Value) (w : World), (callFunc f args).run Tryz.prog w = .ok (.enter f args) w)
    (hw : ∀ m ∈ mods, ∀ w', Ext w w' → Cl Tryz.prog f (([.agg #[.string m.1, .string m.2]] : List Value) ++ cap).toArray w' (fun u w'' => u = .bool (q m) ∧ Ext w' w'')) :
    Cl Tryz.prog 75 #[v, .func (.func f) #[] cap.toArray] w (fun u w' => u = .int .i64 (idxF q 0 mods) ∧ Ext w w') := by
  have hx := Ext.refl w
  refine Cl.enter Tryz.func75 rfl Tryz.ntmps75 rfl rfl ?_
  refine Wp.seq (Wp.region ?_)
  refine Rg.tm trivial rfl (t_assign rfl) rfl ?_
  refine Rg.done ?_
  refine Wp.seq ?_
  refine Wp.seq (Wp.region ?_)
  refine Rg.tm trivial rfl (t_move rfl) rfl ?_
  refine Rg.tm trivial rfl (t_lenC hs0 Tryz.underlying46 rfl) rfl ?_
  refine Rg.tm trivial rfl (t_move rfl) rfl ?_
  refine Rg.done ?_
  refine Wp.block ?_
  refine Wp.loop (ι := Nat) (fun k => [(0, v), (1, .func (.func f) #[] cap.toArray), (7, .int .i64 mods.length), (8, .int .i64 k)])
    (fun k w' => k ≤ mods.length ∧ idxF q k (mods.drop k) = idxF q 0 mods ∧ Ext w w') (fun k => mods.length - k) 0 (by repeat (first | exact .nil | refine .cons rfl ?_)) ⟨Nat.zero_le _, rfl, hx⟩ ?_
  clear hx
  rintro k w3 ⟨hk, hE, hx⟩
  by_cases hlt : k < mods.length
  · have hmem := List.getElem_mem hlt
    rw [List.drop_eq_getElem_cons hlt] at hE
    rw [show ∀ a b, idxF q k (a :: b) = if q a then (k : Int) else idxF q (k + 1) b from fun _ _ => rfl] at hE
    obtain ⟨m, hm⟩ : ∃ m, mods[k] = m := ⟨_, rfl⟩
    rw [hm] at hE hmem
    cases hq : q m with
    | true =>
      rw [hq] at hE
      refine Wp.seq (Wp.region ?_)
      first | refine Rg.tm trivial rfl (t_lssT rfl rfl (by omega)) rfl ?_ | refine Rg.tm trivial rfl (t_lssF rfl rfl (by omega)) rfl ?_ | refine Rg.tm trivial rfl (t_lss rfl rfl) rfl ?_
      refine Rg.done ?_
      refine Wp.seq ?_
      refine Wp.condT rfl ?_
      refine Wp.skip ?_
      refine Wp.seq ?_
      refine Wp.block ?_
      refine Wp.seq (Wp.region ?_)
      refine Rg.tm trivial rfl (t_move rfl) rfl ?_
      refine Rg.tm trivial rfl (t_assign rfl) rfl ?_
      refine Rg.done ?_
      refine Wp.seq (Wp.region ?_)
      refine Rg.tm trivial rfl (t_move rfl) rfl ?_
      refine Rg.tm trivial rfl (t_move rfl) rfl ?_
      refine Rg.tm trivial rfl (t_move rfl) rfl ?_
      refine Rg.ix hs0 trivial rfl rfl Tryz.underlying46 ty45 (by omega) rfl ?_
      intro bt14 ot14 ht14
      replace ht14 := ht14.ext hx
      rw [Int.toNat_natCast, mcs_at mods k hlt, hm] at ht14
      refine Rg.tm trivial rfl (t_loadA rfl ht14 ty45) rfl ?_
      refine Rg.wd trivial (w_callK (vs := [.agg #[.string m.1, .string m.2]]) (cap := cap) rfl hcf rfl (hw m hmem _ hx)) rfl ?_
      rintro _ w1 ⟨rfl, hx1⟩
      replace hx := hx.ext hx1
      replace ht14 := ht14.ext hx1
      rw [hq]
      refine Rg.done ?_
      refine Wp.condT rfl ?_
      refine Wp.seq (Wp.region ?_)
      refine Rg.tm trivial rfl (t_move rfl) rfl ?_
      refine Rg.tm trivial rfl (t_assign rfl) rfl ?_
      refine Rg.done ?_
      refine Wp.ret ?_
      exact ⟨[_], ⟨rfl, trivial⟩, by rw [← hE]; rfl, hx⟩
    | false =>
      rw [hq] at hE
      refine Wp.seq (Wp.region ?_)
      first | refine Rg.tm trivial rfl (t_lssT rfl rfl (by omega)) rfl ?_ | refine Rg.tm trivial rfl (t_lssF rfl rfl (by omega)) rfl ?_ | refine Rg.tm trivial rfl (t_lss rfl rfl) rfl ?_
      refine Rg.done ?_
      refine Wp.seq ?_
      refine Wp.condT rfl ?_
      refine Wp.skip ?_
      refine Wp.seq ?_
      refine Wp.block ?_
      refine Wp.seq (Wp.region ?_)
      refine Rg.tm trivial rfl (t_move rfl) rfl ?_
      refine Rg.tm trivial rfl (t_assign rfl) rfl ?_
      refine Rg.done ?_
      refine Wp.seq (Wp.region ?_)
      refine Rg.tm trivial rfl (t_move rfl) rfl ?_
      refine Rg.tm trivial rfl (t_move rfl) rfl ?_
      refine Rg.tm trivial rfl (t_move rfl) rfl ?_
      refine Rg.ix hs0 trivial rfl rfl Tryz.underlying46 ty45 (by omega) rfl ?_
      intro bt14 ot14 ht14
      replace ht14 := ht14.ext hx
      rw [Int.toNat_natCast, mcs_at mods k hlt, hm] at ht14
      refine Rg.tm trivial rfl (t_loadA rfl ht14 ty45) rfl ?_
      refine Rg.wd trivial (w_callK (vs := [.agg #[.string m.1, .string m.2]]) (cap := cap) rfl hcf rfl (hw m hmem _ hx)) rfl ?_
      rintro _ w1 ⟨rfl, hx1⟩
      replace hx := hx.ext hx1
      replace ht14 := ht14.ext hx1
      rw [hq]
      refine Rg.done ?_
      refine Wp.condF rfl ?_
      refine Wp.skip ?_
      refine Wp.region ?_
      first | refine Rg.tm trivial rfl (t_addI rfl rfl (by omega)) rfl ?_ | refine Rg.tm trivial rfl (t_add rfl rfl) rfl ?_
      refine Rg.tm trivial rfl (t_move rfl) rfl ?_
      refine Rg.done ?_
      exact ⟨k + 1, by repeat (first | exact .nil | refine .cons rfl ?_), ⟨hlt, by rw [← hE]; rfl, hx⟩, by omega⟩
  · rw [List.drop_eq_nil_of_le (by omega)] at hE
    refine Wp.seq (Wp.region ?_)
    first | refine Rg.tm trivial rfl (t_lssT rfl rfl (by omega)) rfl ?_ | refine Rg.tm trivial rfl (t_lssF rfl rfl (by omega)) rfl ?_ | refine Rg.tm trivial rfl (t_lss rfl rfl) rfl ?_
    refine Rg.done ?_
    refine Wp.seq ?_
    refine Wp.condF rfl ?_
    refine Wp.exit ?_
    refine Wp.seq (Wp.region ?_)
    refine Rg.tm trivial rfl (t_assign rfl) rfl ?_
    refine Rg.done ?_
    refine Wp.ret ?_
    exact ⟨[_], ⟨rfl, trivial⟩, by rw [← hE]; rfl, hx⟩
theorem containsF_no {w : World} {v : Value} {mods : List MD} {f : FuncId} (hs0 : SlC w v 2 mods.length (mcs mods)) (hl : mods.length ≤ 1000) (hcf : ∀ (args : Array Value) (w : World), (callFunc f args).run Tryz.prog w = .ok (.enter f args) w)
    (hw : ∀ m ∈ mods, ∀ w', Ext w w' → Cl Tryz.prog f #[.agg #[.string m.1, .string m.2]] w' (fun u w'' => u = .bool false ∧ Ext w' w'')) :
    Cl Tryz.prog 77 #[v, .func (.func f) #[] #[]] w (fun u w' => u = .bool false ∧ Ext w w') := by
  have hx := Ext.refl w
  have hE := idxF_no (q := fun _ => false) mods 0 (fun _ _ => rfl)
  refine Cl.enter Tryz.func77 rfl Tryz.ntmps77 rfl rfl ?_
  refine Wp.seq (Wp.region ?_)
  refine Rg.tm trivial rfl (t_assign rfl) rfl ?_
  refine Rg.done ?_
  refine Wp.seq (Wp.region ?_)
  refine Rg.tm trivial rfl (t_move rfl) rfl ?_
  refine Rg.tm trivial rfl (t_move rfl) rfl ?_
  refine Rg.wd trivial (w_call Tryz.call75 rfl (indexF_ok (cap := []) (q := fun _ => false) hs0 hl hcf hw)) rfl ?_
  rintro _ w1 ⟨rfl, hx1⟩
  replace hx := hx.ext hx1
  rw [hE]
  first | refine Rg.tm trivial rfl (t_geqT rfl rfl (by omega)) rfl ?_ | refine Rg.tm trivial rfl (t_geqF rfl rfl (by omega)) rfl ?_ | refine Rg.tm trivial rfl (t_geq rfl rfl) rfl ?_
  refine Rg.tm trivial rfl (t_assign rfl) rfl ?_
  refine Rg.done ?_
  refine Wp.ret ?_
  exact ⟨[_], ⟨rfl, trivial⟩, rfl, hx⟩
theorem indexOf_ok {w : World} {v : Value} {mods : List MD} {name : ByteArray} (hs : SlC w v 2 mods.length (mcs mods)) (hl : mods.length ≤ 1000) :
    Cl Tryz.prog 60 #[v, .string name] w (fun u w' => u = .int .i64 (idxF (fun m => decide (m.1 = name)) 0 mods) ∧ Ext w w') := by
  have hx := Ext.refl w
  refine Cl.enter Tryz.func60 rfl Tryz.ntmps60 rfl rfl ?_
  refine Wp.seq (Wp.region ?_)
  refine Rg.wd trivial (w_boxed rfl rfl) rfl ?_
  rintro _ w1 ⟨b3, rfl, qb3, hx1, hv3⟩
  replace hx := hx.ext hx1
  replace hs := hs.ext hx1
  refine Rg.tm trivial rfl (t_assign rfl) rfl ?_
  refine Rg.done ?_
  refine Wp.seq (Wp.region ?_)
  refine Rg.tm trivial rfl (t_move rfl) rfl ?_
  refine Rg.tm trivial rfl (t_makeFunc (vs := [_]) rfl) rfl ?_
  refine Rg.wd trivial (w_call Tryz.call75 rfl (indexF_ok (f := 76) (cap := [.pointer (some ⟨b3, 0, none⟩)]) (q := fun m => decide (m.1 = name)) hs hl Tryz.call76 (fun m _ w' hx' => clo76_ok (hv3.ext hx')))) rfl ?_
  rintro _ w2 ⟨rfl, hx2⟩
  replace hx := hx.ext hx2
  replace hs := hs.ext hx2
  replace hv3 := hv3.ext hx2
  refine Rg.tm trivial rfl (t_assign rfl) rfl ?_
  refine Rg.done ?_
  refine Wp.ret ?_
  exact ⟨[_], ⟨rfl, trivial⟩, rfl, hx⟩
theorem wvalid_ok {w : World} {v : Value} {text : ByteArray} (hs0 : SlC w v 2 1 (mcs [(nameM, text)])) (ht : text.size ≤ 2000) (hA : Asc w) :
    Cl Tryz.prog 61 #[v] w (fun u w' => u = .int .i64 0 ∧ Ext w w') := by
  have hx := Ext.refl w
  refine Cl.enter Tryz.func61 rfl Tryz.ntmps61 rfl rfl ?_
  refine Wp.seq (Wp.region ?_)
  refine Rg.tm trivial rfl (t_assign rfl) rfl ?_
  refine Rg.done ?_
  refine Wp.seq ?_
  refine Wp.seq (Wp.region ?_)
  refine Rg.tm trivial rfl (t_move rfl) rfl ?_
  refine Rg.tm trivial rfl (t_lenC hs0 Tryz.underlying46 rfl) rfl ?_
  first | refine Rg.tm trivial rfl (t_gtrT rfl rfl (by omega)) rfl ?_ | refine Rg.tm trivial rfl (t_gtrF rfl rfl (by omega)) rfl ?_ | refine Rg.tm trivial rfl (t_gtr rfl rfl) rfl ?_
  refine Rg.tm trivial rfl (t_move rfl) rfl ?_
  first | refine Rg.tm ⟨_, rfl, rfl⟩ rfl (t_move rfl) rfl ?_ | refine Rg.sk (.inl ⟨_, _, rfl, rfl, rfl⟩) rfl ?_ | refine Rg.sk (.inr ⟨_, rfl, rfl⟩) rfl ?_
  refine Rg.wd ⟨_, rfl, rfl⟩ (w_call Tryz.call77 rfl (containsF_no (mods := [(nameM, text)]) (hs0.ext hx) (by simp) Tryz.call78 (fun m hm w' hx' => by obtain rfl := List.mem_singleton.1 hm; exact clo78_ok ht))) rfl ?_
  rintro _ w1 ⟨rfl, hx1⟩
  replace hx := hx.ext hx1
  first | refine Rg.tm trivial rfl (t_pickT rfl rfl) rfl ?_ | refine Rg.tm trivial rfl (t_pickF rfl rfl) rfl ?_
  refine Rg.done ?_
  refine Wp.condF rfl ?_
  refine Wp.skip ?_
  refine Wp.seq ?_
  refine Wp.seq (Wp.region ?_)
  refine Rg.tm trivial rfl (t_move rfl) rfl ?_
  refine Rg.wd trivial (w_call Tryz.call77 rfl (containsF_no (mods := [(nameM, text)]) (hs0.ext hx) (by simp) Tryz.call79 (fun m hm w' hx' => by obtain rfl := List.mem_singleton.1 hm; exact clo79_ok (hA.ext (hx.ext hx'))))) rfl ?_
  rintro _ w2 ⟨rfl, hx2⟩
  replace hx := hx.ext hx2
  refine Rg.done ?_
  refine Wp.condF rfl ?_
  refine Wp.skip ?_
  refine Wp.seq ?_
  refine Wp.seq (Wp.region ?_)
  refine Rg.tm trivial rfl (t_move rfl) rfl ?_
  refine Rg.tm trivial rfl (t_lenC hs0 Tryz.underlying46 rfl) rfl ?_
  refine Rg.tm trivial rfl (t_move rfl) rfl ?_
  refine Rg.done ?_
  refine Wp.block ?_
  refine Wp.loop (ι := Nat) (fun k => [(0, v), (14, v), (15, .int .i64 1), (16, .int .i64 k)])
    (fun k w' => k ≤ 1 ∧ Ext w w') (fun k => 1 - k) 0 (by repeat (first | exact .nil | refine .cons rfl ?_)) ⟨Nat.zero_le _, hx⟩ ?_
  clear hx
  rintro k w3 ⟨hk, hx⟩
  by_cases hlt : k < 1
  · obtain rfl : k = 0 := by omega
    refine Wp.seq (Wp.region ?_)
    first | refine Rg.tm trivial rfl (t_lssT rfl rfl (by omega)) rfl ?_ | refine Rg.tm trivial rfl (t_lssF rfl rfl (by omega)) rfl ?_ | refine Rg.tm trivial rfl (t_lss rfl rfl) rfl ?_
    refine Rg.done ?_
    refine Wp.seq ?_
    refine Wp.condT rfl ?_
    refine Wp.skip ?_
    refine Wp.seq ?_
    refine Wp.block ?_
    refine Wp.seq (Wp.region ?_)
    refine Rg.tm trivial rfl (t_move rfl) rfl ?_
    refine Rg.ix hs0 trivial rfl rfl Tryz.underlying46 ty45 (by omega) rfl ?_
    intro bt19 ot19 ht19
    replace ht19 := ht19.ext hx
    change Cells _ _ _ [.string nameM, .string text] at ht19
    refine Rg.tm trivial rfl (t_loadA rfl ht19 ty45) rfl ?_
    refine Rg.wd trivial (w_new Tryz.zeroValue45 rfl) rfl ?_
    rintro _ wa ⟨b4, rfl, qb4, hxa, hva⟩
    refine Rg.tm trivial rfl (t_assign rfl) rfl ?_
    refine Rg.wn trivial (w_put hva rfl rfl rfl ty45 rfl rfl) ?_
    rintro _ w3 ⟨hu, hv4⟩
    have hx3 := hxa.upd hu (Nat.le_of_eq qb4.symm)
    replace hx := hx.ext hx3
    replace ht19 := ht19.ext hx3
    have hc4 := hv4.cells
    clear hva hu
    refine Rg.done ?_
    refine Wp.seq (Wp.draw [0, 1, 2, 3, 4, 5, 6] [] mixed (by kernel_rfl) (by kernel_rfl) ?_)
    intro w4 hx4 _
    replace hx := hx.ext hx4
    replace ht19 := ht19.ext hx4
    replace hc4 := hc4.ext hx4
    refine Rg.tm trivial rfl (t_move rfl) rfl ?_
    refine Rg.tm trivial rfl (t_move rfl) rfl ?_
    refine Rg.sl hs0 trivial rfl Tryz.underlying46 ty45 rfl rfl (by omega) rfl ?_
    intro vt23 ht230
    refine Rg.tm trivial rfl (t_fieldAddr fa45_0 rfl) rfl ?_
    refine Rg.tm trivial rfl (t_load ty9 rfl (by apply Cells.get (i := 0); (case h => assumption); rfl)) rfl ?_
    refine Rg.wdB trivial rfl (w_call Tryz.call60 rfl (indexOf_ok (mods := []) (show SlC _ vt23 2 0 [] from ht230.ext hx) (by simp))) rfl (fun _ _ h => h.2) ?_
    rintro _ w5 ⟨rfl, hx5⟩
    replace hx := hx.ext hx5
    replace ht19 := ht19.ext hx5
    replace hc4 := hc4.ext hx5
    rw [show idxF (fun m => decide (m.1 = nameM)) 0 [] = -1 from rfl]
    first | refine Rg.tm trivial rfl (t_geqT rfl rfl (by omega)) rfl ?_ | refine Rg.tm trivial rfl (t_geqF rfl rfl (by omega)) rfl ?_ | refine Rg.tm trivial rfl (t_geq rfl rfl) rfl ?_
    refine Rg.done ?_
    refine Wp.condF rfl ?_
    refine Wp.skip ?_
    refine Wp.region ?_
    first | refine Rg.tm trivial rfl (t_addI rfl rfl (by omega)) rfl ?_ | refine Rg.tm trivial rfl (t_add rfl rfl) rfl ?_
    refine Rg.tm trivial rfl (t_move rfl) rfl ?_
    refine Rg.done ?_
    exact ⟨1, by repeat (first | exact .nil | refine .cons rfl ?_), ⟨Nat.le_refl _, hx⟩, by omega⟩
  · skip
    refine Wp.seq (Wp.region ?_)
    first | refine Rg.tm trivial rfl (t_lssT rfl rfl (by omega)) rfl ?_ | refine Rg.tm trivial rfl (t_lssF rfl rfl (by omega)) rfl ?_ | refine Rg.tm trivial rfl (t_lss rfl rfl) rfl ?_
    refine Rg.done ?_
    refine Wp.seq ?_
    refine Wp.condF rfl ?_
    refine Wp.exit ?_
    refine Wp.seq (Wp.region ?_)
    refine Rg.tm trivial rfl (t_assign rfl) rfl ?_
    refine Rg.done ?_
    refine Wp.ret ?_
    exact ⟨[_], ⟨rfl, trivial⟩, rfl, hx⟩
end Go.Proofs.YtbnkncemfadfjaaGreatDoor
