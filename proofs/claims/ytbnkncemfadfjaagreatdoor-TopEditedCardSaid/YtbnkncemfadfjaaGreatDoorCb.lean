/- The walks of textedit.Compose: trace, applyTraced, canonical. Printed by r3/topc.py. -/
import Derived.Test.YtbnkncemfadfjaaGreatDoorRd
import Derived.Test.YtbnkncemfadfjaaGreatDoorGz
import Derived.Test.YtbnkncemfadfjaaGreatDoorCa
namespace Go.Proofs.YtbnkncemfadfjaaGreatDoor
set_option linter.unusedVariables false
set_option linter.unusedSimpArgs false
set_option maxRecDepth 20000
open Go.Gx Go.RowKit Go.Lib

theorem own_ext3 {w w1 w2 : World} {v : Value} {row : List Value} {e size n : Nat} (hx : Ext w w1) (h : w1.ownsRow w.heap.size e size v n row) (hg : w1.grownBy w2 v.ownBlock) : Ext w w2 :=
  Below.trans hx (below_own h hg hx.le)
theorem slc_var {w : World} {b e size n : Nat} {cs : List Value} (h : Var w b cs e) (hl : cs.length = n * size) : SlC w (.slice (some ⟨b, 0, none⟩) n n) size n cs := ⟨hl, _, _, rfl, Nat.le_refl _, .inr ⟨b, 0, rfl, h.cells⟩⟩
/-- traced bytes as cells -/
def tbs : List TB → List Value
  | [] => []
  | t :: l => .int .u8 t.1.toNat :: .int .i64 t.2 :: tbs l
theorem tbs_length : ∀ l, (tbs l).length = l.length * 2
  | [] => rfl
  | t :: l => by simp [tbs, tbs_length l]; omega
theorem tbs_append : ∀ a b, tbs (a ++ b) = tbs a ++ tbs b
  | [], b => rfl
  | t :: a, b => by simp [tbs, tbs_append a b]
theorem tbs_drop : ∀ (l : List TB) (k : Nat), (tbs l).drop (k * 2) = tbs (l.drop k)
  | l, 0 => rfl
  | [], k + 1 => by simp [tbs]
  | t :: l, k + 1 => by
    rw [show (k + 1) * 2 = k * 2 + 1 + 1 from by omega]
    simp only [tbs, List.drop_succ_cons]
    exact tbs_drop l k
theorem tbs_take : ∀ (l : List TB) (k : Nat), (tbs l).take (k * 2) = tbs (l.take k)
  | l, 0 => by simp [tbs]
  | [], k + 1 => by simp [tbs]
  | t :: l, k + 1 => by
    rw [show (k + 1) * 2 = k * 2 + 1 + 1 from by omega]
    simp only [tbs, List.take_succ_cons]
    rw [tbs_take l k]
theorem tbs_at (l : List TB) (k : Nat) (h : k < l.length) : ((tbs l).drop (k * 2)).take 2 = [.int .u8 l[k].1.toNat, .int .i64 l[k].2] := by
  rw [tbs_drop, List.drop_eq_getElem_cons h]; rfl
theorem tbs_one (l : List TB) : ∀ u ∈ tbs l, u.oneCell' = true := by
  induction l with
  | nil => intro u hu; cases hu
  | cons t l ih =>
    intro u hu
    simp only [tbs, List.mem_cons] at hu
    rcases hu with rfl | rfl | hu
    · rfl
    · rfl
    · exact ih u hu
theorem trace_at {s : ByteArray} {k : Nat} (h : k < s.size) : (traceOf s).take (k + 1) = (traceOf s).take k ++ [(s.data.toList.getD k 0, (k : Int))] := by
  rw [List.take_succ_eq_append_getElem (by rw [trace_length]; exact h)]
  simp [traceOf]
theorem trace_ok {w : World} {s : ByteArray} (hs : s.size ≤ 2000) : Cl Tryz.prog 16 #[.string s] w (fun u w' => SlC w' u 2 (traceOf s).length (tbs (traceOf s)) ∧ Ext w w') := by
  obtain ⟨i, hi, hz, hsi, hby⟩ := inf96
  have hx := Ext.refl w
  have htl := trace_length s
  refine Cl.enter Tryz.func16 rfl Tryz.ntmps16 rfl rfl ?_
  refine Wp.seq (Wp.region ?_)
  refine Rg.tm trivial rfl (t_assign rfl) rfl ?_
  refine Rg.done ?_
  refine Wp.seq (Wp.region ?_)
  refine Rg.tm trivial rfl (t_move rfl) rfl ?_
  refine Rg.tm trivial rfl (t_len Tryz.underlying9 rfl) rfl ?_
  refine Rg.wd trivial (w_make Tryz.underlying54 hi hz hsi hby rfl rfl (by omega) (by omega)) rfl ?_
  rintro _ w1 ⟨b, rfl, qb, hx1, hv⟩
  replace hx := hx.ext hx1
  obtain ⟨zs, hzs⟩ : ∃ zs, (madeCells (Value.agg #[.int .u8 0, .int .i64 0]).cells (s.size * 2)).toList = zs := ⟨_, rfl⟩
  have hzl : zs.length = s.size * 2 := by rw [← hzs, Array.length_toList, size_madeCells]
  rw [hzs] at hv
  clear hx1
  refine Rg.tm trivial rfl (t_assign rfl) rfl ?_
  refine Rg.done ?_
  refine Wp.seq ?_
  refine Wp.seq (Wp.region ?_)
  refine Rg.tm trivial rfl (t_move rfl) rfl ?_
  refine Rg.tm trivial rfl (t_lenS Tryz.underlying54 rfl) rfl ?_
  refine Rg.tm trivial rfl (t_move rfl) rfl ?_
  refine Rg.done ?_
  refine Wp.block ?_
  refine Wp.loop (ι := Nat) (fun k => [(0, .string s), (3, .slice (some ⟨b, 0, none⟩) s.size s.size), (9, .int .i64 s.size), (10, .int .i64 k)])
    (fun k w' => k ≤ s.size ∧ Var w' b (tbs ((traceOf s).take k) ++ zs.drop (k * 2)) 96 ∧ Ext w w') (fun k => s.size - k) 0 (by repeat (first | exact .nil | refine .cons rfl ?_)) ⟨Nat.zero_le _, by simpa [tbs] using hv, hx⟩ ?_
  clear hx hv
  rintro k w3 ⟨hk, hv, hx⟩
  by_cases hlt : k < s.size
  · have el : (tbs ((traceOf s).take k)).length = k * 2 := by rw [tbs_length, List.length_take_of_le (by rw [htl]; exact hk)]
    refine Wp.seq (Wp.region ?_)
    first | refine Rg.tm trivial rfl (t_lssT rfl rfl (by omega)) rfl ?_ | refine Rg.tm trivial rfl (t_lssF rfl rfl (by omega)) rfl ?_ | refine Rg.tm trivial rfl (t_lss rfl rfl) rfl ?_
    refine Rg.done ?_
    refine Wp.seq ?_
    refine Wp.condT rfl ?_
    refine Wp.skip ?_
    refine Wp.seq ?_
    refine Wp.block ?_
    refine Wp.seq (Wp.region ?_)
    refine Rg.tm trivial rfl (t_move rfl) rfl ?_
    refine Rg.tm trivial rfl (t_assign rfl) rfl ?_
    refine Rg.done ?_
    refine Wp.region ?_
    refine Rg.tm trivial rfl (t_move rfl) rfl ?_
    refine Rg.tm trivial rfl (t_move rfl) rfl ?_
    refine Rg.tm trivial rfl (t_move rfl) rfl ?_
    refine Rg.tm trivial rfl (t_move rfl) rfl ?_
    refine Rg.tm trivial rfl (t_index Tryz.underlying9 rfl rfl (by omega)) rfl ?_
    rw [Int.toNat_natCast]
    refine Rg.tm trivial rfl (t_move rfl) rfl ?_
    refine Rg.tm trivial rfl (t_build (bd96_0_1 _ _) rfl) rfl ?_
    refine Rg.tm trivial rfl (t_indexAddrL Tryz.underlying54 ty96 rfl rfl (by omega)) rfl ?_
    rw [Nat.zero_add, Int.toNat_natCast]
    refine Rg.wn trivial (w_putAt (cs := [_, _]) hv rfl rfl rfl ty96 (by rw [List.length_append, el, List.length_drop, hzl]; simp only [List.length_cons, List.length_nil]; omega) (by intro u hu; simp only [List.mem_cons, List.not_mem_nil, or_false] at hu; rcases hu with rfl | rfl <;> rfl)) ?_
    rintro _ w4 ⟨hu, hv4⟩
    replace hx := hx.upd hu (by omega)
    rw [List.take_left' el, List.drop_append, el, List.drop_eq_nil_of_le (by rw [el]; simp only [List.length_cons, List.length_nil]; omega), List.nil_append, List.drop_drop] at hv4
    refine Rg.done ?_
    refine Wp.region ?_
    first | refine Rg.tm trivial rfl (t_addI rfl rfl (by omega)) rfl ?_ | refine Rg.tm trivial rfl (t_add rfl rfl) rfl ?_
    refine Rg.tm trivial rfl (t_move rfl) rfl ?_
    refine Rg.done ?_
    refine ⟨k + 1, by repeat (first | exact .nil | refine .cons rfl ?_), ⟨hlt, ?_, hx⟩, by omega⟩
    rw [trace_at hlt, tbs_append, show (k + 1) * 2 = k * 2 + (k * 2 + 2 - k * 2) from by omega]
    exact hv4
  · have e0 : k = s.size := by omega
    subst e0
    rw [List.drop_eq_nil_of_le (by omega), List.append_nil, List.take_of_length_le (by omega)] at hv
    refine Wp.seq (Wp.region ?_)
    first | refine Rg.tm trivial rfl (t_lssT rfl rfl (by omega)) rfl ?_ | refine Rg.tm trivial rfl (t_lssF rfl rfl (by omega)) rfl ?_ | refine Rg.tm trivial rfl (t_lss rfl rfl) rfl ?_
    refine Rg.done ?_
    refine Wp.seq ?_
    refine Wp.condF rfl ?_
    refine Wp.exit ?_
    refine Wp.seq (Wp.region ?_)
    refine Rg.tm trivial rfl (t_move rfl) rfl ?_
    refine Rg.tm trivial rfl (t_assign rfl) rfl ?_
    refine Rg.done ?_
    refine Wp.ret ?_
    exact ⟨[_], ⟨rfl, trivial⟩, by rw [htl]; exact slc_var hv (by rw [tbs_length, htl]), hx⟩

def insT (s : ByteArray) : List TB := s.data.toList.map fun b => (b, -1)
def appT (bs : List TB) : Int → List TE → List TB
  | _, [] => []
  | off, e :: es => (bs.drop off.toNat).take (e.a.toNat - off.toNat) ++ insT e.s ++ appT bs e.b es
theorem applyT_eq (bs : List TB) : ∀ (es : List TE) (off : Int), applyT bs off es = appT bs off es ++ bs.drop (lastE off es).toNat
  | [], off => by simp [applyT, appT, lastE]
  | e :: es, off => by simp only [applyT, appT, lastE, applyT_eq bs es, insT, List.append_assoc]
theorem appT_snoc (bs : List TB) : ∀ (es : List TE) (off : Int) (e : TE), appT bs off (es ++ [e]) = appT bs off es ++ ((bs.drop (lastE off es).toNat).take (e.a.toNat - (lastE off es).toNat) ++ insT e.s)
  | [], off, e => by simp [appT, lastE]
  | d :: es, off, e => by simp only [List.cons_append, appT, lastE, appT_snoc bs es d.b e, List.append_assoc]
theorem appT_len (bs : List TB) : ∀ (es : List TE) (off : Int), (∀ e ∈ es, e.s.size ≤ 2000) → (appT bs off es).length ≤ es.length * (bs.length + 2000)
  | [], _, _ => by simp [appT]
  | e :: es, off, h => by
    have h1 := appT_len bs es e.b (fun x hx => h x (List.mem_cons_of_mem _ hx))
    have h2 := h e List.mem_cons_self
    have h3 : e.s.data.toList.length = e.s.size := by simp
    have h4 : ((bs.drop off.toNat).take (e.a.toNat - off.toNat)).length ≤ bs.length := by rw [List.length_take, List.length_drop]; omega
    have h5 : (insT e.s).length = e.s.size := by simp [insT]
    simp only [appT, List.length_append, List.length_cons, h5]
    rw [Nat.add_mul]
    omega
theorem codeE_mem {s : ByteArray} {es : List TE} (h : codeE s.size es = 0) : ∀ e ∈ es, e.s.size ≤ 2000 := fun e he => by
  obtain ⟨k, hk, rfl⟩ := List.getElem_of_mem he
  have h1 := (appE_le h (k + 1)).1
  rw [List.take_succ_eq_append_getElem hk, appE_snoc, ByteArray.size_append, ByteArray.size_append] at h1
  omega
theorem ins_succ {s : ByteArray} {j : Nat} (h : j < s.size) : (insT s).take (j + 1) = (insT s).take j ++ [(s.data.toList.getD j 0, -1)] := by
  rw [List.take_succ_eq_append_getElem (by simpa [insT] using h)]
  have h2 : j < s.data.toList.length := by simpa using h
  congr 2
  simp only [insT, List.getElem_map]
  rw [List.getD_eq_getElem?_getD, List.getElem?_eq_getElem h2]
  rfl
theorem applyTraced_ok {w : World} {v0 v1 : Value} {bs : List TB} {es : List TE} (hb0 : SlC w v0 2 bs.length (tbs bs)) (he0 : SlC w v1 3 es.length (tes es)) (hb : bs.length ≤ 2000) (hcode : codeE bs.length es = 0) (hmem : ∀ e ∈ es, e.s.size ≤ 2000) :
    Cl Tryz.prog 15 #[v0, v1] w (fun u w' => SlC w' u 2 (applyT bs 0 es).length (tbs (applyT bs 0 es)) ∧ Ext w w') := by
  obtain ⟨i, hi, hz, hsi, hby⟩ := inf96
  obtain ⟨z1, z2, z3, z4⟩ := codeE_zero hcode
  have hx := Ext.refl w
  refine Cl.enter Tryz.func15 rfl Tryz.ntmps15 rfl rfl ?_
  refine Wp.seq (Wp.region ?_)
  refine Rg.tm trivial rfl (t_assign rfl) rfl ?_
  refine Rg.done ?_
  refine Wp.seq (Wp.region ?_)
  refine Rg.tm trivial rfl (t_assign rfl) rfl ?_
  refine Rg.done ?_
  refine Wp.seq (Wp.region ?_)
  refine Rg.tm trivial rfl (t_assign rfl) rfl ?_
  refine Rg.done ?_
  refine Wp.seq ?_
  refine Wp.seq (Wp.region ?_)
  refine Rg.tm trivial rfl (t_move rfl) rfl ?_
  refine Rg.tm trivial rfl (t_lenC he0 Tryz.underlying22 rfl) rfl ?_
  refine Rg.tm trivial rfl (t_move rfl) rfl ?_
  refine Rg.done ?_
  refine Wp.block ?_
  refine Wp.loop (ι := Nat × Value) (fun j => [(0, v0), (5, j.2), (6, .int .i64 (lastE 0 (es.take j.1))), (11, v1), (12, .int .i64 es.length), (13, .int .i64 j.1)])
    (fun j w' => j.1 ≤ es.length ∧ w'.ownsRow w.heap.size 96 2 j.2 (appT bs 0 (es.take j.1)).length (tbs (appT bs 0 (es.take j.1))) ∧ Ext w w')
    (fun j => es.length - j.1) (0, .slice none 0 0) (by repeat (first | exact .nil | refine .cons rfl ?_)) ⟨Nat.zero_le _, own_nil _ _ _ _, hx⟩ ?_
  clear hx
  rintro ⟨k, vr⟩ w3 ⟨hk, hown, hx⟩
  simp only at hk hown ⊢
  have hal := appT_len bs (es.take k) 0 (fun e he => hmem e (List.mem_of_mem_take he))
  rw [List.length_take_of_le hk] at hal
  have hal2 : (appT bs 0 (es.take k)).length ≤ 200000 := Nat.le_trans hal (Nat.le_trans (Nat.mul_le_mul (show k ≤ 50 by omega) (show bs.length + 2000 ≤ 4000 by omega)) (by decide))
  by_cases hlt : k < es.length
  · skip
    refine Wp.seq (Wp.region ?_)
    first | refine Rg.tm trivial rfl (t_lssT rfl rfl (by omega)) rfl ?_ | refine Rg.tm trivial rfl (t_lssF rfl rfl (by omega)) rfl ?_ | refine Rg.tm trivial rfl (t_lss rfl rfl) rfl ?_
    refine Rg.done ?_
    refine Wp.seq ?_
    refine Wp.condT rfl ?_
    refine Wp.skip ?_
    refine Wp.seq ?_
    refine Wp.block ?_
    refine Wp.seq (Wp.region ?_)
    refine Rg.ix he0 trivial rfl rfl Tryz.underlying22 ty51 (by omega) rfl ?_
    intro bt15 ot15 ht15
    replace ht15 := ht15.ext hx
    rw [Int.toNat_natCast, tes_at es k hlt] at ht15
    obtain ⟨p1, p2, p3, p4⟩ := at0 hlt hcode
    have p6 := List.take_succ_eq_append_getElem hlt
    have hm := hmem _ (List.getElem_mem hlt)
    obtain ⟨e, he⟩ : ∃ e, es[k] = e := ⟨_, rfl⟩
    rw [he] at ht15 p2 p3 p4 p6 hm
    unfold TE.cells at ht15
    refine Rg.tm trivial rfl (t_loadA rfl ht15 ty51) rfl ?_
    refine Rg.wd trivial (w_new Tryz.zeroValue51 rfl) rfl ?_
    rintro _ wa ⟨b8, rfl, qb8, hxa, hva⟩
    refine Rg.wn trivial (w_put hva rfl rfl rfl ty51 rfl rfl) ?_
    rintro _ w1 ⟨hu, hv8⟩
    have hx1 := hxa.upd hu (Nat.le_of_eq qb8.symm)
    replace hx := hx.ext hx1
    replace hown := own_ext hown hx1
    have hc8 := hv8.cells
    clear hva hu
    refine Rg.done ?_
    refine Wp.seq (Wp.region ?_)
    refine Rg.tm trivial rfl (t_move rfl) rfl ?_
    refine Rg.tm trivial rfl (t_move rfl) rfl ?_
    refine Rg.tm trivial rfl (t_move rfl) rfl ?_
    refine Rg.tm trivial rfl (t_fieldAddr fa51_0 rfl) rfl ?_
    refine Rg.tm trivial rfl (t_load ty3 rfl (by apply Cells.get (i := 0); (case h => assumption); rfl)) rfl ?_
    refine Rg.sl hb0 trivial rfl Tryz.underlying54 ty96 rfl rfl (by omega) rfl ?_
    intro vt22 ht220
    obtain ⟨seg, hseg⟩ : ∃ g, (bs.drop (lastE 0 (es.take k)).toNat).take (e.a.toNat - (lastE 0 (es.take k)).toNat) = g := ⟨_, rfl⟩
    have hsl : seg.length = e.a.toNat - (lastE 0 (es.take k)).toNat := by rw [← hseg, List.length_take, List.length_drop]; omega
    rw [tbs_drop, tbs_take, hseg, ← hsl] at ht220
    have hbl : seg.length ≤ 2000 := by rw [hsl]; omega
    refine Rg.wd trivial (w_appendC w.heap.size Tryz.underlying54 hi hz hsi hby rfl (by decide) rfl rfl hown (ht220.ext hx) (tbs_one _) (by unfold maxLen; omega) (by omega) hx.le) rfl ?_
    rintro v2 wc ⟨hown2, hgr, p2', l2, c2, rfl⟩
    replace hv8 := hv8.grown hown hgr (by decide)
    replace hc8 := hv8.cells
    replace hx := own_ext3 hx hown hgr
    rw [← tbs_append, ← List.length_append] at hown2
    clear hown hgr
    refine Rg.tm trivial rfl (t_assign rfl) rfl ?_
    refine Rg.done ?_
    refine Wp.seq ?_
    refine Wp.seq (Wp.region ?_)
    refine Rg.tm trivial rfl (t_fieldAddr fa51_2 rfl) rfl ?_
    refine Rg.tm trivial rfl (t_load ty9 rfl (by apply Cells.get (i := 2); (case h => assumption); rfl)) rfl ?_
    refine Rg.wd trivial (w_strBytes Tryz.underlying9 Tryz.underlying81 Tryz.underlying5 rfl) rfl ?_
    rintro _ w5 ⟨bb, cb, rfl, hcb, hx5, hby5⟩
    replace hx := hx.ext hx5
    replace hv8 := hv8.ext hx5
    replace hown2 := own_ext hown2 hx5
    clear hc8
    refine Rg.tm trivial rfl (t_lenS Tryz.underlying81 rfl) rfl ?_
    refine Rg.tm trivial rfl (t_move rfl) rfl ?_
    refine Rg.done ?_
    refine Wp.block ?_
    refine Wp.loop (ι := Nat × Value) (fun j => [(0, v0), (5, j.2), (6, .int .i64 (lastE 0 (es.take k))), (8, .pointer (some ⟨b8, 0, none⟩)), (11, v1), (12, .int .i64 es.length), (13, .int .i64 k), (26, .slice (some ⟨bb, 0, none⟩) e.s.size cb), (27, .int .i64 e.s.size), (28, .int .i64 j.1)])
      (fun j w' => j.1 ≤ e.s.size ∧ w'.ownsRow w.heap.size 96 2 j.2 (appT bs 0 (es.take k) ++ seg ++ (insT e.s).take j.1).length (tbs (appT bs 0 (es.take k) ++ seg ++ (insT e.s).take j.1)) ∧ Var w' b8 [.int .i64 e.a, .int .i64 e.b, .string e.s] 51 ∧ ByAt w' bb 5 e.s ∧ Ext w w')
      (fun j => e.s.size - j.1) (0, _) (by repeat (first | exact .nil | refine .cons rfl ?_)) ⟨Nat.zero_le _, by rw [List.take_zero, List.append_nil]; exact hown2, hv8, hby5, hx⟩ ?_
    clear hx hown2 hv8 hby5
    rintro ⟨j, vj⟩ w8 ⟨hj, hown, hv8, hby8, hx⟩
    simp only at hj hown ⊢
    have hnl : ((insT e.s).take j).length = j := List.length_take_of_le (by simpa [insT] using hj)
    have hsum : (appT bs 0 (es.take k) ++ seg ++ (insT e.s).take j).length ≤ 210000 := by rw [List.length_append, List.length_append, hnl]; omega
    by_cases hjl : j < e.s.size
    · skip
      refine Wp.seq (Wp.region ?_)
      first | refine Rg.tm trivial rfl (t_lssT rfl rfl (by omega)) rfl ?_ | refine Rg.tm trivial rfl (t_lssF rfl rfl (by omega)) rfl ?_ | refine Rg.tm trivial rfl (t_lss rfl rfl) rfl ?_
      refine Rg.done ?_
      refine Wp.seq ?_
      refine Wp.condT rfl ?_
      refine Wp.skip ?_
      refine Wp.seq ?_
      refine Wp.block ?_
      refine Wp.seq (Wp.region ?_)
      refine Rg.tm trivial rfl (t_indexAddrL Tryz.underlying81 ty5 rfl rfl (by omega)) rfl ?_
      rw [Nat.zero_add, Int.toNat_natCast, Nat.mul_one]
      refine Rg.tm trivial rfl (t_load ty5 rfl (hby8.cell hjl)) rfl ?_
      refine Rg.tm trivial rfl (t_assign rfl) rfl ?_
      refine Rg.done ?_
      refine Wp.region ?_
      refine Rg.tm trivial rfl (t_move rfl) rfl ?_
      refine Rg.tm trivial rfl (t_move rfl) rfl ?_
      refine Rg.tm trivial rfl (t_build (bd96_0_1 _ _) rfl) rfl ?_
      refine Rg.wd trivial (w_buildSlice (bs54_1 _ _) rfl) rfl ?_
      rintro _ wb ⟨bs', rfl, qb, hxb, hvb⟩
      replace hx := hx.ext hxb
      replace hown := own_ext hown hxb
      replace hv8 := hv8.ext hxb
      replace hby8 := hby8.ext hxb
      refine Rg.wd trivial (w_append w.heap.size Tryz.underlying54 hi hz hsi hby rfl (by decide) rfl rfl hown rfl (fun j u hu => by rw [addr_add]; exact hvb.cells j u hu) (by simp [Value.oneCell']) (by unfold maxLen; omega) (by omega) hx.le) rfl ?_
      rintro v2 wc ⟨hown2, hgr, p2', l2, c2, rfl⟩
      replace hv8 := hv8.grown hown hgr (by decide)
      replace hby8 := hby8.grown hown hgr (by decide)
      replace hx := own_ext3 hx hown hgr
      refine Rg.tm trivial rfl (t_assign rfl) rfl ?_
      refine Rg.done ?_
      refine Wp.region ?_
      first | refine Rg.tm trivial rfl (t_addI rfl rfl (by omega)) rfl ?_ | refine Rg.tm trivial rfl (t_add rfl rfl) rfl ?_
      refine Rg.tm trivial rfl (t_move rfl) rfl ?_
      refine Rg.done ?_
      refine ⟨(j + 1, .slice p2' l2 c2), by repeat (first | exact .nil | refine .cons rfl ?_), ⟨hjl, ?_, hv8, hby8, hx⟩, by simp only; omega⟩
      rw [ins_succ hjl, ← List.append_assoc, tbs_append, List.length_append]
      exact hown2
    · have e0 : j = e.s.size := by omega
      subst e0
      rw [List.take_of_length_le (l := insT e.s) (by simp [insT])] at hown
      have hc8 := hv8.cells
      refine Wp.seq (Wp.region ?_)
      first | refine Rg.tm trivial rfl (t_lssT rfl rfl (by omega)) rfl ?_ | refine Rg.tm trivial rfl (t_lssF rfl rfl (by omega)) rfl ?_ | refine Rg.tm trivial rfl (t_lss rfl rfl) rfl ?_
      refine Rg.done ?_
      refine Wp.seq ?_
      refine Wp.condF rfl ?_
      refine Wp.exit ?_
      refine Wp.region ?_
      refine Rg.tm trivial rfl (t_fieldAddr fa51_1 rfl) rfl ?_
      refine Rg.tm trivial rfl (t_load ty3 rfl (by apply Cells.get (i := 1); (case h => assumption); rfl)) rfl ?_
      refine Rg.tm trivial rfl (t_assign rfl) rfl ?_
      refine Rg.done ?_
      refine Wp.region ?_
      first | refine Rg.tm trivial rfl (t_addI rfl rfl (by omega)) rfl ?_ | refine Rg.tm trivial rfl (t_add rfl rfl) rfl ?_
      refine Rg.tm trivial rfl (t_move rfl) rfl ?_
      refine Rg.done ?_
      refine ⟨(k + 1, vj), ?_, ⟨hlt, ?_, hx⟩, by simp only; omega⟩
      · simp only [p6, lastE_snoc]
        repeat (first | exact .nil | refine .cons rfl ?_)
      · rw [p6, appT_snoc, hseg, ← List.append_assoc]
        exact hown
  · have e0 : k = es.length := by omega
    subst e0
    simp only [List.take_length] at *
    have p1 := last0 (by omega) z3 es.length
    rw [List.take_length] at p1
    have ea := applyT_eq bs es 0
    have hdl : (bs.drop (lastE 0 es).toNat).length = bs.length - (lastE 0 es).toNat := List.length_drop ..
    refine Wp.seq (Wp.region ?_)
    first | refine Rg.tm trivial rfl (t_lssT rfl rfl (by omega)) rfl ?_ | refine Rg.tm trivial rfl (t_lssF rfl rfl (by omega)) rfl ?_ | refine Rg.tm trivial rfl (t_lss rfl rfl) rfl ?_
    refine Rg.done ?_
    refine Wp.seq ?_
    refine Wp.condF rfl ?_
    refine Wp.exit ?_
    refine Wp.seq (Wp.region ?_)
    refine Rg.tm trivial rfl (t_move rfl) rfl ?_
    refine Rg.tm trivial rfl (t_move rfl) rfl ?_
    refine Rg.tm trivial rfl (t_move rfl) rfl ?_
    refine Rg.sl hb0 trivial rfl Tryz.underlying54 ty96 rfl rfl (by omega) rfl ?_
    intro vt44 ht440
    rw [tbs_drop, List.take_of_length_le (by rw [tbs_length, hdl]; omega)] at ht440
    rw [show (bs.length : Int).toNat - (lastE 0 es).toNat = (bs.drop (lastE 0 es).toNat).length from by rw [hdl]; omega] at ht440
    refine Rg.wd trivial (w_appendC w.heap.size Tryz.underlying54 hi hz hsi hby rfl (by decide) rfl rfl hown (ht440.ext hx) (tbs_one _) (by unfold maxLen; omega) (by omega) hx.le) rfl ?_
    rintro v2 wc ⟨hown2, hgr, p2', l2, c2, rfl⟩
    replace hx := own_ext3 hx hown hgr
    rw [← tbs_append, ← List.length_append, ← ea] at hown2
    refine Rg.tm trivial rfl (t_assign rfl) rfl ?_
    refine Rg.done ?_
    refine Wp.ret ?_
    exact ⟨[_], ⟨rfl, trivial⟩, own_slice hown2, hx⟩
end Go.Proofs.YtbnkncemfadfjaaGreatDoor
