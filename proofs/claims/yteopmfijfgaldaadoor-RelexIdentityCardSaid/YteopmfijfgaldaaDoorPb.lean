/- The walks of package position. Printed by doora.py. -/
import Derived.Test.YteopmfijfgaldaaDoorPa
import Derived.Test.YteopmfijfgaldaaDoorSh
import Derived.Test.YteopmfijfgaldaaDoorGw
import Derived.Test.YteopmfijfgaldaaDoorGf
namespace Go.Proofs.YteopmfijfgaldaaDoor
set_option linter.unusedVariables false
set_option linter.unusedSimpArgs false
set_option maxRecDepth 20000
open Go.Gx Go.RowKit Go.Lib

theorem below_own {B : Nat} {w w' : World} {v : Value} {row : List Value} {e size n : Nat} (h : w.ownsRow B e size v n row) (hg : w.grownBy w' v.ownBlock) (hB : B ≤ w.heap.size) : Below B w w' :=
  (Below.refl B w).grown hg hB (fun k hk => (h.lt k hk).1)
theorem own_ext2 {w w1 w2 : World} {v : Value} {row : List Value} {e size n : Nat} (hx : Ext w w1) (h : w1.ownsRow w.heap.size e size v n row) (hg : w1.grownBy w2 v.ownBlock) : Ext w w2 :=
  Below.trans hx (below_own h hg hx.le)
theorem cell_ext {w w' : World} {b o : Nat} {v : Value} (h : w.cell? ⟨b, o, none⟩ = some v) (k : Ext w w') : w'.cell? ⟨b, o, none⟩ = some v := below_cell k h
theorem _root_.Go.Lib.Utf8Tabs.ext {a b : Nat} {w w' : World} (h : Utf8Tabs a b w) (k : Ext w w') : Utf8Tabs a b w' :=
  ⟨fun c hc => cell_ext (h.1 c hc) k, fun i hi => ⟨cell_ext (h.2 i hi).1 k, cell_ext (h.2 i hi).2 k⟩⟩
theorem count_ok {w : World} {s : ByteArray} {k : Nat} (hk : k ≤ s.size) : Cl Tryd.prog 37 #[.string (s.extract 0 k), .string ⟨#[10]⟩] w (fun u w' => u = .int .i64 (nlc s k) ∧ w = w') :=
  (Cl.of (Tryd.strings_Count_one (s.extract 0 k) 10 w)).mono fun _ _ ⟨h1, h2⟩ => ⟨by rw [h1, count_front s k hk], h2.symm⟩
theorem last_ok {w : World} {s : ByteArray} {k : Nat} (hk : k ≤ s.size) (hs : s.size < 4611686018427387904) : Cl Tryd.prog 38 #[.string (s.extract 0 k), .int .u8 10] w (fun u w' => u = .int .i64 ((lst s k : Int) - 1) ∧ w = w') :=
  (Cl.of (Tryd.strings_LastIndexByte (s.extract 0 k) 10 (by rw [ByteArray.size_extract]; omega) w)).mono fun _ _ ⟨h1, h2⟩ => ⟨by rw [h1, ← last_front s k hk]; congr 1; omega, h2.symm⟩
theorem dec_ok {w : World} {s : ByteArray} {i : Nat} (hT : Utf8Tabs 1 2 w) : Cl Tryd.prog 39 #[.string (s.extract i s.size)] w (fun u w' => u = .tuple #[.int .i32 (dec s i).1, .int .i64 (dec s i).2] ∧ Ext w w') :=
  Cl.of (Tryd.utf8_DecodeRuneInString (s.extract i s.size) w hT)
theorem ints_at {zs : List Int} {k : Nat} (h : k < zs.length) : ((zs.map (Value.int .i64)).drop (k * 1)).take 1 = [.int .i64 zs[k]] := by
  rw [Nat.mul_one, List.drop_eq_getElem_cons (by simpa using h)]; simp
theorem bt_raw (s : ByteArray) (i : Nat) : ((s.data.toList.getD i 0).toNat : Int) = bt s i := rfl

theorem wd16_ok {w : World} {r : Nat} : Cl Tryd.prog 27 #[.int .i32 r] w (fun u w' => u = .int .i64 (wd16 r) ∧ w = w') := by
  by_cases h : r > 65535
  · rw [show wd16 r = 2 from by rw [wd16, if_pos h]]
    refine Cl.enter Tryd.func27 rfl Tryd.ntmps27 rfl rfl ?_
    refine Wp.seq (Wp.region ?_)
    refine Rg.tm trivial rfl (t_assign rfl) rfl ?_
    refine Rg.done ?_
    refine Wp.seq ?_
    refine Wp.seq (Wp.region ?_)
    refine Rg.tm trivial rfl (t_move rfl) rfl ?_
    first | refine Rg.tm trivial rfl (t_gtrT rfl rfl (by omega)) rfl ?_ | refine Rg.tm trivial rfl (t_gtrF rfl rfl (by omega)) rfl ?_ | refine Rg.tm trivial rfl (t_gtr rfl rfl) rfl ?_
    refine Rg.done ?_
    refine Wp.condT rfl ?_
    refine Wp.seq (Wp.region ?_)
    refine Rg.tm trivial rfl (t_assign rfl) rfl ?_
    refine Rg.done ?_
    refine Wp.ret ?_
    exact ⟨[_], ⟨rfl, trivial⟩, rfl, rfl⟩
  · rw [show wd16 r = 1 from by rw [wd16, if_neg h]]
    refine Cl.enter Tryd.func27 rfl Tryd.ntmps27 rfl rfl ?_
    refine Wp.seq (Wp.region ?_)
    refine Rg.tm trivial rfl (t_assign rfl) rfl ?_
    refine Rg.done ?_
    refine Wp.seq ?_
    refine Wp.seq (Wp.region ?_)
    refine Rg.tm trivial rfl (t_move rfl) rfl ?_
    first | refine Rg.tm trivial rfl (t_gtrT rfl rfl (by omega)) rfl ?_ | refine Rg.tm trivial rfl (t_gtrF rfl rfl (by omega)) rfl ?_ | refine Rg.tm trivial rfl (t_gtr rfl rfl) rfl ?_
    refine Rg.done ?_
    refine Wp.condF rfl ?_
    refine Wp.skip ?_
    refine Wp.seq (Wp.region ?_)
    refine Rg.tm trivial rfl (t_assign rfl) rfl ?_
    refine Rg.done ?_
    refine Wp.ret ?_
    exact ⟨[_], ⟨rfl, trivial⟩, rfl, rfl⟩
theorem wd1_ok {w : World} {r : Nat} : Cl Tryd.prog 29 #[.int .i32 r] w (fun u w' => u = .int .i64 (wd1 r) ∧ w = w') := by
  refine Cl.enter Tryd.func29 rfl Tryd.ntmps29 rfl rfl ?_
  refine Wp.seq (Wp.region ?_)
  refine Rg.tm trivial rfl (t_assign rfl) rfl ?_
  refine Rg.done ?_
  refine Wp.seq (Wp.region ?_)
  refine Rg.tm trivial rfl (t_assign rfl) rfl ?_
  refine Rg.done ?_
  refine Wp.ret ?_
  exact ⟨[_], ⟨rfl, trivial⟩, rfl, rfl⟩

theorem starts_ok {w : World} {s : ByteArray} (hs : s.size ≤ 2000) : Cl Tryd.prog 14 #[.string s] w (fun u w' => SlC w' u 1 (lsN s s.size).length ((lsN s s.size).map (.int .i64)) ∧ Ext w w') := by
  obtain ⟨i, hi, hz, hsi, hby⟩ := inf3
  have hx := Ext.refl w
  refine Cl.enter Tryd.func14 rfl Tryd.ntmps14 rfl rfl ?_
  refine Wp.seq (Wp.region ?_)
  refine Rg.tm trivial rfl (t_assign rfl) rfl ?_
  refine Rg.done ?_
  refine Wp.seq (Wp.region ?_)
  refine Rg.wd trivial (w_buildSlice (bs30_1 _) rfl) rfl ?_
  rintro _ w1 ⟨b5, rfl, qb, hx1, hv⟩
  replace hx := hx.ext hx1
  have hown : w1.ownsRow w.heap.size 3 1 (.slice (some ⟨b5, 0, none⟩) 1 1) (nlc s 0 + 1) ((lsN s 0).map (.int .i64)) := by
    have := own_of_var (B := w.heap.size) hv (by omega) (by decide)
    exact this
  refine Rg.tm trivial rfl (t_assign rfl) rfl ?_
  refine Rg.done ?_
  refine Wp.seq ?_
  refine Wp.seq (Wp.region ?_)
  refine Rg.tm trivial rfl (t_move rfl) rfl ?_
  refine Rg.tm trivial rfl (t_len Tryd.underlying9 rfl) rfl ?_
  refine Rg.tm trivial rfl (t_move rfl) rfl ?_
  refine Rg.done ?_
  refine Wp.block ?_
  refine Wp.loop (ι := Nat × Value) (fun j => [(0, .string s), (3, j.2), (7, .int .i64 s.size), (8, .int .i64 j.1)])
    (fun j w' => j.1 ≤ s.size ∧ w'.ownsRow w.heap.size 3 1 j.2 (nlc s j.1 + 1) ((lsN s j.1).map (.int .i64)) ∧ Ext w w')
    (fun j => s.size - j.1) (0, _) (by repeat (first | exact .nil | refine .cons rfl ?_)) ⟨Nat.zero_le _, hown, hx⟩ ?_
  clear hx hown
  rintro ⟨k, v⟩ w3 ⟨hk, hown, hx⟩
  simp only at hk hown ⊢
  by_cases hlt : k < s.size
  · have hnl := nlc_le s k
    refine Wp.seq (Wp.region ?_)
    first | refine Rg.tm trivial rfl (t_lssT rfl rfl (by omega)) rfl ?_ | refine Rg.tm trivial rfl (t_lssF rfl rfl (by omega)) rfl ?_ | refine Rg.tm trivial rfl (t_lss rfl rfl) rfl ?_
    refine Rg.done ?_
    refine Wp.seq ?_
    refine Wp.condT rfl ?_
    refine Wp.skip ?_
    refine Wp.seq ?_
    refine Wp.block ?_
    refine Wp.seq (Wp.region ?_)
    refine Rg.tm trivial rfl (t_move rfl) rfl ?_
    refine Rg.tm trivial rfl (t_assign rfl) rfl ?_
    refine Rg.done ?_
    by_cases hb : bt s k = 10
    · skip
      refine Wp.seq (Wp.region ?_)
      refine Rg.tm trivial rfl (t_move rfl) rfl ?_
      refine Rg.tm trivial rfl (t_move rfl) rfl ?_
      refine Rg.tm trivial rfl (t_index Tryd.underlying9 rfl rfl (by omega)) rfl ?_
      rw [Int.toNat_natCast, bt_raw]
      first | refine Rg.tm trivial rfl (t_eqlT rfl rfl (by omega)) rfl ?_ | refine Rg.tm trivial rfl (t_eqlF rfl rfl (by omega)) rfl ?_ | refine Rg.tm trivial rfl (t_eql rfl rfl) rfl ?_
      refine Rg.done ?_
      refine Wp.condT rfl ?_
      refine Wp.region ?_
      refine Rg.tm trivial rfl (t_move rfl) rfl ?_
      refine Rg.tm trivial rfl (t_move rfl) rfl ?_
      first | refine Rg.tm trivial rfl (t_addI rfl rfl (by omega)) rfl ?_ | refine Rg.tm trivial rfl (t_add rfl rfl) rfl ?_
      refine Rg.wd trivial (w_buildSlice (bs30_1 _) rfl) rfl ?_
      rintro _ wb ⟨bb, rfl, qb2, hxb, hvb⟩
      replace hx := hx.ext hxb
      replace hown := own_ext hown hxb
      refine Rg.wd trivial (w_append w.heap.size Tryd.underlying30 hi hz hsi hby rfl (by decide) rfl rfl hown rfl (fun j u hu => by rw [addr_add]; exact hvb.cells j u hu) (by simp [Value.oneCell']) (by unfold maxLen; omega) (by omega) hx.le) rfl ?_
      rintro v2 wc ⟨hown2, hgr, p2, l2, c2, rfl⟩
      replace hx := own_ext2 hx hown hgr
      refine Rg.tm trivial rfl (t_assign rfl) rfl ?_
      refine Rg.done ?_
      refine Wp.region ?_
      first | refine Rg.tm trivial rfl (t_addI rfl rfl (by omega)) rfl ?_ | refine Rg.tm trivial rfl (t_add rfl rfl) rfl ?_
      refine Rg.tm trivial rfl (t_move rfl) rfl ?_
      refine Rg.done ?_
      have e1 : lsN s (k + 1) = lsN s k ++ [(k : Int) + 1] := by rw [lsN, if_pos hb]
      have e2 : nlc s (k + 1) = nlc s k + 1 := by rw [nlc, if_pos hb]
      exact ⟨(k + 1, .slice p2 l2 c2), by repeat (first | exact .nil | refine .cons rfl ?_), ⟨hlt, by rw [e1, e2, List.map_append]; exact hown2, hx⟩, by simp only; omega⟩
    · skip
      refine Wp.seq (Wp.region ?_)
      refine Rg.tm trivial rfl (t_move rfl) rfl ?_
      refine Rg.tm trivial rfl (t_move rfl) rfl ?_
      refine Rg.tm trivial rfl (t_index Tryd.underlying9 rfl rfl (by omega)) rfl ?_
      rw [Int.toNat_natCast, bt_raw]
      first | refine Rg.tm trivial rfl (t_eqlT rfl rfl (by omega)) rfl ?_ | refine Rg.tm trivial rfl (t_eqlF rfl rfl (by omega)) rfl ?_ | refine Rg.tm trivial rfl (t_eql rfl rfl) rfl ?_
      refine Rg.done ?_
      refine Wp.condF rfl ?_
      refine Wp.skip ?_
      refine Wp.region ?_
      first | refine Rg.tm trivial rfl (t_addI rfl rfl (by omega)) rfl ?_ | refine Rg.tm trivial rfl (t_add rfl rfl) rfl ?_
      refine Rg.tm trivial rfl (t_move rfl) rfl ?_
      refine Rg.done ?_
      have e1 : lsN s (k + 1) = lsN s k := by rw [lsN, if_neg hb]
      have e2 : nlc s (k + 1) = nlc s k := by rw [nlc, if_neg hb]
      exact ⟨(k + 1, v), by repeat (first | exact .nil | refine .cons rfl ?_), ⟨hlt, by rw [e1, e2]; exact hown, hx⟩, by simp only; omega⟩
  · have e0 : k = s.size := by omega
    subst e0
    refine Wp.seq (Wp.region ?_)
    first | refine Rg.tm trivial rfl (t_lssT rfl rfl (by omega)) rfl ?_ | refine Rg.tm trivial rfl (t_lssF rfl rfl (by omega)) rfl ?_ | refine Rg.tm trivial rfl (t_lss rfl rfl) rfl ?_
    refine Rg.done ?_
    refine Wp.seq ?_
    refine Wp.condF rfl ?_
    refine Wp.exit ?_
    refine Wp.seq (Wp.region ?_)
    refine Rg.tm trivial rfl (t_move rfl) rfl ?_
    refine Rg.tm trivial rfl (t_assign rfl) rfl ?_
    refine Rg.done ?_
    refine Wp.ret ?_
    exact ⟨[_], ⟨rfl, trivial⟩, by rw [lsN_length]; exact own_slice hown, hx⟩

def posT (p : Int × Int × Int) : Value := .tuple #[.agg #[.int .i64 p.1, .int .i64 p.2.1], .int .i64 p.2.2]
theorem toPos_ok {wd : Nat → Nat} {fw : FuncId} (hcf : ∀ (args : Array Value) (w : World), (callFunc fw args).run Tryd.prog w = .ok (.enter fw args) w) (hw : ∀ (w : World) (r : Nat), Cl Tryd.prog fw #[.int .i32 r] w (fun u w' => u = .int .i64 (wd r) ∧ w = w')) (hw2 : ∀ r, wd r ≤ 2) {w : World} {s : ByteArray} {off : Int} (hs : s.size ≤ 2000) (hT : Utf8Tabs 1 2 w) :
    Cl Tryd.prog 26 #[.string s, .int .i64 off, .func (.func fw) #[] #[]] w (fun u w' => u = posT (posV wd s off) ∧ Ext w w') := by
  have hx := Ext.refl w
  by_cases hbad : off < 0 ∨ (s.size : Int) < off
  · have e0 : posV wd s off = (0, 0, 1) := by rw [posV, if_pos hbad]
    rw [e0]
    by_cases hneg : off < 0
    all_goals
      refine Cl.enter Tryd.func26 rfl Tryd.ntmps26 rfl rfl ?_
      refine Wp.seq (Wp.region ?_)
      refine Rg.wd trivial (w_new Tryd.zeroValue25 rfl) rfl ?_
      rintro _ w1 ⟨b6, rfl, qb6, hx1, hv6⟩
      replace hx := hx.ext hx1
      have lt6 := hv6.lt
      refine Rg.tm trivial rfl (t_assign rfl) rfl ?_
      refine Rg.done ?_
      refine Wp.seq ?_
      refine Wp.seq (Wp.region ?_)
      refine Rg.tm trivial rfl (t_move rfl) rfl ?_
      first | refine Rg.tm trivial rfl (t_lssT rfl rfl (by omega)) rfl ?_ | refine Rg.tm trivial rfl (t_lssF rfl rfl (by omega)) rfl ?_ | refine Rg.tm trivial rfl (t_lss rfl rfl) rfl ?_
      refine Rg.tm trivial rfl (t_move rfl) rfl ?_
      first | refine Rg.tm ⟨_, rfl, rfl⟩ rfl (t_move rfl) rfl ?_ | refine Rg.sk (.inl ⟨_, _, rfl, rfl, rfl⟩) rfl ?_ | refine Rg.sk (.inr ⟨_, rfl, rfl⟩) rfl ?_
      first | refine Rg.tm ⟨_, rfl, rfl⟩ rfl (t_move rfl) rfl ?_ | refine Rg.sk (.inl ⟨_, _, rfl, rfl, rfl⟩) rfl ?_ | refine Rg.sk (.inr ⟨_, rfl, rfl⟩) rfl ?_
      first | refine Rg.tm ⟨_, rfl, rfl⟩ rfl (t_len Tryd.underlying9 rfl) rfl ?_ | refine Rg.sk (.inl ⟨_, _, rfl, rfl, rfl⟩) rfl ?_ | refine Rg.sk (.inr ⟨_, rfl, rfl⟩) rfl ?_
      first | refine Rg.tm ⟨_, rfl, rfl⟩ rfl (t_gtrT rfl rfl (by omega)) rfl ?_ | refine Rg.tm ⟨_, rfl, rfl⟩ rfl (t_gtrF rfl rfl (by omega)) rfl ?_ | refine Rg.tm ⟨_, rfl, rfl⟩ rfl (t_gtr rfl rfl) rfl ?_ | refine Rg.sk (.inl ⟨_, _, rfl, rfl, rfl⟩) rfl ?_ | refine Rg.sk (.inr ⟨_, rfl, rfl⟩) rfl ?_
      first | refine Rg.tm trivial rfl (t_pickT rfl rfl) rfl ?_ | refine Rg.tm trivial rfl (t_pickF rfl rfl) rfl ?_
      refine Rg.done ?_
      refine Wp.condT rfl ?_
      refine Wp.seq (Wp.region ?_)
      refine Rg.tm trivial rfl (t_build (bd25) rfl) rfl ?_
      refine Rg.wn trivial (w_put hv6 rfl rfl rfl ty25 rfl rfl) ?_
      rintro _ w8 ⟨hu8, hv6'⟩
      refine Rg.tm trivial rfl (t_assign rfl) rfl ?_
      refine Rg.done ?_
      refine Wp.ret ?_
      exact ⟨[_, _], ⟨RV.cellA (vs := [_, _]) ty25 rfl hv6'.cells, rfl, trivial⟩, rfl, hx.upd hu8 (by omega)⟩
  obtain ⟨k, rfl⟩ : ∃ k : Nat, off = k := ⟨off.toNat, by omega⟩
  have hk : k ≤ s.size := by omega
  have hle := lst_le s k
  have hnl := nlc_le s k
  have e0 : posV wd s k = if ((runs wd s (upTo k) (lst s k) 0).1 : Int) > k then (0, 0, 3) else ((nlc s k : Int), (runs wd s (upTo k) (lst s k) 0).2, 0) := by
    rw [posV, if_neg hbad]; rfl
  refine Cl.enter Tryd.func26 rfl Tryd.ntmps26 rfl rfl ?_
  refine Wp.seq (Wp.region ?_)
  refine Rg.wd trivial (w_new Tryd.zeroValue25 rfl) rfl ?_
  rintro _ w1 ⟨b6, rfl, qb6, hx1, hv6⟩
  replace hx := hx.ext hx1
  have lt6 := hv6.lt
  refine Rg.tm trivial rfl (t_assign rfl) rfl ?_
  refine Rg.done ?_
  refine Wp.seq ?_
  refine Wp.seq (Wp.region ?_)
  refine Rg.tm trivial rfl (t_move rfl) rfl ?_
  first | refine Rg.tm trivial rfl (t_lssT rfl rfl (by omega)) rfl ?_ | refine Rg.tm trivial rfl (t_lssF rfl rfl (by omega)) rfl ?_ | refine Rg.tm trivial rfl (t_lss rfl rfl) rfl ?_
  refine Rg.tm trivial rfl (t_move rfl) rfl ?_
  first | refine Rg.tm ⟨_, rfl, rfl⟩ rfl (t_move rfl) rfl ?_ | refine Rg.sk (.inl ⟨_, _, rfl, rfl, rfl⟩) rfl ?_ | refine Rg.sk (.inr ⟨_, rfl, rfl⟩) rfl ?_
  first | refine Rg.tm ⟨_, rfl, rfl⟩ rfl (t_move rfl) rfl ?_ | refine Rg.sk (.inl ⟨_, _, rfl, rfl, rfl⟩) rfl ?_ | refine Rg.sk (.inr ⟨_, rfl, rfl⟩) rfl ?_
  first | refine Rg.tm ⟨_, rfl, rfl⟩ rfl (t_len Tryd.underlying9 rfl) rfl ?_ | refine Rg.sk (.inl ⟨_, _, rfl, rfl, rfl⟩) rfl ?_ | refine Rg.sk (.inr ⟨_, rfl, rfl⟩) rfl ?_
  first | refine Rg.tm ⟨_, rfl, rfl⟩ rfl (t_gtrT rfl rfl (by omega)) rfl ?_ | refine Rg.tm ⟨_, rfl, rfl⟩ rfl (t_gtrF rfl rfl (by omega)) rfl ?_ | refine Rg.tm ⟨_, rfl, rfl⟩ rfl (t_gtr rfl rfl) rfl ?_ | refine Rg.sk (.inl ⟨_, _, rfl, rfl, rfl⟩) rfl ?_ | refine Rg.sk (.inr ⟨_, rfl, rfl⟩) rfl ?_
  first | refine Rg.tm trivial rfl (t_pickT rfl rfl) rfl ?_ | refine Rg.tm trivial rfl (t_pickF rfl rfl) rfl ?_
  refine Rg.done ?_
  refine Wp.condF rfl ?_
  refine Wp.skip ?_
  refine Wp.seq (Wp.region ?_)
  refine Rg.tm trivial rfl (t_move rfl) rfl ?_
  refine Rg.tm trivial rfl (t_move rfl) rfl ?_
  refine Rg.tm trivial rfl (t_sliceS Tryd.underlying9 rfl rfl rfl (by omega)) rfl ?_
  refine Rg.wd trivial (w_call Tryd.call37 rfl (count_ok hk)) rfl ?_
  rintro _ _ ⟨rfl, rfl⟩
  refine Rg.tm trivial rfl (t_build (bd25_0 _) rfl) rfl ?_
  refine Rg.wd trivial (w_new Tryd.zeroValue25 rfl) rfl ?_
  rintro _ w2 ⟨b8, rfl, qb8, hx2, hv8⟩
  replace hx := hx.ext hx2
  replace hv6 := hv6.ext hx2
  have lt8 := hv8.lt
  refine Rg.wn trivial (w_put hv8 rfl rfl rfl ty25 rfl rfl) ?_
  rintro _ w8 ⟨hu8, hv8'⟩
  replace hx := hx.upd hu8 (by have := hx1.le; omega)
  replace hv6 := hv6.upd hu8 (by omega)
  refine Rg.done ?_
  refine Wp.seq (Wp.region ?_)
  refine Rg.tm trivial rfl (t_move rfl) rfl ?_
  refine Rg.tm trivial rfl (t_move rfl) rfl ?_
  refine Rg.tm trivial rfl (t_sliceS Tryd.underlying9 rfl rfl rfl (by omega)) rfl ?_
  refine Rg.wd trivial (w_call Tryd.call38 rfl (last_ok hk (by omega))) rfl ?_
  rintro _ _ ⟨rfl, rfl⟩
  first | refine Rg.tm trivial rfl (t_addI rfl rfl (by omega)) rfl ?_ | refine Rg.tm trivial rfl (t_add rfl rfl) rfl ?_
  refine Rg.tm trivial rfl (t_assign rfl) rfl ?_
  refine Rg.done ?_
  refine Wp.seq ?_
  refine Wp.block ?_
  have rs : ((lst s k : Int) - 1 + 1) = (lst s k : Int) := by omega
  refine Wp.loop (ι := Nat × Int) (fun j => [(0, .string s), (1, .int .i64 k), (2, .func (.func fw) #[] #[]), (6, .pointer (some ⟨b6, 0, none⟩)), (8, .pointer (some ⟨b8, 0, none⟩)), (9, .int .i64 j.1)])
    (fun j w' => runs wd s (upTo k) j.1 j.2 = runs wd s (upTo k) (lst s k) 0 ∧ j.1 ≤ k + 4 ∧ 0 ≤ j.2 ∧ j.2 ≤ 2 * j.1 ∧ Ext w w' ∧ Var w' b6 [.int .i64 0, .int .i64 0] 25 ∧ Var w' b8 [.int .i64 (nlc s k), .int .i64 j.2] 25)
    (fun j => k - j.1) (lst s k, 0) (by repeat (first | exact .nil | refine .cons (by first | rfl | (simp only [rs]; rfl)) ?_)) ⟨rfl, by omega, Int.le_refl _, by omega, hx, hv6, hv8'⟩ ?_
  have le1 := hx1.le
  have ne68 : b6 < b8 := by omega
  clear hx hv6 hv8' hv8 hu8 hx1 hx2 lt6 lt8
  rintro ⟨i, c⟩ w3 ⟨hr, hi, hc0, hc2, hx, hv6, hv8⟩
  simp only at hr hi hc0 hc2 hv8 ⊢
  by_cases hlt : i < k
  · have hc8 := hv8.cells
    have hw2' := hw2 (dec s i).1
    have hd1 := dec_ge s (i := i) (by omega)
    have hd4 := dec_le s i
    rw [runs_step (upTo_in hk) (by simp [upTo, hlt])] at hr
    refine Wp.seq ?_
    refine Wp.seq (Wp.region ?_)
    refine Rg.tm trivial rfl (t_move rfl) rfl ?_
    refine Rg.tm trivial rfl (t_move rfl) rfl ?_
    first | refine Rg.tm trivial rfl (t_lssT rfl rfl (by omega)) rfl ?_ | refine Rg.tm trivial rfl (t_lssF rfl rfl (by omega)) rfl ?_ | refine Rg.tm trivial rfl (t_lss rfl rfl) rfl ?_
    refine Rg.done ?_
    refine Wp.condT rfl ?_
    refine Wp.skip ?_
    refine Wp.block ?_
    refine Wp.seq (Wp.region ?_)
    refine Rg.tm trivial rfl (t_move rfl) rfl ?_
    refine Rg.tm trivial rfl (t_move rfl) rfl ?_
    refine Rg.tm trivial rfl (t_sliceS Tryd.underlying9 rfl rfl rfl (by omega)) rfl ?_
    refine Rg.wd trivial (w_call Tryd.call39 rfl (dec_ok (s := s) (i := i) (hT.ext hx))) rfl ?_
    rintro _ w3 ⟨rfl, hx3⟩
    replace hx := hx.ext hx3
    replace hv6 := hv6.ext hx3
    replace hv8 := hv8.ext hx3
    replace hc8 := hc8.ext hx3
    refine Rg.tm trivial rfl (t_move rfl) rfl ?_
    refine Rg.tm trivial rfl (t_extract rfl rfl) rfl ?_
    refine Rg.tm trivial rfl (t_extract rfl rfl) rfl ?_
    refine Rg.tm trivial rfl (t_assign rfl) rfl ?_
    refine Rg.tm trivial rfl (t_assign rfl) rfl ?_
    refine Rg.done ?_
    refine Wp.seq (Wp.region ?_)
    refine Rg.tm trivial rfl (t_move rfl) rfl ?_
    refine Rg.tm trivial rfl (t_move rfl) rfl ?_
    first | refine Rg.tm trivial rfl (t_addI rfl rfl (by omega)) rfl ?_ | refine Rg.tm trivial rfl (t_add rfl rfl) rfl ?_
    refine Rg.tm trivial rfl (t_assign rfl) rfl ?_
    refine Rg.done ?_
    refine Wp.draw [0, 1, 2, 3, 4, 5, 6, 7] [0] mixed (by kernel_rfl) (by kernel_rfl) ?_
    intro w4 hx4 _
    replace hx := hx.ext hx4
    replace hv6 := hv6.ext hx4
    replace hv8 := hv8.ext hx4
    replace hc8 := hc8.ext hx4
    refine Rg.tm trivial rfl (t_fieldAddr fa25_1 rfl) rfl ?_
    refine Rg.tm trivial rfl (t_load ty3 rfl (by apply Cells.get (i := 1); (case h => assumption); rfl)) rfl ?_
    refine Rg.tm trivial rfl (t_move rfl) rfl ?_
    refine Rg.tm trivial rfl (t_move rfl) rfl ?_
    refine Rg.wdB trivial rfl (w_callV rfl hcf rfl (hw _ _)) rfl (fun _ _ h => h.2 ▸ Below.refl _ _) ?_
    rintro _ _ ⟨rfl, rfl⟩
    first | refine Rg.tm trivial rfl (t_addI rfl rfl (by omega)) rfl ?_ | refine Rg.tm trivial rfl (t_add rfl rfl) rfl ?_
    refine Rg.tm trivial rfl (t_fieldAddr fa25_1 rfl) rfl ?_
    refine Rg.wnB trivial rfl (w_putF hv8 ty3 rfl rfl rfl rfl rfl) (by rfl) ?_
    rintro _ w9 ⟨hu9, hv8'⟩
    replace hx := hx.upd hu9 (by omega)
    replace hv6 := hv6.upd hu9 (by omega)
    refine Rg.done ?_
    exact ⟨(i + (dec s i).2, c + wd (dec s i).1), by repeat (first | exact .nil | refine .cons (by first | rfl | simp) ?_), ⟨hr, by simp only; omega, by simp only; omega, by simp only; omega, hx, hv6, hv8'⟩, by simp only; omega⟩
  · have hc8 := hv8.cells
    have lt6 := hv6.lt
    rw [runs_stop (by simp [upTo]; omega)] at hr
    rw [← hr] at e0
    simp only at e0
    by_cases hgt : k < i
    · rw [e0, if_pos (by omega)]
      refine Wp.seq ?_
      refine Wp.seq (Wp.region ?_)
      refine Rg.tm trivial rfl (t_move rfl) rfl ?_
      refine Rg.tm trivial rfl (t_move rfl) rfl ?_
      first | refine Rg.tm trivial rfl (t_lssT rfl rfl (by omega)) rfl ?_ | refine Rg.tm trivial rfl (t_lssF rfl rfl (by omega)) rfl ?_ | refine Rg.tm trivial rfl (t_lss rfl rfl) rfl ?_
      refine Rg.done ?_
      refine Wp.condF rfl ?_
      refine Wp.exit ?_
      refine Wp.seq ?_
      refine Wp.seq (Wp.region ?_)
      refine Rg.tm trivial rfl (t_move rfl) rfl ?_
      refine Rg.tm trivial rfl (t_move rfl) rfl ?_
      first | refine Rg.tm trivial rfl (t_gtrT rfl rfl (by omega)) rfl ?_ | refine Rg.tm trivial rfl (t_gtrF rfl rfl (by omega)) rfl ?_ | refine Rg.tm trivial rfl (t_gtr rfl rfl) rfl ?_
      refine Rg.done ?_
      refine Wp.condT rfl ?_
      refine Wp.seq (Wp.region ?_)
      refine Rg.tm trivial rfl (t_build (bd25) rfl) rfl ?_
      refine Rg.wn trivial (w_put hv6 rfl rfl rfl ty25 rfl rfl) ?_
      rintro _ w9 ⟨hu9, hv6'⟩
      refine Rg.tm trivial rfl (t_assign rfl) rfl ?_
      refine Rg.done ?_
      refine Wp.ret ?_
      exact ⟨[_, _], ⟨RV.cellA (vs := [_, _]) ty25 rfl hv6'.cells, rfl, trivial⟩, rfl, hx.upd hu9 (by omega)⟩
    · rw [e0, if_neg (by omega)]
      refine Wp.seq ?_
      refine Wp.seq (Wp.region ?_)
      refine Rg.tm trivial rfl (t_move rfl) rfl ?_
      refine Rg.tm trivial rfl (t_move rfl) rfl ?_
      first | refine Rg.tm trivial rfl (t_lssT rfl rfl (by omega)) rfl ?_ | refine Rg.tm trivial rfl (t_lssF rfl rfl (by omega)) rfl ?_ | refine Rg.tm trivial rfl (t_lss rfl rfl) rfl ?_
      refine Rg.done ?_
      refine Wp.condF rfl ?_
      refine Wp.exit ?_
      refine Wp.seq ?_
      refine Wp.seq (Wp.region ?_)
      refine Rg.tm trivial rfl (t_move rfl) rfl ?_
      refine Rg.tm trivial rfl (t_move rfl) rfl ?_
      first | refine Rg.tm trivial rfl (t_gtrT rfl rfl (by omega)) rfl ?_ | refine Rg.tm trivial rfl (t_gtrF rfl rfl (by omega)) rfl ?_ | refine Rg.tm trivial rfl (t_gtr rfl rfl) rfl ?_
      refine Rg.done ?_
      refine Wp.condF rfl ?_
      refine Wp.skip ?_
      refine Wp.seq (Wp.region ?_)
      refine Rg.tm trivial rfl (t_loadA rfl (by assumption) (by exact ty25)) rfl ?_
      refine Rg.wn trivial (w_put hv6 rfl rfl rfl ty25 rfl rfl) ?_
      rintro _ w9 ⟨hu9, hv6'⟩
      refine Rg.tm trivial rfl (t_assign rfl) rfl ?_
      refine Rg.done ?_
      refine Wp.ret ?_
      exact ⟨[_, _], ⟨RV.cellA (vs := [_, _]) ty25 rfl hv6'.cells, rfl, trivial⟩, rfl, hx.upd hu9 (by omega)⟩

def offT (p : Int × Int) : Value := .tuple #[.int .i64 p.1, .int .i64 p.2]
theorem toOff_ok {wd : Nat → Nat} {fw : FuncId} (hcf : ∀ (args : Array Value) (w : World), (callFunc fw args).run Tryd.prog w = .ok (.enter fw args) w) (hw : ∀ (w : World) (r : Nat), Cl Tryd.prog fw #[.int .i32 r] w (fun u w' => u = .int .i64 (wd r) ∧ w = w')) (hw2 : ∀ r, wd r ≤ 2) {w : World} {s : ByteArray} {line col : Int} (hs : s.size ≤ 2000) (hT : Utf8Tabs 1 2 w) :
    Cl Tryd.prog 28 #[.string s, .agg #[.int .i64 line, .int .i64 col], .func (.func fw) #[] #[]] w (fun u w' => u = offT (offV wd s line col) ∧ Ext w w') := by
  have hx := Ext.refl w
  by_cases hbad : line < 0 ∨ ((lsN s s.size).length : Int) ≤ line
  · have e0 : offV wd s line col = (0, 5) := by rw [offV, if_pos hbad]
    rw [e0]
    by_cases hneg : line < 0
    all_goals
      refine Cl.enter Tryd.func28 rfl Tryd.ntmps28 rfl rfl ?_
      refine Wp.seq (Wp.region ?_)
      refine Rg.wd trivial (w_boxed rfl rfl) rfl ?_
      rintro _ w1 ⟨b4, rfl, qb4, hx1, hv4⟩
      replace hx := hx.ext hx1
      have hc4 := hv4.cells
      refine Rg.tm trivial rfl (t_assign rfl) rfl ?_
      refine Rg.tm trivial rfl (t_assign rfl) rfl ?_
      refine Rg.done ?_
      refine Wp.seq (Wp.region ?_)
      refine Rg.tm trivial rfl (t_move rfl) rfl ?_
      refine Rg.wd trivial (w_call Tryd.call14 rfl (starts_ok hs)) rfl ?_
      rintro v8 w2 ⟨hs8, hx2⟩
      replace hx := hx.ext hx2
      replace hv4 := hv4.ext hx2
      replace hc4 := hc4.ext hx2
      refine Rg.tm trivial rfl (t_assign rfl) rfl ?_
      refine Rg.done ?_
      refine Wp.seq ?_
      refine Wp.seq (Wp.region ?_)
      refine Rg.tm trivial rfl (t_fieldAddr fa25_0 rfl) rfl ?_
      refine Rg.tm trivial rfl (t_load ty3 rfl (by apply Cells.get (i := 0); (case h => assumption); rfl)) rfl ?_
      first | refine Rg.tm trivial rfl (t_lssT rfl rfl (by omega)) rfl ?_ | refine Rg.tm trivial rfl (t_lssF rfl rfl (by omega)) rfl ?_ | refine Rg.tm trivial rfl (t_lss rfl rfl) rfl ?_
      refine Rg.tm trivial rfl (t_move rfl) rfl ?_
      first | refine Rg.tm ⟨_, rfl, rfl⟩ rfl (t_fieldAddr fa25_0 rfl) rfl ?_ | refine Rg.sk (.inl ⟨_, _, rfl, rfl, rfl⟩) rfl ?_ | refine Rg.sk (.inr ⟨_, rfl, rfl⟩) rfl ?_
      first | refine Rg.tm ⟨_, rfl, rfl⟩ rfl (t_load ty3 rfl (by apply Cells.get (i := 0); (case h => assumption); rfl)) rfl ?_ | refine Rg.sk (.inl ⟨_, _, rfl, rfl, rfl⟩) rfl ?_ | refine Rg.sk (.inr ⟨_, rfl, rfl⟩) rfl ?_
      first | refine Rg.tm ⟨_, rfl, rfl⟩ rfl (t_move rfl) rfl ?_ | refine Rg.sk (.inl ⟨_, _, rfl, rfl, rfl⟩) rfl ?_ | refine Rg.sk (.inr ⟨_, rfl, rfl⟩) rfl ?_
      first | refine Rg.tm ⟨_, rfl, rfl⟩ rfl (t_lenC hs8 Tryd.underlying30 rfl) rfl ?_ | refine Rg.sk (.inl ⟨_, _, rfl, rfl, rfl⟩) rfl ?_ | refine Rg.sk (.inr ⟨_, rfl, rfl⟩) rfl ?_
      first | refine Rg.tm ⟨_, rfl, rfl⟩ rfl (t_geqT rfl rfl (by omega)) rfl ?_ | refine Rg.tm ⟨_, rfl, rfl⟩ rfl (t_geqF rfl rfl (by omega)) rfl ?_ | refine Rg.tm ⟨_, rfl, rfl⟩ rfl (t_geq rfl rfl) rfl ?_ | refine Rg.sk (.inl ⟨_, _, rfl, rfl, rfl⟩) rfl ?_ | refine Rg.sk (.inr ⟨_, rfl, rfl⟩) rfl ?_
      first | refine Rg.tm trivial rfl (t_pickT rfl rfl) rfl ?_ | refine Rg.tm trivial rfl (t_pickF rfl rfl) rfl ?_
      refine Rg.done ?_
      refine Wp.condT rfl ?_
      refine Wp.seq (Wp.region ?_)
      refine Rg.tm trivial rfl (t_assign rfl) rfl ?_
      refine Rg.tm trivial rfl (t_assign rfl) rfl ?_
      refine Rg.done ?_
      refine Wp.ret ?_
      exact ⟨[_, _], ⟨rfl, rfl, trivial⟩, rfl, hx⟩
  obtain ⟨n, rfl⟩ : ∃ n : Nat, line = n := ⟨line.toNat, by omega⟩
  have hn : n < (lsN s s.size).length := by omega
  obtain ⟨x, hx0⟩ : ∃ x, (lsN s s.size)[n] = x := ⟨_, rfl⟩
  have hin := lsN_in s s.size n x (by rw [List.getElem?_eq_getElem hn, hx0])
  obtain ⟨i0, rfl⟩ : ∃ i0 : Nat, x = i0 := ⟨x.toNat, by omega⟩
  have e0 : offV wd s n col = if col < 0 ∨ (runs wd s (colTo s col) i0 0).2 < col then (0, 1) else if (runs wd s (colTo s col) i0 0).2 > col then (0, 3) else (((runs wd s (colTo s col) i0 0).1 : Int), 0) := by
    rw [offV, if_neg hbad, Int.toNat_natCast, List.getD_eq_getElem?_getD, List.getElem?_eq_getElem hn, hx0]; rfl
  refine Cl.enter Tryd.func28 rfl Tryd.ntmps28 rfl rfl ?_
  refine Wp.seq (Wp.region ?_)
  refine Rg.wd trivial (w_boxed rfl rfl) rfl ?_
  rintro _ w1 ⟨b4, rfl, qb4, hx1, hv4⟩
  replace hx := hx.ext hx1
  have hc4 := hv4.cells
  refine Rg.tm trivial rfl (t_assign rfl) rfl ?_
  refine Rg.tm trivial rfl (t_assign rfl) rfl ?_
  refine Rg.done ?_
  refine Wp.seq (Wp.region ?_)
  refine Rg.tm trivial rfl (t_move rfl) rfl ?_
  refine Rg.wd trivial (w_call Tryd.call14 rfl (starts_ok hs)) rfl ?_
  rintro v8 w2 ⟨hs8, hx2⟩
  replace hx := hx.ext hx2
  replace hv4 := hv4.ext hx2
  replace hc4 := hc4.ext hx2
  refine Rg.tm trivial rfl (t_assign rfl) rfl ?_
  refine Rg.done ?_
  refine Wp.seq ?_
  refine Wp.seq (Wp.region ?_)
  refine Rg.tm trivial rfl (t_fieldAddr fa25_0 rfl) rfl ?_
  refine Rg.tm trivial rfl (t_load ty3 rfl (by apply Cells.get (i := 0); (case h => assumption); rfl)) rfl ?_
  first | refine Rg.tm trivial rfl (t_lssT rfl rfl (by omega)) rfl ?_ | refine Rg.tm trivial rfl (t_lssF rfl rfl (by omega)) rfl ?_ | refine Rg.tm trivial rfl (t_lss rfl rfl) rfl ?_
  refine Rg.tm trivial rfl (t_move rfl) rfl ?_
  first | refine Rg.tm ⟨_, rfl, rfl⟩ rfl (t_fieldAddr fa25_0 rfl) rfl ?_ | refine Rg.sk (.inl ⟨_, _, rfl, rfl, rfl⟩) rfl ?_ | refine Rg.sk (.inr ⟨_, rfl, rfl⟩) rfl ?_
  first | refine Rg.tm ⟨_, rfl, rfl⟩ rfl (t_load ty3 rfl (by apply Cells.get (i := 0); (case h => assumption); rfl)) rfl ?_ | refine Rg.sk (.inl ⟨_, _, rfl, rfl, rfl⟩) rfl ?_ | refine Rg.sk (.inr ⟨_, rfl, rfl⟩) rfl ?_
  first | refine Rg.tm ⟨_, rfl, rfl⟩ rfl (t_move rfl) rfl ?_ | refine Rg.sk (.inl ⟨_, _, rfl, rfl, rfl⟩) rfl ?_ | refine Rg.sk (.inr ⟨_, rfl, rfl⟩) rfl ?_
  first | refine Rg.tm ⟨_, rfl, rfl⟩ rfl (t_lenC hs8 Tryd.underlying30 rfl) rfl ?_ | refine Rg.sk (.inl ⟨_, _, rfl, rfl, rfl⟩) rfl ?_ | refine Rg.sk (.inr ⟨_, rfl, rfl⟩) rfl ?_
  first | refine Rg.tm ⟨_, rfl, rfl⟩ rfl (t_geqT rfl rfl (by omega)) rfl ?_ | refine Rg.tm ⟨_, rfl, rfl⟩ rfl (t_geqF rfl rfl (by omega)) rfl ?_ | refine Rg.tm ⟨_, rfl, rfl⟩ rfl (t_geq rfl rfl) rfl ?_ | refine Rg.sk (.inl ⟨_, _, rfl, rfl, rfl⟩) rfl ?_ | refine Rg.sk (.inr ⟨_, rfl, rfl⟩) rfl ?_
  first | refine Rg.tm trivial rfl (t_pickT rfl rfl) rfl ?_ | refine Rg.tm trivial rfl (t_pickF rfl rfl) rfl ?_
  refine Rg.done ?_
  refine Wp.condF rfl ?_
  refine Wp.skip ?_
  refine Wp.seq (Wp.region ?_)
  refine Rg.tm trivial rfl (t_move rfl) rfl ?_
  refine Rg.tm trivial rfl (t_fieldAddr fa25_0 rfl) rfl ?_
  refine Rg.tm trivial rfl (t_load ty3 rfl (by apply Cells.get (i := 0); (case h => assumption); rfl)) rfl ?_
  refine Rg.ix hs8 trivial rfl rfl Tryd.underlying30 ty3 (by omega) rfl ?_
  intro bt28 ot28 ht28
  rw [Int.toNat_natCast, ints_at (zs := lsN s s.size) (k := n) hn, hx0] at ht28
  refine Rg.tm trivial rfl (t_load ty3 rfl (by first | assumption | (apply Cells.get (i := 0); (case h => assumption); rfl))) rfl ?_
  refine Rg.tm trivial rfl (t_assign rfl) rfl ?_
  refine Rg.tm trivial rfl (t_assign rfl) rfl ?_
  refine Rg.done ?_
  refine Wp.seq ?_
  refine Wp.block ?_
  refine Wp.loop (ι := Nat × Int) (fun j => [(0, .string s), (2, .func (.func fw) #[] #[]), (4, .pointer (some ⟨b4, 0, none⟩)), (9, .int .i64 j.1), (10, .int .i64 j.2)])
    (fun j w' => runs wd s (colTo s col) j.1 j.2 = runs wd s (colTo s col) i0 0 ∧ j.1 ≤ 2004 ∧ 0 ≤ j.2 ∧ j.2 ≤ 2 * j.1 ∧ Ext w w' ∧ Cells w' b4 0 [.int .i64 n, .int .i64 col])
    (fun j => s.size - j.1) (i0, 0) (by repeat (first | exact .nil | refine .cons rfl ?_)) ⟨rfl, by simp only; omega, Int.le_refl _, by simp only; omega, hx, hc4⟩ ?_
  clear hx hc4 hx1 hx2 hs8 ht28 hv4
  rintro ⟨i, c⟩ w3 ⟨hr, hi, hc0, hc2, hx, hc4⟩
  simp only at hr hi hc0 hc2 ⊢
  by_cases h1 : c < col
  · by_cases h2 : i < s.size
    · by_cases h3 : bt s i = 10
      · skip
        rw [runs_stop (by simp [colTo]; omega)] at hr
        rw [← hr] at e0
        simp only at e0
        rw [e0, if_pos (.inr h1)]
        refine Wp.seq ?_
        refine Wp.seq (Wp.region ?_)
        refine Rg.tm trivial rfl (t_move rfl) rfl ?_
        refine Rg.tm trivial rfl (t_fieldAddr fa25_1 rfl) rfl ?_
        refine Rg.tm trivial rfl (t_load ty3 rfl (by apply Cells.get (i := 1); (case h => assumption); rfl)) rfl ?_
        first | refine Rg.tm trivial rfl (t_lssT rfl rfl (by omega)) rfl ?_ | refine Rg.tm trivial rfl (t_lssF rfl rfl (by omega)) rfl ?_ | refine Rg.tm trivial rfl (t_lss rfl rfl) rfl ?_
        refine Rg.tm trivial rfl (t_move rfl) rfl ?_
        first | refine Rg.tm ⟨_, rfl, rfl⟩ rfl (t_move rfl) rfl ?_ | refine Rg.sk (.inl ⟨_, _, rfl, rfl, rfl⟩) rfl ?_ | refine Rg.sk (.inr ⟨_, rfl, rfl⟩) rfl ?_
        first | refine Rg.tm ⟨_, rfl, rfl⟩ rfl (t_move rfl) rfl ?_ | refine Rg.sk (.inl ⟨_, _, rfl, rfl, rfl⟩) rfl ?_ | refine Rg.sk (.inr ⟨_, rfl, rfl⟩) rfl ?_
        first | refine Rg.tm ⟨_, rfl, rfl⟩ rfl (t_len Tryd.underlying9 rfl) rfl ?_ | refine Rg.sk (.inl ⟨_, _, rfl, rfl, rfl⟩) rfl ?_ | refine Rg.sk (.inr ⟨_, rfl, rfl⟩) rfl ?_
        first | refine Rg.tm ⟨_, rfl, rfl⟩ rfl (t_lssT rfl rfl (by omega)) rfl ?_ | refine Rg.tm ⟨_, rfl, rfl⟩ rfl (t_lssF rfl rfl (by omega)) rfl ?_ | refine Rg.tm ⟨_, rfl, rfl⟩ rfl (t_lss rfl rfl) rfl ?_ | refine Rg.sk (.inl ⟨_, _, rfl, rfl, rfl⟩) rfl ?_ | refine Rg.sk (.inr ⟨_, rfl, rfl⟩) rfl ?_
        first | refine Rg.tm trivial rfl (t_pickT rfl rfl) rfl ?_ | refine Rg.tm trivial rfl (t_pickF rfl rfl) rfl ?_
        refine Rg.tm trivial rfl (t_move rfl) rfl ?_
        first | refine Rg.tm ⟨_, rfl, rfl⟩ rfl (t_move rfl) rfl ?_ | refine Rg.sk (.inl ⟨_, _, rfl, rfl, rfl⟩) rfl ?_ | refine Rg.sk (.inr ⟨_, rfl, rfl⟩) rfl ?_
        first | refine Rg.tm ⟨_, rfl, rfl⟩ rfl (t_move rfl) rfl ?_ | refine Rg.sk (.inl ⟨_, _, rfl, rfl, rfl⟩) rfl ?_ | refine Rg.sk (.inr ⟨_, rfl, rfl⟩) rfl ?_
        first | refine Rg.tm ⟨_, rfl, rfl⟩ rfl (t_index Tryd.underlying9 rfl rfl (by omega)) rfl ?_ | refine Rg.sk (.inl ⟨_, _, rfl, rfl, rfl⟩) rfl ?_ | refine Rg.sk (.inr ⟨_, rfl, rfl⟩) rfl ?_
        try rw [Int.toNat_natCast, bt_raw]
        first | refine Rg.tm ⟨_, rfl, rfl⟩ rfl (t_neqT rfl rfl (by omega)) rfl ?_ | refine Rg.tm ⟨_, rfl, rfl⟩ rfl (t_neqF rfl rfl (by omega)) rfl ?_ | refine Rg.tm ⟨_, rfl, rfl⟩ rfl (t_neq rfl rfl) rfl ?_ | refine Rg.sk (.inl ⟨_, _, rfl, rfl, rfl⟩) rfl ?_ | refine Rg.sk (.inr ⟨_, rfl, rfl⟩) rfl ?_
        first | refine Rg.tm trivial rfl (t_pickT rfl rfl) rfl ?_ | refine Rg.tm trivial rfl (t_pickF rfl rfl) rfl ?_
        refine Rg.done ?_
        refine Wp.condF rfl ?_
        refine Wp.exit ?_
        refine Wp.seq ?_
        refine Wp.block ?_
        refine Wp.seq (Wp.region ?_)
        refine Rg.tm trivial rfl (t_fieldAddr fa25_1 rfl) rfl ?_
        refine Rg.tm trivial rfl (t_load ty3 rfl (by apply Cells.get (i := 1); (case h => assumption); rfl)) rfl ?_
        first | refine Rg.tm trivial rfl (t_lssT rfl rfl (by omega)) rfl ?_ | refine Rg.tm trivial rfl (t_lssF rfl rfl (by omega)) rfl ?_ | refine Rg.tm trivial rfl (t_lss rfl rfl) rfl ?_
        refine Rg.tm trivial rfl (t_move rfl) rfl ?_
        first | refine Rg.tm ⟨_, rfl, rfl⟩ rfl (t_move rfl) rfl ?_ | refine Rg.sk (.inl ⟨_, _, rfl, rfl, rfl⟩) rfl ?_ | refine Rg.sk (.inr ⟨_, rfl, rfl⟩) rfl ?_
        first | refine Rg.tm ⟨_, rfl, rfl⟩ rfl (t_fieldAddr fa25_1 rfl) rfl ?_ | refine Rg.sk (.inl ⟨_, _, rfl, rfl, rfl⟩) rfl ?_ | refine Rg.sk (.inr ⟨_, rfl, rfl⟩) rfl ?_
        first | refine Rg.tm ⟨_, rfl, rfl⟩ rfl (t_load ty3 rfl (by apply Cells.get (i := 1); (case h => assumption); rfl)) rfl ?_ | refine Rg.sk (.inl ⟨_, _, rfl, rfl, rfl⟩) rfl ?_ | refine Rg.sk (.inr ⟨_, rfl, rfl⟩) rfl ?_
        first | refine Rg.tm ⟨_, rfl, rfl⟩ rfl (t_lssT rfl rfl (by omega)) rfl ?_ | refine Rg.tm ⟨_, rfl, rfl⟩ rfl (t_lssF rfl rfl (by omega)) rfl ?_ | refine Rg.tm ⟨_, rfl, rfl⟩ rfl (t_lss rfl rfl) rfl ?_ | refine Rg.sk (.inl ⟨_, _, rfl, rfl, rfl⟩) rfl ?_ | refine Rg.sk (.inr ⟨_, rfl, rfl⟩) rfl ?_
        first | refine Rg.tm trivial rfl (t_pickT rfl rfl) rfl ?_ | refine Rg.tm trivial rfl (t_pickF rfl rfl) rfl ?_
        refine Rg.tm trivial rfl (t_assign rfl) rfl ?_
        refine Rg.done ?_
        refine Wp.condT rfl ?_
        refine Wp.seq (Wp.region ?_)
        refine Rg.tm trivial rfl (t_assign rfl) rfl ?_
        refine Rg.tm trivial rfl (t_assign rfl) rfl ?_
        refine Rg.done ?_
        refine Wp.ret ?_
        exact ⟨[_, _], ⟨rfl, rfl, trivial⟩, rfl, hx⟩
      · have hgo : colTo s col i c = true := by simp only [colTo, Bool.and_eq_true, decide_eq_true_eq]; exact ⟨⟨h1, h2⟩, h3⟩
        have hw2' := hw2 (dec s i).1
        have hd1 := dec_ge s (i := i) (by omega)
        have hd4 := dec_le s i
        rw [runs_step colTo_in hgo] at hr
        refine Wp.seq ?_
        refine Wp.seq (Wp.region ?_)
        refine Rg.tm trivial rfl (t_move rfl) rfl ?_
        refine Rg.tm trivial rfl (t_fieldAddr fa25_1 rfl) rfl ?_
        refine Rg.tm trivial rfl (t_load ty3 rfl (by apply Cells.get (i := 1); (case h => assumption); rfl)) rfl ?_
        first | refine Rg.tm trivial rfl (t_lssT rfl rfl (by omega)) rfl ?_ | refine Rg.tm trivial rfl (t_lssF rfl rfl (by omega)) rfl ?_ | refine Rg.tm trivial rfl (t_lss rfl rfl) rfl ?_
        refine Rg.tm trivial rfl (t_move rfl) rfl ?_
        first | refine Rg.tm ⟨_, rfl, rfl⟩ rfl (t_move rfl) rfl ?_ | refine Rg.sk (.inl ⟨_, _, rfl, rfl, rfl⟩) rfl ?_ | refine Rg.sk (.inr ⟨_, rfl, rfl⟩) rfl ?_
        first | refine Rg.tm ⟨_, rfl, rfl⟩ rfl (t_move rfl) rfl ?_ | refine Rg.sk (.inl ⟨_, _, rfl, rfl, rfl⟩) rfl ?_ | refine Rg.sk (.inr ⟨_, rfl, rfl⟩) rfl ?_
        first | refine Rg.tm ⟨_, rfl, rfl⟩ rfl (t_len Tryd.underlying9 rfl) rfl ?_ | refine Rg.sk (.inl ⟨_, _, rfl, rfl, rfl⟩) rfl ?_ | refine Rg.sk (.inr ⟨_, rfl, rfl⟩) rfl ?_
        first | refine Rg.tm ⟨_, rfl, rfl⟩ rfl (t_lssT rfl rfl (by omega)) rfl ?_ | refine Rg.tm ⟨_, rfl, rfl⟩ rfl (t_lssF rfl rfl (by omega)) rfl ?_ | refine Rg.tm ⟨_, rfl, rfl⟩ rfl (t_lss rfl rfl) rfl ?_ | refine Rg.sk (.inl ⟨_, _, rfl, rfl, rfl⟩) rfl ?_ | refine Rg.sk (.inr ⟨_, rfl, rfl⟩) rfl ?_
        first | refine Rg.tm trivial rfl (t_pickT rfl rfl) rfl ?_ | refine Rg.tm trivial rfl (t_pickF rfl rfl) rfl ?_
        refine Rg.tm trivial rfl (t_move rfl) rfl ?_
        first | refine Rg.tm ⟨_, rfl, rfl⟩ rfl (t_move rfl) rfl ?_ | refine Rg.sk (.inl ⟨_, _, rfl, rfl, rfl⟩) rfl ?_ | refine Rg.sk (.inr ⟨_, rfl, rfl⟩) rfl ?_
        first | refine Rg.tm ⟨_, rfl, rfl⟩ rfl (t_move rfl) rfl ?_ | refine Rg.sk (.inl ⟨_, _, rfl, rfl, rfl⟩) rfl ?_ | refine Rg.sk (.inr ⟨_, rfl, rfl⟩) rfl ?_
        first | refine Rg.tm ⟨_, rfl, rfl⟩ rfl (t_index Tryd.underlying9 rfl rfl (by omega)) rfl ?_ | refine Rg.sk (.inl ⟨_, _, rfl, rfl, rfl⟩) rfl ?_ | refine Rg.sk (.inr ⟨_, rfl, rfl⟩) rfl ?_
        try rw [Int.toNat_natCast, bt_raw]
        first | refine Rg.tm ⟨_, rfl, rfl⟩ rfl (t_neqT rfl rfl (by omega)) rfl ?_ | refine Rg.tm ⟨_, rfl, rfl⟩ rfl (t_neqF rfl rfl (by omega)) rfl ?_ | refine Rg.tm ⟨_, rfl, rfl⟩ rfl (t_neq rfl rfl) rfl ?_ | refine Rg.sk (.inl ⟨_, _, rfl, rfl, rfl⟩) rfl ?_ | refine Rg.sk (.inr ⟨_, rfl, rfl⟩) rfl ?_
        first | refine Rg.tm trivial rfl (t_pickT rfl rfl) rfl ?_ | refine Rg.tm trivial rfl (t_pickF rfl rfl) rfl ?_
        refine Rg.done ?_
        refine Wp.condT rfl ?_
        refine Wp.skip ?_
        refine Wp.block ?_
        refine Wp.seq (Wp.region ?_)
        refine Rg.tm trivial rfl (t_move rfl) rfl ?_
        refine Rg.tm trivial rfl (t_move rfl) rfl ?_
        refine Rg.tm trivial rfl (t_sliceS Tryd.underlying9 rfl rfl rfl (by omega)) rfl ?_
        refine Rg.wd trivial (w_call Tryd.call39 rfl (dec_ok (s := s) (i := i) (hT.ext hx))) rfl ?_
        rintro _ w3 ⟨rfl, hx3⟩
        replace hx := hx.ext hx3
        replace hc4 := hc4.ext hx3
        refine Rg.tm trivial rfl (t_move rfl) rfl ?_
        refine Rg.tm trivial rfl (t_extract rfl rfl) rfl ?_
        refine Rg.tm trivial rfl (t_extract rfl rfl) rfl ?_
        refine Rg.tm trivial rfl (t_assign rfl) rfl ?_
        refine Rg.tm trivial rfl (t_assign rfl) rfl ?_
        refine Rg.done ?_
        refine Wp.seq (Wp.region ?_)
        refine Rg.tm trivial rfl (t_move rfl) rfl ?_
        refine Rg.tm trivial rfl (t_move rfl) rfl ?_
        first | refine Rg.tm trivial rfl (t_addI rfl rfl (by omega)) rfl ?_ | refine Rg.tm trivial rfl (t_add rfl rfl) rfl ?_
        refine Rg.tm trivial rfl (t_assign rfl) rfl ?_
        refine Rg.done ?_
        refine Wp.region ?_
        refine Rg.tm trivial rfl (t_move rfl) rfl ?_
        refine Rg.tm trivial rfl (t_move rfl) rfl ?_
        refine Rg.tm trivial rfl (t_move rfl) rfl ?_
        refine Rg.wd trivial (w_callV rfl hcf rfl (hw _ _)) rfl ?_
        rintro _ _ ⟨rfl, rfl⟩
        first | refine Rg.tm trivial rfl (t_addI rfl rfl (by omega)) rfl ?_ | refine Rg.tm trivial rfl (t_add rfl rfl) rfl ?_
        refine Rg.tm trivial rfl (t_assign rfl) rfl ?_
        refine Rg.done ?_
        exact ⟨(i + (dec s i).2, c + wd (dec s i).1), by repeat (first | exact .nil | refine .cons (by first | rfl | simp) ?_), ⟨hr, by simp only; omega, by simp only; omega, by simp only; omega, hx, hc4⟩, by simp only; omega⟩
    · skip
      rw [runs_stop (by simp [colTo]; omega)] at hr
      rw [← hr] at e0
      simp only at e0
      rw [e0, if_pos (.inr h1)]
      refine Wp.seq ?_
      refine Wp.seq (Wp.region ?_)
      refine Rg.tm trivial rfl (t_move rfl) rfl ?_
      refine Rg.tm trivial rfl (t_fieldAddr fa25_1 rfl) rfl ?_
      refine Rg.tm trivial rfl (t_load ty3 rfl (by apply Cells.get (i := 1); (case h => assumption); rfl)) rfl ?_
      first | refine Rg.tm trivial rfl (t_lssT rfl rfl (by omega)) rfl ?_ | refine Rg.tm trivial rfl (t_lssF rfl rfl (by omega)) rfl ?_ | refine Rg.tm trivial rfl (t_lss rfl rfl) rfl ?_
      refine Rg.tm trivial rfl (t_move rfl) rfl ?_
      first | refine Rg.tm ⟨_, rfl, rfl⟩ rfl (t_move rfl) rfl ?_ | refine Rg.sk (.inl ⟨_, _, rfl, rfl, rfl⟩) rfl ?_ | refine Rg.sk (.inr ⟨_, rfl, rfl⟩) rfl ?_
      first | refine Rg.tm ⟨_, rfl, rfl⟩ rfl (t_move rfl) rfl ?_ | refine Rg.sk (.inl ⟨_, _, rfl, rfl, rfl⟩) rfl ?_ | refine Rg.sk (.inr ⟨_, rfl, rfl⟩) rfl ?_
      first | refine Rg.tm ⟨_, rfl, rfl⟩ rfl (t_len Tryd.underlying9 rfl) rfl ?_ | refine Rg.sk (.inl ⟨_, _, rfl, rfl, rfl⟩) rfl ?_ | refine Rg.sk (.inr ⟨_, rfl, rfl⟩) rfl ?_
      first | refine Rg.tm ⟨_, rfl, rfl⟩ rfl (t_lssT rfl rfl (by omega)) rfl ?_ | refine Rg.tm ⟨_, rfl, rfl⟩ rfl (t_lssF rfl rfl (by omega)) rfl ?_ | refine Rg.tm ⟨_, rfl, rfl⟩ rfl (t_lss rfl rfl) rfl ?_ | refine Rg.sk (.inl ⟨_, _, rfl, rfl, rfl⟩) rfl ?_ | refine Rg.sk (.inr ⟨_, rfl, rfl⟩) rfl ?_
      first | refine Rg.tm trivial rfl (t_pickT rfl rfl) rfl ?_ | refine Rg.tm trivial rfl (t_pickF rfl rfl) rfl ?_
      refine Rg.tm trivial rfl (t_move rfl) rfl ?_
      first | refine Rg.tm ⟨_, rfl, rfl⟩ rfl (t_move rfl) rfl ?_ | refine Rg.sk (.inl ⟨_, _, rfl, rfl, rfl⟩) rfl ?_ | refine Rg.sk (.inr ⟨_, rfl, rfl⟩) rfl ?_
      first | refine Rg.tm ⟨_, rfl, rfl⟩ rfl (t_move rfl) rfl ?_ | refine Rg.sk (.inl ⟨_, _, rfl, rfl, rfl⟩) rfl ?_ | refine Rg.sk (.inr ⟨_, rfl, rfl⟩) rfl ?_
      first | refine Rg.tm ⟨_, rfl, rfl⟩ rfl (t_index Tryd.underlying9 rfl rfl (by omega)) rfl ?_ | refine Rg.sk (.inl ⟨_, _, rfl, rfl, rfl⟩) rfl ?_ | refine Rg.sk (.inr ⟨_, rfl, rfl⟩) rfl ?_
      try rw [Int.toNat_natCast, bt_raw]
      first | refine Rg.tm ⟨_, rfl, rfl⟩ rfl (t_neqT rfl rfl (by omega)) rfl ?_ | refine Rg.tm ⟨_, rfl, rfl⟩ rfl (t_neqF rfl rfl (by omega)) rfl ?_ | refine Rg.tm ⟨_, rfl, rfl⟩ rfl (t_neq rfl rfl) rfl ?_ | refine Rg.sk (.inl ⟨_, _, rfl, rfl, rfl⟩) rfl ?_ | refine Rg.sk (.inr ⟨_, rfl, rfl⟩) rfl ?_
      first | refine Rg.tm trivial rfl (t_pickT rfl rfl) rfl ?_ | refine Rg.tm trivial rfl (t_pickF rfl rfl) rfl ?_
      refine Rg.done ?_
      refine Wp.condF rfl ?_
      refine Wp.exit ?_
      refine Wp.seq ?_
      refine Wp.block ?_
      refine Wp.seq (Wp.region ?_)
      refine Rg.tm trivial rfl (t_fieldAddr fa25_1 rfl) rfl ?_
      refine Rg.tm trivial rfl (t_load ty3 rfl (by apply Cells.get (i := 1); (case h => assumption); rfl)) rfl ?_
      first | refine Rg.tm trivial rfl (t_lssT rfl rfl (by omega)) rfl ?_ | refine Rg.tm trivial rfl (t_lssF rfl rfl (by omega)) rfl ?_ | refine Rg.tm trivial rfl (t_lss rfl rfl) rfl ?_
      refine Rg.tm trivial rfl (t_move rfl) rfl ?_
      first | refine Rg.tm ⟨_, rfl, rfl⟩ rfl (t_move rfl) rfl ?_ | refine Rg.sk (.inl ⟨_, _, rfl, rfl, rfl⟩) rfl ?_ | refine Rg.sk (.inr ⟨_, rfl, rfl⟩) rfl ?_
      first | refine Rg.tm ⟨_, rfl, rfl⟩ rfl (t_fieldAddr fa25_1 rfl) rfl ?_ | refine Rg.sk (.inl ⟨_, _, rfl, rfl, rfl⟩) rfl ?_ | refine Rg.sk (.inr ⟨_, rfl, rfl⟩) rfl ?_
      first | refine Rg.tm ⟨_, rfl, rfl⟩ rfl (t_load ty3 rfl (by apply Cells.get (i := 1); (case h => assumption); rfl)) rfl ?_ | refine Rg.sk (.inl ⟨_, _, rfl, rfl, rfl⟩) rfl ?_ | refine Rg.sk (.inr ⟨_, rfl, rfl⟩) rfl ?_
      first | refine Rg.tm ⟨_, rfl, rfl⟩ rfl (t_lssT rfl rfl (by omega)) rfl ?_ | refine Rg.tm ⟨_, rfl, rfl⟩ rfl (t_lssF rfl rfl (by omega)) rfl ?_ | refine Rg.tm ⟨_, rfl, rfl⟩ rfl (t_lss rfl rfl) rfl ?_ | refine Rg.sk (.inl ⟨_, _, rfl, rfl, rfl⟩) rfl ?_ | refine Rg.sk (.inr ⟨_, rfl, rfl⟩) rfl ?_
      first | refine Rg.tm trivial rfl (t_pickT rfl rfl) rfl ?_ | refine Rg.tm trivial rfl (t_pickF rfl rfl) rfl ?_
      refine Rg.tm trivial rfl (t_assign rfl) rfl ?_
      refine Rg.done ?_
      refine Wp.condT rfl ?_
      refine Wp.seq (Wp.region ?_)
      refine Rg.tm trivial rfl (t_assign rfl) rfl ?_
      refine Rg.tm trivial rfl (t_assign rfl) rfl ?_
      refine Rg.done ?_
      refine Wp.ret ?_
      exact ⟨[_, _], ⟨rfl, rfl, trivial⟩, rfl, hx⟩
  · skip
    rw [runs_stop (by simp [colTo]; omega)] at hr
    rw [← hr] at e0
    simp only at e0
    by_cases hneg : col < 0
    · rw [e0, if_pos (.inl hneg)]
      refine Wp.seq ?_
      refine Wp.seq (Wp.region ?_)
      refine Rg.tm trivial rfl (t_move rfl) rfl ?_
      refine Rg.tm trivial rfl (t_fieldAddr fa25_1 rfl) rfl ?_
      refine Rg.tm trivial rfl (t_load ty3 rfl (by apply Cells.get (i := 1); (case h => assumption); rfl)) rfl ?_
      first | refine Rg.tm trivial rfl (t_lssT rfl rfl (by omega)) rfl ?_ | refine Rg.tm trivial rfl (t_lssF rfl rfl (by omega)) rfl ?_ | refine Rg.tm trivial rfl (t_lss rfl rfl) rfl ?_
      refine Rg.tm trivial rfl (t_move rfl) rfl ?_
      first | refine Rg.tm ⟨_, rfl, rfl⟩ rfl (t_move rfl) rfl ?_ | refine Rg.sk (.inl ⟨_, _, rfl, rfl, rfl⟩) rfl ?_ | refine Rg.sk (.inr ⟨_, rfl, rfl⟩) rfl ?_
      first | refine Rg.tm ⟨_, rfl, rfl⟩ rfl (t_move rfl) rfl ?_ | refine Rg.sk (.inl ⟨_, _, rfl, rfl, rfl⟩) rfl ?_ | refine Rg.sk (.inr ⟨_, rfl, rfl⟩) rfl ?_
      first | refine Rg.tm ⟨_, rfl, rfl⟩ rfl (t_len Tryd.underlying9 rfl) rfl ?_ | refine Rg.sk (.inl ⟨_, _, rfl, rfl, rfl⟩) rfl ?_ | refine Rg.sk (.inr ⟨_, rfl, rfl⟩) rfl ?_
      first | refine Rg.tm ⟨_, rfl, rfl⟩ rfl (t_lssT rfl rfl (by omega)) rfl ?_ | refine Rg.tm ⟨_, rfl, rfl⟩ rfl (t_lssF rfl rfl (by omega)) rfl ?_ | refine Rg.tm ⟨_, rfl, rfl⟩ rfl (t_lss rfl rfl) rfl ?_ | refine Rg.sk (.inl ⟨_, _, rfl, rfl, rfl⟩) rfl ?_ | refine Rg.sk (.inr ⟨_, rfl, rfl⟩) rfl ?_
      first | refine Rg.tm trivial rfl (t_pickT rfl rfl) rfl ?_ | refine Rg.tm trivial rfl (t_pickF rfl rfl) rfl ?_
      refine Rg.tm trivial rfl (t_move rfl) rfl ?_
      first | refine Rg.tm ⟨_, rfl, rfl⟩ rfl (t_move rfl) rfl ?_ | refine Rg.sk (.inl ⟨_, _, rfl, rfl, rfl⟩) rfl ?_ | refine Rg.sk (.inr ⟨_, rfl, rfl⟩) rfl ?_
      first | refine Rg.tm ⟨_, rfl, rfl⟩ rfl (t_move rfl) rfl ?_ | refine Rg.sk (.inl ⟨_, _, rfl, rfl, rfl⟩) rfl ?_ | refine Rg.sk (.inr ⟨_, rfl, rfl⟩) rfl ?_
      first | refine Rg.tm ⟨_, rfl, rfl⟩ rfl (t_index Tryd.underlying9 rfl rfl (by omega)) rfl ?_ | refine Rg.sk (.inl ⟨_, _, rfl, rfl, rfl⟩) rfl ?_ | refine Rg.sk (.inr ⟨_, rfl, rfl⟩) rfl ?_
      try rw [Int.toNat_natCast, bt_raw]
      first | refine Rg.tm ⟨_, rfl, rfl⟩ rfl (t_neqT rfl rfl (by omega)) rfl ?_ | refine Rg.tm ⟨_, rfl, rfl⟩ rfl (t_neqF rfl rfl (by omega)) rfl ?_ | refine Rg.tm ⟨_, rfl, rfl⟩ rfl (t_neq rfl rfl) rfl ?_ | refine Rg.sk (.inl ⟨_, _, rfl, rfl, rfl⟩) rfl ?_ | refine Rg.sk (.inr ⟨_, rfl, rfl⟩) rfl ?_
      first | refine Rg.tm trivial rfl (t_pickT rfl rfl) rfl ?_ | refine Rg.tm trivial rfl (t_pickF rfl rfl) rfl ?_
      refine Rg.done ?_
      refine Wp.condF rfl ?_
      refine Wp.exit ?_
      refine Wp.seq ?_
      refine Wp.block ?_
      refine Wp.seq (Wp.region ?_)
      refine Rg.tm trivial rfl (t_fieldAddr fa25_1 rfl) rfl ?_
      refine Rg.tm trivial rfl (t_load ty3 rfl (by apply Cells.get (i := 1); (case h => assumption); rfl)) rfl ?_
      first | refine Rg.tm trivial rfl (t_lssT rfl rfl (by omega)) rfl ?_ | refine Rg.tm trivial rfl (t_lssF rfl rfl (by omega)) rfl ?_ | refine Rg.tm trivial rfl (t_lss rfl rfl) rfl ?_
      refine Rg.tm trivial rfl (t_move rfl) rfl ?_
      first | refine Rg.tm ⟨_, rfl, rfl⟩ rfl (t_move rfl) rfl ?_ | refine Rg.sk (.inl ⟨_, _, rfl, rfl, rfl⟩) rfl ?_ | refine Rg.sk (.inr ⟨_, rfl, rfl⟩) rfl ?_
      first | refine Rg.tm ⟨_, rfl, rfl⟩ rfl (t_fieldAddr fa25_1 rfl) rfl ?_ | refine Rg.sk (.inl ⟨_, _, rfl, rfl, rfl⟩) rfl ?_ | refine Rg.sk (.inr ⟨_, rfl, rfl⟩) rfl ?_
      first | refine Rg.tm ⟨_, rfl, rfl⟩ rfl (t_load ty3 rfl (by apply Cells.get (i := 1); (case h => assumption); rfl)) rfl ?_ | refine Rg.sk (.inl ⟨_, _, rfl, rfl, rfl⟩) rfl ?_ | refine Rg.sk (.inr ⟨_, rfl, rfl⟩) rfl ?_
      first | refine Rg.tm ⟨_, rfl, rfl⟩ rfl (t_lssT rfl rfl (by omega)) rfl ?_ | refine Rg.tm ⟨_, rfl, rfl⟩ rfl (t_lssF rfl rfl (by omega)) rfl ?_ | refine Rg.tm ⟨_, rfl, rfl⟩ rfl (t_lss rfl rfl) rfl ?_ | refine Rg.sk (.inl ⟨_, _, rfl, rfl, rfl⟩) rfl ?_ | refine Rg.sk (.inr ⟨_, rfl, rfl⟩) rfl ?_
      first | refine Rg.tm trivial rfl (t_pickT rfl rfl) rfl ?_ | refine Rg.tm trivial rfl (t_pickF rfl rfl) rfl ?_
      refine Rg.tm trivial rfl (t_assign rfl) rfl ?_
      refine Rg.done ?_
      refine Wp.condT rfl ?_
      refine Wp.seq (Wp.region ?_)
      refine Rg.tm trivial rfl (t_assign rfl) rfl ?_
      refine Rg.tm trivial rfl (t_assign rfl) rfl ?_
      refine Rg.done ?_
      refine Wp.ret ?_
      exact ⟨[_, _], ⟨rfl, rfl, trivial⟩, rfl, hx⟩
    rw [if_neg (by omega)] at e0
    by_cases hhigh : c > col
    · rw [e0, if_pos hhigh]
      refine Wp.seq ?_
      refine Wp.seq (Wp.region ?_)
      refine Rg.tm trivial rfl (t_move rfl) rfl ?_
      refine Rg.tm trivial rfl (t_fieldAddr fa25_1 rfl) rfl ?_
      refine Rg.tm trivial rfl (t_load ty3 rfl (by apply Cells.get (i := 1); (case h => assumption); rfl)) rfl ?_
      first | refine Rg.tm trivial rfl (t_lssT rfl rfl (by omega)) rfl ?_ | refine Rg.tm trivial rfl (t_lssF rfl rfl (by omega)) rfl ?_ | refine Rg.tm trivial rfl (t_lss rfl rfl) rfl ?_
      refine Rg.tm trivial rfl (t_move rfl) rfl ?_
      first | refine Rg.tm ⟨_, rfl, rfl⟩ rfl (t_move rfl) rfl ?_ | refine Rg.sk (.inl ⟨_, _, rfl, rfl, rfl⟩) rfl ?_ | refine Rg.sk (.inr ⟨_, rfl, rfl⟩) rfl ?_
      first | refine Rg.tm ⟨_, rfl, rfl⟩ rfl (t_move rfl) rfl ?_ | refine Rg.sk (.inl ⟨_, _, rfl, rfl, rfl⟩) rfl ?_ | refine Rg.sk (.inr ⟨_, rfl, rfl⟩) rfl ?_
      first | refine Rg.tm ⟨_, rfl, rfl⟩ rfl (t_len Tryd.underlying9 rfl) rfl ?_ | refine Rg.sk (.inl ⟨_, _, rfl, rfl, rfl⟩) rfl ?_ | refine Rg.sk (.inr ⟨_, rfl, rfl⟩) rfl ?_
      first | refine Rg.tm ⟨_, rfl, rfl⟩ rfl (t_lssT rfl rfl (by omega)) rfl ?_ | refine Rg.tm ⟨_, rfl, rfl⟩ rfl (t_lssF rfl rfl (by omega)) rfl ?_ | refine Rg.tm ⟨_, rfl, rfl⟩ rfl (t_lss rfl rfl) rfl ?_ | refine Rg.sk (.inl ⟨_, _, rfl, rfl, rfl⟩) rfl ?_ | refine Rg.sk (.inr ⟨_, rfl, rfl⟩) rfl ?_
      first | refine Rg.tm trivial rfl (t_pickT rfl rfl) rfl ?_ | refine Rg.tm trivial rfl (t_pickF rfl rfl) rfl ?_
      refine Rg.tm trivial rfl (t_move rfl) rfl ?_
      first | refine Rg.tm ⟨_, rfl, rfl⟩ rfl (t_move rfl) rfl ?_ | refine Rg.sk (.inl ⟨_, _, rfl, rfl, rfl⟩) rfl ?_ | refine Rg.sk (.inr ⟨_, rfl, rfl⟩) rfl ?_
      first | refine Rg.tm ⟨_, rfl, rfl⟩ rfl (t_move rfl) rfl ?_ | refine Rg.sk (.inl ⟨_, _, rfl, rfl, rfl⟩) rfl ?_ | refine Rg.sk (.inr ⟨_, rfl, rfl⟩) rfl ?_
      first | refine Rg.tm ⟨_, rfl, rfl⟩ rfl (t_index Tryd.underlying9 rfl rfl (by omega)) rfl ?_ | refine Rg.sk (.inl ⟨_, _, rfl, rfl, rfl⟩) rfl ?_ | refine Rg.sk (.inr ⟨_, rfl, rfl⟩) rfl ?_
      try rw [Int.toNat_natCast, bt_raw]
      first | refine Rg.tm ⟨_, rfl, rfl⟩ rfl (t_neqT rfl rfl (by omega)) rfl ?_ | refine Rg.tm ⟨_, rfl, rfl⟩ rfl (t_neqF rfl rfl (by omega)) rfl ?_ | refine Rg.tm ⟨_, rfl, rfl⟩ rfl (t_neq rfl rfl) rfl ?_ | refine Rg.sk (.inl ⟨_, _, rfl, rfl, rfl⟩) rfl ?_ | refine Rg.sk (.inr ⟨_, rfl, rfl⟩) rfl ?_
      first | refine Rg.tm trivial rfl (t_pickT rfl rfl) rfl ?_ | refine Rg.tm trivial rfl (t_pickF rfl rfl) rfl ?_
      refine Rg.done ?_
      refine Wp.condF rfl ?_
      refine Wp.exit ?_
      refine Wp.seq ?_
      refine Wp.block ?_
      refine Wp.seq (Wp.region ?_)
      refine Rg.tm trivial rfl (t_fieldAddr fa25_1 rfl) rfl ?_
      refine Rg.tm trivial rfl (t_load ty3 rfl (by apply Cells.get (i := 1); (case h => assumption); rfl)) rfl ?_
      first | refine Rg.tm trivial rfl (t_lssT rfl rfl (by omega)) rfl ?_ | refine Rg.tm trivial rfl (t_lssF rfl rfl (by omega)) rfl ?_ | refine Rg.tm trivial rfl (t_lss rfl rfl) rfl ?_
      refine Rg.tm trivial rfl (t_move rfl) rfl ?_
      first | refine Rg.tm ⟨_, rfl, rfl⟩ rfl (t_move rfl) rfl ?_ | refine Rg.sk (.inl ⟨_, _, rfl, rfl, rfl⟩) rfl ?_ | refine Rg.sk (.inr ⟨_, rfl, rfl⟩) rfl ?_
      first | refine Rg.tm ⟨_, rfl, rfl⟩ rfl (t_fieldAddr fa25_1 rfl) rfl ?_ | refine Rg.sk (.inl ⟨_, _, rfl, rfl, rfl⟩) rfl ?_ | refine Rg.sk (.inr ⟨_, rfl, rfl⟩) rfl ?_
      first | refine Rg.tm ⟨_, rfl, rfl⟩ rfl (t_load ty3 rfl (by apply Cells.get (i := 1); (case h => assumption); rfl)) rfl ?_ | refine Rg.sk (.inl ⟨_, _, rfl, rfl, rfl⟩) rfl ?_ | refine Rg.sk (.inr ⟨_, rfl, rfl⟩) rfl ?_
      first | refine Rg.tm ⟨_, rfl, rfl⟩ rfl (t_lssT rfl rfl (by omega)) rfl ?_ | refine Rg.tm ⟨_, rfl, rfl⟩ rfl (t_lssF rfl rfl (by omega)) rfl ?_ | refine Rg.tm ⟨_, rfl, rfl⟩ rfl (t_lss rfl rfl) rfl ?_ | refine Rg.sk (.inl ⟨_, _, rfl, rfl, rfl⟩) rfl ?_ | refine Rg.sk (.inr ⟨_, rfl, rfl⟩) rfl ?_
      first | refine Rg.tm trivial rfl (t_pickT rfl rfl) rfl ?_ | refine Rg.tm trivial rfl (t_pickF rfl rfl) rfl ?_
      refine Rg.tm trivial rfl (t_assign rfl) rfl ?_
      refine Rg.done ?_
      refine Wp.condF rfl ?_
      refine Wp.seq (Wp.region ?_)
      refine Rg.tm trivial rfl (t_move rfl) rfl ?_
      refine Rg.tm trivial rfl (t_fieldAddr fa25_1 rfl) rfl ?_
      refine Rg.tm trivial rfl (t_load ty3 rfl (by apply Cells.get (i := 1); (case h => assumption); rfl)) rfl ?_
      first | refine Rg.tm trivial rfl (t_gtrT rfl rfl (by omega)) rfl ?_ | refine Rg.tm trivial rfl (t_gtrF rfl rfl (by omega)) rfl ?_ | refine Rg.tm trivial rfl (t_gtr rfl rfl) rfl ?_
      refine Rg.tm trivial rfl (t_assign rfl) rfl ?_
      refine Rg.done ?_
      refine Wp.condT rfl ?_
      refine Wp.seq (Wp.region ?_)
      refine Rg.tm trivial rfl (t_assign rfl) rfl ?_
      refine Rg.tm trivial rfl (t_assign rfl) rfl ?_
      refine Rg.done ?_
      refine Wp.ret ?_
      exact ⟨[_, _], ⟨rfl, rfl, trivial⟩, rfl, hx⟩
    · rw [e0, if_neg hhigh]
      refine Wp.seq ?_
      refine Wp.seq (Wp.region ?_)
      refine Rg.tm trivial rfl (t_move rfl) rfl ?_
      refine Rg.tm trivial rfl (t_fieldAddr fa25_1 rfl) rfl ?_
      refine Rg.tm trivial rfl (t_load ty3 rfl (by apply Cells.get (i := 1); (case h => assumption); rfl)) rfl ?_
      first | refine Rg.tm trivial rfl (t_lssT rfl rfl (by omega)) rfl ?_ | refine Rg.tm trivial rfl (t_lssF rfl rfl (by omega)) rfl ?_ | refine Rg.tm trivial rfl (t_lss rfl rfl) rfl ?_
      refine Rg.tm trivial rfl (t_move rfl) rfl ?_
      first | refine Rg.tm ⟨_, rfl, rfl⟩ rfl (t_move rfl) rfl ?_ | refine Rg.sk (.inl ⟨_, _, rfl, rfl, rfl⟩) rfl ?_ | refine Rg.sk (.inr ⟨_, rfl, rfl⟩) rfl ?_
      first | refine Rg.tm ⟨_, rfl, rfl⟩ rfl (t_move rfl) rfl ?_ | refine Rg.sk (.inl ⟨_, _, rfl, rfl, rfl⟩) rfl ?_ | refine Rg.sk (.inr ⟨_, rfl, rfl⟩) rfl ?_
      first | refine Rg.tm ⟨_, rfl, rfl⟩ rfl (t_len Tryd.underlying9 rfl) rfl ?_ | refine Rg.sk (.inl ⟨_, _, rfl, rfl, rfl⟩) rfl ?_ | refine Rg.sk (.inr ⟨_, rfl, rfl⟩) rfl ?_
      first | refine Rg.tm ⟨_, rfl, rfl⟩ rfl (t_lssT rfl rfl (by omega)) rfl ?_ | refine Rg.tm ⟨_, rfl, rfl⟩ rfl (t_lssF rfl rfl (by omega)) rfl ?_ | refine Rg.tm ⟨_, rfl, rfl⟩ rfl (t_lss rfl rfl) rfl ?_ | refine Rg.sk (.inl ⟨_, _, rfl, rfl, rfl⟩) rfl ?_ | refine Rg.sk (.inr ⟨_, rfl, rfl⟩) rfl ?_
      first | refine Rg.tm trivial rfl (t_pickT rfl rfl) rfl ?_ | refine Rg.tm trivial rfl (t_pickF rfl rfl) rfl ?_
      refine Rg.tm trivial rfl (t_move rfl) rfl ?_
      first | refine Rg.tm ⟨_, rfl, rfl⟩ rfl (t_move rfl) rfl ?_ | refine Rg.sk (.inl ⟨_, _, rfl, rfl, rfl⟩) rfl ?_ | refine Rg.sk (.inr ⟨_, rfl, rfl⟩) rfl ?_
      first | refine Rg.tm ⟨_, rfl, rfl⟩ rfl (t_move rfl) rfl ?_ | refine Rg.sk (.inl ⟨_, _, rfl, rfl, rfl⟩) rfl ?_ | refine Rg.sk (.inr ⟨_, rfl, rfl⟩) rfl ?_
      first | refine Rg.tm ⟨_, rfl, rfl⟩ rfl (t_index Tryd.underlying9 rfl rfl (by omega)) rfl ?_ | refine Rg.sk (.inl ⟨_, _, rfl, rfl, rfl⟩) rfl ?_ | refine Rg.sk (.inr ⟨_, rfl, rfl⟩) rfl ?_
      try rw [Int.toNat_natCast, bt_raw]
      first | refine Rg.tm ⟨_, rfl, rfl⟩ rfl (t_neqT rfl rfl (by omega)) rfl ?_ | refine Rg.tm ⟨_, rfl, rfl⟩ rfl (t_neqF rfl rfl (by omega)) rfl ?_ | refine Rg.tm ⟨_, rfl, rfl⟩ rfl (t_neq rfl rfl) rfl ?_ | refine Rg.sk (.inl ⟨_, _, rfl, rfl, rfl⟩) rfl ?_ | refine Rg.sk (.inr ⟨_, rfl, rfl⟩) rfl ?_
      first | refine Rg.tm trivial rfl (t_pickT rfl rfl) rfl ?_ | refine Rg.tm trivial rfl (t_pickF rfl rfl) rfl ?_
      refine Rg.done ?_
      refine Wp.condF rfl ?_
      refine Wp.exit ?_
      refine Wp.seq ?_
      refine Wp.block ?_
      refine Wp.seq (Wp.region ?_)
      refine Rg.tm trivial rfl (t_fieldAddr fa25_1 rfl) rfl ?_
      refine Rg.tm trivial rfl (t_load ty3 rfl (by apply Cells.get (i := 1); (case h => assumption); rfl)) rfl ?_
      first | refine Rg.tm trivial rfl (t_lssT rfl rfl (by omega)) rfl ?_ | refine Rg.tm trivial rfl (t_lssF rfl rfl (by omega)) rfl ?_ | refine Rg.tm trivial rfl (t_lss rfl rfl) rfl ?_
      refine Rg.tm trivial rfl (t_move rfl) rfl ?_
      first | refine Rg.tm ⟨_, rfl, rfl⟩ rfl (t_move rfl) rfl ?_ | refine Rg.sk (.inl ⟨_, _, rfl, rfl, rfl⟩) rfl ?_ | refine Rg.sk (.inr ⟨_, rfl, rfl⟩) rfl ?_
      first | refine Rg.tm ⟨_, rfl, rfl⟩ rfl (t_fieldAddr fa25_1 rfl) rfl ?_ | refine Rg.sk (.inl ⟨_, _, rfl, rfl, rfl⟩) rfl ?_ | refine Rg.sk (.inr ⟨_, rfl, rfl⟩) rfl ?_
      first | refine Rg.tm ⟨_, rfl, rfl⟩ rfl (t_load ty3 rfl (by apply Cells.get (i := 1); (case h => assumption); rfl)) rfl ?_ | refine Rg.sk (.inl ⟨_, _, rfl, rfl, rfl⟩) rfl ?_ | refine Rg.sk (.inr ⟨_, rfl, rfl⟩) rfl ?_
      first | refine Rg.tm ⟨_, rfl, rfl⟩ rfl (t_lssT rfl rfl (by omega)) rfl ?_ | refine Rg.tm ⟨_, rfl, rfl⟩ rfl (t_lssF rfl rfl (by omega)) rfl ?_ | refine Rg.tm ⟨_, rfl, rfl⟩ rfl (t_lss rfl rfl) rfl ?_ | refine Rg.sk (.inl ⟨_, _, rfl, rfl, rfl⟩) rfl ?_ | refine Rg.sk (.inr ⟨_, rfl, rfl⟩) rfl ?_
      first | refine Rg.tm trivial rfl (t_pickT rfl rfl) rfl ?_ | refine Rg.tm trivial rfl (t_pickF rfl rfl) rfl ?_
      refine Rg.tm trivial rfl (t_assign rfl) rfl ?_
      refine Rg.done ?_
      refine Wp.condF rfl ?_
      refine Wp.seq (Wp.region ?_)
      refine Rg.tm trivial rfl (t_move rfl) rfl ?_
      refine Rg.tm trivial rfl (t_fieldAddr fa25_1 rfl) rfl ?_
      refine Rg.tm trivial rfl (t_load ty3 rfl (by apply Cells.get (i := 1); (case h => assumption); rfl)) rfl ?_
      first | refine Rg.tm trivial rfl (t_gtrT rfl rfl (by omega)) rfl ?_ | refine Rg.tm trivial rfl (t_gtrF rfl rfl (by omega)) rfl ?_ | refine Rg.tm trivial rfl (t_gtr rfl rfl) rfl ?_
      refine Rg.tm trivial rfl (t_assign rfl) rfl ?_
      refine Rg.done ?_
      refine Wp.condF rfl ?_
      refine Wp.skip ?_
      refine Wp.seq (Wp.region ?_)
      refine Rg.tm trivial rfl (t_move rfl) rfl ?_
      refine Rg.tm trivial rfl (t_assign rfl) rfl ?_
      refine Rg.tm trivial rfl (t_assign rfl) rfl ?_
      refine Rg.done ?_
      refine Wp.ret ?_
      exact ⟨[_, _], ⟨rfl, rfl, trivial⟩, rfl, hx⟩
end Go.Proofs.YteopmfijfgaldaaDoor
