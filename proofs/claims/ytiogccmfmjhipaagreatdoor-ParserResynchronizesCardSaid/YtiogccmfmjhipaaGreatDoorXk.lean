/- (Out of r6.) The reference lexer: FirstToken, Tokens, Starts. Printed by r6/Kc.py. -/
import Derived.Test.YtiogccmfmjhipaaGreatDoorXj
set_option linter.unusedVariables false
set_option linter.unusedSimpArgs false
namespace Go.Proofs.YtiogccmfmjhipaaGreatDoor.Lexi
set_option maxRecDepth 20000
open Go.Gx Go.RowKit Go.Lib
open Par (lv_agg)
theorem tail_tail {s : ByteArray} {m n : Nat} (hm : m ≤ s.size) : (s.extract m s.size).extract n (s.extract m s.size).size = s.extract (m + n) s.size := by
 apply by_list
 rw [list_tail,list_tail,list_tail,List.drop_drop]
theorem catT_app : ∀ a b : List (Int × ByteArray),catT (a ++ b) = catT a ++ catT b
 | [],b => by
  show catT b = ByteArray.empty ++ catT b
  rw [ByteArray.empty_append]
 | t :: a,b => by
  show t.2 ++ catT (a ++ b) = t.2 ++ catT a ++ catT b
  rw [catT_app a b,ByteArray.append_assoc]
def off (s : ByteArray) (k : Nat) : Nat := (catT ((toks s).take k)).size
theorem off_zero (s : ByteArray) : off s 0 = 0 := rfl
theorem off_split (s : ByteArray) (k : Nat) : catT ((toks s).drop k) = s.extract (off s k) s.size := by
 have h := catT_app ((toks s).take k) ((toks s).drop k)
 rw [List.take_append_drop,cat_toks] at h
 apply by_list
 rw [list_tail]
 have h2 := congrArg (fun x => x.data.toList) h
 simp only [list_app] at h2
 rw [h2]
 unfold off
 rw [← list_len,List.drop_left']
 rfl
theorem off_le (s : ByteArray) (k : Nat) : off s k ≤ s.size := by
 have h := congrArg ByteArray.size (catT_app ((toks s).take k) ((toks s).drop k))
 rw [List.take_append_drop,cat_toks,ByteArray.size_append] at h
 unfold off
 omega
theorem off_step {s : ByteArray} {k : Nat} (h : k < (toks s).length) : off s (k + 1) = off s k + ((toks s)[k]).2.size ∧ off s k < off s (k + 1) := by
 have h1 := toks_full s _ (List.getElem_mem h)
 have h2 : off s (k + 1) = off s k + ((toks s)[k]).2.size := by
  unfold off
  rw [List.take_succ_eq_append_getElem h,catT_app,ByteArray.size_append]
  show _ + ((toks s)[k].2 ++ ByteArray.empty).size = _
  rw [ByteArray.append_empty]
 omega
theorem firstToken_ok {w : World} {s : ByteArray} (hs : s.size ≤ 2000) (h0 : 0 < s.size) : Cl Tryz.prog 74 #[.string s] w (fun u w' => u = .agg #[.int .i64 (tok s).2,.string (s.extract 0 (tok s).1)] ∧ Ext w w') := by
 have hx := Ext.refl w
 have hsz : ∀ p : Int → Bool,scan p s 0 ≤ s.size := fun p => (scan_spec p s 0).2.1 (Nat.zero_le _)
 have htr := tok_ref h0
 have hpl : puncts.length = 26 := rfl
 refine Cl.enter Tryz.func74 rfl Tryz.ntmps74 rfl rfl ?_
 by_cases h1 : 0 < scan isSp s 0
 ·have hb := hsz isSp
  refine .sr (Rg.wd trivial (w_boxed (cs := [.string s]) rfl rfl) rfl ?_)
  rintro _ w1 ⟨b1,rfl,q1,hx1,hv1⟩
  replace hx := hx.ext hx1
  refine Rg.wd trivial (w_new Tryz.zeroValue91 rfl) rfl ?_
  rintro _ w2 ⟨b2,rfl,q2,hx2,hv2⟩
  replace hx := hx.ext hx2
  replace hv1 := hv1.ext hx2
  have q2b : w.heap.size ≤ b2 := by have := hx1.le; omega
  refine .done (.sr (.t2 (t_makeFuncB (us := []) (vs := [.pointer (some ⟨b1,0,none⟩)]) rfl rfl) (.a2 rfl (.done (.seq (.sr (.t2 (t_load ty9 rfl (hv1.g 0 rfl)) (Rg.wd trivial (w_call Tryz.call121 rfl (run0_ok hs)) rfl ?_))))))))
  rintro _ _ ⟨rfl,rfl⟩
  refine .a2 rfl (.done (.sr (.m2 rfl ?_)))
  refine .t2 (t_gtrT rfl rfl (by omega)) ?_
  refine .done (.condT rfl (.sr (.m2 rfl (.m2 rfl ?_))))
  refine Rg.wd trivial (w_callG (fst := []) (cap := [.pointer (some ⟨b1,0,none⟩)]) rfl Tryz.call120 rfl (vs := [.int .i64 101,.int .i64 (scan isSp s 0 : Nat)]) (clo80_ok (k := 101) (n := scan isSp s 0) hv1 (by omega))) rfl ?_
  rintro _ w3 ⟨rfl,hx3⟩
  replace hx := hx.ext hx3
  replace hv1 := hv1.ext hx3
  replace hv2 := hv2.ext hx3
  refine Rg.wn trivial (w_put (cs := [.int .i64 101,.string (s.extract 0 (scan isSp s 0))]) hv2 rfl rfl rfl ty91 rfl rfl) ?_
  rintro _ wz ⟨huz,hvz⟩
  refine .done (Wp.ret ?_)
  have ht : tok s = (scan isSp s 0,101) := by rw [htr,if_pos h1]
  rw [ht]
  exact ⟨[_],⟨⟨_,rfl,lv_agg hvz ty91⟩,trivial⟩,rfl,hx.upd huz q2b⟩
 ·rw [if_neg h1] at htr
  by_cases h2 : bz s 0 = 47 ∧ bz s 1 = 47
  ·obtain ⟨e1,e2⟩ := cm_iff.1 h2
   have hb := hsz noNl
   refine .sr (Rg.wd trivial (w_boxed (cs := [.string s]) rfl rfl) rfl ?_)
   rintro _ w1 ⟨b1,rfl,q1,hx1,hv1⟩
   replace hx := hx.ext hx1
   refine Rg.wd trivial (w_new Tryz.zeroValue91 rfl) rfl ?_
   rintro _ w2 ⟨b2,rfl,q2,hx2,hv2⟩
   replace hx := hx.ext hx2
   replace hv1 := hv1.ext hx2
   have q2b : w.heap.size ≤ b2 := by have := hx1.le; omega
   refine .done (.sr (.t2 (t_makeFuncB (us := []) (vs := [.pointer (some ⟨b1,0,none⟩)]) rfl rfl) (.a2 rfl (.done (.seq (.sr (.t2 (t_load ty9 rfl (hv1.g 0 rfl)) (Rg.wd trivial (w_call Tryz.call121 rfl (run0_ok hs)) rfl ?_))))))))
   rintro _ _ ⟨rfl,rfl⟩
   refine .a2 rfl (.done (.sr (.m2 rfl ?_)))
   refine .t2 (t_gtrF rfl rfl (by omega)) ?_
   refine .done (.condF rfl (Wp.skip (.seq (.sr (.t2 (t_load ty9 rfl (hv1.g 0 rfl)) (.t2 (t_len Tryz.underlying9 rfl) ?_))))))
   refine .t2 (t_gtrT rfl rfl (by omega)) ?_
   refine .m2 rfl (.g2 (t_load ty9 rfl (hv1.g 0 rfl)) ?_)
   refine .g2 (t_sliceS Tryz.underlying9 rfl rfl rfl (by omega)) ?_
   refine .g2 (t_seqlT rfl rfl e2) (.t2 (t_pickT rfl rfl) (.done (.condT rfl (.sr (.m2 rfl (.t2 (t_load ty9 rfl (hv1.g 0 rfl)) (Rg.wd trivial (w_call Tryz.call121 rfl (run1_ok hs)) rfl ?_)))))))
   rintro _ _ ⟨rfl,rfl⟩
   refine Rg.wd trivial (w_callG (fst := []) (cap := [.pointer (some ⟨b1,0,none⟩)]) rfl Tryz.call120 rfl (vs := [.int .i64 102,.int .i64 (scan noNl s 0 : Nat)]) (clo80_ok (k := 102) (n := scan noNl s 0) hv1 (by omega))) rfl ?_
   rintro _ w3 ⟨rfl,hx3⟩
   replace hx := hx.ext hx3
   replace hv1 := hv1.ext hx3
   replace hv2 := hv2.ext hx3
   refine Rg.wn trivial (w_put (cs := [.int .i64 102,.string (s.extract 0 (scan noNl s 0))]) hv2 rfl rfl rfl ty91 rfl rfl) ?_
   rintro _ wz ⟨huz,hvz⟩
   refine .done (Wp.ret ?_)
   have ht : tok s = (scan noNl s 0,102) := by rw [htr,if_pos h2]
   rw [ht]
   exact ⟨[_],⟨⟨_,rfl,lv_agg hvz ty91⟩,trivial⟩,rfl,hx.upd huz q2b⟩
  ·rw [if_neg h2] at htr
   have h2n : ¬ (1 < s.size ∧ s.extract 0 2 = ⟨#[47,47]⟩) := fun h => h2 (cm_iff.2 h)
   refine .sr (Rg.wd trivial (w_boxed (cs := [.string s]) rfl rfl) rfl ?_)
   rintro _ w1 ⟨b1,rfl,q1,hx1,hv1⟩
   replace hx := hx.ext hx1
   refine Rg.wd trivial (w_new Tryz.zeroValue91 rfl) rfl ?_
   rintro _ w2 ⟨b2,rfl,q2,hx2,hv2⟩
   replace hx := hx.ext hx2
   replace hv1 := hv1.ext hx2
   have q2b : w.heap.size ≤ b2 := by have := hx1.le; omega
   refine .done (.sr (.t2 (t_makeFuncB (us := []) (vs := [.pointer (some ⟨b1,0,none⟩)]) rfl rfl) (.a2 rfl (.done (.seq (.sr (.t2 (t_load ty9 rfl (hv1.g 0 rfl)) (Rg.wd trivial (w_call Tryz.call121 rfl (run0_ok hs)) rfl ?_))))))))
   rintro _ _ ⟨rfl,rfl⟩
   refine .a2 rfl (.done (.sr (.m2 rfl ?_)))
   refine .t2 (t_gtrF rfl rfl (by omega)) ?_
   refine .done (.condF rfl (Wp.skip (.seq ?_)))
   refine Wp.seq (Wp.cut (fun L w' => Gx.Sub [(1,.pointer (some ⟨b1,0,none⟩)),(2,.pointer (some ⟨b2,0,none⟩)),(3,.func (.func 120) #[] #[.pointer (some ⟨b1,0,none⟩)]),(25,.bool false)] L ∧ w2 = w') ?_ ?_)
   ·by_cases hs1 : 1 < s.size
    ·skip
     refine Wp.region (.t2 (t_load ty9 rfl (hv1.g 0 rfl)) (.t2 (t_len Tryz.underlying9 rfl) ?_))
     refine .t2 (t_gtrT rfl rfl (by omega)) ?_
     refine .m2 rfl (.g2 (t_load ty9 rfl (hv1.g 0 rfl)) ?_)
     refine .g2 (t_sliceS Tryz.underlying9 rfl rfl rfl (by omega)) ?_
     refine .g2 (t_seqlF rfl rfl (fun e => h2n ⟨hs1,e⟩)) (.t2 (t_pickT rfl rfl) (.done ?_))
     exact ⟨by repeat (first | exact .nil | refine .cons rfl ?_),rfl⟩
    ·skip
     refine Wp.region (.t2 (t_load ty9 rfl (hv1.g 0 rfl)) (.t2 (t_len Tryz.underlying9 rfl) ?_))
     refine .t2 (t_gtrF rfl rfl (by omega)) ?_
     refine .m2 rfl (.so rfl rfl (.so rfl rfl (.so rfl rfl (.t2 (t_pickF rfl rfl) (.done ?_)))))
     exact ⟨by repeat (first | exact .nil | refine .cons rfl ?_),rfl⟩
   ·rintro L' _ ⟨hs',rfl⟩
    refine Wp.sub hs' (.condF rfl (Wp.skip (.seq ?_)))
    by_cases h3 : 0 < scan isDg s 0
    ·have hb := hsz isDg
     refine .sr (.t2 (t_load ty9 rfl (hv1.g 0 rfl)) (Rg.wd trivial (w_call Tryz.call121 rfl (run3_ok hs)) rfl ?_))
     rintro _ _ ⟨rfl,rfl⟩
     refine .a2 rfl (.done (.sr (.m2 rfl ?_)))
     refine .t2 (t_gtrT rfl rfl (by omega)) ?_
     refine .done (.condT rfl (.sr (.m2 rfl (.m2 rfl ?_))))
     refine Rg.wd trivial (w_callG (fst := []) (cap := [.pointer (some ⟨b1,0,none⟩)]) rfl Tryz.call120 rfl (vs := [.int .i64 105,.int .i64 (scan isDg s 0 : Nat)]) (clo80_ok (k := 105) (n := scan isDg s 0) hv1 (by omega))) rfl ?_
     rintro _ w3 ⟨rfl,hx3⟩
     replace hx := hx.ext hx3
     replace hv1 := hv1.ext hx3
     replace hv2 := hv2.ext hx3
     refine Rg.wn trivial (w_put (cs := [.int .i64 105,.string (s.extract 0 (scan isDg s 0))]) hv2 rfl rfl rfl ty91 rfl rfl) ?_
     rintro _ wz ⟨huz,hvz⟩
     refine .done (Wp.ret ?_)
     have ht : tok s = (scan isDg s 0,105) := by rw [htr,if_pos h3]
     rw [ht]
     exact ⟨[_],⟨⟨_,rfl,lv_agg hvz ty91⟩,trivial⟩,rfl,hx.upd huz q2b⟩
    ·rw [if_neg h3] at htr
     by_cases h4 : 0 < scan isId s 0
     ·have hb := hsz isId
      cases hk : isKw (s.extract 0 (scan isId s 0)) with
      | true =>
       refine .sr (.t2 (t_load ty9 rfl (hv1.g 0 rfl)) (Rg.wd trivial (w_call Tryz.call121 rfl (run3_ok hs)) rfl ?_))
       rintro _ _ ⟨rfl,rfl⟩
       refine .a2 rfl (.done (.sr (.m2 rfl ?_)))
       refine .t2 (t_gtrF rfl rfl (by omega)) ?_
       refine .done (.condF rfl (Wp.skip (.seq (.sr (.t2 (t_load ty9 rfl (hv1.g 0 rfl)) (Rg.wd trivial (w_call Tryz.call121 rfl (run2_ok hs)) rfl ?_))))))
       rintro _ _ ⟨rfl,rfl⟩
       refine .a2 rfl (.done (.sr (.m2 rfl ?_)))
       refine .t2 (t_gtrT rfl rfl (by omega)) ?_
       refine .done (.condT rfl (.seq ?_))
       refine Wp.seq (Wp.draw [1,2,3,0,4] [] mixed (by kernel_rfl) (by kernel_rfl) ?_)
       intro w3 hx3 _
       replace hx := hx.ext hx3
       replace hv1 := hv1.ext hx3
       replace hv2 := hv2.ext hx3
       refine .t2 (t_load ty9 rfl (hv1.g 0 rfl)) (.m2 rfl ?_)
       refine .t2 (t_sliceS Tryz.underlying9 rfl rfl rfl (by omega)) ?_
       refine Rg.wdB trivial rfl (w_call Tryz.call123 rfl rkeys_ok) rfl (fun _ _ h => h.2) ?_
       rintro _ w4 ⟨⟨bk,rfl,hvk⟩,hx4⟩
       replace hx := hx.ext hx4
       replace hv1 := hv1.ext hx4
       replace hv2 := hv2.ext hx4
       have hsk : SlC w4 (.slice (some ⟨bk,0,none⟩) kws.length kws.length) 1 kws.length (kws.map .string) := ⟨by simp,_,_,rfl,Nat.le_refl _,.inr ⟨bk,0,rfl,hvk.cells⟩⟩
       refine Rg.wdB trivial rfl (w_call Tryz.call122 rfl (rcontains_ok hsk (by decide))) rfl (fun _ _ h => h.2 ▸ Below.refl _ _) ?_
       rintro _ _ ⟨rfl,rfl⟩
       rw [show Lib.containsS kws (s.extract (0 : Int).toNat ((scan isId s 0 : Nat) : Int).toNat) = true from by rw [kws_eq]; exact hk]
       refine .done (.condT rfl (.sr (.m2 rfl (.m2 rfl ?_))))
       refine Rg.wd trivial (w_callG (fst := []) (cap := [.pointer (some ⟨b1,0,none⟩)]) rfl Tryz.call120 rfl (vs := [.int .i64 104,.int .i64 (scan isId s 0 : Nat)]) (clo80_ok (k := 104) (n := scan isId s 0) hv1 (by omega))) rfl ?_
       rintro _ w5 ⟨rfl,hx5⟩
       replace hx := hx.ext hx5
       replace hv1 := hv1.ext hx5
       replace hv2 := hv2.ext hx5
       replace hsk := hsk.ext hx5
       refine Rg.wn trivial (w_put (cs := [.int .i64 104,.string (s.extract 0 (scan isId s 0))]) hv2 rfl rfl rfl ty91 rfl rfl) ?_
       rintro _ wz ⟨huz,hvz⟩
       refine .done (Wp.ret ?_)
       have ht : tok s = (scan isId s 0,104) := by rw [htr,if_pos h4,hk]; rfl
       rw [ht]
       exact ⟨[_],⟨⟨_,rfl,lv_agg hvz ty91⟩,trivial⟩,rfl,hx.upd huz q2b⟩
      | false =>
       refine .sr (.t2 (t_load ty9 rfl (hv1.g 0 rfl)) (Rg.wd trivial (w_call Tryz.call121 rfl (run3_ok hs)) rfl ?_))
       rintro _ _ ⟨rfl,rfl⟩
       refine .a2 rfl (.done (.sr (.m2 rfl ?_)))
       refine .t2 (t_gtrF rfl rfl (by omega)) ?_
       refine .done (.condF rfl (Wp.skip (.seq (.sr (.t2 (t_load ty9 rfl (hv1.g 0 rfl)) (Rg.wd trivial (w_call Tryz.call121 rfl (run2_ok hs)) rfl ?_))))))
       rintro _ _ ⟨rfl,rfl⟩
       refine .a2 rfl (.done (.sr (.m2 rfl ?_)))
       refine .t2 (t_gtrT rfl rfl (by omega)) ?_
       refine .done (.condT rfl (.seq ?_))
       refine Wp.seq (Wp.draw [1,2,3,0,4] [] mixed (by kernel_rfl) (by kernel_rfl) ?_)
       intro w3 hx3 _
       replace hx := hx.ext hx3
       replace hv1 := hv1.ext hx3
       replace hv2 := hv2.ext hx3
       refine .t2 (t_load ty9 rfl (hv1.g 0 rfl)) (.m2 rfl ?_)
       refine .t2 (t_sliceS Tryz.underlying9 rfl rfl rfl (by omega)) ?_
       refine Rg.wdB trivial rfl (w_call Tryz.call123 rfl rkeys_ok) rfl (fun _ _ h => h.2) ?_
       rintro _ w4 ⟨⟨bk,rfl,hvk⟩,hx4⟩
       replace hx := hx.ext hx4
       replace hv1 := hv1.ext hx4
       replace hv2 := hv2.ext hx4
       have hsk : SlC w4 (.slice (some ⟨bk,0,none⟩) kws.length kws.length) 1 kws.length (kws.map .string) := ⟨by simp,_,_,rfl,Nat.le_refl _,.inr ⟨bk,0,rfl,hvk.cells⟩⟩
       refine Rg.wdB trivial rfl (w_call Tryz.call122 rfl (rcontains_ok hsk (by decide))) rfl (fun _ _ h => h.2 ▸ Below.refl _ _) ?_
       rintro _ _ ⟨rfl,rfl⟩
       rw [show Lib.containsS kws (s.extract (0 : Int).toNat ((scan isId s 0 : Nat) : Int).toNat) = false from by rw [kws_eq]; exact hk]
       refine .done (.condF rfl (Wp.skip (.sr (.m2 rfl (.m2 rfl ?_)))))
       refine Rg.wd trivial (w_callG (fst := []) (cap := [.pointer (some ⟨b1,0,none⟩)]) rfl Tryz.call120 rfl (vs := [.int .i64 103,.int .i64 (scan isId s 0 : Nat)]) (clo80_ok (k := 103) (n := scan isId s 0) hv1 (by omega))) rfl ?_
       rintro _ w5 ⟨rfl,hx5⟩
       replace hx := hx.ext hx5
       replace hv1 := hv1.ext hx5
       replace hv2 := hv2.ext hx5
       replace hsk := hsk.ext hx5
       refine Rg.wn trivial (w_put (cs := [.int .i64 103,.string (s.extract 0 (scan isId s 0))]) hv2 rfl rfl rfl ty91 rfl rfl) ?_
       rintro _ wz ⟨huz,hvz⟩
       refine .done (Wp.ret ?_)
       have ht : tok s = (scan isId s 0,103) := by rw [htr,if_pos h4,hk]; rfl
       rw [ht]
       exact ⟨[_],⟨⟨_,rfl,lv_agg hvz ty91⟩,trivial⟩,rfl,hx.upd huz q2b⟩
     ·rw [if_neg h4] at htr
      by_cases h5 : bt s 0 = 34
      ·rw [if_pos h5] at htr
       cases hst : str s 1 with
       | some j =>
        have hj : j ≤ s.size ∧ 1 < j := by
         obtain ⟨a1,a2,_⟩ := strN_some _ 1 j hst
         exact ⟨a2,a1⟩
        refine .sr (.t2 (t_load ty9 rfl (hv1.g 0 rfl)) (Rg.wd trivial (w_call Tryz.call121 rfl (run3_ok hs)) rfl ?_))
        rintro _ _ ⟨rfl,rfl⟩
        refine .a2 rfl (.done (.sr (.m2 rfl ?_)))
        refine .t2 (t_gtrF rfl rfl (by omega)) ?_
        refine .done (.condF rfl (Wp.skip (.seq (.sr (.t2 (t_load ty9 rfl (hv1.g 0 rfl)) (Rg.wd trivial (w_call Tryz.call121 rfl (run2_ok hs)) rfl ?_))))))
        rintro _ _ ⟨rfl,rfl⟩
        refine .a2 rfl (.done (.sr (.m2 rfl ?_)))
        refine .t2 (t_gtrF rfl rfl (by omega)) ?_
        refine .done (.condF rfl (Wp.skip (.seq (.sr (.t2 (t_load ty9 rfl (hv1.g 0 rfl)) ?_)))))
        refine .t2 (t_index Tryz.underlying9 rfl rfl (by omega)) ?_
        rw [show ((s.data.toList.getD (0 : Int).toNat 0).toNat : Int) = bt s 0 from rfl]
        refine .t2 (t_eqlT rfl rfl h5) (.done (.condT rfl (.seq (.sr (.t2 (t_load ty9 rfl (hv1.g 0 rfl)) (Rg.wd trivial (w_call Tryz.call124 rfl (literal_ok hs)) rfl ?_))))))
        rintro _ _ ⟨rfl,rfl⟩
        rw [hst]
        refine .a2 rfl (.done (.sr (.m2 rfl ?_)))
        refine .t2 (t_gtrT rfl rfl (by show (0 : Int) < (j : Int); omega)) ?_
        refine .done (.condT rfl (.sr (.m2 rfl (.m2 rfl ?_))))
        refine Rg.wd trivial (w_callG (fst := []) (cap := [.pointer (some ⟨b1,0,none⟩)]) rfl Tryz.call120 rfl (vs := [.int .i64 106,.int .i64 (j : Nat)]) (clo80_ok (k := 106) (n := j) hv1 (by omega))) rfl ?_
        rintro _ w3 ⟨rfl,hx3⟩
        replace hx := hx.ext hx3
        replace hv1 := hv1.ext hx3
        replace hv2 := hv2.ext hx3
        refine Rg.wn trivial (w_put (cs := [.int .i64 106,.string (s.extract 0 (j))]) hv2 rfl rfl rfl ty91 rfl rfl) ?_
        rintro _ wz ⟨huz,hvz⟩
        refine .done (Wp.ret ?_)
        have ht : tok s = (j,106) := by rw [htr,hst]
        rw [ht]
        exact ⟨[_],⟨⟨_,rfl,lv_agg hvz ty91⟩,trivial⟩,rfl,hx.upd huz q2b⟩
       | none =>
        have hb := hsz noNl
        refine .sr (.t2 (t_load ty9 rfl (hv1.g 0 rfl)) (Rg.wd trivial (w_call Tryz.call121 rfl (run3_ok hs)) rfl ?_))
        rintro _ _ ⟨rfl,rfl⟩
        refine .a2 rfl (.done (.sr (.m2 rfl ?_)))
        refine .t2 (t_gtrF rfl rfl (by omega)) ?_
        refine .done (.condF rfl (Wp.skip (.seq (.sr (.t2 (t_load ty9 rfl (hv1.g 0 rfl)) (Rg.wd trivial (w_call Tryz.call121 rfl (run2_ok hs)) rfl ?_))))))
        rintro _ _ ⟨rfl,rfl⟩
        refine .a2 rfl (.done (.sr (.m2 rfl ?_)))
        refine .t2 (t_gtrF rfl rfl (by omega)) ?_
        refine .done (.condF rfl (Wp.skip (.seq (.sr (.t2 (t_load ty9 rfl (hv1.g 0 rfl)) ?_)))))
        refine .t2 (t_index Tryz.underlying9 rfl rfl (by omega)) ?_
        rw [show ((s.data.toList.getD (0 : Int).toNat 0).toNat : Int) = bt s 0 from rfl]
        refine .t2 (t_eqlT rfl rfl h5) (.done (.condT rfl (.seq (.sr (.t2 (t_load ty9 rfl (hv1.g 0 rfl)) (Rg.wd trivial (w_call Tryz.call124 rfl (literal_ok hs)) rfl ?_))))))
        rintro _ _ ⟨rfl,rfl⟩
        rw [hst]
        refine .a2 rfl (.done (.sr (.m2 rfl ?_)))
        refine .t2 (t_gtrF rfl rfl (by decide)) ?_
        refine .done (.condF rfl (Wp.skip (.sr (.m2 rfl (.t2 (t_load ty9 rfl (hv1.g 0 rfl)) (Rg.wd trivial (w_call Tryz.call121 rfl (run1_ok hs)) rfl ?_))))))
        rintro _ _ ⟨rfl,rfl⟩
        refine Rg.wd trivial (w_callG (fst := []) (cap := [.pointer (some ⟨b1,0,none⟩)]) rfl Tryz.call120 rfl (vs := [.int .i64 108,.int .i64 (scan noNl s 0 : Nat)]) (clo80_ok (k := 108) (n := scan noNl s 0) hv1 (by omega))) rfl ?_
        rintro _ w3 ⟨rfl,hx3⟩
        replace hx := hx.ext hx3
        replace hv1 := hv1.ext hx3
        replace hv2 := hv2.ext hx3
        refine Rg.wn trivial (w_put (cs := [.int .i64 108,.string (s.extract 0 (scan noNl s 0))]) hv2 rfl rfl rfl ty91 rfl rfl) ?_
        rintro _ wz ⟨huz,hvz⟩
        refine .done (Wp.ret ?_)
        have ht : tok s = (scan noNl s 0,108) := by rw [htr,hst]
        rw [ht]
        exact ⟨[_],⟨⟨_,rfl,lv_agg hvz ty91⟩,trivial⟩,rfl,hx.upd huz q2b⟩
      ·rw [if_neg h5] at htr
       refine .sr (.t2 (t_load ty9 rfl (hv1.g 0 rfl)) (Rg.wd trivial (w_call Tryz.call121 rfl (run3_ok hs)) rfl ?_))
       rintro _ _ ⟨rfl,rfl⟩
       refine .a2 rfl (.done (.sr (.m2 rfl ?_)))
       refine .t2 (t_gtrF rfl rfl (by omega)) ?_
       refine .done (.condF rfl (Wp.skip (.seq (.sr (.t2 (t_load ty9 rfl (hv1.g 0 rfl)) (Rg.wd trivial (w_call Tryz.call121 rfl (run2_ok hs)) rfl ?_))))))
       rintro _ _ ⟨rfl,rfl⟩
       refine .a2 rfl (.done (.sr (.m2 rfl ?_)))
       refine .t2 (t_gtrF rfl rfl (by omega)) ?_
       refine .done (.condF rfl (Wp.skip (.seq (.sr (.t2 (t_load ty9 rfl (hv1.g 0 rfl)) ?_)))))
       refine .t2 (t_index Tryz.underlying9 rfl rfl (by omega)) ?_
       rw [show ((s.data.toList.getD (0 : Int).toNat 0).toNat : Int) = bt s 0 from rfl]
       refine .t2 (t_eqlF rfl rfl h5) (.done (.condF rfl (Wp.skip (.seq (.sr (Rg.wd trivial (w_call Tryz.call125 rfl rpuncts_ok) rfl ?_))))))
       rintro _ w3 ⟨⟨bk,rfl,hvk⟩,hx3⟩
       replace hx := hx.ext hx3
       replace hv1 := hv1.ext hx3
       replace hv2 := hv2.ext hx3
       have hsk : SlC w3 (.slice (some ⟨bk,0,none⟩) puncts.length puncts.length) 1 puncts.length (puncts.map .string) := ⟨by simp,_,_,rfl,Nat.le_refl _,.inr ⟨bk,0,rfl,hvk.cells⟩⟩
       refine .t2 (t_lenC hsk Tryz.underlying38 rfl) (.m2 rfl (.done (Wp.block ?_)))
       refine Wp.loop (ι := Nat) (fun k => [(1,.pointer (some ⟨b1,0,none⟩)),(2,.pointer (some ⟨b2,0,none⟩)),(3,.func (.func 120) #[] #[.pointer (some ⟨b1,0,none⟩)]),(66,.slice (some ⟨bk,0,none⟩) puncts.length puncts.length),(67,.int .i64 puncts.length),(68,.int .i64 k)])
        (fun k w' => k ≤ puncts.length ∧ Ext w3 w' ∧ (∀ j (h : j < puncts.length),j < k → pm s puncts[j] = false)) (fun k => puncts.length - k) 0 (by repeat (first | exact .nil | refine .cons rfl ?_)) ⟨Nat.zero_le _,Ext.refl _,fun j _ h => absurd h (Nat.not_lt_zero _)⟩ ?_
       rintro k w4 ⟨hk,hy,hno⟩
       replace hx := hx.ext hy
       replace hv1 := hv1.ext hy
       replace hv2 := hv2.ext hy
       replace hsk := hsk.ext hy
       by_cases hlt : k < puncts.length
       ·have hpz : 1 ≤ puncts[k].size ∧ puncts[k].size ≤ 2 := by
         have h2 : (puncts.all fun x => decide (1 ≤ x.size ∧ x.size ≤ 2)) = true := by decide +kernel
         exact of_decide_eq_true (List.all_eq_true.1 h2 _ (List.getElem_mem hlt))
        obtain ⟨p,hp⟩ : ∃ p,puncts[k] = p := ⟨_,rfl⟩
        rw [hp] at hpz
        refine .sr ?_
        refine .t2 (t_lssT rfl rfl (by omega)) ?_
        refine .done (.seq (.condT rfl (Wp.skip (.seq (Wp.block (.sr ?_))))))
        refine Rg.ix hsk trivial rfl rfl Tryz.underlying38 ty9 (by omega) rfl ?_
        intro bt70 ot70 ht70
        rw [Int.toNat_natCast,Nat.mul_one,show ((puncts.map Value.string).drop k).take 1 = [.string p] from by rw [List.drop_eq_getElem_cons (by simpa using hlt)]; simp [hp]] at ht70
        refine .t2 (t_load ty9 rfl (Cells.get (i := 0) ht70 rfl)) (.a2 rfl (.done ?_))
        cases hm : pm s p with
        | true =>
         simp only [pm,Bool.and_eq_true,decide_eq_true_eq] at hm
         refine .sr (.t2 (t_load ty9 rfl (hv1.g 0 rfl)) (.t2 (t_len Tryz.underlying9 rfl) (.m2 rfl (.t2 (t_len Tryz.underlying9 rfl) ?_))))
         refine .t2 (t_geqT rfl rfl (by omega)) ?_
         refine .m2 rfl (.g2 (t_load ty9 rfl (hv1.g 0 rfl)) (.g2 (t_move rfl) (.g2 (t_len Tryz.underlying9 rfl) ?_)))
         refine .g2 (t_sliceS Tryz.underlying9 rfl rfl rfl (by omega)) ?_
         refine .g2 (t_move rfl) (.g2 (t_seqlT rfl rfl hm.2) (.t2 (t_pickT rfl rfl) (.done (.condT rfl (.sr (.m2 rfl (.m2 rfl (.t2 (t_len Tryz.underlying9 rfl) ?_))))))))
         refine Rg.wd trivial (w_callG (fst := []) (cap := [.pointer (some ⟨b1,0,none⟩)]) rfl Tryz.call120 rfl (vs := [.int .i64 107,.int .i64 (p.size : Nat)]) (clo80_ok (k := 107) (n := p.size) hv1 (by omega))) rfl ?_
         rintro _ w5 ⟨rfl,hx5⟩
         replace hx := hx.ext hx5
         replace hv1 := hv1.ext hx5
         replace hv2 := hv2.ext hx5
         replace hsk := hsk.ext hx5
         replace hy := hy.ext hx5
         replace ht70 := ht70.ext hx5
         refine Rg.wn trivial (w_put (cs := [.int .i64 107,.string (s.extract 0 (p.size))]) hv2 rfl rfl rfl ty91 rfl rfl) ?_
         rintro _ wz ⟨huz,hvz⟩
         refine .done (Wp.ret ?_)
         have hfd : puncts.find? (pm s) = some p := by
          rw [List.find?_eq_some_iff_getElem]
          refine ⟨by simp [pm,hm],k,hlt,hp,fun j hj => ?_⟩
          rw [hno j (by omega) hj]
          rfl
         have ht : tok s = (p.size,107) := by rw [htr,hfd]
         rw [ht]
         exact ⟨[_],⟨⟨_,rfl,lv_agg hvz ty91⟩,trivial⟩,rfl,hx.upd huz q2b⟩
        | false =>
         simp only [pm,Bool.and_eq_false_iff,decide_eq_false_iff_not] at hm
         have hdj : s.size < p.size ∨ (p.size ≤ s.size ∧ s.extract 0 p.size ≠ p) := by
          rcases hm with hm | hm
          ·exact .inl (by omega)
          ·rcases Nat.lt_or_ge s.size p.size with h | h
           ·exact .inl h
           ·exact .inr ⟨h,hm⟩
         refine Wp.seq (Wp.cut (fun L w' => Gx.Sub [(1,.pointer (some ⟨b1,0,none⟩)),(2,.pointer (some ⟨b2,0,none⟩)),(3,.func (.func 120) #[] #[.pointer (some ⟨b1,0,none⟩)]),(66,.slice (some ⟨bk,0,none⟩) puncts.length puncts.length),(67,.int .i64 puncts.length),(68,.int .i64 k),(84,.bool false)] L ∧ w4 = w') ?_ ?_)
         ·rcases hdj with hdj | hdj
          ·skip
           refine Wp.region (.t2 (t_load ty9 rfl (hv1.g 0 rfl)) (.t2 (t_len Tryz.underlying9 rfl) (.m2 rfl (.t2 (t_len Tryz.underlying9 rfl) ?_))))
           refine .t2 (t_geqF rfl rfl (by omega)) ?_
           refine .m2 rfl (.so rfl rfl (.so rfl rfl (.so rfl rfl (.so rfl rfl (.so rfl rfl (.so rfl rfl (.t2 (t_pickF rfl rfl) (.done ?_))))))))
           exact ⟨by repeat (first | exact .nil | refine .cons rfl ?_),rfl⟩
          ·skip
           refine Wp.region (.t2 (t_load ty9 rfl (hv1.g 0 rfl)) (.t2 (t_len Tryz.underlying9 rfl) (.m2 rfl (.t2 (t_len Tryz.underlying9 rfl) ?_))))
           refine .t2 (t_geqT rfl rfl (by omega)) ?_
           refine .m2 rfl (.g2 (t_load ty9 rfl (hv1.g 0 rfl)) (.g2 (t_move rfl) (.g2 (t_len Tryz.underlying9 rfl) ?_)))
           refine .g2 (t_sliceS Tryz.underlying9 rfl rfl rfl (by omega)) ?_
           refine .g2 (t_move rfl) (.g2 (t_seqlF rfl rfl hdj.2) (.t2 (t_pickT rfl rfl) (.done ?_)))
           exact ⟨by repeat (first | exact .nil | refine .cons rfl ?_),rfl⟩
         ·rintro L' _ ⟨hs',rfl⟩
          refine Wp.sub hs' (.condF rfl (Wp.skip (Wp.region ?_)))
          refine .t2 (t_addI rfl rfl (by omega)) ?_
          refine .m2 rfl (.done ?_)
          refine ⟨k + 1,by repeat (first | exact .nil | refine .cons rfl ?_),⟨hlt,hy,fun j h hj => ?_⟩,by omega⟩
          rcases Nat.lt_succ_iff_lt_or_eq.1 hj with c | c
          ·exact hno j h c
          ·subst c
           rw [hp]
           simp only [pm,Bool.and_eq_false_iff,decide_eq_false_iff_not]
           exact hm
       ·have hfd : puncts.find? (pm s) = none := List.find?_eq_none.2 fun p hm => by
         obtain ⟨j,hj,rfl⟩ := List.getElem_of_mem hm
         rw [hno j hj (by omega)]
         decide
        refine .sr ?_
        refine .t2 (t_lssF rfl rfl (by omega)) ?_
        refine .done (.seq (.condF rfl (Wp.exit (.sr (.m2 rfl ?_)))))
        refine Rg.wd trivial (w_callG (fst := []) (cap := [.pointer (some ⟨b1,0,none⟩)]) rfl Tryz.call120 rfl (vs := [.int .i64 108,.int .i64 (1 : Nat)]) (clo80_ok (k := 108) (n := 1) hv1 (by omega))) rfl ?_
        rintro _ w5 ⟨rfl,hx5⟩
        replace hx := hx.ext hx5
        replace hv1 := hv1.ext hx5
        replace hv2 := hv2.ext hx5
        replace hsk := hsk.ext hx5
        replace hy := hy.ext hx5
        refine Rg.wn trivial (w_put (cs := [.int .i64 108,.string (s.extract 0 (1))]) hv2 rfl rfl rfl ty91 rfl rfl) ?_
        rintro _ wz ⟨huz,hvz⟩
        refine .done (Wp.ret ?_)
        have ht : tok s = (1,108) := by rw [htr,hfd]
        rw [ht]
        exact ⟨[_],⟨⟨_,rfl,lv_agg hvz ty91⟩,trivial⟩,rfl,hx.upd huz q2b⟩
set_option maxHeartbeats 1000000 in
theorem rtokens_ok {w : World} {s : ByteArray} (hs : s.size ≤ 2000) : Cl Tryz.prog 46 #[.string s] w (fun u w' => SlC w' u 2 (toks s).length (tcs (toks s)) ∧ Ext w w') := by
 obtain ⟨i,hi,hz,hsi,hby⟩ := inf91
 have hx := Ext.refl w
 have htl := toks_length s
 refine Cl.enter Tryz.func46 rfl Tryz.ntmps46 rfl rfl (.sr (.a2 rfl (.done (.sr (.a2 rfl (.done (.seq (Wp.block ?_))))))))
 refine Wp.loop (ι := Nat × Value) (fun j => [(0,.string (s.extract (off s j.1) s.size)),(3,j.2)])
  (fun j w' => j.1 ≤ (toks s).length ∧ w'.ownsRow w.heap.size 91 2 j.2 j.1 (tcs ((toks s).take j.1)) ∧ Ext w w')
  (fun j => (toks s).length - j.1) (0,.slice none 0 0) (by simp only [off_zero,full]; repeat (first | exact .nil | refine .cons rfl ?_)) ⟨Nat.zero_le _,own_nil _ _ _ _,hx⟩ ?_
 clear hx
 rintro ⟨k,vr⟩ w3 ⟨hk,hown,hx⟩
 simp only at hk hown ⊢
 have hdr := off_split s k
 have htd := toks_drop k s
 rw [hdr] at htd
 have hol := off_le s k
 by_cases hlt : k < (toks s).length
 ·have eo := off_step hlt
  have ol1 := off_le s (k + 1)
  have hpos : 0 < (s.extract (off s k) s.size).size := by have := off_le s (k + 1); rw [size_tail]; omega
  have hin := tok_in hpos
  rw [size_tail] at hin
  have htc := toks_cons hpos
  rw [htd,List.drop_eq_getElem_cons hlt] at htc
  injection htc with htc _
  obtain ⟨tk,htk⟩ : ∃ tk,(toks s)[k] = tk := ⟨_,rfl⟩
  rw [htk] at htc eo
  have e1 : (tok (s.extract (off s k) s.size)).2 = tk.1 := by rw [htc]
  have e2 : (s.extract (off s k) s.size).extract 0 (tok (s.extract (off s k) s.size)).1 = tk.2 := by rw [htc]
  refine .seq (.sr (.m2 rfl (.t2 (t_len Tryz.underlying9 rfl) ?_)))
  refine .t2 (t_gtrT rfl rfl (by omega)) ?_
  refine .done (.condT rfl (Wp.skip (Wp.block (.sr (.m2 rfl ?_)))))
  refine Rg.wd trivial (w_call Tryz.call74 rfl (firstToken_ok (s := s.extract (off s k) s.size) (by rw [size_tail]; omega) hpos)) rfl ?_
  rintro _ w1 ⟨rfl,hx1⟩
  replace hx := hx.ext hx1
  rw [e1,e2]
  replace hown := own_ext hown hx1
  refine Rg.wd trivial (w_new Tryz.zeroValue91 rfl) rfl ?_
  rintro _ wab4 ⟨b4,rfl,qb4,hxab4,hvab4⟩
  have hb4n : b4 ∉ vr.ownBlock.toList := fun hm => by
   have := Par.own_lt hown (by simpa using hm)
   omega
  refine Rg.wn trivial (w_put (cs := [.int .i64 tk.1,.string tk.2]) hvab4 rfl rfl rfl (ty91) (rfl) (rfl)) ?_
  rintro _ w2 ⟨hub4,hvb4⟩
  have hx2 := hxab4.upd hub4 (Nat.le_of_eq qb4.symm)
  clear hvab4 hub4 hxab4
  replace hx := hx.ext hx2
  clear qb4
  refine .done ?_
  replace hown := own_ext hown hx2
  refine .sr (.m2 rfl ?_)
  refine .t2 (t_loadA rfl hvb4.cells (by exact ty91)) ?_
  refine Rg.wd trivial (w_buildSlice (bs34_1 _ _) rfl) rfl ?_
  rintro _ w3 ⟨bb,rfl,qb,hx3,hvb⟩
  replace hx := hx.ext hx3
  replace hvb4 := hvb4.ext hx3
  replace hown := own_ext hown hx3
  refine Rg.wd trivial (w_append w.heap.size Tryz.underlying34 hi hz hsi hby rfl (by decide) rfl rfl hown rfl (fun j u hu => by rw [Go.Gx.addr_add]; exact hvb.cells j u hu) (by simp [Value.oneCell']) (by unfold maxLen; omega) (by omega) hx.le) rfl ?_
  rintro v2 wc ⟨hown2,hgr,p2,l2,c2,rfl⟩
  have hc4 : Cells wc b4 0 [.int .i64 tk.1,.string tk.2] := (hvb4.kp (grown_kp hgr) hb4n).cells
  replace hx := own_ext3 hx hown hgr
  refine .a2 rfl (.done (Wp.region (.m2 rfl (.t2 (t_fieldAddr fa91_1 rfl) (.t2 (t_load ty9 rfl (Cells.get (i := 1) hc4 rfl)) (.t2 (t_len Tryz.underlying9 rfl) ?_))))))
  refine .t2 (t_sliceS Tryz.underlying9 rfl rfl rfl (by rw [size_tail]; omega)) ?_
  refine .a2 rfl (.done ?_)
  refine ⟨(k + 1,.slice p2 l2 c2),by rw [show s.extract (off s (k + 1)) s.size = (s.extract (off s k) s.size).extract ((tk.2.size : Nat) : Int).toNat (s.extract (off s k) s.size).size from by rw [tail_tail hol,eo.1]; rfl]; repeat (first | exact .nil | refine .cons rfl ?_),⟨hlt,?_,hx⟩,by simp only; omega⟩
  rw [List.take_succ_eq_append_getElem hlt,tcs_append,htk]
  exact hown2
 ·obtain rfl : k = (toks s).length := by omega
  rw [List.take_length] at hown
  have hz : (s.extract (off s (toks s).length) s.size).size = 0 := by
   rw [← hdr,List.drop_length]
   rfl
  refine .seq (.sr (.m2 rfl (.t2 (t_len Tryz.underlying9 rfl) ?_)))
  refine .t2 (t_gtrF rfl rfl (by omega)) ?_
  refine .done (.condF rfl (Wp.exit (.sr (.m2 rfl (.a2 rfl (.done (Wp.ret ?_)))))))
  exact ⟨[_],⟨rfl,trivial⟩,own_slice hown,hx⟩
end Go.Proofs.YtiogccmfmjhipaaGreatDoor.Lexi
namespace Go.Proofs.YtiogccmfmjhipaaGreatDoor.Par
set_option maxRecDepth 20000
open Go.Gx Go.RowKit Go.Lib
open Lexi (Asc toks catT tcs tcs_at tcs_drop tcs_length tcs_append nl bt rtokens_ok)
open Ast
def lastS (l : List Tok) : ByteArray := match (sgk l).getLast? with
 | some t => t.2
 | none => nob
theorem lastS_triv {l : List Tok} {t : Tok} (h : isTriv t.1 = true) : lastS (l ++ [t]) = lastS l := by
 unfold lastS
 rw [sgk_app,sgk_cons,if_pos h]
 show (match (sgk l ++ sgk []).getLast? with | some t => t.2 | none => nob) = _
 rw [show sgk ([] : List Tok) = [] from rfl,List.append_nil]
theorem lastS_sig {l : List Tok} {t : Tok} (h : isTriv t.1 = false) : lastS (l ++ [t]) = t.2 := by
 unfold lastS
 rw [sgk_app,sgk_cons,if_neg (by rw [h]; simp)]
 show (match (sgk l ++ [t]).getLast? with | some t => t.2 | none => nob) = _
 rw [List.getLast?_concat]
theorem sgk_one : ∀ {v : List Tok},nsig v = 1 → sgk v = [sig1 v]
 | [],h => by cases h
 | t :: v,h => by
  rw [nsig] at h
  rw [sgk_cons,sig1]
  split
  ·rename_i ht; rw [if_pos ht] at h; exact sgk_one h
  ·rename_i ht
   rw [if_neg ht] at h
   rw [List.length_eq_zero_iff.1 (show (sgk v).length = 0 from by rw [sgk_len]; omega)]
theorem noPub_of {q : List Tok} (h : lastS q ≠ pubT) : NoPub q := fun u v e hn => by
 cases hp : isAt [pubT] (sig1 v) with
 | false => rfl
 | true =>
  exfalso
  apply h
  unfold lastS
  rw [e,sgk_app,sgk_one hn,List.getLast?_concat]
  exact at_text hp
def cSrc : ByteArray := ⟨#[99,111,110,115,116,32,107,58,32,105,110,116,32,61,32,49,59,10]⟩
theorem cSrc_tok : Lexi.tok cSrc = (5,104) := by decide
theorem cSrc_front (r : ByteArray) : 0 < (cSrc ++ r).size ∧ Lexi.isSp (bt (cSrc ++ r) 0) = false ∧ sig1 (toks (cSrc ++ r)) = constT := by
 have hs : cSrc.size = 18 := rfl
 have hsz : (cSrc ++ r).size = 18 + r.size := by rw [ByteArray.size_append,hs]
 have hb : ∀ i,i < 18 → bt (cSrc ++ r) i = bt cSrc i := fun i hi => Lexi.bt_app_l (by omega)
 have ht : Lexi.tok (cSrc ++ r) = Lexi.tok cSrc := Lexi.tok_local (by decide) (by rw [cSrc_tok]; decide) fun i hi => by
  rw [cSrc_tok] at hi
  simp only at hi
  rw [Lexi.bz_in (by omega),Lexi.bz_in (by omega),hb i (by omega)]
 refine ⟨by omega,by rw [hb 0 (by omega)]; decide,?_⟩
 rw [Lexi.toks_cons (by omega),ht,cSrc_tok,sig1,if_neg (show ¬ isTriv 104 = true by decide)]
 show ((104 : Int),(cSrc ++ r).extract 0 5) = constT
 rw [Lexi.head_app (by omega)]
 decide
theorem take_oneT (l : List Tok) (k : Nat) (h : k < l.length) : l.take (k + 1) = l.take k ++ [l[k]] := by rw [List.take_succ_eq_append_getElem]
theorem last_ok {w : World} {s : ByteArray} (hs : s.size ≤ 2000) : Cl Tryz.prog 17 #[.string s] w (fun u w' => u = .string (lastS (toks s)) ∧ Ext w w') := by
 have hx := Ext.refl w
 have hlen := Lexi.toks_length s
 obtain ⟨l,hl⟩ : ∃ l,toks s = l := ⟨_,rfl⟩
 refine Cl.enter Tryz.func17 rfl Tryz.ntmps17 rfl rfl (.sr (.a2 rfl (.done (.sr (.a2 rfl (.done (.seq (.sr (.m2 rfl (Rg.wd trivial (w_call Tryz.call46 rfl (rtokens_ok hs)) rfl ?_))))))))))
 rintro v w1 ⟨hsl,hx1⟩
 rw [hl] at hsl hlen
 replace hx := hx.ext hx1
 refine .t2 (t_lenC hsl Tryz.underlying34 rfl) (.m2 rfl (.done (Wp.block ?_)))
 rw [hl]
 refine Wp.loop (ι := Nat) (fun k => [(3,.string (lastS (l.take k))),(7,v),(8,.int .i64 l.length),(9,.int .i64 k)])
  (fun k w' => k ≤ l.length ∧ Ext w w' ∧ SlC w' v 2 l.length (tcs l)) (fun k => l.length - k) 0 (by repeat (first | exact .nil | refine .cons rfl ?_)) ⟨Nat.zero_le _,hx,hsl⟩ ?_
 clear hx hsl
 rintro k w3 ⟨hk,hx,hsl⟩
 by_cases hlt : k < l.length
 ·have et := take_oneT l k hlt
  refine .sr ?_
  refine .t2 (t_lssT rfl rfl (by omega)) ?_
  refine .done (.seq (.condT rfl (Wp.skip (.seq (Wp.block (.sr ?_))))))
  refine Rg.ix hsl trivial rfl rfl Tryz.underlying34 ty91 (by omega) rfl ?_
  intro bt11 ot11 ht11
  rw [Int.toNat_natCast,tcs_at l k hlt] at ht11
  refine .t2 (t_loadA rfl ht11 ty91) (Rg.wd trivial (w_new Tryz.zeroValue91 rfl) rfl ?_)
  rintro _ wab5 ⟨b5,rfl,qb5,hxab5,hvab5⟩
  refine Rg.wn trivial (w_put (cs := [.int .i64 l[k].1,.string l[k].2]) hvab5 rfl rfl rfl (ty91) (rfl) (rfl)) ?_
  rintro _ w4 ⟨hub5,hvb5⟩
  have hx4 := hxab5.upd hub5 (Nat.le_of_eq qb5.symm)
  clear hvab5 hub5 hxab5
  replace hx := hx.ext hx4
  replace hsl := hsl.ext hx4
  replace ht11 := ht11.ext hx4
  clear qb5
  refine .done ?_
  by_cases h1 : l[k].1 = 101
  ·skip
   refine .sr (.t2 (t_fieldAddr fa91_0 rfl) (.t2 (t_load ty3 rfl (hvb5.g 0 rfl)) (.t2 (t_neqF rfl rfl h1) (.m2 rfl (.so rfl rfl (.so rfl rfl (.so rfl rfl (.t2 (t_pickF rfl rfl) (.done (.condF rfl (Wp.skip (Wp.region ?_))))))))))))
   refine .t2 (t_addI rfl rfl (by omega)) ?_
   refine .m2 rfl (.done ?_)
   refine ⟨k + 1,?_,⟨hlt,hx,hsl⟩,by omega⟩
   rw [et,lastS_triv (by rw [h1]; rfl)]
   repeat (first | exact .nil | refine .cons rfl ?_)
  ·by_cases h2 : l[k].1 = 102
   ·skip
    refine .sr (.t2 (t_fieldAddr fa91_0 rfl) (.t2 (t_load ty3 rfl (hvb5.g 0 rfl)) (.t2 (t_neqT rfl rfl h1) (.m2 rfl (.g2 (t_fieldAddr fa91_0 rfl) (.g2 (t_load ty3 rfl (hvb5.g 0 rfl)) (.g2 (t_neqF rfl rfl h2) (.t2 (t_pickT rfl rfl) (.done (.condF rfl (Wp.skip (Wp.region ?_))))))))))))
    refine .t2 (t_addI rfl rfl (by omega)) ?_
    refine .m2 rfl (.done ?_)
    refine ⟨k + 1,?_,⟨hlt,hx,hsl⟩,by omega⟩
    rw [et,lastS_triv (by rw [h2]; rfl)]
    repeat (first | exact .nil | refine .cons rfl ?_)
   ·skip
    refine .sr (.t2 (t_fieldAddr fa91_0 rfl) (.t2 (t_load ty3 rfl (hvb5.g 0 rfl)) (.t2 (t_neqT rfl rfl h1) (.m2 rfl (.g2 (t_fieldAddr fa91_0 rfl) (.g2 (t_load ty3 rfl (hvb5.g 0 rfl)) (.g2 (t_neqT rfl rfl h2) (.t2 (t_pickT rfl rfl) (.done (.condT rfl (Wp.region (.t2 (t_fieldAddr fa91_1 rfl) ?_))))))))))))
    refine .t2 (t_load ty9 rfl (hvb5.g 1 rfl)) (.a2 rfl (.done (Wp.region ?_)))
    refine .t2 (t_addI rfl rfl (by omega)) ?_
    refine .m2 rfl (.done ?_)
    refine ⟨k + 1,?_,⟨hlt,hx,hsl⟩,by omega⟩
    rw [et,lastS_sig (by unfold isTriv; simp [h1,h2])]
    repeat (first | exact .nil | refine .cons rfl ?_)
 ·have e0 : k = l.length := by omega
  subst e0
  rw [List.take_length]
  refine .sr ?_
  refine .t2 (t_lssF rfl rfl (by omega)) ?_
  refine .done (.seq (.condF rfl (Wp.exit (.sr (.m2 rfl (.a2 rfl (.done (Wp.ret ?_))))))))
  exact ⟨[_],⟨rfl,trivial⟩,rfl,hx⟩
theorem Kept.node {w : World} {s : ByteArray} {t : Tr} {a : Hd} {cv lv : Value} {ks : List Mn} {ds : List Dg} (h : Kept w s t (.mk a cv ks) lv ds) : SlC w cv 7 ks.length (encs Mn.cells ks) ∧ ∀ g ∈ ks,NoL w g := by
 have := h.ok
 cases this with | mk a b c d => exact ⟨a,d⟩
theorem Kept.anc {w : World} {s : ByteArray} {t : Tr} {mn : Mn} {lv : Value} {ds : List Dg} (h : Kept w s t mn lv ds) (hs : s.size ≤ 2000) : anc mn.er ≤ 100000 := by
 rw [h.er]
 have := astOf_anc s t
 have := h.pt.small.cnt
 omega
theorem resyncLaw {w : World} {src dst : ByteArray} (hA0 : Asc w) (hE0 : Er w) : Cl Tryz.prog 3 #[.string src,.string dst] w (fun u w' => u = .bool true ∧ Ext w w') := by
 have hx := Ext.refl w
 obtain ⟨s,hs⟩ : ∃ s,src.extract 0 (min src.size 300) = s := ⟨_,rfl⟩
 have hsz : s.size ≤ 300 := by rw [← hs,ByteArray.size_extract]; omega
 obtain ⟨q,hq⟩ : ∃ s,dst.extract 0 (min dst.size 300) = s := ⟨_,rfl⟩
 have hqz : q.size ≤ 300 := by rw [← hq,ByteArray.size_extract]; omega
 have hcs : cSrc.size = 18 := rfl
 obtain ⟨f1,f2,f3⟩ := cSrc_front q
 have hbz : (cSrc ++ q).size = 18 + q.size := by rw [ByteArray.size_append,hcs]
 obtain ⟨b,hb⟩ : ∃ b,cSrc ++ q = b := ⟨_,rfl⟩
 rw [hb] at f1 f2 f3 hbz
 have hnl : nl.size = 1 := rfl
 have hcz : (s ++ nl ++ b).size = s.size + 1 + b.size := by rw [ByteArray.size_append,ByteArray.size_append,hnl]
 by_cases hp : lastS (toks s) = pubT
 ·skip
  refine Cl.enter Tryz.func3 rfl Tryz.ntmps3 rfl rfl (.sr (.a2 rfl (.done (.seq (.sr (Rg.wd trivial (w_call Tryz.call15 rfl (example_ok (hA0.ext hx) (er_ext hE0 hx))) rfl ?_))))))
  rintro _ w1 ⟨rfl,hx1⟩
  replace hx := hx.ext hx1
  refine .t2 (t_notB rfl) (.done (.condF rfl (Wp.skip (.sr (.m2 rfl (Rg.wd trivial (w_call Tryz.call16 rfl (short_ok (n := 300))) rfl ?_))))))
  rintro _ w2 ⟨rfl,hx2⟩
  replace hx := hx.ext hx2
  rw [hs]
  refine .m2 rfl (Rg.wd trivial (w_call Tryz.call16 rfl (short_ok (n := 300))) rfl ?_)
  rintro _ w3 ⟨rfl,hx3⟩
  replace hx := hx.ext hx3
  rw [hq]
  refine .t2 (t_sadd (v := q) rfl rfl (show cSrc.size + q.size ≤ _ by omega)) ?_
  rw [show (⟨#[99,111,110,115,116,32,107,58,32,105,110,116,32,61,32,49,59,10]⟩ : ByteArray) = cSrc from rfl,hb]
  refine .a2 rfl (.a2 rfl (.done (.seq (.sr (.m2 rfl ?_)))))
  refine Rg.wd trivial (w_call Tryz.call17 rfl (last_ok (by omega))) rfl ?_
  rintro _ w4 ⟨rfl,hx4⟩
  replace hx := hx.ext hx4
  refine .t2 (t_seqlT rfl rfl hp) (.done (.condT rfl (.sr (Rg.wd trivial (w_call Tryz.call15 rfl (example_ok (hA0.ext hx) (er_ext hE0 hx))) rfl ?_))))
  rintro _ w5 ⟨rfl,hx5⟩
  replace hx := hx.ext hx5
  refine .a2 rfl (.done (Wp.ret ?_))
  exact ⟨[_],⟨rfl,trivial⟩,rfl,hx⟩
 ·skip
  refine Cl.enter Tryz.func3 rfl Tryz.ntmps3 rfl rfl (.sr (.a2 rfl (.done (.seq (.sr (Rg.wd trivial (w_call Tryz.call15 rfl (example_ok (hA0.ext hx) (er_ext hE0 hx))) rfl ?_))))))
  rintro _ w1 ⟨rfl,hx1⟩
  replace hx := hx.ext hx1
  refine .t2 (t_notB rfl) (.done (.condF rfl (Wp.skip (.sr (.m2 rfl (Rg.wd trivial (w_call Tryz.call16 rfl (short_ok (n := 300))) rfl ?_))))))
  rintro _ w2 ⟨rfl,hx2⟩
  replace hx := hx.ext hx2
  rw [hs]
  refine .m2 rfl (Rg.wd trivial (w_call Tryz.call16 rfl (short_ok (n := 300))) rfl ?_)
  rintro _ w3 ⟨rfl,hx3⟩
  replace hx := hx.ext hx3
  rw [hq]
  refine .t2 (t_sadd (v := q) rfl rfl (show cSrc.size + q.size ≤ _ by omega)) ?_
  rw [show (⟨#[99,111,110,115,116,32,107,58,32,105,110,116,32,61,32,49,59,10]⟩ : ByteArray) = cSrc from rfl,hb]
  refine .a2 rfl (.a2 rfl (.done (.seq (.sr (.m2 rfl ?_)))))
  refine Rg.wd trivial (w_call Tryz.call17 rfl (last_ok (by omega))) rfl ?_
  rintro _ w4 ⟨rfl,hx4⟩
  replace hx := hx.ext hx4
  refine .t2 (t_seqlF rfl rfl hp) (.done (.condF rfl (Wp.skip (.sr (.m2 rfl ?_)))))
  refine Rg.wd trivial (w_call Tryz.call18 rfl (astParse_ok (s := s) (by omega) (hA0.ext hx) (er_ext hE0 hx))) rfl ?_
  rintro _ w5 ⟨t1,mn1,lv1,ds1,K1,A1⟩
  have hx5 := A1.ext
  have hk1 := parseA_kept A1
  have hue := A1.ue
  subst hue
  have hno1 := hk1.ok.oneL
  clear A1
  replace hx := hx.ext hx5
  refine .m2 rfl (.t2 (t_extract rfl rfl) (.t2 (t_extract rfl rfl) (.t2 (t_extract rfl rfl) (Rg.wd trivial (w_new Tryz.zeroValue27 rfl) rfl ?_))))
  rintro _ wab5 ⟨b5,rfl,qb5,hxab5,hvab5⟩
  refine Rg.wn trivial (w_put (cs := mn1.cells) hvab5 rfl rfl rfl (by rw [Mn.len]; exact ty27) (by rw [Mn.len]; rfl) (hno1)) ?_
  rintro _ w6 ⟨hub5,hvb5⟩
  have hx6 := hxab5.upd hub5 (Nat.le_of_eq qb5.symm)
  clear hvab5 hub5 hxab5
  replace hx := hx.ext hx6
  replace hk1 := hk1.ext hx6
  clear qb5
  refine .a2 rfl (.a2 rfl (.done (.sr (.m2 rfl ?_))))
  refine Rg.wd trivial (w_call Tryz.call18 rfl (astParse_ok (s := b) (by omega) (hA0.ext hx) (er_ext hE0 hx))) rfl ?_
  rintro _ w7 ⟨t2,mn2,lv2,ds2,K2,A2⟩
  have hx7 := A2.ext
  have hk2 := parseA_kept A2
  have hue := A2.ue
  subst hue
  have hno2 := hk2.ok.oneL
  clear A2
  replace hx := hx.ext hx7
  replace hk1 := hk1.ext hx7
  replace hvb5 := hvb5.ext hx7
  refine .m2 rfl (.t2 (t_extract rfl rfl) (.t2 (t_extract rfl rfl) (.t2 (t_extract rfl rfl) (Rg.wd trivial (w_new Tryz.zeroValue27 rfl) rfl ?_))))
  rintro _ wab8 ⟨b8,rfl,qb8,hxab8,hvab8⟩
  refine Rg.wn trivial (w_put (cs := mn2.cells) hvab8 rfl rfl rfl (by rw [Mn.len]; exact ty27) (by rw [Mn.len]; rfl) (hno2)) ?_
  rintro _ w8 ⟨hub8,hvb8⟩
  have hx8 := hxab8.upd hub8 (Nat.le_of_eq qb8.symm)
  clear hvab8 hub8 hxab8
  replace hx := hx.ext hx8
  replace hk1 := hk1.ext hx8
  replace hvb5 := hvb5.ext hx8
  replace hk2 := hk2.ext hx8
  clear qb8
  refine .a2 rfl (.a2 rfl (.done (.sr (.m2 rfl ?_))))
  refine .t2 (t_sadd (v := nl) rfl rfl (by omega)) ?_
  refine .m2 rfl ?_
  refine .t2 (t_sadd rfl rfl (by rw [ByteArray.size_append]; omega)) ?_
  refine Rg.wd trivial (w_call Tryz.call18 rfl (astParse_ok (s := s ++ nl ++ b) (by omega) (hA0.ext hx) (er_ext hE0 hx))) rfl ?_
  rintro _ w9 ⟨t3,mn3,lv3,ds3,K3,A3⟩
  have hx9 := A3.ext
  have hk3 := parseA_kept A3
  have hue := A3.ue
  subst hue
  have hno3 := hk3.ok.oneL
  clear A3
  replace hx := hx.ext hx9
  replace hk1 := hk1.ext hx9
  replace hvb5 := hvb5.ext hx9
  replace hk2 := hk2.ext hx9
  replace hvb8 := hvb8.ext hx9
  refine .m2 rfl (.t2 (t_extract rfl rfl) (.t2 (t_extract rfl rfl) (.t2 (t_extract rfl rfl) (Rg.wd trivial (w_new Tryz.zeroValue27 rfl) rfl ?_))))
  rintro _ wab11 ⟨b11,rfl,qb11,hxab11,hvab11⟩
  refine Rg.wn trivial (w_put (cs := mn3.cells) hvab11 rfl rfl rfl (by rw [Mn.len]; exact ty27) (by rw [Mn.len]; rfl) (hno3)) ?_
  rintro _ w10 ⟨hub11,hvb11⟩
  have hx10 := hxab11.upd hub11 (Nat.le_of_eq qb11.symm)
  clear hvab11 hub11 hxab11
  replace hx := hx.ext hx10
  replace hk1 := hk1.ext hx10
  replace hvb5 := hvb5.ext hx10
  replace hk2 := hk2.ext hx10
  replace hvb8 := hvb8.ext hx10
  replace hk3 := hk3.ext hx10
  clear qb11
  refine .a2 rfl (.a2 rfl (.done (.seq ?_)))
  have hmain := resync hk1.pt hk2.pt hk3.pt f3 f1 f2 (noPub_of hp)
  rw [← astOf_kids,← astOf_kids,← astOf_kids,← hk1.er,← hk2.er,← hk3.er] at hmain
  have ha3 := hk3.anc (by omega)
  obtain ⟨n1,cv1,ks1⟩ := mn1
  obtain ⟨n2,cv2,ks2⟩ := mn2
  obtain ⟨n3,cv3,ks3⟩ := mn3
  have hcore : (mnL ks3).map core = (mnL ks1).map core ++ (mnL ks2).map core := by
   have h0 : bareL (mnL ks3) = bareL (mnL ks1) ++ bareL (mnL ks2) := hmain
   have h1 := congrArg coreL h0
   rw [← bareL_app,core_bareL,core_bareL,coreL_map,coreL_map,List.map_append] at h1
   exact h1
  have hl3 : ks3.length = ks1.length + ks2.length := by
   have := congrArg List.length hcore
   simpa [mnL_len] using this
  have hlen3 : ks3.length ≤ 100000 := by
   have h0 := ancL_len (mnL ks3)
   rw [mnL_len] at h0
   simp only [Mn.er,anc] at ha3
   omega
  clear hmain
  obtain ⟨s1,_⟩ := hk1.node
  obtain ⟨s2,_⟩ := hk2.node
  obtain ⟨s3,_⟩ := hk3.node
  refine .sr (Rg.wd trivial (w_call Tryz.call15 rfl (example_ok (hA0.ext hx) (er_ext hE0 hx))) rfl ?_)
  rintro _ w11 ⟨rfl,hx11⟩
  replace hx := hx.ext hx11
  replace hk1 := hk1.ext hx11
  replace hvb5 := hvb5.ext hx11
  replace hk2 := hk2.ext hx11
  replace hvb8 := hvb8.ext hx11
  replace hk3 := hk3.ext hx11
  replace hvb11 := hvb11.ext hx11
  replace s1 := s1.ext hx11
  replace s2 := s2.ext hx11
  replace s3 := s3.ext hx11
  refine .t2 (t_notB rfl) (.m2 rfl (.g2 (t_move rfl) (.g2 (t_neqF rfl rfl rfl) (.t2 (t_pickF rfl rfl) (.m2 rfl (.g2 (t_move rfl) (.g2 (t_neqF rfl rfl rfl) (.t2 (t_pickF rfl rfl) (.m2 rfl (.g2 (t_move rfl) (.g2 (t_neqF rfl rfl rfl) (.t2 (t_pickF rfl rfl) ?_))))))))))))
  refine .m2 rfl (.g2 (t_fieldAddr fa27_6 rfl) (.g2 (t_load ty25 rfl (hvb11.g 6 rfl)) (.g2 (t_lenC s3 Tryz.underlying25 rfl) (.g2 (t_fieldAddr fa27_6 rfl) (.g2 (t_load ty25 rfl (hvb5.g 6 rfl)) (.g2 (t_lenC s1 Tryz.underlying25 rfl) (.g2 (t_fieldAddr fa27_6 rfl) (.g2 (t_load ty25 rfl (hvb8.g 6 rfl)) (.g2 (t_lenC s2 Tryz.underlying25 rfl) ?_)))))))))
  refine .g2 (t_addI rfl rfl (by omega)) ?_
  refine .g2 (t_neqF rfl rfl (by omega)) ?_
  refine .t2 (t_pickF rfl rfl) (.done (.condF rfl (Wp.skip (.seq (.sr (.t2 (t_fieldAddr fa27_6 rfl) (.t2 (t_load ty25 rfl (hvb11.g 6 rfl)) (.t2 (t_lenC s3 Tryz.underlying25 rfl) (.m2 rfl (.done (Wp.block ?_)))))))))))
  refine Wp.loop (ι := Nat) (fun k => [(5,.pointer (some ⟨b5,0,none⟩)),(8,.pointer (some ⟨b8,0,none⟩)),(11,.pointer (some ⟨b11,0,none⟩)),(77,cv3),(78,.int .i64 ks3.length),(79,.int .i64 k)])
   (fun k w' => k ≤ ks3.length ∧ Ext w11 w') (fun k => ks3.length - k) 0 (by repeat (first | exact .nil | refine .cons rfl ?_)) ⟨Nat.zero_le _,Ext.refl _⟩ ?_
  rintro k wl ⟨hk,hy⟩
  replace hx := hx.ext hy
  replace hk1 := hk1.ext hy
  replace hk2 := hk2.ext hy
  replace hk3 := hk3.ext hy
  replace hvb5 := hvb5.ext hy
  replace hvb8 := hvb8.ext hy
  replace hvb11 := hvb11.ext hy
  replace s1 := s1.ext hy
  replace s2 := s2.ext hy
  replace s3 := s3.ext hy
  by_cases hlt : k < ks3.length
  ·have g3 := hk3.node.2 _ (List.getElem_mem hlt)
   have o3 := g3.oneL
   have hanc3 : anc ks3[k].er ≤ 1000000 := by
    have h0 : anc ks3[k].er ≤ ancL (mnL ks3) := ancL_mem (by rw [← mnL_at ks3 k hlt]; exact List.getElem_mem _)
    simp only [Mn.er,anc] at ha3
    omega
   have hc3 : ((mnL ks3).map core)[k]? = some (core ks3[k].er) := by
    rw [List.getElem?_map,List.getElem?_eq_getElem (by rw [mnL_len]; exact hlt),mnL_at ks3 k hlt]
    rfl
   have hxL := hx
   have g3L := g3
   have hk1L := hk1
   have hk2L := hk2
   have hyy := Ext.refl wl
   refine .sr ?_
   refine .t2 (t_lssT rfl rfl (by omega)) ?_
   refine .done (.seq (.condT rfl (Wp.skip (.seq (Wp.block (.sr (.m2 rfl ?_)))))))
   refine Rg.ix s3 trivial rfl rfl Tryz.underlying25 ty27 (by omega) rfl ?_
   intro bt82 ot82 ht82
   rw [Int.toNat_natCast,encs_at Mn.len ks3 k hlt] at ht82
   refine .t2 (t_loadA rfl ht82 (by rw [Mn.len]; exact ty27)) ?_
   refine Rg.wd trivial (w_new Tryz.zeroValue27 rfl) rfl ?_
   rintro _ wa15 ⟨b15,rfl,q15,hxa15,hva15⟩
   refine .a2 rfl ?_
   refine Rg.wn trivial (w_put (cs := ks3[k].cells) hva15 rfl rfl rfl (by rw [Mn.len]; exact ty27) (by rw [Mn.len]; rfl) o3) ?_
   rintro _ w71 ⟨hu15,hvb15⟩
   have hx71 := hxa15.upd hu15 (Nat.le_of_eq q15.symm)
   clear hva15 hu15 hxa15
   replace hx := hx.ext hx71
   replace hyy := hyy.ext hx71
   replace hk1 := hk1.ext hx71
   replace hk2 := hk2.ext hx71
   replace hk3 := hk3.ext hx71
   replace hvb5 := hvb5.ext hx71
   replace hvb8 := hvb8.ext hx71
   replace hvb11 := hvb11.ext hx71
   replace s1 := s1.ext hx71
   replace s2 := s2.ext hx71
   replace s3 := s3.ext hx71
   replace g3 := g3.ext hx71
   clear q15
   refine .done (.sr (.t2 (t_build bd27 rfl) (Rg.wd trivial (w_new Tryz.zeroValue27 rfl) rfl ?_)))
   rintro _ wa16 ⟨b16,rfl,q16,hxa16,hva16⟩
   have gL16 : wl.heap.size ≤ b16 := by have := hyy.le; omega
   have n15 : b15 ≠ b16 := by have := hvb15.lt; omega
   refine Rg.wn trivial (w_put (cs := [.int .i64 0,.int .i64 0,.string ⟨#[]⟩,.int .i64 0,.int .i64 0,.int .i64 0,.slice none 0 0]) hva16 rfl rfl rfl (ty27) (rfl) (rfl)) ?_
   rintro _ w72 ⟨hu16,hvb16⟩
   have hx72 := hxa16.upd hu16 (Nat.le_of_eq q16.symm)
   clear hva16 hu16 hxa16
   replace hx := hx.ext hx72
   replace hyy := hyy.ext hx72
   replace hk1 := hk1.ext hx72
   replace hk2 := hk2.ext hx72
   replace hk3 := hk3.ext hx72
   replace hvb5 := hvb5.ext hx72
   replace hvb8 := hvb8.ext hx72
   replace hvb11 := hvb11.ext hx72
   replace s1 := s1.ext hx72
   replace s2 := s2.ext hx72
   replace s3 := s3.ext hx72
   replace g3 := g3.ext hx72
   replace hvb15 := hvb15.ext hx72
   clear q16
   refine .done (.seq ?_)
   skip
   by_cases h1 : k < ks1.length
   ·skip
    have gcL := hk1L.node.2 _ (List.getElem_mem h1)
    have hcc : core ks3[k].er = core ks1[k].er := by
     rw [hcore,List.getElem?_append_left (by simpa [mnL_len] using h1),List.getElem?_map,List.getElem?_eq_getElem (by rw [mnL_len]; exact h1),mnL_at ks1 k h1] at hc3
     exact (Option.some.inj hc3).symm
    have oc := gcL.oneL
    skip
    refine .sr (.m2 rfl (.t2 (t_fieldAddr fa27_6 rfl) (.t2 (t_load ty25 rfl (hvb5.g 6 rfl)) (.t2 (t_lenC s1 Tryz.underlying25 rfl) ?_))))
    refine .t2 (t_lssT rfl rfl (by omega)) ?_
    refine .done (.condT rfl (Wp.region (.t2 (t_fieldAddr fa27_6 rfl) (.t2 (t_load ty25 rfl (hvb5.g 6 rfl)) (.m2 rfl ?_)))))
    refine Rg.ix s1 trivial rfl rfl Tryz.underlying25 ty27 (by omega) rfl ?_
    intro bt93 ot93 ht93
    rw [Int.toNat_natCast,encs_at Mn.len ks1 k h1] at ht93
    refine .t2 (t_loadA rfl ht93 (by rw [Mn.len]; exact ty27)) ?_
    refine Rg.wn trivial (w_put (cs := ks1[k].cells) hvb16 rfl rfl rfl (by rw [Mn.len]; exact ty27) (by rw [Mn.len]; rfl) oc) ?_
    rintro _ w90 ⟨hu90,hv16⟩
    have hyz := hyy.upd hu90 gL16
    replace hx := hxL.ext hyz
    have g3z := g3L.ext hyz
    have gcz := gcL.ext hyz
    have hvb15z := hvb15.upd hu90 n15
    refine .done (.sr ?_)
    refine .t2 (t_loadA rfl hvb15z.cells (by rw [Mn.len]; exact ty27)) ?_
    refine .t2 (t_loadA rfl hv16.cells (by rw [Mn.len]; exact ty27)) ?_
    refine Rg.wd trivial (w_call Tryz.call19 rfl (equal_ok _ ks3[k] ks1[k] (Nat.le_refl _) hanc3 _ g3z gcz)) rfl ?_
    rintro _ w91 ⟨⟨bq,rfl,hbq⟩,hx91⟩
    obtain rfl := hbq.2 hcc
    refine .t2 (t_notB rfl) (.done (.condF rfl (Wp.skip (Wp.region ?_))))
    refine .t2 (t_addI rfl rfl (by omega)) ?_
    refine .m2 rfl (.done ?_)
    exact ⟨k + 1,by repeat (first | exact .nil | refine .cons rfl ?_),⟨by omega,hy.ext (hyz.ext hx91)⟩,by omega⟩
   ·skip
    obtain ⟨j,rfl⟩ : ∃ j,k = ks1.length + j := ⟨k - ks1.length,by omega⟩
    have h2 : j < ks2.length := by omega
    have gcL := hk2L.node.2 _ (List.getElem_mem h2)
    have hcc : core ks3[ks1.length + j].er = core ks2[j].er := by
     rw [hcore,List.getElem?_append_right (by simp [mnL_len]),List.getElem?_map,List.length_map,mnL_len,Nat.add_sub_cancel_left,List.getElem?_eq_getElem (by rw [mnL_len]; exact h2),mnL_at ks2 j h2] at hc3
     exact (Option.some.inj hc3).symm
    have oc := gcL.oneL
    skip
    refine .sr (.m2 rfl (.t2 (t_fieldAddr fa27_6 rfl) (.t2 (t_load ty25 rfl (hvb5.g 6 rfl)) (.t2 (t_lenC s1 Tryz.underlying25 rfl) ?_))))
    refine .t2 (t_lssF rfl rfl (by omega)) ?_
    refine .done (.condF rfl (Wp.region (.t2 (t_fieldAddr fa27_6 rfl) (.t2 (t_load ty25 rfl (hvb8.g 6 rfl)) (.m2 rfl (.t2 (t_fieldAddr fa27_6 rfl) (.t2 (t_load ty25 rfl (hvb5.g 6 rfl)) (.t2 (t_lenC s1 Tryz.underlying25 rfl) ?_))))))))
    refine .t2 (t_subI rfl rfl (by omega)) ?_
    rw [show ((ks1.length + j : Nat) : Int) - (ks1.length : Int) = (j : Int) from by omega]
    refine Rg.ix s2 trivial rfl rfl Tryz.underlying25 ty27 (by omega) rfl ?_
    intro bt102 ot102 ht102
    rw [Int.toNat_natCast,encs_at Mn.len ks2 j h2] at ht102
    refine .t2 (t_loadA rfl ht102 (by rw [Mn.len]; exact ty27)) ?_
    refine Rg.wn trivial (w_put (cs := ks2[j].cells) hvb16 rfl rfl rfl (by rw [Mn.len]; exact ty27) (by rw [Mn.len]; rfl) oc) ?_
    rintro _ w90 ⟨hu90,hv16⟩
    have hyz := hyy.upd hu90 gL16
    replace hx := hxL.ext hyz
    have g3z := g3L.ext hyz
    have gcz := gcL.ext hyz
    have hvb15z := hvb15.upd hu90 n15
    refine .done (.sr ?_)
    refine .t2 (t_loadA rfl hvb15z.cells (by rw [Mn.len]; exact ty27)) ?_
    refine .t2 (t_loadA rfl hv16.cells (by rw [Mn.len]; exact ty27)) ?_
    refine Rg.wd trivial (w_call Tryz.call19 rfl (equal_ok _ ks3[ks1.length + j] ks2[j] (Nat.le_refl _) hanc3 _ g3z gcz)) rfl ?_
    rintro _ w91 ⟨⟨bq,rfl,hbq⟩,hx91⟩
    obtain rfl := hbq.2 hcc
    refine .t2 (t_notB rfl) (.done (.condF rfl (Wp.skip (Wp.region ?_))))
    refine .t2 (t_addI rfl rfl (by omega)) ?_
    refine .m2 rfl (.done ?_)
    exact ⟨(ks1.length + j) + 1,by repeat (first | exact .nil | refine .cons rfl ?_),⟨by omega,hy.ext (hyz.ext hx91)⟩,by omega⟩
  ·skip
   refine .sr ?_
   refine .t2 (t_lssF rfl rfl (by omega)) ?_
   refine .done (.seq (.condF rfl (Wp.exit (.sr (.a2 rfl (.done (Wp.ret ?_)))))))
   exact ⟨[_],⟨rfl,trivial⟩,rfl,hx⟩
end Go.Proofs.YtiogccmfmjhipaaGreatDoor.Par
