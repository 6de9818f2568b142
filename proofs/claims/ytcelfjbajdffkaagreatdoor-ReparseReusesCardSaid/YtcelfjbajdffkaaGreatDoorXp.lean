/- The walks of package relex: ends, resume, slices.Equal, slices.Clone, Update. Printed by doors.py. -/
import Derived.Test.YtcelfjbajdffkaaGreatDoorXa
import Derived.Test.YtcelfjbajdffkaaGreatDoorXk
import Derived.Test.YtcelfjbajdffkaaGreatDoorXo
set_option linter.unusedVariables false
set_option linter.unusedSimpArgs false
namespace Go.Proofs.YtcelfjbajdffkaaGreatDoor.Lexi
set_option maxRecDepth 20000
open Go.Gx Go.RowKit Go.Lib
theorem part3 (xs : Array Value) (v : Value) (o : Nat) (h : xs[o]? = some v) (w : World) : (part 3 xs o).run Tryz.prog w = .ok v w := by
 have h1 := ty3.ag w
 have h2 := ty3.sz w
 simp [part,h1,h2,h]
theorem part9 (xs : Array Value) (v : Value) (o : Nat) (h : xs[o]? = some v) (w : World) : (part 9 xs o).run Tryz.prog w = .ok v w := by
 have h1 := ty9.ag w
 have h2 := ty9.sz w
 simp [part,h1,h2,h]
theorem fields39 : (Tryz.prog.fieldsOf 55).toList.map (fun f => (f.name != "_",f.type,f.offset)) = [(true,3,0),(true,9,1)] := by kernel_rfl
theorem under39 : Tryz.prog.underlying 55 = some (.struct (Tryz.prog.fieldsOf 55)) := by kernel_rfl
theorem eq39 (a b : Int) (x y : ByteArray) (w : World) : (Op.equal 55 (.agg #[.int .i64 a,.string x]) (.agg #[.int .i64 b,.string y])).run Tryz.prog w = .ok (a == b && x.toList == y.toList) w := by
 have hf := fields39
 unfold Op.equal
 rw [show Op.maxDepth = 9999 + 1 from rfl,run_equalIn_struct w 9999 55 _ _ under39 (by kernel_rfl)]
 generalize (Tryz.prog.fieldsOf 55).toList = fs at hf ⊢
 rcases fs with _ | ⟨f0,_ | ⟨f1,_ | ⟨f2,r⟩⟩⟩
 ·cases hf
 ·simp at hf
 ·simp only [List.map_cons,List.map_nil,List.cons.injEq,Prod.mk.injEq,and_true,bne_iff_ne,ne_eq] at hf
  obtain ⟨⟨n0,t0,o0⟩,n1,t1,o1⟩ := hf
  have e1 : (Op.equalIn 9999 3 (.int .i64 a) (.int .i64 b)).run Tryz.prog w = .ok (a == b) w := run_equalIn_int w 9998 3 .i64 .i64 a b Tryz.underlying3
  have e2 : (Op.equalIn 9999 9 (.string x) (.string y)).run Tryz.prog w = .ok (x.toList == y.toList) w := run_equalIn_string w 9998 9 x y Tryz.underlying9
  generalize (x.toList == y.toList) = r at e2 ⊢
  have p1 := part3 #[.int .i64 a,.string x] (.int .i64 a) 0 rfl w
  have p2 := part3 #[.int .i64 b,.string y] (.int .i64 b) 0 rfl w
  have p3 := part9 #[.int .i64 a,.string x] (.string x) 1 rfl w
  have p4 := part9 #[.int .i64 b,.string y] (.string y) 1 rfl w
  simp only [Op.eqFields,t0,t1,o0,o1,n0,n1,ne_eq,not_false_eq_true,if_true,Sem.run_bind,p1,p2,Result.andThen_ok,e1]
  cases a == b
  ·simp
  ·simp [p3,p4,e2]
   cases r <;> simp
 ·simp at hf
theorem tcs_one (l : List (Int × ByteArray)) : ∀ u ∈ tcs l,u.oneCell' = true := by
 induction l with
 | nil => intro u hu; cases hu
 | cons t l ih =>
  intro u hu
  simp only [tcs,List.mem_cons] at hu
  rcases hu with rfl | rfl | hu
  ·rfl
  ·rfl
  ·exact ih u hu
theorem ints_at {zs : List Int} {k : Nat} (h : k < zs.length) : ((zs.map (Value.int .i64)).drop (k * 1)).take 1 = [.int .i64 zs[k]] := by
 rw [Nat.mul_one,List.drop_eq_getElem_cons (by simpa using h)]; simp
def endsZ (s : ByteArray) (n : Nat) : List Int := (List.range n).map fun k => (off s (k + 1) : Int)
theorem endsZ_length (s : ByteArray) (n : Nat) : (endsZ s n).length = n := by simp [endsZ]
theorem endsZ_succ (s : ByteArray) (n : Nat) : endsZ s (n + 1) = endsZ s n ++ [(off s (n + 1) : Int)] := by simp [endsZ,List.range_succ]
theorem endsZ_at {s : ByteArray} {n k : Nat} (h : k < n) : (endsZ s n)[k]'(by rw [endsZ_length]; exact h) = (off s (k + 1) : Int) := by simp [endsZ]
theorem ends_ok {w : World} {v : Value} {s : ByteArray} (hs0 : SlC w v 2 (toks s).length (tcs (toks s))) (hlen : s.size ≤ 2000) :
  Cl Tryz.prog 72 #[v] w (fun u w' => SlC w' u 1 (toks s).length ((endsZ s (toks s).length).map (.int .i64)) ∧ Ext w w') := by
 obtain ⟨i,hi,hz,hsi,hby⟩ := inf3
 have hx := Ext.refl w
 have htl := toks_length s
 refine Cl.enter Tryz.func72 rfl Tryz.ntmps72 rfl rfl (.sr (.as rfl rfl (.done (.sr (.as rfl rfl (.done (.sr (.as rfl rfl (.done (.seq (.sr (.mv rfl rfl ?_))))))))))))
 refine .tq (t_lenC hs0 Tryz.underlying49 rfl) rfl (.mv rfl rfl (.done (Wp.block ?_)))
 refine Wp.loop (ι := Nat × Value) (fun j => [(3,j.2),(4,.int .i64 (off s j.1)),(7,v),(8,.int .i64 (toks s).length),(9,.int .i64 j.1)])
  (fun j w' => j.1 ≤ (toks s).length ∧ w'.ownsRow w.heap.size 3 1 j.2 j.1 ((endsZ s j.1).map (.int .i64)) ∧ Ext w w')
  (fun j => (toks s).length - j.1) (0,.slice none 0 0) (by repeat (first | exact .nil | refine .cons rfl ?_)) ⟨Nat.zero_le _,own_nil _ _ _ _,hx⟩ ?_
 clear hx
 rintro ⟨k,vr⟩ w3 ⟨hk,hown,hx⟩
 simp only at hk hown ⊢
 by_cases hlt : k < (toks s).length
 ·have eo := (off_step hlt).1
  have ol := off_le s (k + 1)
  refine .sr ?_
  first | refine .tq (t_lssT rfl rfl (by omega)) rfl ?_ | refine .tq (t_lssF rfl rfl (by omega)) rfl ?_ | refine .tq (t_lss rfl rfl) rfl ?_
  refine .done (.seq (.condT rfl (Wp.skip (.seq (Wp.block (.sr ?_))))))
  refine Rg.ix hs0 trivial rfl rfl Tryz.underlying49 ty55 (by omega) rfl ?_
  intro bt11 ot11 ht11
  replace ht11 := ht11.ext hx
  rw [Int.toNat_natCast,tcs_at _ k hlt] at ht11
  refine .tq (t_loadA rfl ht11 ty55) rfl (Rg.wd trivial (w_new Tryz.zeroValue55 rfl) rfl ?_)
  rintro _ wa ⟨b6,rfl,qb6,hxa,hva⟩
  refine Rg.wn trivial (w_put hva rfl rfl rfl ty55 rfl rfl) ?_
  rintro _ w1 ⟨hu,hvb6⟩
  have hx1 := hxa.upd hu (Nat.le_of_eq qb6.symm)
  replace hx := hx.ext hx1
  replace hown := own_ext hown hx1
  have hcb6 := hvb6.cells
  clear hva hu
  refine .done (.sr (.mv rfl rfl (.tq (t_fieldAddr fa55_1 rfl) rfl ?_)))
  refine .tq (t_load ty9 rfl (by apply Cells.get (i := 1); (case h => assumption); rfl)) rfl ?_
  refine .tq (t_len Tryz.underlying9 rfl) rfl ?_
  first | refine .tq (t_addI rfl rfl (by omega)) rfl ?_ | refine .tq (t_add rfl rfl) rfl ?_
  rw [show ((off s k : Int) + ((toks s)[k].2.size : Nat)) = (off s (k + 1) : Int) from by omega]
  refine .as rfl rfl (.done (Wp.region (.mv rfl rfl (.mv rfl rfl (Rg.wd trivial (w_buildSlice (bs51_1 _) rfl) rfl ?_)))))
  rintro _ wb ⟨bb,rfl,qb,hxb,hvb⟩
  replace hx := hx.ext hxb
  replace hown := own_ext hown hxb
  refine Rg.wd trivial (w_append w.heap.size Tryz.underlying51 hi hz hsi hby rfl (by decide) rfl rfl hown rfl (fun j u hu => by rw [addr_add]; exact hvb.cells j u hu) (by simp [Value.oneCell']) (by unfold maxLen; omega) (by omega) hx.le) rfl ?_
  rintro v2 wc ⟨hown2,hgr,p2,l2,c2,rfl⟩
  replace hx := own_ext3 hx hown hgr
  refine .as rfl rfl (.done (Wp.region ?_))
  first | refine .tq (t_addI rfl rfl (by omega)) rfl ?_ | refine .tq (t_add rfl rfl) rfl ?_
  refine .mv rfl rfl (.done ?_)
  refine ⟨(k + 1,.slice p2 l2 c2),by repeat (first | exact .nil | refine .cons rfl ?_),⟨hlt,?_,hx⟩,by simp only; omega⟩
  rw [endsZ_succ,List.map_append]
  exact hown2
 ·have e0 : k = (toks s).length := by omega
  subst e0
  refine .sr ?_
  first | refine .tq (t_lssT rfl rfl (by omega)) rfl ?_ | refine .tq (t_lssF rfl rfl (by omega)) rfl ?_ | refine .tq (t_lss rfl rfl) rfl ?_
  refine .done (.seq (.condF rfl (Wp.exit (.sr (.mv rfl rfl (.as rfl rfl (.done (Wp.ret ?_))))))))
  exact ⟨[_],⟨rfl,trivial⟩,own_slice hown,hx⟩
theorem count_to {f : Nat → Int} {x : Int} {i : Nat} (h1 : ∀ k,k < i → f k < x) : ∀ n,i ≤ n → (∀ k,i ≤ k → k < n → ¬ f k < x) → ((List.range n).map f).countP (· < x) = i
 | 0,h,_ => by
  obtain rfl : i = 0 := by omega
  rfl
 | n + 1,h,h2 => by
  rw [List.range_succ,List.map_append,List.countP_append]
  by_cases hi : i = n + 1
  ·subst hi
   rw [count_to_all h1 n (by omega)]
   simp [h1 n (by omega)]
  ·rw [count_to h1 n (by omega) (fun k a b => h2 k a (by omega))]
   simp [h2 n (by omega) (by omega)]
where
 count_to_all {f : Nat → Int} {x : Int} {i : Nat} (h1 : ∀ k,k < i → f k < x) : ∀ n,n ≤ i → ((List.range n).map f).countP (· < x) = n
 | 0,h => rfl
 | n + 1,h => by
  rw [List.range_succ,List.map_append,List.countP_append,count_to_all h1 n (by omega)]
  simp [h1 n (by omega)]
theorem search_ok {w : World} {v : Value} {s : ByteArray} {x : Int} (hs : SlC w v 1 (toks s).length ((endsZ s (toks s).length).map (.int .i64))) (hlen : s.size ≤ 2000) :
  Cl Tryz.prog 117 #[v,.int .i64 x] w (fun u w' => (∃ (c : Nat) (f : Bool),u = .tuple #[.int .i64 c,.bool f] ∧ (f = true → c < (toks s).length ∧ (off s (c + 1) : Int) = x)) ∧ Ext w w') := by
 have htl := toks_length s
 obtain ⟨_,p,cap,rfl,hc,hd⟩ := hs
 by_cases h0 : (toks s).length = 0
 ·rw [h0]
  refine (Cl.of (Tryz.slices_BinarySearch_int_empty p cap x w)).mono fun u w' ⟨h1,h2⟩ => ?_
  subst h1; subst h2
  exact ⟨⟨0,false,rfl,fun h => by cases h⟩,Ext.refl _⟩
 ·rcases hd with hd | ⟨b,o,rfl,hcell⟩
  ·omega
  ·have hmono : ∀ i j,i < j → j < (toks s).length → off s (i + 1) < off s (j + 1) := fun i j h1 h2 => by
    have := off_mono (s := s) (j - i) (k := i + 1) (by omega)
    rw [show i + 1 + (j - i) = j + 1 from by omega] at this
    omega
   refine (Cl.of (Tryz.slices_BinarySearch_int b o (toks s).length cap (endsZ s (toks s).length) x w (Nat.le_of_eq (endsZ_length _ _).symm) (by omega) (fun j hj => ?_) ?_)).mono fun u w' ⟨h1,q,h2⟩ => ?_
   ·have h1 : ((endsZ s (toks s).length).map (Value.int .i64))[j]? = some (.int .i64 ((endsZ s (toks s).length).getD j 0)) := by
     rw [List.getElem?_map,List.getD_eq_getElem?_getD,List.getElem?_eq_getElem hj]; rfl
    exact hcell j _ h1
   ·rw [List.take_of_length_le (by rw [endsZ_length]; exact Nat.le_refl _)]
    rw [List.pairwise_iff_getElem]
    intro i j hi hj hij
    rw [endsZ_length] at hi hj
    rw [endsZ_at hi,endsZ_at hj]
    have := hmono i j hij hj
    omega
   ·subst h1; subst h2
    rw [List.take_of_length_le (by rw [endsZ_length]; exact Nat.le_refl _)]
    refine ⟨⟨_,_,rfl,fun hf => ?_⟩,(⟨rfl,rfl,rfl,Nat.le_refl _,fun _ _ => rfl⟩ : Below w.heap.size w (w.drewN q))⟩
    have hm : x ∈ endsZ s (toks s).length := by simpa using hf
    obtain ⟨i,hi,he⟩ := List.getElem_of_mem hm
    rw [endsZ_length] at hi
    rw [endsZ_at hi] at he
    have hcnt : (endsZ s (toks s).length).countP (· < x) = i := count_to (fun k hk => by
      have := hmono k i hk hi
      omega) _ (by omega) (fun k h1 h2 => by
      by_cases hki : k = i
      ·subst hki; omega
      ·have := hmono i k (by omega) h2
       omega)
    rw [hcnt]
    exact ⟨hi,he⟩
theorem resume_ok {w : World} {v : Value} {s : ByteArray} {x : Int} (hs : SlC w v 1 (toks s).length ((endsZ s (toks s).length).map (.int .i64))) (hlen : s.size ≤ 2000) :
  Cl Tryz.prog 74 #[v,.int .i64 x] w (fun u w' => (∃ j : Int,u = .int .i64 j ∧ (j = -1 ∨ ∃ i : Nat,j = i ∧ i ≤ (toks s).length ∧ (off s i : Int) = x)) ∧ Ext w w') := by
 have hx := Ext.refl w
 have htl := toks_length s
 by_cases h0 : x = 0
 ·skip
  refine Cl.enter Tryz.func74 rfl Tryz.ntmps74 rfl rfl (.sr (.as rfl rfl (.done (.seq (.sr (.mv rfl rfl ?_))))))
  first | refine .tq (t_eqlT rfl rfl (by omega)) rfl ?_ | refine .tq (t_eqlF rfl rfl (by omega)) rfl ?_ | refine .tq (t_eql rfl rfl) rfl ?_
  refine .done (.condT rfl (.sr (.as rfl rfl (.done (Wp.ret ?_)))))
  exact ⟨[_],⟨rfl,trivial⟩,⟨0,rfl,.inr ⟨0,rfl,Nat.zero_le _,by rw [off_zero,h0]; rfl⟩⟩,hx⟩
 ·skip
  refine Cl.enter Tryz.func74 rfl Tryz.ntmps74 rfl rfl (.sr (.as rfl rfl (.done (.seq (.sr (.mv rfl rfl ?_))))))
  first | refine .tq (t_eqlT rfl rfl (by omega)) rfl ?_ | refine .tq (t_eqlF rfl rfl (by omega)) rfl ?_ | refine .tq (t_eql rfl rfl) rfl ?_
  refine .done (.condF rfl (Wp.skip (.seq (.sr (.mv rfl rfl (.mv rfl rfl (Rg.wd trivial (w_call Tryz.call117 rfl (search_ok hs hlen)) rfl ?_)))))))
  rintro _ w1 ⟨⟨c,f,rfl,hf⟩,hx1⟩
  replace hx := hx.ext hx1
  refine .mv rfl rfl (.tq (t_extract rfl rfl) rfl (.tq (t_extract rfl rfl) rfl (.as rfl rfl (.as rfl rfl (.done (.sr (.mv rfl rfl (.done ?_))))))))
  cases f with
  | true =>
   obtain ⟨hf1,hf2⟩ := hf rfl
   refine .condT rfl (.sr (.mv rfl rfl ?_))
   first | refine .tq (t_addI rfl rfl (by omega)) rfl ?_ | refine .tq (t_add rfl rfl) rfl ?_
   refine .as rfl rfl (.done (Wp.ret ?_))
   exact ⟨[_],⟨rfl,trivial⟩,⟨_,rfl,.inr ⟨c + 1,by omega,hf1,hf2⟩⟩,hx⟩
  | false =>
   refine .condF rfl (Wp.skip (.sr (.as rfl rfl (.done (Wp.ret ?_)))))
   exact ⟨[_],⟨rfl,trivial⟩,⟨_,rfl,.inl rfl⟩,hx⟩
theorem equalS_ok {w : World} {v1 v2 : Value} {l : List (Int × ByteArray)} (hs0 : SlC w v1 2 l.length (tcs l)) (hz0 : SlC w v2 2 l.length (tcs l)) (hlen : l.length < 4611686018427387904) :
  Cl Tryz.prog 71 #[v1,v2] w (fun u w' => u = .bool true ∧ Ext w w') := by
 have hx := Ext.refl w
 refine Cl.enter Tryz.func71 rfl Tryz.ntmps71 rfl rfl (.sr (.as rfl rfl (.done (.seq (.sr (.mv rfl rfl (.tq (t_lenC hs0 Tryz.underlying49 rfl) rfl (.mv rfl rfl (.tq (t_lenC hz0 Tryz.underlying49 rfl) rfl ?_)))))))))
 first | refine .tq (t_neqT rfl rfl (by omega)) rfl ?_ | refine .tq (t_neqF rfl rfl (by omega)) rfl ?_ | refine .tq (t_neq rfl rfl) rfl ?_
 refine .done (.condF rfl (Wp.skip (.seq (.sr (.mv rfl rfl (.tq (t_lenC hs0 Tryz.underlying49 rfl) rfl (.mv rfl rfl (.done (Wp.block ?_)))))))))
 refine Wp.loop (ι := Nat) (fun k => [(0,v1),(1,v2),(12,.int .i64 l.length),(13,.int .i64 k)])
  (fun k w' => k ≤ l.length ∧ Ext w w') (fun k => l.length - k) 0 (by repeat (first | exact .nil | refine .cons rfl ?_)) ⟨Nat.zero_le _,hx⟩ ?_
 clear hx
 rintro k w3 ⟨hk,hx⟩
 by_cases hlt : k < l.length
 ·skip
  refine .sr ?_
  first | refine .tq (t_lssT rfl rfl (by omega)) rfl ?_ | refine .tq (t_lssF rfl rfl (by omega)) rfl ?_ | refine .tq (t_lss rfl rfl) rfl ?_
  refine .done (.seq (.condT rfl (Wp.skip (.seq (Wp.block (.sr (.mv rfl rfl (.as rfl rfl (.done ?_)))))))))
  refine Wp.seq (Wp.draw [0,1,2,3,4,5,6,7,8] [] mixed (by kernel_rfl) (by kernel_rfl) ?_)
  intro w1 hx1 _
  replace hx := hx.ext hx1
  refine .mv rfl rfl (.mv rfl rfl ?_)
  refine Rg.ix hs0 trivial rfl rfl Tryz.underlying49 ty55 (by omega) rfl ?_
  intro bt18 ot18 ht18
  replace ht18 := ht18.ext hx
  rw [Int.toNat_natCast,tcs_at l k hlt] at ht18
  refine .tq (t_loadA rfl ht18 ty55) rfl (.mv rfl rfl (.mv rfl rfl ?_))
  refine Rg.ix hz0 trivial rfl rfl Tryz.underlying49 ty55 (by omega) rfl ?_
  intro bt22 ot22 ht22
  replace ht22 := ht22.ext hx
  rw [Int.toNat_natCast,tcs_at l k hlt] at ht22
  refine .tq (t_loadA rfl ht22 ty55) rfl ?_
  refine .tq (t_neqAgg (b := true) (by kernel_rfl) (fun w => (eq39 _ _ _ _ w).trans (by simp)) rfl rfl) rfl ?_
  refine .done (.condF rfl (Wp.skip (Wp.region ?_)))
  first | refine .tq (t_addI rfl rfl (by omega)) rfl ?_ | refine .tq (t_add rfl rfl) rfl ?_
  refine .mv rfl rfl (.done ?_)
  exact ⟨k + 1,by repeat (first | exact .nil | refine .cons rfl ?_),⟨hlt,hx⟩,by omega⟩
 ·skip
  refine .sr ?_
  first | refine .tq (t_lssT rfl rfl (by omega)) rfl ?_ | refine .tq (t_lssF rfl rfl (by omega)) rfl ?_ | refine .tq (t_lss rfl rfl) rfl ?_
  refine .done (.seq (.condF rfl (Wp.exit (.sr (.as rfl rfl (.done (Wp.ret ?_)))))))
  exact ⟨[_],⟨rfl,trivial⟩,rfl,hx⟩
theorem clone_ok {w : World} {v : Value} {l : List (Int × ByteArray)} (hs : SlC w v 2 l.length (tcs l)) (hlen : l.length ≤ 10000) :
  Cl Tryz.prog 73 #[v] w (fun u w' => w'.ownsRow w.heap.size 55 2 u l.length (tcs l) ∧ Ext w w') := by
 obtain ⟨i,hi,hz,hsi,hby⟩ := inf55
 have hx := Ext.refl w
 obtain ⟨_,p,cap,rfl,hc1,hc2⟩ := id hs
 cases p with
 | none =>
  have h0 : cap = 0 := hc2.elim id fun ⟨b,o,h,_⟩ => by cases h
  have h1 : l = [] := List.length_eq_zero_iff.1 (by omega)
  subst h1
  refine Cl.enter Tryz.func73 rfl Tryz.ntmps73 rfl rfl (.sr (.as rfl rfl (.done (.seq (.sr (.mv rfl rfl (.tq (t_slNil Tryz.underlying49 rfl rfl) rfl (.done (.condT rfl (.sr (.as rfl rfl (.done ?_))))))))))))
  refine Wp.ret ?_
  exact ⟨[_],⟨rfl,trivial⟩,own_nil _ _ _ _,hx⟩
 | some ad =>
  refine Cl.enter Tryz.func73 rfl Tryz.ntmps73 rfl rfl (.sr (.as rfl rfl (.done (.seq (.sr (.mv rfl rfl (.tq (t_slNil Tryz.underlying49 rfl rfl) rfl (.done (.condF rfl (Wp.skip (.sr (Rg.wd trivial (w_buildSlice bs49_0 rfl) rfl ?_))))))))))))
  rintro _ wb ⟨bb,rfl,qb,hxb,hvb⟩
  replace hx := hx.ext hxb
  have hown : wb.ownsRow w.heap.size 55 2 (.slice (some ⟨bb,0,none⟩) 0 0) 0 [] := own_of_varS hvb (Nat.le_of_eq qb.symm) rfl (Nat.zero_le _)
  replace hs := hs.ext hxb
  refine .mv rfl rfl ?_
  refine Rg.wd trivial (w_appendC w.heap.size Tryz.underlying49 hi hz hsi hby rfl (by decide) rfl rfl hown hs (tcs_one _) (by unfold maxLen; omega) (by omega) hx.le) rfl ?_
  rintro v2 wc ⟨hown2,hgr,p2,l2,c2,rfl⟩
  replace hx := own_ext3 hx hown hgr
  rw [Nat.zero_add,List.nil_append] at hown2
  refine .as rfl rfl (.done (Wp.ret ?_))
  exact ⟨[_],⟨rfl,trivial⟩,hown2,hx⟩
theorem codeE_one {n a b : Nat} {t : ByteArray} (hs : n ≤ 2000) (h1 : a ≤ b) (h2 : b ≤ n) (h3 : n + t.size ≤ 2000 + (b - a)) : codeE n [⟨a,b,t⟩] = 0 := by
 unfold codeE
 rw [if_neg (by simp; omega),if_neg (fun h => h ⟨by show (-1 : Int) < a; omega,by show (a : Int) ≤ b; omega,by show (b : Int) ≤ n; omega,trivial⟩),if_neg]
 show ¬ (n : Int) + ((t.size : Int) - ((b : Int) - a) + 0) > 2000
 omega
theorem outE_one (s : ByteArray) (a b : Nat) (t : ByteArray) : outE s [⟨a,b,t⟩] = spl s a b t := by
 show (s.extract (0 : Int).toNat (a : Int).toNat ++ t ++ ByteArray.empty) ++ s.extract (b : Int).toNat s.size = _
 rw [ByteArray.append_empty]
 rfl
theorem cut_cut {N : ByteArray} {o n : Nat} (h : o + n ≤ N.size) : (N.extract o N.size).extract 0 n = N.extract o (o + n) := by
 apply by_list
 rw [list_front,list_tail,list_cut,Nat.add_sub_cancel_left]
theorem update_ok {w : World} {s t : ByteArray} {a b : Nat} {v1 : Value} (hA : Asc w) (hs : s.size ≤ 2000) (hab : a ≤ b) (hb : b ≤ s.size) (hn : (spl s a b t).size ≤ 2000) (hv : SlC w v1 2 (toks s).length (tcs (toks s))) :
  Cl Tryz.prog 36 #[.string s,v1,.agg #[.int .i64 a,.int .i64 b,.string t]] w (fun u w' => (∃ (v : Value) (c : Nat),u = .tuple #[v,.int .i64 c,.int .i64 0] ∧ SlC w' v 2 (toks (spl s a b t)).length (tcs (toks (spl s a b t))) ∧ c ≤ (toks s).length ∧ c ≤ (toks (spl s a b t)).length) ∧ Ext w w') := by
 obtain ⟨i,hi,hz,hsi,hby⟩ := inf55
 have hx := Ext.refl w
 have htl := toks_length s
 have hzz := spl_size (s := s) (t := t) hab hb
 have h0 : codeE s.size [⟨a,b,t⟩] = 0 := codeE_one hs hab hb (by omega)
 have eo := outE_one s a b t
 have hkeep : ∀ r,r ≤ (toks s).length → (r = 0 ∨ off s r < a) → toks (spl s a b t) = (toks s).take r ++ toks ((spl s a b t).extract (off s r) (spl s a b t).size) := fun r h1 h2 => front_keep hab hb h1 h2
 have hback : ∀ i,b ≤ off s i → toks ((spl s a b t).extract (off s i - b + (a + t.size)) (spl s a b t).size) = (toks s).drop i := fun i h => back_keep hab hb h
 have hnl := toks_length (spl s a b t)
 have htb : ∀ e ∈ ([⟨a,b,t⟩] : List TE),(e.s.size : Int) ≤ 140737488355328 := fun e he => by
  obtain rfl := List.mem_singleton.1 he
  simp only
  omega
 generalize hN : spl s a b t = N at *
 refine Cl.enter Tryz.func36 rfl Tryz.ntmps36 rfl rfl (.sr (Rg.wd trivial (w_boxed rfl rfl) rfl ?_))
 rintro _ w1 ⟨b5,rfl,qb5,hx1,hv5⟩
 replace hx := hx.ext hx1
 replace hv := hv.ext hx1
 have hc5 := hv5.cells
 refine .as rfl rfl (.as rfl rfl (.as rfl rfl (.done (.seq (.sr (.mv rfl rfl (.tq (t_len Tryz.underlying9 rfl) rfl ?_)))))))
 first | refine .tq (t_gtrT rfl rfl (by omega)) rfl ?_ | refine .tq (t_gtrF rfl rfl (by omega)) rfl ?_ | refine .tq (t_gtr rfl rfl) rfl ?_
 refine .done (.condF rfl (Wp.skip (.sr (.mv rfl rfl ?_))))
 refine .tq (t_loadA rfl (by assumption) (by exact ty41)) rfl ?_
 refine Rg.wd trivial (w_buildSlice (bs45_1 _ _ _) rfl) rfl ?_
 rintro _ wb ⟨bb,rfl,qb,hxb,hvb⟩
 replace hx := hx.ext hxb
 replace hv := hv.ext hxb
 replace hv5 := hv5.ext hxb
 replace hc5 := hc5.ext hxb
 have hsl : SlC wb (.slice (some ⟨bb,0,none⟩) 1 1) 3 ([⟨a,b,t⟩] : List TE).length (tes [⟨a,b,t⟩]) := slc_var hvb rfl
 refine Rg.wd trivial (w_call Tryz.call70 rfl (textApply_ok hsl (by simp) htb h0)) rfl ?_
 rintro _ w2 ⟨rfl,hx2⟩
 replace hx := hx.ext hx2
 replace hv := hv.ext hx2
 replace hv5 := hv5.ext hx2
 replace hc5 := hc5.ext hx2
 rw [eo]
 refine .mv rfl rfl (.tq (t_extract rfl rfl) rfl (.tq (t_extract rfl rfl) rfl (.as rfl rfl (.as rfl rfl (.done (.seq (.sr (.mv rfl rfl ?_))))))))
 first | refine .tq (t_neqT rfl rfl (by omega)) rfl ?_ | refine .tq (t_neqF rfl rfl (by omega)) rfl ?_ | refine .tq (t_neq rfl rfl) rfl ?_
 refine .done (.condF rfl (Wp.skip (.sr (.mv rfl rfl (Rg.wd trivial (w_call Tryz.call24 rfl (tokenize_ok hs (hA.ext hx))) rfl ?_)))))
 rintro _ w3 ⟨⟨vT,rfl,hT⟩,hx3⟩
 replace hx := hx.ext hx3
 replace hv := hv.ext hx3
 replace hv5 := hv5.ext hx3
 replace hc5 := hc5.ext hx3
 refine .mv rfl rfl (.tq (t_extract rfl rfl) rfl (.tq (t_extract rfl rfl) rfl (.as rfl rfl (.as rfl rfl (.done (.seq (Wp.block (.sr (.mv rfl rfl (.mv rfl rfl ?_))))))))))
 refine Rg.wd trivial (w_call Tryz.call71 rfl (equalS_ok hT hv (by omega))) rfl ?_
 rintro _ w4 ⟨rfl,hx4⟩
 replace hx := hx.ext hx4
 replace hv := hv.ext hx4
 replace hv5 := hv5.ext hx4
 replace hc5 := hc5.ext hx4
 replace hT := hT.ext hx4
 refine .tq (t_notB rfl) rfl (.as rfl rfl (.done (.condF rfl (.sr (.mv rfl rfl (.tq (t_len Tryz.underlying9 rfl) rfl ?_))))))
 first | refine .tq (t_gtrT rfl rfl (by omega)) rfl ?_ | refine .tq (t_gtrF rfl rfl (by omega)) rfl ?_ | refine .tq (t_gtr rfl rfl) rfl ?_
 refine .as rfl rfl (.done (.condF rfl (Wp.skip (.sr (.mv rfl rfl (Rg.wd trivial (w_call Tryz.call72 rfl (ends_ok hT hs)) rfl ?_))))))
 rintro vE w5 ⟨hE,hx5⟩
 replace hx := hx.ext hx5
 replace hv := hv.ext hx5
 replace hv5 := hv5.ext hx5
 replace hc5 := hc5.ext hx5
 replace hT := hT.ext hx5
 refine .as rfl rfl (.done (.sr (.as rfl rfl (.as rfl rfl (.done (.seq (Wp.block ?_)))))))
 refine Wp.loop (ι := Nat) (fun r => [(0,.string s),(5,.pointer (some ⟨b5,0,none⟩)),(9,.string N),(11,vT),(13,vE),(14,.int .i64 r),(15,.int .i64 (off s r))])
  (fun r w' => r ≤ (toks s).length ∧ (r = 0 ∨ off s r < a) ∧ SlC w' vT 2 (toks s).length (tcs (toks s)) ∧ SlC w' vE 1 (toks s).length ((endsZ s (toks s).length).map (.int .i64)) ∧ Cells w' b5 0 [.int .i64 a,.int .i64 b,.string t] ∧ Ext w w')
  (fun r => (toks s).length - r) 0 (by repeat (first | exact .nil | refine .cons rfl ?_)) ⟨Nat.zero_le _,.inl rfl,hT,hE,hc5,hx⟩ ?_
 clear hx hT hE hc5 hv5 hv
 rintro r w3 ⟨hr,hra,hT,hE,hc5,hx⟩
 have hol := off_le s r
 by_cases hgo : r < (toks s).length ∧ off s (r + 1) < a
 ·obtain ⟨hlt,hoa⟩ := hgo
  refine .seq ?_
  refine Wp.seq (Wp.draw [0,1,2,3,4,5,6,7,8,9,10,11,12] [] mixed (by kernel_rfl) (by kernel_rfl) ?_)
  intro w6 hx6 _
  replace hx := hx.ext hx6
  replace hT := hT.ext hx6
  replace hE := hE.ext hx6
  replace hc5 := hc5.ext hx6
  refine .mv rfl rfl (.mv rfl rfl (.tq (t_lenC hT Tryz.underlying49 rfl) rfl ?_))
  first | refine .tq (t_lssT rfl rfl (by omega)) rfl ?_ | refine .tq (t_lssF rfl rfl (by omega)) rfl ?_ | refine .tq (t_lss rfl rfl) rfl ?_
  refine .mv rfl rfl ?_
  first | refine .gd (t_move rfl) rfl ?_ | refine Rg.sk (.inl ⟨_,_,rfl,rfl,rfl⟩) rfl ?_ | refine Rg.sk (.inr ⟨_,rfl,rfl⟩) rfl ?_
  first | refine .gd (t_move rfl) rfl ?_ | refine Rg.sk (.inl ⟨_,_,rfl,rfl,rfl⟩) rfl ?_ | refine Rg.sk (.inr ⟨_,rfl,rfl⟩) rfl ?_
  refine Rg.ix hE ⟨_,rfl,rfl⟩ rfl rfl Tryz.underlying51 ty3 (by omega) rfl ?_
  intro bt57 ot57 ht57
  rw [Int.toNat_natCast,ints_at (by rw [endsZ_length]; exact hlt),endsZ_at hlt] at ht57
  first | refine .gd (t_load ty3 rfl (by first | assumption | (apply Cells.get (i := 0); (case h => assumption); rfl))) rfl ?_ | refine Rg.sk (.inl ⟨_,_,rfl,rfl,rfl⟩) rfl ?_ | refine Rg.sk (.inr ⟨_,rfl,rfl⟩) rfl ?_
  first | refine .gd (t_fieldAddr fa41_0 rfl) rfl ?_ | refine Rg.sk (.inl ⟨_,_,rfl,rfl,rfl⟩) rfl ?_ | refine Rg.sk (.inr ⟨_,rfl,rfl⟩) rfl ?_
  first | refine .gd (t_load ty3 rfl (by apply Cells.get (i := 0); (case h => assumption); rfl)) rfl ?_ | refine Rg.sk (.inl ⟨_,_,rfl,rfl,rfl⟩) rfl ?_ | refine Rg.sk (.inr ⟨_,rfl,rfl⟩) rfl ?_
  first | refine .gd (t_lssT rfl rfl (by omega)) rfl ?_ | refine .gd (t_lssF rfl rfl (by omega)) rfl ?_ | refine .gd (t_lss rfl rfl) rfl ?_ | refine Rg.sk (.inl ⟨_,_,rfl,rfl,rfl⟩) rfl ?_ | refine Rg.sk (.inr ⟨_,rfl,rfl⟩) rfl ?_
  first | refine .tq (t_pickT rfl rfl) rfl ?_ | refine .tq (t_pickF rfl rfl) rfl ?_
  refine .done (.condT rfl (Wp.skip (Wp.block (.sr (.mv rfl rfl (.mv rfl rfl ?_))))))
  refine Rg.ix hE trivial rfl rfl Tryz.underlying51 ty3 (by omega) rfl ?_
  intro bt65 ot65 ht65
  rw [Int.toNat_natCast,ints_at (by rw [endsZ_length]; exact hlt),endsZ_at hlt] at ht65
  refine .tq (t_load ty3 rfl (by first | assumption | (apply Cells.get (i := 0); (case h => assumption); rfl))) rfl ?_
  refine .as rfl rfl (.done (Wp.region (.mv rfl rfl ?_)))
  first | refine .tq (t_addI rfl rfl (by omega)) rfl ?_ | refine .tq (t_add rfl rfl) rfl ?_
  refine .as rfl rfl (.done ?_)
  exact ⟨r + 1,by repeat (first | exact .nil | refine .cons rfl ?_),⟨hlt,.inr hoa,hT,hE,hc5,hx⟩,by omega⟩
 ·by_cases hlt : r < (toks s).length
  ·skip
   have hoa : a ≤ off s (r + 1) := Nat.le_of_not_lt fun h => hgo ⟨hlt,h⟩
   refine .seq ?_
   refine Wp.seq (Wp.draw [0,1,2,3,4,5,6,7,8,9,10,11,12] [] mixed (by kernel_rfl) (by kernel_rfl) ?_)
   intro w6 hx6 _
   replace hx := hx.ext hx6
   replace hT := hT.ext hx6
   replace hE := hE.ext hx6
   replace hc5 := hc5.ext hx6
   refine .mv rfl rfl (.mv rfl rfl (.tq (t_lenC hT Tryz.underlying49 rfl) rfl ?_))
   first | refine .tq (t_lssT rfl rfl (by omega)) rfl ?_ | refine .tq (t_lssF rfl rfl (by omega)) rfl ?_ | refine .tq (t_lss rfl rfl) rfl ?_
   refine .mv rfl rfl ?_
   first | refine .gd (t_move rfl) rfl ?_ | refine Rg.sk (.inl ⟨_,_,rfl,rfl,rfl⟩) rfl ?_ | refine Rg.sk (.inr ⟨_,rfl,rfl⟩) rfl ?_
   first | refine .gd (t_move rfl) rfl ?_ | refine Rg.sk (.inl ⟨_,_,rfl,rfl,rfl⟩) rfl ?_ | refine Rg.sk (.inr ⟨_,rfl,rfl⟩) rfl ?_
   refine Rg.ix hE ⟨_,rfl,rfl⟩ rfl rfl Tryz.underlying51 ty3 (by omega) rfl ?_
   intro bt57 ot57 ht57
   rw [Int.toNat_natCast,ints_at (by rw [endsZ_length]; exact hlt),endsZ_at hlt] at ht57
   first | refine .gd (t_load ty3 rfl (by first | assumption | (apply Cells.get (i := 0); (case h => assumption); rfl))) rfl ?_ | refine Rg.sk (.inl ⟨_,_,rfl,rfl,rfl⟩) rfl ?_ | refine Rg.sk (.inr ⟨_,rfl,rfl⟩) rfl ?_
   first | refine .gd (t_fieldAddr fa41_0 rfl) rfl ?_ | refine Rg.sk (.inl ⟨_,_,rfl,rfl,rfl⟩) rfl ?_ | refine Rg.sk (.inr ⟨_,rfl,rfl⟩) rfl ?_
   first | refine .gd (t_load ty3 rfl (by apply Cells.get (i := 0); (case h => assumption); rfl)) rfl ?_ | refine Rg.sk (.inl ⟨_,_,rfl,rfl,rfl⟩) rfl ?_ | refine Rg.sk (.inr ⟨_,rfl,rfl⟩) rfl ?_
   first | refine .gd (t_lssT rfl rfl (by omega)) rfl ?_ | refine .gd (t_lssF rfl rfl (by omega)) rfl ?_ | refine .gd (t_lss rfl rfl) rfl ?_ | refine Rg.sk (.inl ⟨_,_,rfl,rfl,rfl⟩) rfl ?_ | refine Rg.sk (.inr ⟨_,rfl,rfl⟩) rfl ?_
   first | refine .tq (t_pickT rfl rfl) rfl ?_ | refine .tq (t_pickF rfl rfl) rfl ?_
   refine .done (.condF rfl (Wp.exit (.sr (.mv rfl rfl (.mv rfl rfl ?_)))))
   refine Rg.sl hT trivial rfl Tryz.underlying49 ty55 rfl rfl (by omega) rfl ?_
   intro vt71 ht71
   simp only [Int.toNat_natCast,show (0 : Int).toNat = 0 from rfl,Nat.zero_mul,List.drop_zero,Nat.sub_zero] at ht71
   have et : (tcs (toks s)).take (r * 2) = tcs ((toks s).take r) := by
    have h1 := tcs_append ((toks s).take r) ((toks s).drop r)
    rw [List.take_append_drop] at h1
    rw [h1,List.take_left' (by rw [tcs_length,List.length_take_of_le hr])]
   rw [et] at ht71
   have hlr : ((toks s).take r).length = r := List.length_take_of_le hr
   obtain ⟨l0,hl0⟩ : ∃ l0,(toks s).take r = l0 := ⟨_,rfl⟩
   rw [hl0] at ht71 hlr
   rw [← hlr] at ht71
   subst hl0
   refine Rg.wd trivial (w_call Tryz.call73 rfl (clone_ok ht71 (by omega))) rfl ?_
   rintro v6 w7 ⟨hown,hx7⟩
   have hx0 := hx
   have hy := hx7
   have hT0 := hT
   have hE0 := hE
   have hc50 := hc5
   have hf := hkeep r hr hra
   have hor : off s r ≤ N.size := hra.elim (fun h => by rw [h,off_zero]; exact Nat.zero_le _) (fun h => by omega)
   clear hT hE hc5 hx
   refine .as rfl rfl (.done (.sr (.mv rfl rfl (.tq (t_len Tryz.underlying9 rfl) rfl (.mv rfl rfl (.tq (t_len Tryz.underlying9 rfl) rfl ?_))))))
   first | refine .tq (t_subI rfl rfl (by omega)) rfl ?_ | refine .tq (t_sub rfl rfl) rfl ?_
   refine .as rfl rfl (.done (.seq (Wp.block ?_)))
   refine Wp.loop (ι := List (Int × ByteArray) × Nat × Value) (fun j => [(0,.string s),(5,.pointer (some ⟨b5,0,none⟩)),(9,.string N),(11,vT),(13,vE),(14,.int .i64 r),(15,.int .i64 j.2.1),(16,j.2.2),(17,.int .i64 ((N.size : Int) - s.size))])
    (fun j w' => j.1 ++ toks (N.extract j.2.1 N.size) = toks N ∧ j.2.1 ≤ N.size ∧ r ≤ j.1.length ∧ w'.ownsRow w6.heap.size 55 2 j.2.2 j.1.length (tcs j.1) ∧ Ext w6 w')
    (fun j => N.size - j.2.1) ((toks s).take r,off s r,v6) (by repeat (first | exact .nil | refine .cons rfl ?_)) ⟨hf.symm,hor,Nat.le_of_eq hlr.symm,hown,hy⟩ ?_
   clear hy hown
   rintro ⟨l,o,v⟩ w8 ⟨he,ho,hrl,hown,hy⟩
   simp only at he ho hrl hown ⊢
   have hll : l.length + (toks (N.extract o N.size)).length = (toks N).length := by rw [← he,List.length_append]
   have hx := hx0.ext hy
   by_cases hlo : o < N.size
   ·have hc5 := hc50.ext hy
    have hE := hE0.ext hy
    refine .seq (.sr (.mv rfl rfl (.mv rfl rfl (.tq (t_len Tryz.underlying9 rfl) rfl ?_))))
    first | refine .tq (t_lssT rfl rfl (by omega)) rfl ?_ | refine .tq (t_lssF rfl rfl (by omega)) rfl ?_ | refine .tq (t_lss rfl rfl) rfl ?_
    refine .done (.condT rfl (Wp.skip (Wp.block (.seq (.sr (.mv rfl rfl (.mv rfl rfl (.mv rfl rfl ?_))))))))
    first | refine .tq (t_subI rfl rfl (by omega)) rfl ?_ | refine .tq (t_sub rfl rfl) rfl ?_
    refine Rg.wd trivial (w_call Tryz.call74 rfl (resume_ok hE hs)) rfl ?_
    rintro _ w8 ⟨⟨j,rfl,hj⟩,hx8⟩
    replace hown := own_ext hown hx8
    replace hx := hx.ext hx8
    replace hy := hy.ext hx8
    replace hc5 := hc5.ext hx8
    refine .as rfl rfl (.done ?_)
    by_cases hq : (b : Int) ≤ (o : Int) - ((N.size : Int) - s.size) ∧ 0 ≤ j
    ·obtain ⟨i',rfl,hi1,hi2⟩ : ∃ i' : Nat,j = i' ∧ i' ≤ (toks s).length ∧ (off s i' : Int) = (o : Int) - ((N.size : Int) - s.size) := hj.resolve_left (by omega)
     have hri : r ≤ i' := off_lt hr hi1 (hra.elim (fun h => by rw [h,off_zero]; exact Nat.zero_le _) (fun h => by omega))
     have hbk := hback i' (by omega)
     rw [show off s i' - b + (a + t.size) = o from by omega] at hbk
     rw [hbk] at he hll
     refine .sr (.mv rfl rfl (.mv rfl rfl ?_))
     first | refine .tq (t_subI rfl rfl (by omega)) rfl ?_ | refine .tq (t_sub rfl rfl) rfl ?_
     refine .tq (t_fieldAddr fa41_1 rfl) rfl ?_
     refine .tq (t_load ty3 rfl (by apply Cells.get (i := 1); (case h => assumption); rfl)) rfl ?_
     first | refine .tq (t_geqT rfl rfl (by omega)) rfl ?_ | refine .tq (t_geqF rfl rfl (by omega)) rfl ?_ | refine .tq (t_geq rfl rfl) rfl ?_
     refine .mv rfl rfl ?_
     first | refine .gd (t_move rfl) rfl ?_ | refine Rg.sk (.inl ⟨_,_,rfl,rfl,rfl⟩) rfl ?_ | refine Rg.sk (.inr ⟨_,rfl,rfl⟩) rfl ?_
     first | refine .gd (t_geqT rfl rfl (by omega)) rfl ?_ | refine .gd (t_geqF rfl rfl (by omega)) rfl ?_ | refine .gd (t_geq rfl rfl) rfl ?_ | refine Rg.sk (.inl ⟨_,_,rfl,rfl,rfl⟩) rfl ?_ | refine Rg.sk (.inr ⟨_,rfl,rfl⟩) rfl ?_
     first | refine .tq (t_pickT rfl rfl) rfl ?_ | refine .tq (t_pickF rfl rfl) rfl ?_
     refine .done (.condT rfl (.sr (.mv rfl rfl (.mv rfl rfl (.mv rfl rfl ?_)))))
     refine Rg.sl hT0 trivial rfl Tryz.underlying49 ty55 rfl rfl (by omega) rfl ?_
     intro vt100 ht1000
     simp only [Int.toNat_natCast] at ht1000
     rw [List.take_of_length_le (by rw [List.length_drop,tcs_length,← Nat.sub_mul]; exact Nat.le_refl _),tcs_drop,show (toks s).length - i' = ((toks s).drop i').length from by rw [List.length_drop]] at ht1000
     refine Rg.wd trivial (w_appendC _ Tryz.underlying49 hi hz hsi hby rfl (by decide) rfl rfl hown (ht1000.ext hy) (tcs_one _) (by unfold maxLen; omega) (by omega) hy.le) rfl ?_
     rintro v9 wc ⟨hown2,hgr,p2,l2,c2,rfl⟩
     replace hy := own_ext3 hy hown hgr
     replace hx := hx0.ext hy
     rw [← tcs_append,← List.length_append,he] at hown2
     rw [List.length_drop] at hll
     refine .mv rfl rfl (.mv rfl rfl (.tq (t_lenC hT0 Tryz.underlying49 rfl) rfl ?_))
     first | refine .tq (t_addI rfl rfl (by omega)) rfl ?_ | refine .tq (t_add rfl rfl) rfl ?_
     refine .mv rfl rfl ?_
     first | refine .tq (t_subI rfl rfl (by omega)) rfl ?_ | refine .tq (t_sub rfl rfl) rfl ?_
     refine .as rfl rfl (.as rfl rfl (.as rfl rfl (.done (Wp.ret ?_))))
     refine ⟨[_,_,_],⟨rfl,rfl,rfl,trivial⟩,⟨_,r + (toks s).length - i',by rw [show ((r + (toks s).length - i' : Nat) : Int) = (r : Int) + ((toks s).length : Nat) - (i' : Nat) from by omega]; rfl,own_slice hown2,by omega,by omega⟩,hx⟩
    ·have hpos : 0 < (N.extract o N.size).size := by rw [size_tail]; omega
     have hin := tok_in hpos
     have htn := size_tail N o
     have htc := toks_cons hpos
     obtain ⟨n,hnn⟩ : ∃ n,(tok (N.extract o N.size)).1 = n := ⟨_,rfl⟩
     obtain ⟨kd,hkd⟩ : ∃ k,(tok (N.extract o N.size)).2 = k := ⟨_,rfl⟩
     rw [hnn] at hin htc
     rw [hkd,cut_cut (by omega),tail_tail ho] at htc
     rw [htc] at he hll
     rw [List.length_cons] at hll
     by_cases hqb : (b : Int) ≤ (o : Int) - ((N.size : Int) - s.size)
     ·skip
      refine .sr (.mv rfl rfl (.mv rfl rfl ?_))
      first | refine .tq (t_subI rfl rfl (by omega)) rfl ?_ | refine .tq (t_sub rfl rfl) rfl ?_
      refine .tq (t_fieldAddr fa41_1 rfl) rfl ?_
      refine .tq (t_load ty3 rfl (by apply Cells.get (i := 1); (case h => assumption); rfl)) rfl ?_
      first | refine .tq (t_geqT rfl rfl (by omega)) rfl ?_ | refine .tq (t_geqF rfl rfl (by omega)) rfl ?_ | refine .tq (t_geq rfl rfl) rfl ?_
      refine .mv rfl rfl ?_
      first | refine .gd (t_move rfl) rfl ?_ | refine Rg.sk (.inl ⟨_,_,rfl,rfl,rfl⟩) rfl ?_ | refine Rg.sk (.inr ⟨_,rfl,rfl⟩) rfl ?_
      first | refine .gd (t_geqT rfl rfl (by omega)) rfl ?_ | refine .gd (t_geqF rfl rfl (by omega)) rfl ?_ | refine .gd (t_geq rfl rfl) rfl ?_ | refine Rg.sk (.inl ⟨_,_,rfl,rfl,rfl⟩) rfl ?_ | refine Rg.sk (.inr ⟨_,rfl,rfl⟩) rfl ?_
      first | refine .tq (t_pickT rfl rfl) rfl ?_ | refine .tq (t_pickF rfl rfl) rfl ?_
      refine .done (.condF rfl (Wp.skip (.sr (.mv rfl rfl (.mv rfl rfl ?_)))))
      refine .tq (t_sliceS Tryz.underlying9 rfl rfl rfl (by omega)) rfl ?_
      refine Rg.wd trivial (w_call Tryz.call46 rfl (first_ok (by omega) hpos (hA.ext hx))) rfl ?_
      rintro _ w9 ⟨rfl,hx9⟩
      replace hown := own_ext hown hx9
      rw [hnn,hkd]
      replace hx := hx.ext hx9
      replace hy := hy.ext hx9
      refine .mv rfl rfl (.tq (t_extract rfl rfl) rfl (.tq (t_extract rfl rfl) rfl (.as rfl rfl (.as rfl rfl (.done (.sr (.mv rfl rfl (.mv rfl rfl (.mv rfl rfl (.mv rfl rfl (.mv rfl rfl (.mv rfl rfl ?_))))))))))))
      first | refine .tq (t_addI rfl rfl (by omega)) rfl ?_ | refine .tq (t_add rfl rfl) rfl ?_
      refine .tq (t_sliceS Tryz.underlying9 rfl rfl rfl (by omega)) rfl ?_
      rw [show ((o : Int) + (n : Nat)).toNat = o + n from by omega]
      refine .tq (t_build (bd55_0_1 _ _) rfl) rfl (Rg.wd trivial (w_buildSlice (bs49_1 _ _) rfl) rfl ?_)
      rintro _ wb ⟨bb,rfl,qb,hxb,hvb⟩
      replace hx := hx.ext hxb
      replace hy := hy.ext hxb
      replace hown := own_ext hown hxb
      refine Rg.wd trivial (w_append _ Tryz.underlying49 hi hz hsi hby rfl (by decide) rfl rfl hown rfl (fun j u hu => by rw [addr_add]; exact hvb.cells j u hu) (by simp [Value.oneCell']) (by unfold maxLen; omega) (by omega) hy.le) rfl ?_
      rintro v9 wc ⟨hown2,hgr,p2,l2,c2,rfl⟩
      replace hy := own_ext3 hy hown hgr
      refine .as rfl rfl (.done (Wp.region (.mv rfl rfl (.mv rfl rfl ?_))))
      first | refine .tq (t_addI rfl rfl (by omega)) rfl ?_ | refine .tq (t_add rfl rfl) rfl ?_
      refine .as rfl rfl (.done ?_)
      refine ⟨(l ++ [(kd,N.extract o (o + n))],o + n,.slice p2 l2 c2),by repeat (first | exact .nil | refine .cons rfl ?_),⟨?_,by simp only; omega,?_,?_,hy⟩,by simp only; omega⟩
      ·rw [← he,List.append_assoc]; rfl
      ·rw [List.length_append]; omega
      ·rw [tcs_append,List.length_append]
       exact hown2
     ·skip
      refine .sr (.mv rfl rfl (.mv rfl rfl ?_))
      first | refine .tq (t_subI rfl rfl (by omega)) rfl ?_ | refine .tq (t_sub rfl rfl) rfl ?_
      refine .tq (t_fieldAddr fa41_1 rfl) rfl ?_
      refine .tq (t_load ty3 rfl (by apply Cells.get (i := 1); (case h => assumption); rfl)) rfl ?_
      first | refine .tq (t_geqT rfl rfl (by omega)) rfl ?_ | refine .tq (t_geqF rfl rfl (by omega)) rfl ?_ | refine .tq (t_geq rfl rfl) rfl ?_
      refine .mv rfl rfl ?_
      first | refine .gd (t_move rfl) rfl ?_ | refine Rg.sk (.inl ⟨_,_,rfl,rfl,rfl⟩) rfl ?_ | refine Rg.sk (.inr ⟨_,rfl,rfl⟩) rfl ?_
      first | refine .gd (t_geqT rfl rfl (by omega)) rfl ?_ | refine .gd (t_geqF rfl rfl (by omega)) rfl ?_ | refine .gd (t_geq rfl rfl) rfl ?_ | refine Rg.sk (.inl ⟨_,_,rfl,rfl,rfl⟩) rfl ?_ | refine Rg.sk (.inr ⟨_,rfl,rfl⟩) rfl ?_
      first | refine .tq (t_pickT rfl rfl) rfl ?_ | refine .tq (t_pickF rfl rfl) rfl ?_
      refine .done (.condF rfl (Wp.skip (.sr (.mv rfl rfl (.mv rfl rfl ?_)))))
      refine .tq (t_sliceS Tryz.underlying9 rfl rfl rfl (by omega)) rfl ?_
      refine Rg.wd trivial (w_call Tryz.call46 rfl (first_ok (by omega) hpos (hA.ext hx))) rfl ?_
      rintro _ w9 ⟨rfl,hx9⟩
      replace hown := own_ext hown hx9
      rw [hnn,hkd]
      replace hx := hx.ext hx9
      replace hy := hy.ext hx9
      refine .mv rfl rfl (.tq (t_extract rfl rfl) rfl (.tq (t_extract rfl rfl) rfl (.as rfl rfl (.as rfl rfl (.done (.sr (.mv rfl rfl (.mv rfl rfl (.mv rfl rfl (.mv rfl rfl (.mv rfl rfl (.mv rfl rfl ?_))))))))))))
      first | refine .tq (t_addI rfl rfl (by omega)) rfl ?_ | refine .tq (t_add rfl rfl) rfl ?_
      refine .tq (t_sliceS Tryz.underlying9 rfl rfl rfl (by omega)) rfl ?_
      rw [show ((o : Int) + (n : Nat)).toNat = o + n from by omega]
      refine .tq (t_build (bd55_0_1 _ _) rfl) rfl (Rg.wd trivial (w_buildSlice (bs49_1 _ _) rfl) rfl ?_)
      rintro _ wb ⟨bb,rfl,qb,hxb,hvb⟩
      replace hx := hx.ext hxb
      replace hy := hy.ext hxb
      replace hown := own_ext hown hxb
      refine Rg.wd trivial (w_append _ Tryz.underlying49 hi hz hsi hby rfl (by decide) rfl rfl hown rfl (fun j u hu => by rw [addr_add]; exact hvb.cells j u hu) (by simp [Value.oneCell']) (by unfold maxLen; omega) (by omega) hy.le) rfl ?_
      rintro v9 wc ⟨hown2,hgr,p2,l2,c2,rfl⟩
      replace hy := own_ext3 hy hown hgr
      refine .as rfl rfl (.done (Wp.region (.mv rfl rfl (.mv rfl rfl ?_))))
      first | refine .tq (t_addI rfl rfl (by omega)) rfl ?_ | refine .tq (t_add rfl rfl) rfl ?_
      refine .as rfl rfl (.done ?_)
      refine ⟨(l ++ [(kd,N.extract o (o + n))],o + n,.slice p2 l2 c2),by repeat (first | exact .nil | refine .cons rfl ?_),⟨?_,by simp only; omega,?_,?_,hy⟩,by simp only; omega⟩
      ·rw [← he,List.append_assoc]; rfl
      ·rw [List.length_append]; omega
      ·rw [tcs_append,List.length_append]
       exact hown2
   ·have e0 : toks (N.extract o N.size) = [] := toks_nil (by rw [size_tail]; omega)
    rw [e0,List.append_nil] at he
    rw [e0] at hll
    rw [he] at hown
    refine .seq (.sr (.mv rfl rfl (.mv rfl rfl (.tq (t_len Tryz.underlying9 rfl) rfl ?_))))
    first | refine .tq (t_lssT rfl rfl (by omega)) rfl ?_ | refine .tq (t_lssF rfl rfl (by omega)) rfl ?_ | refine .tq (t_lss rfl rfl) rfl ?_
    refine .done (.condF rfl (Wp.exit (.sr (.mv rfl rfl (.mv rfl rfl (.as rfl rfl (.as rfl rfl (.as rfl rfl (.done (Wp.ret ?_))))))))))
    exact ⟨[_,_,_],⟨rfl,rfl,rfl,trivial⟩,⟨_,r,rfl,own_slice hown,hr,by rw [← he]; exact hrl⟩,hx⟩
  ·skip
   refine .seq ?_
   refine Wp.seq (Wp.draw [0,1,2,3,4,5,6,7,8,9,10,11,12] [] mixed (by kernel_rfl) (by kernel_rfl) ?_)
   intro w6 hx6 _
   replace hx := hx.ext hx6
   replace hT := hT.ext hx6
   replace hE := hE.ext hx6
   replace hc5 := hc5.ext hx6
   refine .mv rfl rfl (.mv rfl rfl (.tq (t_lenC hT Tryz.underlying49 rfl) rfl ?_))
   first | refine .tq (t_lssT rfl rfl (by omega)) rfl ?_ | refine .tq (t_lssF rfl rfl (by omega)) rfl ?_ | refine .tq (t_lss rfl rfl) rfl ?_
   refine .mv rfl rfl ?_
   first | refine .gd (t_move rfl) rfl ?_ | refine Rg.sk (.inl ⟨_,_,rfl,rfl,rfl⟩) rfl ?_ | refine Rg.sk (.inr ⟨_,rfl,rfl⟩) rfl ?_
   first | refine .gd (t_move rfl) rfl ?_ | refine Rg.sk (.inl ⟨_,_,rfl,rfl,rfl⟩) rfl ?_ | refine Rg.sk (.inr ⟨_,rfl,rfl⟩) rfl ?_
   first | refine Rg.sk (.inl ⟨_,_,rfl,rfl,rfl⟩) rfl ?_ | refine Rg.sk (.inr ⟨_,rfl,rfl⟩) rfl ?_
   first | refine .gd (t_load ty3 rfl (by first | assumption | (apply Cells.get (i := 0); (case h => assumption); rfl))) rfl ?_ | refine Rg.sk (.inl ⟨_,_,rfl,rfl,rfl⟩) rfl ?_ | refine Rg.sk (.inr ⟨_,rfl,rfl⟩) rfl ?_
   first | refine .gd (t_fieldAddr fa41_0 rfl) rfl ?_ | refine Rg.sk (.inl ⟨_,_,rfl,rfl,rfl⟩) rfl ?_ | refine Rg.sk (.inr ⟨_,rfl,rfl⟩) rfl ?_
   first | refine .gd (t_load ty3 rfl (by apply Cells.get (i := 0); (case h => assumption); rfl)) rfl ?_ | refine Rg.sk (.inl ⟨_,_,rfl,rfl,rfl⟩) rfl ?_ | refine Rg.sk (.inr ⟨_,rfl,rfl⟩) rfl ?_
   first | refine .gd (t_lssT rfl rfl (by omega)) rfl ?_ | refine .gd (t_lssF rfl rfl (by omega)) rfl ?_ | refine .gd (t_lss rfl rfl) rfl ?_ | refine Rg.sk (.inl ⟨_,_,rfl,rfl,rfl⟩) rfl ?_ | refine Rg.sk (.inr ⟨_,rfl,rfl⟩) rfl ?_
   first | refine .tq (t_pickT rfl rfl) rfl ?_ | refine .tq (t_pickF rfl rfl) rfl ?_
   refine .done (.condF rfl (Wp.exit (.sr (.mv rfl rfl (.mv rfl rfl ?_)))))
   refine Rg.sl hT trivial rfl Tryz.underlying49 ty55 rfl rfl (by omega) rfl ?_
   intro vt71 ht71
   simp only [Int.toNat_natCast,show (0 : Int).toNat = 0 from rfl,Nat.zero_mul,List.drop_zero,Nat.sub_zero] at ht71
   have et : (tcs (toks s)).take (r * 2) = tcs ((toks s).take r) := by
    have h1 := tcs_append ((toks s).take r) ((toks s).drop r)
    rw [List.take_append_drop] at h1
    rw [h1,List.take_left' (by rw [tcs_length,List.length_take_of_le hr])]
   rw [et] at ht71
   have hlr : ((toks s).take r).length = r := List.length_take_of_le hr
   obtain ⟨l0,hl0⟩ : ∃ l0,(toks s).take r = l0 := ⟨_,rfl⟩
   rw [hl0] at ht71 hlr
   rw [← hlr] at ht71
   subst hl0
   refine Rg.wd trivial (w_call Tryz.call73 rfl (clone_ok ht71 (by omega))) rfl ?_
   rintro v6 w7 ⟨hown,hx7⟩
   have hx0 := hx
   have hy := hx7
   have hT0 := hT
   have hE0 := hE
   have hc50 := hc5
   have hf := hkeep r hr hra
   have hor : off s r ≤ N.size := hra.elim (fun h => by rw [h,off_zero]; exact Nat.zero_le _) (fun h => by omega)
   clear hT hE hc5 hx
   refine .as rfl rfl (.done (.sr (.mv rfl rfl (.tq (t_len Tryz.underlying9 rfl) rfl (.mv rfl rfl (.tq (t_len Tryz.underlying9 rfl) rfl ?_))))))
   first | refine .tq (t_subI rfl rfl (by omega)) rfl ?_ | refine .tq (t_sub rfl rfl) rfl ?_
   refine .as rfl rfl (.done (.seq (Wp.block ?_)))
   refine Wp.loop (ι := List (Int × ByteArray) × Nat × Value) (fun j => [(0,.string s),(5,.pointer (some ⟨b5,0,none⟩)),(9,.string N),(11,vT),(13,vE),(14,.int .i64 r),(15,.int .i64 j.2.1),(16,j.2.2),(17,.int .i64 ((N.size : Int) - s.size))])
    (fun j w' => j.1 ++ toks (N.extract j.2.1 N.size) = toks N ∧ j.2.1 ≤ N.size ∧ r ≤ j.1.length ∧ w'.ownsRow w6.heap.size 55 2 j.2.2 j.1.length (tcs j.1) ∧ Ext w6 w')
    (fun j => N.size - j.2.1) ((toks s).take r,off s r,v6) (by repeat (first | exact .nil | refine .cons rfl ?_)) ⟨hf.symm,hor,Nat.le_of_eq hlr.symm,hown,hy⟩ ?_
   clear hy hown
   rintro ⟨l,o,v⟩ w8 ⟨he,ho,hrl,hown,hy⟩
   simp only at he ho hrl hown ⊢
   have hll : l.length + (toks (N.extract o N.size)).length = (toks N).length := by rw [← he,List.length_append]
   have hx := hx0.ext hy
   by_cases hlo : o < N.size
   ·have hc5 := hc50.ext hy
    have hE := hE0.ext hy
    refine .seq (.sr (.mv rfl rfl (.mv rfl rfl (.tq (t_len Tryz.underlying9 rfl) rfl ?_))))
    first | refine .tq (t_lssT rfl rfl (by omega)) rfl ?_ | refine .tq (t_lssF rfl rfl (by omega)) rfl ?_ | refine .tq (t_lss rfl rfl) rfl ?_
    refine .done (.condT rfl (Wp.skip (Wp.block (.seq (.sr (.mv rfl rfl (.mv rfl rfl (.mv rfl rfl ?_))))))))
    first | refine .tq (t_subI rfl rfl (by omega)) rfl ?_ | refine .tq (t_sub rfl rfl) rfl ?_
    refine Rg.wd trivial (w_call Tryz.call74 rfl (resume_ok hE hs)) rfl ?_
    rintro _ w8 ⟨⟨j,rfl,hj⟩,hx8⟩
    replace hown := own_ext hown hx8
    replace hx := hx.ext hx8
    replace hy := hy.ext hx8
    replace hc5 := hc5.ext hx8
    refine .as rfl rfl (.done ?_)
    by_cases hq : (b : Int) ≤ (o : Int) - ((N.size : Int) - s.size) ∧ 0 ≤ j
    ·obtain ⟨i',rfl,hi1,hi2⟩ : ∃ i' : Nat,j = i' ∧ i' ≤ (toks s).length ∧ (off s i' : Int) = (o : Int) - ((N.size : Int) - s.size) := hj.resolve_left (by omega)
     have hri : r ≤ i' := off_lt hr hi1 (hra.elim (fun h => by rw [h,off_zero]; exact Nat.zero_le _) (fun h => by omega))
     have hbk := hback i' (by omega)
     rw [show off s i' - b + (a + t.size) = o from by omega] at hbk
     rw [hbk] at he hll
     refine .sr (.mv rfl rfl (.mv rfl rfl ?_))
     first | refine .tq (t_subI rfl rfl (by omega)) rfl ?_ | refine .tq (t_sub rfl rfl) rfl ?_
     refine .tq (t_fieldAddr fa41_1 rfl) rfl ?_
     refine .tq (t_load ty3 rfl (by apply Cells.get (i := 1); (case h => assumption); rfl)) rfl ?_
     first | refine .tq (t_geqT rfl rfl (by omega)) rfl ?_ | refine .tq (t_geqF rfl rfl (by omega)) rfl ?_ | refine .tq (t_geq rfl rfl) rfl ?_
     refine .mv rfl rfl ?_
     first | refine .gd (t_move rfl) rfl ?_ | refine Rg.sk (.inl ⟨_,_,rfl,rfl,rfl⟩) rfl ?_ | refine Rg.sk (.inr ⟨_,rfl,rfl⟩) rfl ?_
     first | refine .gd (t_geqT rfl rfl (by omega)) rfl ?_ | refine .gd (t_geqF rfl rfl (by omega)) rfl ?_ | refine .gd (t_geq rfl rfl) rfl ?_ | refine Rg.sk (.inl ⟨_,_,rfl,rfl,rfl⟩) rfl ?_ | refine Rg.sk (.inr ⟨_,rfl,rfl⟩) rfl ?_
     first | refine .tq (t_pickT rfl rfl) rfl ?_ | refine .tq (t_pickF rfl rfl) rfl ?_
     refine .done (.condT rfl (.sr (.mv rfl rfl (.mv rfl rfl (.mv rfl rfl ?_)))))
     refine Rg.sl hT0 trivial rfl Tryz.underlying49 ty55 rfl rfl (by omega) rfl ?_
     intro vt100 ht1000
     simp only [Int.toNat_natCast] at ht1000
     rw [List.take_of_length_le (by rw [List.length_drop,tcs_length,← Nat.sub_mul]; exact Nat.le_refl _),tcs_drop,show (toks s).length - i' = ((toks s).drop i').length from by rw [List.length_drop]] at ht1000
     refine Rg.wd trivial (w_appendC _ Tryz.underlying49 hi hz hsi hby rfl (by decide) rfl rfl hown (ht1000.ext hy) (tcs_one _) (by unfold maxLen; omega) (by omega) hy.le) rfl ?_
     rintro v9 wc ⟨hown2,hgr,p2,l2,c2,rfl⟩
     replace hy := own_ext3 hy hown hgr
     replace hx := hx0.ext hy
     rw [← tcs_append,← List.length_append,he] at hown2
     rw [List.length_drop] at hll
     refine .mv rfl rfl (.mv rfl rfl (.tq (t_lenC hT0 Tryz.underlying49 rfl) rfl ?_))
     first | refine .tq (t_addI rfl rfl (by omega)) rfl ?_ | refine .tq (t_add rfl rfl) rfl ?_
     refine .mv rfl rfl ?_
     first | refine .tq (t_subI rfl rfl (by omega)) rfl ?_ | refine .tq (t_sub rfl rfl) rfl ?_
     refine .as rfl rfl (.as rfl rfl (.as rfl rfl (.done (Wp.ret ?_))))
     refine ⟨[_,_,_],⟨rfl,rfl,rfl,trivial⟩,⟨_,r + (toks s).length - i',by rw [show ((r + (toks s).length - i' : Nat) : Int) = (r : Int) + ((toks s).length : Nat) - (i' : Nat) from by omega]; rfl,own_slice hown2,by omega,by omega⟩,hx⟩
    ·have hpos : 0 < (N.extract o N.size).size := by rw [size_tail]; omega
     have hin := tok_in hpos
     have htn := size_tail N o
     have htc := toks_cons hpos
     obtain ⟨n,hnn⟩ : ∃ n,(tok (N.extract o N.size)).1 = n := ⟨_,rfl⟩
     obtain ⟨kd,hkd⟩ : ∃ k,(tok (N.extract o N.size)).2 = k := ⟨_,rfl⟩
     rw [hnn] at hin htc
     rw [hkd,cut_cut (by omega),tail_tail ho] at htc
     rw [htc] at he hll
     rw [List.length_cons] at hll
     by_cases hqb : (b : Int) ≤ (o : Int) - ((N.size : Int) - s.size)
     ·skip
      refine .sr (.mv rfl rfl (.mv rfl rfl ?_))
      first | refine .tq (t_subI rfl rfl (by omega)) rfl ?_ | refine .tq (t_sub rfl rfl) rfl ?_
      refine .tq (t_fieldAddr fa41_1 rfl) rfl ?_
      refine .tq (t_load ty3 rfl (by apply Cells.get (i := 1); (case h => assumption); rfl)) rfl ?_
      first | refine .tq (t_geqT rfl rfl (by omega)) rfl ?_ | refine .tq (t_geqF rfl rfl (by omega)) rfl ?_ | refine .tq (t_geq rfl rfl) rfl ?_
      refine .mv rfl rfl ?_
      first | refine .gd (t_move rfl) rfl ?_ | refine Rg.sk (.inl ⟨_,_,rfl,rfl,rfl⟩) rfl ?_ | refine Rg.sk (.inr ⟨_,rfl,rfl⟩) rfl ?_
      first | refine .gd (t_geqT rfl rfl (by omega)) rfl ?_ | refine .gd (t_geqF rfl rfl (by omega)) rfl ?_ | refine .gd (t_geq rfl rfl) rfl ?_ | refine Rg.sk (.inl ⟨_,_,rfl,rfl,rfl⟩) rfl ?_ | refine Rg.sk (.inr ⟨_,rfl,rfl⟩) rfl ?_
      first | refine .tq (t_pickT rfl rfl) rfl ?_ | refine .tq (t_pickF rfl rfl) rfl ?_
      refine .done (.condF rfl (Wp.skip (.sr (.mv rfl rfl (.mv rfl rfl ?_)))))
      refine .tq (t_sliceS Tryz.underlying9 rfl rfl rfl (by omega)) rfl ?_
      refine Rg.wd trivial (w_call Tryz.call46 rfl (first_ok (by omega) hpos (hA.ext hx))) rfl ?_
      rintro _ w9 ⟨rfl,hx9⟩
      replace hown := own_ext hown hx9
      rw [hnn,hkd]
      replace hx := hx.ext hx9
      replace hy := hy.ext hx9
      refine .mv rfl rfl (.tq (t_extract rfl rfl) rfl (.tq (t_extract rfl rfl) rfl (.as rfl rfl (.as rfl rfl (.done (.sr (.mv rfl rfl (.mv rfl rfl (.mv rfl rfl (.mv rfl rfl (.mv rfl rfl (.mv rfl rfl ?_))))))))))))
      first | refine .tq (t_addI rfl rfl (by omega)) rfl ?_ | refine .tq (t_add rfl rfl) rfl ?_
      refine .tq (t_sliceS Tryz.underlying9 rfl rfl rfl (by omega)) rfl ?_
      rw [show ((o : Int) + (n : Nat)).toNat = o + n from by omega]
      refine .tq (t_build (bd55_0_1 _ _) rfl) rfl (Rg.wd trivial (w_buildSlice (bs49_1 _ _) rfl) rfl ?_)
      rintro _ wb ⟨bb,rfl,qb,hxb,hvb⟩
      replace hx := hx.ext hxb
      replace hy := hy.ext hxb
      replace hown := own_ext hown hxb
      refine Rg.wd trivial (w_append _ Tryz.underlying49 hi hz hsi hby rfl (by decide) rfl rfl hown rfl (fun j u hu => by rw [addr_add]; exact hvb.cells j u hu) (by simp [Value.oneCell']) (by unfold maxLen; omega) (by omega) hy.le) rfl ?_
      rintro v9 wc ⟨hown2,hgr,p2,l2,c2,rfl⟩
      replace hy := own_ext3 hy hown hgr
      refine .as rfl rfl (.done (Wp.region (.mv rfl rfl (.mv rfl rfl ?_))))
      first | refine .tq (t_addI rfl rfl (by omega)) rfl ?_ | refine .tq (t_add rfl rfl) rfl ?_
      refine .as rfl rfl (.done ?_)
      refine ⟨(l ++ [(kd,N.extract o (o + n))],o + n,.slice p2 l2 c2),by repeat (first | exact .nil | refine .cons rfl ?_),⟨?_,by simp only; omega,?_,?_,hy⟩,by simp only; omega⟩
      ·rw [← he,List.append_assoc]; rfl
      ·rw [List.length_append]; omega
      ·rw [tcs_append,List.length_append]
       exact hown2
     ·skip
      refine .sr (.mv rfl rfl (.mv rfl rfl ?_))
      first | refine .tq (t_subI rfl rfl (by omega)) rfl ?_ | refine .tq (t_sub rfl rfl) rfl ?_
      refine .tq (t_fieldAddr fa41_1 rfl) rfl ?_
      refine .tq (t_load ty3 rfl (by apply Cells.get (i := 1); (case h => assumption); rfl)) rfl ?_
      first | refine .tq (t_geqT rfl rfl (by omega)) rfl ?_ | refine .tq (t_geqF rfl rfl (by omega)) rfl ?_ | refine .tq (t_geq rfl rfl) rfl ?_
      refine .mv rfl rfl ?_
      first | refine .gd (t_move rfl) rfl ?_ | refine Rg.sk (.inl ⟨_,_,rfl,rfl,rfl⟩) rfl ?_ | refine Rg.sk (.inr ⟨_,rfl,rfl⟩) rfl ?_
      first | refine .gd (t_geqT rfl rfl (by omega)) rfl ?_ | refine .gd (t_geqF rfl rfl (by omega)) rfl ?_ | refine .gd (t_geq rfl rfl) rfl ?_ | refine Rg.sk (.inl ⟨_,_,rfl,rfl,rfl⟩) rfl ?_ | refine Rg.sk (.inr ⟨_,rfl,rfl⟩) rfl ?_
      first | refine .tq (t_pickT rfl rfl) rfl ?_ | refine .tq (t_pickF rfl rfl) rfl ?_
      refine .done (.condF rfl (Wp.skip (.sr (.mv rfl rfl (.mv rfl rfl ?_)))))
      refine .tq (t_sliceS Tryz.underlying9 rfl rfl rfl (by omega)) rfl ?_
      refine Rg.wd trivial (w_call Tryz.call46 rfl (first_ok (by omega) hpos (hA.ext hx))) rfl ?_
      rintro _ w9 ⟨rfl,hx9⟩
      replace hown := own_ext hown hx9
      rw [hnn,hkd]
      replace hx := hx.ext hx9
      replace hy := hy.ext hx9
      refine .mv rfl rfl (.tq (t_extract rfl rfl) rfl (.tq (t_extract rfl rfl) rfl (.as rfl rfl (.as rfl rfl (.done (.sr (.mv rfl rfl (.mv rfl rfl (.mv rfl rfl (.mv rfl rfl (.mv rfl rfl (.mv rfl rfl ?_))))))))))))
      first | refine .tq (t_addI rfl rfl (by omega)) rfl ?_ | refine .tq (t_add rfl rfl) rfl ?_
      refine .tq (t_sliceS Tryz.underlying9 rfl rfl rfl (by omega)) rfl ?_
      rw [show ((o : Int) + (n : Nat)).toNat = o + n from by omega]
      refine .tq (t_build (bd55_0_1 _ _) rfl) rfl (Rg.wd trivial (w_buildSlice (bs49_1 _ _) rfl) rfl ?_)
      rintro _ wb ⟨bb,rfl,qb,hxb,hvb⟩
      replace hx := hx.ext hxb
      replace hy := hy.ext hxb
      replace hown := own_ext hown hxb
      refine Rg.wd trivial (w_append _ Tryz.underlying49 hi hz hsi hby rfl (by decide) rfl rfl hown rfl (fun j u hu => by rw [addr_add]; exact hvb.cells j u hu) (by simp [Value.oneCell']) (by unfold maxLen; omega) (by omega) hy.le) rfl ?_
      rintro v9 wc ⟨hown2,hgr,p2,l2,c2,rfl⟩
      replace hy := own_ext3 hy hown hgr
      refine .as rfl rfl (.done (Wp.region (.mv rfl rfl (.mv rfl rfl ?_))))
      first | refine .tq (t_addI rfl rfl (by omega)) rfl ?_ | refine .tq (t_add rfl rfl) rfl ?_
      refine .as rfl rfl (.done ?_)
      refine ⟨(l ++ [(kd,N.extract o (o + n))],o + n,.slice p2 l2 c2),by repeat (first | exact .nil | refine .cons rfl ?_),⟨?_,by simp only; omega,?_,?_,hy⟩,by simp only; omega⟩
      ·rw [← he,List.append_assoc]; rfl
      ·rw [List.length_append]; omega
      ·rw [tcs_append,List.length_append]
       exact hown2
   ·have e0 : toks (N.extract o N.size) = [] := toks_nil (by rw [size_tail]; omega)
    rw [e0,List.append_nil] at he
    rw [e0] at hll
    rw [he] at hown
    refine .seq (.sr (.mv rfl rfl (.mv rfl rfl (.tq (t_len Tryz.underlying9 rfl) rfl ?_))))
    first | refine .tq (t_lssT rfl rfl (by omega)) rfl ?_ | refine .tq (t_lssF rfl rfl (by omega)) rfl ?_ | refine .tq (t_lss rfl rfl) rfl ?_
    refine .done (.condF rfl (Wp.exit (.sr (.mv rfl rfl (.mv rfl rfl (.as rfl rfl (.as rfl rfl (.as rfl rfl (.done (Wp.ret ?_))))))))))
    exact ⟨[_,_,_],⟨rfl,rfl,rfl,trivial⟩,⟨_,r,rfl,own_slice hown,hr,by rw [← he]; exact hrl⟩,hx⟩
end Go.Proofs.YtcelfjbajdffkaaGreatDoor.Lexi
