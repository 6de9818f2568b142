/- The greentree package: insert. Printed by r6/Tf.py. -/
import Derived.Test.YtcelfjbajdffkaaGreatDoorXk
set_option linter.unusedVariables false
set_option linter.unusedSimpArgs false
namespace Go.Proofs.YtcelfjbajdffkaaGreatDoor.Par
set_option maxRecDepth 20000
open Go.Gx Go.RowKit Go.Lib
open Lexi (Asc)
theorem ArW.lt {F Q : Fs} {w : World} {bA : Nat} {v : Value} {a : List Gc} (h : ArW F Q w bA v a) : bA < w.heap.size ∧ ∀ b,v.ownBlock = some b → b < w.heap.size := ⟨h.var.lt,fun b hb => own_lt h.own hb⟩
theorem ArW.bw {F Q G : Fs} {w w' : World} {bA : Nat} {v : Value} {a : List Gc} (h : ArW F Q w bA v a) (k : Bw G w w') (hG : ∀ z,F z ∨ Q z ∨ z = bA ∨ v.ownBlock = some z → G z) : ArW F Q w' bA v a :=
 ⟨var_bw h.var k (hG _ (.inr (.inr (.inl rfl)))),own_bw h.own k fun b hb => hG b (.inr (.inr (.inr hb))),fun n hn => (h.ok n hn).bw (k.sub fun z hz => hG z (.inr (.inl hz))) fun z hz => hz,fun z hz => Nat.lt_of_lt_of_le (h.und z hz) k.size,fun z hz => Nat.lt_of_lt_of_le (h.undQ z hz) k.size,h.offA,h.offV,h.nil⟩
theorem ArW.ext {F Q : Fs} {w w' : World} {bA : Nat} {v : Value} {a : List Gc} (h : ArW F Q w bA v a) (x : Ext w w') : ArW F Q w' bA v a := h.bw (G := fun z => z < w.heap.size) (Bw.of x fun z hz => hz) fun z hz => by
 rcases hz with hz | hz | rfl | hz
 ·exact h.und z hz
 ·exact h.undQ z hz
 ·exact h.lt.1
 ·exact h.lt.2 z hz
theorem ArW.sub {F G Q : Fs} {w : World} {bA : Nat} {v : Value} {a : List Gc} (h : ArW G Q w bA v a) (hs : ∀ z,F z → G z) : ArW F Q w bA v a :=
 ⟨h.var,h.own,h.ok,fun z hz => h.und z (hs z hz),h.undQ,⟨fun e => h.offA.1 (hs _ e),h.offA.2⟩,fun b hb => ⟨fun e => (h.offV b hb).1 (hs _ e),(h.offV b hb).2⟩,h.nil⟩
theorem ArW.add {F G Q : Fs} {w : World} {bA : Nat} {v : Value} {a : List Gc} (h : ArW F Q w bA v a) (hu : Und G w.heap.size) (hA : ¬ G bA) (hV : ∀ b,v.ownBlock = some b → ¬ G b) : ArW G Q w bA v a :=
 ⟨h.var,h.own,h.ok,hu,h.undQ,⟨hA,h.offA.2⟩,fun b hb => ⟨hV b hb,(h.offV b hb).2⟩,h.nil⟩
theorem findIdx_ers (a : List Gc) (n : Gn) : a.findIdx? (fun m => decide (m.er = n)) = findN (ers a) n := by
 unfold findN ers
 rw [List.findIdx?_map]
 rfl
def InsR (F Q : Fs) (w : World) (bA : Nat) (v : Value) (a : List Gc) (t : Tr) (u : Value) (w' : World) : Prop :=
 u = .int .i64 (ins t (ers a)).1 ∧ ∃ Q' v' a',ArW F Q' w' bA v' a' ∧ ers a' = (ins t (ers a)).2 ∧ Bw F w w' ∧ (∀ z,v'.ownBlock = some z → v.ownBlock = some z ∨ w.heap.size ≤ z) ∧ ∀ z,Q' z → Q z ∨ w.heap.size ≤ z
structure InsI (F Q : Fs) (w : World) (bA b5 : Nat) (v cv : Value) (a : List Gc) (kk : Int) (tt0 : ByteArray) (kids : List Gt) (k : Nat) (w' : World) (is : List Nat) (ws : Int) (ak : List Gc) (vk cvk : Value) (Qk : Fs) : Prop where
 ar : ArW F Qk w' bA vk ak
 val : Valid (ers ak)
 few : ak.length ≤ a.length + cntL ((erL kids).take k)
 len : is.length = k
 ws0 : 0 ≤ ws
 ws1 : ws ≤ (txtL ((erL kids).take k)).length
 eq : insL (erL kids) (ers a) = (is ++ (insL ((erL kids).drop k) (ers ak)).1,ws + (insL ((erL kids).drop k) (ers ak)).2.1,(insL ((erL kids).drop k) (ers ak)).2.2)
 var : Var w' b5 [.int .i64 kk,.int .i64 (tt0.size + ws),.string tt0,cvk] 103
 row : w'.ownsRow w.heap.size 3 1 cvk k (ints is)
 qk : ∀ z,Qk z → Q z ∨ w.heap.size ≤ z
 q5 : ¬ Qk b5
 qc : ∀ b,cvk.ownBlock = some b → ¬ Qk b ∧ b ≠ bA ∧ b ≠ b5 ∧ vk.ownBlock ≠ some b
 v5 : vk.ownBlock ≠ some b5
 vv : ∀ z,vk.ownBlock = some z → v.ownBlock = some z ∨ w.heap.size ≤ z
 bw : Bw F w w'
 nilk : k = 0 → cvk = .slice none 0 0
 one : cvk.oneCell' = true
theorem txtL_take (l : List Tr) (k : Nat) (h : k < l.length) : (txtL (l.take (k + 1))).length = (txtL (l.take k)).length + l[k].txt.length := by
 rw [List.take_succ_eq_append_getElem h,txtL_app]
 simp [txtL]
theorem txtL_le (l : List Tr) (k : Nat) : (txtL (l.take k)).length ≤ (txtL l).length := by
 have := congrArg List.length (txtL_app (l.take k) (l.drop k))
 rw [List.take_append_drop,List.length_append] at this
 omega
theorem txtL_mem {l : List Tr} {t : Tr} (h : t ∈ l) : t.txt.length ≤ (txtL l).length := by
 induction l with
 | nil => cases h
 | cons u l ih =>
  simp only [txtL,List.length_append]
  rcases List.mem_cons.1 h with rfl | h
  ·omega
  ·have := ih h
   omega
set_option maxHeartbeats 4000000 in
theorem insert_ok : ∀ (n : Nat) (g : Gt),g.er.cnt ≤ n → ∀ (F Q : Fs) (w : World) (bA : Nat) (v : Value) (a : List Gc),ArW F Q w bA v a → GOk F w g → Valid (ers a) → g.er.wf → g.er.txt.length ≤ 1000000 → g.er.cnt ≤ 1000000 → a.length + g.er.cnt ≤ 1000000000 →
  Cl Tryz.prog 31 #[.pointer (some ⟨bA,0,none⟩),.agg g.cells.toArray] w (InsR F Q w bA v a g.er) := by
 intro n
 induction n with
 | zero =>
  intro g hn
  cases g
  simp [Gt.er,Tr.cnt] at hn
 | succ n ih =>
  intro g hn F Q w bA v a hA hg hv hwf htx hcn hac
  obtain ⟨kk,tt0,cv,kids⟩ := g
  cases hg with
  | mk hs0 h1 hb hk =>
   simp only [Gt.er,Tr.cnt] at hn hcn hac
   simp only [Gt.er,Tr.txt,List.length_append] at htx
   have htz : tt0.data.toList.length = tt0.size := by simp
   rw [htz] at htx
   have hx := Ext.refl w
   have hlenk := len_cntL (erL kids)
   rw [erL_len] at hlenk
   have hwk : wfL (erL kids) := by
    simp only [Gt.er,Tr.wf] at hwf
    rcases hwf with ⟨_,e⟩ | ⟨_,_,_,h⟩
    ·rw [e]; trivial
    ·exact h
   obtain ⟨i3,hi3,hz3,hsi3,hby3⟩ := inf3
   obtain ⟨i103,hi103,hz103,hsi103,hby103⟩ := inf103
   have hAlt := hA.lt
   refine Cl.enter Tryz.func31 rfl Tryz.ntmps31 rfl rfl ?_
   refine .sr ?_
   refine Rg.wd trivial (w_boxed (cs := [.int .i64 kk,.string tt0,cv]) rfl rfl) rfl ?_
   rintro _ w1 ⟨b3,rfl,q3,hx1,hv3⟩
   replace hx := hx.ext hx1
   have l1 := hx.le
   refine .as rfl rfl ?_
   refine .done ?_
   refine .sr ?_
   refine .tq (t_fieldAddr fa25_0 rfl) rfl ?_
   refine .tq (t_load ty3 rfl (Cells.get (i := 0) hv3.cells rfl)) rfl ?_
   refine .tq (t_fieldAddr fa25_1 rfl) rfl ?_
   refine .tq (t_load ty9 rfl (Cells.get (i := 1) hv3.cells rfl)) rfl ?_
   refine .tq (t_len Tryz.underlying9 rfl) rfl ?_
   refine .tq (t_fieldAddr fa25_1 rfl) rfl ?_
   refine .tq (t_load ty9 rfl (Cells.get (i := 1) hv3.cells rfl)) rfl ?_
   refine .tq (t_build (bd103_0_1_2 _ _ _) rfl) rfl ?_
   refine Rg.wd trivial (w_new Tryz.zeroValue103 rfl) rfl ?_
   rintro _ wa ⟨b5,rfl,q5,hxa,hva⟩
   refine Rg.wn trivial (w_put hva rfl rfl rfl ty103 rfl rfl) ?_
   rintro _ w2 ⟨hu2,hv5⟩
   have hx2 := hxa.upd hu2 (Nat.le_of_eq q5.symm)
   replace hx := hx.ext hx2
   replace hv3 := hv3.ext hx2
   clear hva
   refine .done ?_
   refine .seq ?_
   refine .sr ?_
   refine .tq (t_fieldAddr fa25_2 rfl) rfl ?_
   refine .tq (t_load ty23 rfl (Cells.get (i := 2) hv3.cells rfl)) rfl ?_
   refine .tq (t_lenC hs0 Tryz.underlying23 rfl) rfl ?_
   refine .mv rfl rfl ?_
   refine .done ?_
   refine Wp.block ?_
   have hb5 : w.heap.size ≤ b5 := by omega
   have h5l := hv5.lt
   refine Wp.loop (ι := Nat) (fun k => [(0,.pointer (some ⟨bA,0,none⟩)),(5,.pointer (some ⟨b5,0,none⟩)),(19,cv),(20,.int .i64 kids.length),(21,.int .i64 k)])
    (fun k w' => k ≤ kids.length ∧ ∃ is ws ak vk cvk Qk,InsI F Q w bA b5 v cv a kk tt0 kids k w' is ws ak vk cvk Qk) (fun k => kids.length - k) 0 (by repeat (first | exact .nil | refine .cons rfl ?_)) ⟨Nat.zero_le _,[],0,a,v,.slice none 0 0,Q,?_⟩ ?_
   ·refine ⟨hA.ext hx,hv,by simp [cntL],rfl,Int.le_refl _,by simp [txtL],by simp,by rw [Int.add_zero]; exact hv5,own_nil _ _ _ _,fun z hz => .inl hz,fun h => ?_,fun b hb => by (cases hb),fun e => ?_,fun z hz => .inl hz,Bw.of hx hA.und,fun _ => rfl,rfl⟩
    ·have : b5 < w.heap.size := hA.undQ _ h
     omega
    ·have := hAlt.2 _ e
     omega
   clear hx hv5 hv3
   rintro k w3 ⟨hk3,is,ws,ak,vk,cvk,Qk,J⟩
   have hv5 := J.var
   have hrow := J.row
   have hAr := J.ar
   have hbwF := J.bw
   have hsk := slC_bw hs0 hbwF hb
   have hJlen := J.len
   have hJvv := J.vv
   have hJws0 := J.ws0
   have hJws1 := J.ws1
   have h5w := hv5.lt
   by_cases hlt : k < kids.length
   ·have hltE : k < (erL kids).length := by rw [erL_len]; exact hlt
    have hem := erL_at kids k hlt
    have hcm := cntL_mem (List.getElem_mem hltE)
    have hwm := wfL_mem hwk _ (List.getElem_mem hltE)
    have htm := txtL_mem (List.getElem_mem hltE)
    have htk := txtL_take (erL kids) k hltE
    have htl := txtL_le (erL kids) (k + 1)
    have hck := cntL_take (erL kids) k hltE
    have hcl := cntL_le (erL kids) (k + 1)
    rw [hem] at hcm hwm htm htk hck
    have hgk := (hk _ (List.getElem_mem hlt)).bw hbwF fun z hz => hz
    have hJfew := J.few
    obtain ⟨kd,hkd⟩ : ∃ kd,kids[k] = kd := ⟨_,rfl⟩
    rw [hkd] at hem hcm hwm htm htk hck hgk
    have hx := Ext.refl w3
    refine .sr ?_
    first | refine .tq (t_lssT rfl rfl (by omega)) rfl ?_ | refine .tq (t_lssF rfl rfl (by omega)) rfl ?_ | refine .tq (t_lss rfl rfl) rfl ?_
    refine .done ?_
    refine .seq ?_
    refine .condT rfl ?_
    refine Wp.skip ?_
    refine .seq ?_
    refine Wp.block ?_
    refine .sr ?_
    refine Rg.ix hsk trivial rfl rfl Tryz.underlying23 ty25 (by omega) rfl ?_
    intro bt23 ot23 ht23
    rw [Int.toNat_natCast,encs_at Gt.len kids k hlt,hkd] at ht23
    refine .tq (t_loadA rfl ht23 (by rw [Gt.len]; exact ty25)) rfl ?_
    have hAr0 := hAr
    refine Rg.wd trivial (w_new Tryz.zeroValue25 rfl) rfl ?_
    rintro _ wa ⟨b7,rfl,q7,hxa,hva⟩
    refine Rg.wn trivial (w_put (cs := kd.cells) hva rfl rfl rfl (by rw [Gt.len]; exact ty25) (by rw [Gt.len]; rfl) (List.all_eq_true.2 hgk.one)) ?_
    rintro _ w4 ⟨hu4,hv7⟩
    have hx4 := hxa.upd hu4 (Nat.le_of_eq q7.symm)
    clear hva
    have l4 := hx4.le
    replace hv5 := hv5.ext hx4
    replace hrow := own_ext hrow hx4
    replace hAr := hAr.ext hx4
    have hgk4 := hgk.bw (Bw.of hx4 hAr0.und) fun z hz => hz
    refine .done ?_
    refine .sr ?_
    refine .mv rfl rfl ?_
    refine .tq (t_loadA rfl hv7.cells (by rw [Gt.len]; exact ty25)) rfl ?_
    have hF1 : ∀ z,F z → (F z ∨ z = b5 ∨ cvk.ownBlock = some z) := fun z hz => .inl hz
    have hArF : ArW (fun z => F z ∨ z = b5 ∨ cvk.ownBlock = some z) Qk w4 bA vk ak := by
     refine hAr.add (fun z hz => ?_) (fun hz => ?_) (fun b hbv hz => ?_)
     ·rcases hz with hz | rfl | hz
      ·exact hAr.und z hz
      ·exact hv5.lt
      ·exact own_lt hrow hz
     ·rcases hz with hz | hz | hz
      ·exact hAr.offA.1 hz
      ·have := hAlt.1
       omega
      ·exact (J.qc _ hz).2.1 rfl
     ·rcases hz with hz | rfl | hz
      ·exact (hAr.offV b hbv).1 hz
      ·exact J.v5 hbv
      ·exact (J.qc _ hz).2.2.2 hbv
    obtain ⟨vI,⟨bI,eI⟩,rI,cI⟩ := ins_ok kd.er (ers ak) J.val hwm (by omega)
    refine Rg.wd trivial (w_call Tryz.call31 rfl (ih kd (by omega) _ Qk w4 bA vk ak hArF (hgk4.mono hF1) J.val hwm (by omega) (by omega) (by omega))) rfl ?_
    rintro _ w5 ⟨rfl,Q5,v5,a5,hAr5,he5,hbw5,hvv5,hQ5⟩
    have l5 := hbw5.size
    clear hv7
    replace hv5 := var_bw hv5 hbw5 (.inr (.inl rfl))
    replace hrow := own_bw hrow hbw5 fun b hbb => .inr (.inr hbb)
    have hi5 : (ins kd.er (ers ak)).1 < a5.length := by rw [← ers_len,he5]; exact rI.lt
    have hA5 := hAr5
    refine .as rfl rfl ?_
    refine .done ?_
    refine .sr ?_
    refine .tq (t_fieldAddr fa103_3 rfl) rfl ?_
    have hv5c : ∀ z,v5.ownBlock = some z → z ≠ b5 ∧ cvk.ownBlock ≠ some z := fun z hz => ⟨fun e => (hA5.offV z hz).1 (.inr (.inl e)),fun e => (hA5.offV z hz).1 (.inr (.inr e))⟩
    replace hAr5 := hAr5.sub hF1
    refine .tq (t_load ty51 rfl (Cells.get (i := 3) hv5.cells rfl)) rfl ?_
    refine .mv rfl rfl ?_
    refine Rg.wd trivial (w_buildSlice (bs51_1 _) rfl) rfl ?_
    rintro _ w6 ⟨b31,rfl,q31,hx6,hv31⟩
    have l6 := hx6.le
    replace hv5 := hv5.ext hx6
    replace hrow := own_ext hrow hx6
    replace hAr5 := hAr5.ext hx6
    refine Rg.wd trivial (w_appendO (size := 1) Tryz.underlying51 hi3 hz3 hsi3 hby3 rfl rfl rfl ⟨hrow.1,hrow.2.imp id fun ⟨g,cap,cur,e1,e2,e3⟩ => ⟨g,cap,cur,e1,Nat.zero_le _,e3⟩⟩ (slc_var hv31 rfl) (by intro u hu; simp at hu; subst hu; rfl) (by decide) (by unfold maxLen; omega) (by omega)) rfl ?_
    rintro v7 w7 hap
    have hb7 : Bw (fun z => z < w6.heap.size ∧ cvk.ownBlock ≠ some z) w6 w7 := by
     obtain ⟨g,cap,sp,e1,e2,e3,e4,e5,e6⟩ := hap
     rcases e6 with ⟨⟨c,e7⟩,e8⟩ | ⟨e7,e8⟩
     ·exact Bw.upd e8 fun hh => hh.2 (by rw [e7]; rfl)
     ·exact Bw.of e8 fun z hz => hz.1
    have l7 := hb7.size
    have hrow7 : w7.ownsRow w.heap.size 3 1 v7 (k + 1) (ints (is ++ [(ins kd.er (ers ak)).1])) := by
     obtain ⟨g,cap,sp,e1,e2,e3,e4,e5,e6⟩ := hap
     rw [e1]
     refine whole_ownG ?_ (by simp [ints,hJlen]) e2 e3 e4 ?_
     ·rcases e6 with ⟨⟨c,e7⟩,e8⟩ | ⟨e7,e8⟩
      ·exact own_ge hrow (by rw [e7]; rfl)
      ·have := hbwF.size
       omega
     ·have : ints (is ++ [(ins kd.er (ers ak)).1]) = ints is ++ [.int .i64 ((ins kd.er (ers ak)).1 : Nat)] := by simp [ints]
      rw [this]
      exact e5
    have hv7f : ∀ z,v7.ownBlock = some z → cvk.ownBlock = some z ∨ w6.heap.size ≤ z := fun z hz => by
     obtain ⟨g,cap,sp,e1,e2,e3,e4,e5,e6⟩ := hap
     rw [e1] at hz
     cases hz
     rcases e6 with ⟨⟨c,e7⟩,e8⟩ | ⟨e7,e8⟩
     ·exact .inl (by rw [e7]; rfl)
     ·exact .inr e7
    obtain ⟨p7,n7,c7,rfl⟩ : ∃ p n c,v7 = .slice p n c := by
     obtain ⟨g,cap,sp,e1,_⟩ := hap
     exact ⟨_,_,_,e1⟩
    clear hap
    have hc5 : cvk.ownBlock ≠ some b5 := fun e => (J.qc _ e).2.2.1 rfl
    replace hv5 := var_bw hv5 hb7 ⟨hv5.lt,hc5⟩
    have hq5b : ¬ Q5 b5 := fun e => (hQ5 _ e).elim J.q5 fun h => by omega
    have hq5c : ∀ z,cvk.ownBlock = some z → ¬ Q5 z := fun z hz e => (hQ5 _ e).elim (J.qc _ hz).1 fun h => by have := own_lt J.row hz; omega
    replace hAr5 := hAr5.bw hb7 fun z hz => by
     rcases hz with hz | hz | rfl | hz
     ·exact ⟨hAr5.und z hz,fun e => by have h1 := own_ge J.row e; have h2 := hA.und z hz; omega⟩
     ·exact ⟨hAr5.undQ z hz,fun e => hq5c z e hz⟩
     ·exact ⟨hAr5.lt.1,fun e => (J.qc _ e).2.1 rfl⟩
     ·exact ⟨hAr5.lt.2 z hz,(hv5c z hz).2⟩
    refine .tq (t_fieldAddr fa103_3 rfl) rfl ?_
    refine Rg.wn trivial (w_putAt (cs := [.slice p7 n7 c7]) hv5 rfl rfl rfl ty51 (by simp only [List.length_cons,List.length_nil]; omega) (by intro u hu; simp at hu; subst hu; rfl)) ?_
    rintro _ w8 ⟨hu8,hv8⟩
    have l8 := hu8.size
    have hv8 : Var w8 b5 [.int .i64 kk,.int .i64 (tt0.size + ws),.string tt0,.slice p7 n7 c7] 103 := hv8
    clear hv5
    have hv5 := hv8
    clear hv8
    have h75 : ∀ z,(Value.slice p7 n7 c7).ownBlock = some z → z ≠ b5 := fun z hz e => (hv7f z hz).elim (fun h => hc5 (e ▸ h)) fun h => by omega
    replace hrow7 := own_bw hrow7 (Bw.upd (F := fun z => z ≠ b5) hu8 fun hh => hh rfl) h75
    replace hAr5 := hAr5.bw (G := fun z => z ≠ b5) (Bw.upd hu8 fun hh => hh rfl) fun z hz e => by
     subst e
     rcases hz with hz | hz | hz | hz
     ·have := hA.und _ hz
      omega
     ·exact hq5b hz
     ·have := hAlt.1
      omega
     ·exact (hv5c _ hz).1 rfl
    refine .done ?_
    have hwd5 : a5[(ins kd.er (ers ak)).1].width = kd.er.txt.length := by
     rw [← wd_at hi5,he5]
     exact rI.width vI
    refine Wp.draw [0,1,2,3,4,5,6,7,8,9,10,11,12] [0] mixed (by kernel_rfl) (by kernel_rfl) ?_
    intro w21 hx21 _
    replace hv5 := hv5.ext hx21
    replace hAr5 := hAr5.ext hx21
    have hs5 := own_slc hAr5.own
    have hx9 := hx21
    have l9 := hx9.le
    refine .tq (t_fieldAddr fa103_1 rfl) rfl ?_
    refine .tq (t_load ty3 rfl (Cells.get (i := 1) hv5.cells rfl)) rfl ?_
    refine .mv rfl rfl ?_
    refine .tq (t_nilCheck rfl) rfl ?_
    refine .tq (t_fieldAddr fa32_0 rfl) rfl ?_
    refine .tq (t_load ty30 rfl (Cells.get (i := 0) hAr5.var.cells rfl)) rfl ?_
    refine .mv rfl rfl ?_
    refine Rg.ix hs5 trivial rfl rfl Tryz.underlying30 ty103 (by omega) rfl ?_
    intro bt41 ot41 ht41
    rw [Int.toNat_natCast,encs_at Gc.len a5 _ hi5] at ht41
    refine .tq (t_fieldAddr fa103_1 rfl) rfl ?_
    refine .tq (t_load ty3 rfl (Cells.get (i := 1) ht41 rfl)) rfl ?_
    refine .tq (t_addI rfl rfl (by omega)) rfl ?_
    refine .tq (t_fieldAddr fa103_1 rfl) rfl ?_
    refine Rg.wnB trivial rfl (w_putAt (cs := [.int .i64 _]) hv5 rfl rfl rfl ty3 (by simp only [List.length_cons,List.length_nil]; omega) (by intro u hu; simp at hu; subst hu; rfl)) (by rfl) ?_
    rintro _ w10 ⟨hu10,hv10⟩
    have l10 := hu10.size
    have hv10 : Var w10 b5 [.int .i64 kk,.int .i64 (tt0.size + ws + a5[(ins kd.er (ers ak)).1].width),.string tt0,.slice p7 n7 c7] 103 := hv10
    replace hrow7 := own_bw (own_ext hrow7 hx9) (Bw.upd (F := fun z => z ≠ b5) hu10 fun hh => hh rfl) h75
    replace hAr5 := hAr5.bw (G := fun z => z ≠ b5) (Bw.upd hu10 fun hh => hh rfl) fun z hz e => by
     subst e
     rcases hz with hz | hz | hz | hz
     ·have := hA.und _ hz
      omega
     ·exact hq5b hz
     ·have := hAlt.1
      omega
     ·exact (hv5c _ hz).1 rfl
    refine .done ?_
    refine Wp.region ?_
    first | refine .tq (t_addI rfl rfl (by omega)) rfl ?_ | refine .tq (t_add rfl rfl) rfl ?_
    refine .mv rfl rfl ?_
    refine .done ?_
    refine ⟨k + 1,by repeat (first | exact .nil | refine .cons rfl ?_),⟨hlt,is ++ [(ins kd.er (ers ak)).1],ws + a5[(ins kd.er (ers ak)).1].width,a5,v5,.slice p7 n7 c7,Q5,?_⟩,by omega⟩
    have hdrop : (erL kids).drop k = kd.er :: (erL kids).drop (k + 1) := by rw [List.drop_eq_getElem_cons hltE,hem]
    refine ⟨hAr5,by rw [he5]; exact vI,?_,by simp [hJlen],by omega,by omega,?_,by rw [← Int.add_assoc]; exact hv10,hrow7,fun z hz => (hQ5 z hz).elim (J.qk z) fun h => .inr (by have := hbwF.size; omega),hq5b,fun z hz => ⟨fun e => ?_,fun e => ?_,h75 z hz,fun e => ?_⟩,fun e => (hv5c _ e).1 rfl,fun z hz => (hvv5 z hz).elim (hJvv z) fun h => .inr (by have := hbwF.size; omega),?_,fun h => by omega,rfl⟩
    ·have := congrArg List.length he5
     rw [ers_len] at this
     rw [this]
     rw [ers_len] at cI
     omega
    ·rw [J.eq,hdrop,insL,he5]
     have e2 : (ins kd.er (ers ak)).2 = ers a5 := he5.symm
     simp only [List.append_assoc,List.singleton_append,e2]
     rw [wd_at hi5,← Int.add_assoc]
    ·rcases hv7f z hz with h | h
     ·exact hq5c z h e
     ·have := hA5.undQ z e
      omega
    ·rcases hv7f z hz with h | h
     ·exact (J.qc _ h).2.1 e
     ·have := hAlt.1
      have := hbwF.size
      omega
    ·rcases hv7f z hz with h | h
     ·exact (hv5c z e).2 h
     ·have := hA5.lt.2 z e
      omega
    ·have hFc : ∀ z,F z → z < w.heap.size := hA.und
     have hz3 := hbwF.size
     refine (hbwF.trans ((Bw.of hx4 fun z hz => ?_).trans ((hbw5.sub hF1).trans ((Bw.of hx6 fun z hz => ?_).trans ((hb7.sub fun z hz => ?_).trans ((Bw.upd hu8 fun hh => ?_).trans ((Bw.of hx9 fun z hz => ?_).trans (Bw.upd hu10 fun hh => ?_))))))))
     ·have := hFc z hz; omega
     ·have := hFc z hz; omega
     ·exact ⟨by have := hFc z hz; omega,fun e => by have h1 := own_ge J.row e; have := hFc z hz; omega⟩
     ·have := hFc _ hh; omega
     ·have := hFc z hz; omega
     ·have := hFc _ hh; omega
   ·obtain rfl : k = kids.length := by omega
    have hdr : (erL kids).drop kids.length = [] := by rw [← erL_len]; exact List.drop_length
    have heq := J.eq
    rw [hdr] at heq
    simp only [insL,List.append_nil,Int.add_zero] at heq
    have hx := Ext.refl w3
    have hsA := own_slc hAr.own
    have hR : NOk (fun z => cvk.ownBlock = some z) w3 ⟨kk,tt0.size + ws,tt0,cvk,is⟩ := ⟨by rw [hJlen]; exact own_slc hrow,J.one,fun b hb => hb,fun e => J.nilk (by have e : is = [] := e; rw [← hJlen,e]; rfl),by rw [hJlen]; omega⟩
    have hJfew := J.few
    have hcl := cntL_le (erL kids) kids.length
    have hclo : ∀ w9,Ext w3 w9 → ∀ m ∈ ak,Cl Tryz.prog 65 #[.agg (Gc.cells m).toArray,.pointer (some ⟨b5,0,none⟩)] w9 (fun u w2 => u = .bool (decide (m.er = (⟨kk,tt0.size + ws,tt0,is⟩ : Gn))) ∧ Ext w9 w2) := fun w9 hx9 m hm => clo65_ok (n := ⟨kk,tt0.size + ws,tt0,cvk,is⟩) ((hAr.ok m hm).ext hx9) (hR.ext hx9) (hv5.ext hx9) (by have := (hAr.ok m hm).few; omega)
    have hins : ins (Gt.mk kk tt0 cv kids).er (ers a) = match findN (ers ak) ⟨kk,tt0.size + ws,tt0,is⟩ with
      | some i => (i,ers ak)
      | none => ((ers ak).length,ers ak ++ [⟨kk,tt0.size + ws,tt0,is⟩]) := by
     rw [show (Gt.mk kk tt0 cv kids).er = .mk kk tt0 (erL kids) from rfl,ins,heq]
     rfl
    cases hfi : findN (ers ak) (⟨kk,tt0.size + ws,tt0,is⟩ : Gn) with
    | some i0 =>
     rw [hfi] at hins
     refine .sr ?_
     first | refine .tq (t_lssT rfl rfl (by omega)) rfl ?_ | refine .tq (t_lssF rfl rfl (by omega)) rfl ?_ | refine .tq (t_lss rfl rfl) rfl ?_
     refine .done ?_
     refine .seq ?_
     refine .condF rfl ?_
     refine Wp.exit ?_
     refine .seq ?_
     refine .sr ?_
     refine .mv rfl rfl ?_
     refine .tq (t_nilCheck rfl) rfl ?_
     refine .tq (t_fieldAddr fa32_0 rfl) rfl ?_
     refine .tq (t_load ty30 rfl (Cells.get (i := 0) hAr.var.cells rfl)) rfl ?_
     refine .tq (t_makeFuncB (us := []) (vs := [.pointer (some ⟨b5,0,none⟩)]) rfl rfl) rfl ?_
     refine Rg.wd trivial (w_call Tryz.call64 rfl (idxG_ok (p := fun m => decide (m.er = (⟨kk,tt0.size + ws,tt0,is⟩ : Gn))) (f := 65) (fst := []) (cap := [.pointer (some ⟨b5,0,none⟩)]) hsA Tryz.call65 hclo (by omega))) rfl ?_
     rintro _ w41 ⟨rfl,hx41⟩
     replace hx := hx.ext hx41
     replace hv5 := hv5.ext hx41
     replace hAr := hAr.ext hx41
     rw [findIdx_ers,hfi]
     refine .as rfl rfl ?_
     refine .done ?_
     refine .sr ?_
     refine .mv rfl rfl ?_
     refine .tq (t_geqT rfl rfl (by show (0 : Int) ≤ (i0 : Int); omega)) rfl ?_
     refine .done ?_
     refine .condT rfl ?_
     refine .sr ?_
     refine .mv rfl rfl ?_
     refine .as rfl rfl ?_
     refine .done ?_
     refine Wp.ret ?_
     refine ⟨[_],⟨rfl,trivial⟩,?_,Qk,vk,ak,hAr,?_,hbwF.trans (Bw.of hx J.ar.und),hJvv,J.qk⟩
     ·rw [hins]
      rfl
     ·rw [hins]
    | none =>
     rw [hfi] at hins
     refine .sr ?_
     first | refine .tq (t_lssT rfl rfl (by omega)) rfl ?_ | refine .tq (t_lssF rfl rfl (by omega)) rfl ?_ | refine .tq (t_lss rfl rfl) rfl ?_
     refine .done ?_
     refine .seq ?_
     refine .condF rfl ?_
     refine Wp.exit ?_
     refine .seq ?_
     refine .sr ?_
     refine .mv rfl rfl ?_
     refine .tq (t_nilCheck rfl) rfl ?_
     refine .tq (t_fieldAddr fa32_0 rfl) rfl ?_
     refine .tq (t_load ty30 rfl (Cells.get (i := 0) hAr.var.cells rfl)) rfl ?_
     refine .tq (t_makeFuncB (us := []) (vs := [.pointer (some ⟨b5,0,none⟩)]) rfl rfl) rfl ?_
     refine Rg.wd trivial (w_call Tryz.call64 rfl (idxG_ok (p := fun m => decide (m.er = (⟨kk,tt0.size + ws,tt0,is⟩ : Gn))) (f := 65) (fst := []) (cap := [.pointer (some ⟨b5,0,none⟩)]) hsA Tryz.call65 hclo (by omega))) rfl ?_
     rintro _ w41 ⟨rfl,hx41⟩
     replace hx := hx.ext hx41
     replace hv5 := hv5.ext hx41
     replace hAr := hAr.ext hx41
     rw [findIdx_ers,hfi]
     refine .as rfl rfl ?_
     refine .done ?_
     have hx0 := hx
     have hrw := own_ext hrow hx
     obtain ⟨pc,nc,cc,rfl⟩ : ∃ p n c,cvk = .slice p n c := by
      rcases own_wholeG hrow with ⟨e,_⟩ | ⟨_,_,_,e,_⟩ <;> exact ⟨_,_,_,e⟩
     obtain ⟨pv,nv,cvv,rfl⟩ : ∃ p n c,vk = .slice p n c := by
      rcases own_wholeG hAr.own with ⟨e,_⟩ | ⟨_,_,_,e,_⟩ <;> exact ⟨_,_,_,e⟩
     refine .sr ?_
     refine .mv rfl rfl ?_
     refine .tq (t_geqF rfl rfl (by decide)) rfl ?_
     refine .done ?_
     refine .condF rfl ?_
     refine Wp.skip ?_
     refine Wp.seq (Wp.cut (fun L w' => ∃ i_ : Unit,Sub ((fun _ => [(0,.pointer (some ⟨bA,0,none⟩))]) i_) L ∧ (fun _ w' => ∃ v',ArW F (fun z => Qk z ∨ (Value.slice pc nc cc).ownBlock = some z) w' bA v' (ak ++ [⟨kk,tt0.size + ws,tt0,.slice pc nc cc,is⟩]) ∧ Bw (fun z => (z < w3.heap.size ∧ (Value.slice pv nv cvv).ownBlock ≠ some z) ∧ z ≠ bA) w3 w' ∧ ∀ z,v'.ownBlock = some z → (Value.slice pv nv cvv).ownBlock = some z ∨ w3.heap.size ≤ z) i_ w') ?_ ?_)
     ·skip
      refine Wp.drawB (fun w' => Var w' bA [.slice pv nv cvv] 32 ∧ Var w' b5 [.int .i64 kk,.int .i64 (tt0.size + ws),.string tt0,.slice pc nc cc] 103) 7 mixed ?_
      intro w42 hx42 hh42
      replace hx := hx.ext hx42
      replace hv5 := hv5.ext hx42
      replace hAr := hAr.ext hx42
      refine ⟨⟨hAr.var,hv5⟩,?_⟩
      refine Qb.tameW (by kernel_rfl) 0 rfl (by kernel_rfl) trivial (tw_of fun wz => t_move rfl) rfl ?_
      refine Qb.tameW (by kernel_rfl) 1 rfl (by kernel_rfl) trivial (tw_of fun wz => t_move rfl) rfl ?_
      refine Qb.tameW (by kernel_rfl) 2 rfl (by kernel_rfl) trivial (tw_of fun wz => t_nilCheck rfl) rfl ?_
      refine Qb.tameW (by kernel_rfl) 3 rfl (by kernel_rfl) trivial (tw_of fun wz => t_fieldAddr fa32_0 rfl) rfl ?_
      refine Qb.tame (by kernel_rfl) 4 rfl (by kernel_rfl) trivial (ts fun wz hkz => by exact t_load ty30 rfl (Cells.get (i := 0) hkz.1.cells rfl)) rfl ?_
      refine Qb.tame (by kernel_rfl) 5 rfl (by kernel_rfl) trivial (ts fun wz hkz => by exact t_loadA rfl hkz.2.cells (by exact ty103)) rfl ?_
      refine Qb.alt1 (i := 6) (by kernel_rfl) ?_
      refine ⟨_,_,rfl,rfl,trivial,w_buildSlice (bs30_1 _ _ _ _ _ _) rfl,rfl,fun _ _ hr => by obtain ⟨_,_,_,hr,_⟩ := hr; exact ⟨hAr.var.ext hr,hv5.ext hr⟩,?_⟩
      rintro _ w43 ⟨b62,rfl,q62,hx43,hv62⟩
      replace hx := hx.ext hx43
      replace hv5 := hv5.ext hx43
      replace hAr := hAr.ext hx43
      refine Qb.bar (fun _ => True) 7 11 rfl (by kernel_rfl) rfl trivial (w_appendO (size := 4) Tryz.underlying30 hi103 hz103 hsi103 hby103 rfl rfl rfl hAr.own (slc_var hv62 rfl) (by intro u hu; simp at hu; rcases hu with rfl | rfl | rfl | rfl <;> rfl) (by decide) (by unfold maxLen; omega) (by omega)) rfl (fun _ _ _ => trivial) ?_
      rintro v63 w63 hap
      have hbp := hAr
      have l63a := hx.le
      have hb63 : Bw (fun z => z < w3.heap.size ∧ (Value.slice pv nv cvv).ownBlock ≠ some z) w3 w63 := by
       obtain ⟨g,cap,sp,e1,e2,e3,e4,e5,e6⟩ := hap
       rcases e6 with ⟨⟨c,e7⟩,e8⟩ | ⟨e7,e8⟩
       ·exact (Bw.of hx fun z hz => hz.1).trans (Bw.upd e8 fun hh => hh.2 (by rw [e7]; rfl))
       ·exact (Bw.of (hx.ext e8) fun z hz => hz.1)
      have l63 := hb63.size
      have hown63 : w63.ownsRow 0 103 4 v63 (ak.length + 1) (encs Gc.cells (ak ++ [⟨kk,tt0.size + ws,tt0,.slice pc nc cc,is⟩])) := by
       obtain ⟨g,cap,sp,e1,e2,e3,e4,e5,e6⟩ := hap
       rw [e1]
       refine whole_ownG (Nat.zero_le _) (by rw [encs_len Gc.len,List.length_append]; rfl) e2 e3 e4 ?_
       rw [encs_app]
       exact e5
      have hv63f : ∀ z,v63.ownBlock = some z → (Value.slice pv nv cvv).ownBlock = some z ∨ w3.heap.size ≤ z := fun z hz => by
       obtain ⟨g,cap,sp,e1,e2,e3,e4,e5,e6⟩ := hap
       rw [e1] at hz
       cases hz
       rcases e6 with ⟨⟨c,e7⟩,e8⟩ | ⟨e7,e8⟩
       ·exact .inl (by rw [e7]; rfl)
       ·exact .inr (Nat.le_trans l63a e7)
      obtain ⟨p63,n63,c63,rfl⟩ : ∃ p n c,v63 = .slice p n c := by
       obtain ⟨g,cap,sp,e1,_⟩ := hap
       exact ⟨_,_,_,e1⟩
      clear hap
      have hvA := var_bw J.ar.var hb63 ⟨J.ar.lt.1,fun e => (J.ar.offV _ e).2.2 rfl⟩
      refine Qb.tameW (by kernel_rfl) 8 rfl (by kernel_rfl) trivial (tw_of fun wz => t_nilCheck rfl) rfl ?_
      refine Qb.tameW (by kernel_rfl) 9 rfl (by kernel_rfl) trivial (tw_of fun wz => t_fieldAddr fa32_0 rfl) rfl ?_
      refine Qb.alt1 (i := 10) (by kernel_rfl) ?_
      refine ⟨_,_,rfl,rfl,trivial,w_put hvA rfl rfl rfl ty30 rfl rfl,rfl,fun _ _ h => trivial,?_⟩
      rintro _ w80 ⟨hu80,hvA2⟩
      have l80 := hu80.size
      have hn63 : ∀ z,(Value.slice p63 n63 c63).ownBlock = some z → z ≠ bA := fun z hz e => (hv63f z hz).elim (fun h => (J.ar.offV z h).2.2 e) fun h => by have := J.ar.lt.1; omega
      replace hown63 := own_bw hown63 (Bw.upd (F := fun z => z ≠ bA) hu80 fun hh => hh rfl) hn63
      have hb80 : Bw (fun z => (z < w3.heap.size ∧ (Value.slice pv nv cvv).ownBlock ≠ some z) ∧ z ≠ bA) w3 w80 := (hb63.sub fun z hz => hz.1).trans (Bw.upd hu80 fun hh => hh.2 rfl)
      have hcB : ∀ z,(Value.slice pc nc cc).ownBlock = some z → (z < w3.heap.size ∧ (Value.slice pv nv cvv).ownBlock ≠ some z) ∧ z ≠ bA := fun z hz => ⟨⟨own_lt hrow hz,(J.qc z hz).2.2.2⟩,(J.qc z hz).2.1⟩
      have hArN : ArW F (fun z => Qk z ∨ (Value.slice pc nc cc).ownBlock = some z) w80 bA (.slice p63 n63 c63) (ak ++ [⟨kk,tt0.size + ws,tt0,.slice pc nc cc,is⟩]) := by
       refine ⟨hvA2,by rw [List.length_append]; exact hown63,fun m hm => ?_,fun z hz => ?_,fun z hz => ?_,⟨J.ar.offA.1,fun h => ?_⟩,fun z hz => ⟨fun h => ?_,fun h => ?_,hn63 z hz⟩,fun e => by simp at e⟩
       ·rcases List.mem_append.1 hm with hm | hm
        ·exact ((J.ar.ok m hm).bw (hb80.sub (F := Qk) fun z hz => ⟨⟨J.ar.undQ z hz,fun e => (J.ar.offV z e).2.1 hz⟩,fun e => J.ar.offA.2 (e ▸ hz)⟩) fun z hz => hz).mono fun z hz => .inl hz
        ·obtain rfl : m = ⟨kk,tt0.size + ws,tt0,.slice pc nc cc,is⟩ := by simpa using hm
         exact (hR.bw (hb80.sub (F := fun z => (Value.slice pc nc cc).ownBlock = some z) hcB) fun z hz => hz).mono fun z hz => .inr hz
       ·have := J.ar.und z hz
        have := hb80.size
        omega
       ·have := hb80.size
        rcases hz with hz | hz
        ·have := J.ar.undQ z hz
         omega
        ·have := (hcB z hz).1.1
         omega
       ·exact h.elim J.ar.offA.2 fun h => (hcB _ h).2 rfl
       ·rcases hv63f z hz with h2 | h2
        ·exact (J.ar.offV z h2).1 h
        ·have := J.ar.und z h
         omega
       ·rcases hv63f z hz with h2 | h2
        ·exact h.elim (J.ar.offV z h2).2.1 fun h3 => (hcB z h3).1.2 h2
        ·rcases h with h | h
         ·have := J.ar.undQ z h
          omega
         ·have := (hcB z h).1.1
          omega
      
      refine Qb.done (by kernel_rfl) ?_
      exact ⟨(),by repeat (first | exact .nil | refine .cons rfl ?_),_,hArN,hb80,hv63f⟩
     ·rintro L' wF ⟨_,hs,v',hArN,hb80,hv63f⟩
      refine Wp.sub hs ?_
      have hl3 := hbwF.size
      have hsN := own_slc hArN.own
      refine .sr ?_
      refine .mv rfl rfl ?_
      refine .tq (t_nilCheck rfl) rfl ?_
      refine .tq (t_fieldAddr fa32_0 rfl) rfl ?_
      refine .tq (t_load ty30 rfl (Cells.get (i := 0) hArN.var.cells rfl)) rfl ?_
      refine .tq (t_lenC hsN Tryz.underlying30 rfl) rfl ?_
      refine .tq (t_subI rfl rfl (by rw [List.length_append,List.length_singleton]; omega)) rfl ?_
      refine .as rfl rfl ?_
      refine .done ?_
      refine Wp.ret ?_
      refine ⟨[_],⟨rfl,trivial⟩,?_,_,_,_,hArN,?_,hbwF.trans (hb80.sub fun z hz => ⟨⟨J.ar.und z hz,fun e => (J.ar.offV z e).1 hz⟩,fun e => J.ar.offA.1 (e ▸ hz)⟩),fun z hz => (hv63f z hz).elim (hJvv z) fun h => .inr (by omega),fun z hz => hz.elim (J.qk z) fun h => .inr (own_ge hrow h)⟩
      ·rw [hins,ers_len,List.length_append,List.length_singleton]
       show Value.int .i64 (((ak.length + 1 : Nat) : Int) - 1) = Value.int .i64 (ak.length : Int)
       rw [show (((ak.length + 1 : Nat) : Int) - 1) = (ak.length : Int) from by omega]
      ·rw [hins]
       simp [ers,Gc.er]
end Go.Proofs.YtcelfjbajdffkaaGreatDoor.Par
namespace Go.Proofs.YtcelfjbajdffkaaGreatDoor.Par
set_option maxRecDepth 20000
open Go.Gx Go.RowKit Go.Lib
open Lexi (Asc)
abbrev Lo (w : World) : Fs := fun z => z < w.heap.size
theorem ArOk.up {w w' : World} {v : Value} {a : List Gc} (h : ArOk (Lo w) w v a) (x : Ext w w') : ArOk (Lo w') w' v a := by
 have h2 := h.ext x
 exact ⟨h2.slc,fun n hn => (h2.ok n hn).mono fun z hz => Nat.lt_of_lt_of_le hz x.le,h2.inn.mono fun z hz => Nat.lt_of_lt_of_le hz x.le,h2.one,h2.nil⟩
theorem GOk.up {w w' : World} {g : Gt} (h : GOk (Lo w) w g) (x : Ext w w') : GOk (Lo w') w' g := (h.bw (Bw.of x fun z hz => hz) fun z hz => hz).mono fun z hz => Nat.lt_of_lt_of_le hz x.le
theorem ArOk.empty (w : World) : ArOk (Lo w) w (.slice none 0 0) [] := ⟨⟨rfl,none,0,rfl,Nat.le_refl _,.inl rfl⟩,fun n hn => absurd hn List.not_mem_nil,fun b hb => (by cases hb),rfl,fun _ => rfl⟩
def InsertR (w : World) (a : List Gn) (t : Tr) (u : Value) (w' : World) : Prop := ∃ v' a',u = .tuple #[.agg #[v'],.int .i64 (ins t a).1,.int .i64 0] ∧ ArOk (Lo w') w' v' a' ∧ ers a' = (ins t a).2 ∧ Ext w w'
theorem insertG_ok {w : World} {v : Value} {a : List Gc} {g : Gt} (hA : ArOk (Lo w) w v a) (hg : GOk (Lo w) w g) (hv : Valid (ers a)) (hl : a.length ≤ 4000) (hwf : g.er.wf) (hc : g.er.cnt ≤ 4000) (hd : g.er.dep ≤ 200) (ht : g.er.txt.length ≤ 1000000) (hn : (ins g.er (ers a)).2.length ≤ 4000) :
  Cl Tryz.prog 12 #[.agg #[v],.agg g.cells.toArray] w (InsertR w (ers a) g.er) := by
 have hx := Ext.refl w
 have hone := hA.one
 have hgone := hg.one
 obtain ⟨pv,nv,cv,rfl⟩ : ∃ p n c,v = .slice p n c := by
  obtain ⟨_,p,c,e,_⟩ := hA.slc
  exact ⟨_,_,_,e⟩
 refine Cl.enter Tryz.func12 rfl Tryz.ntmps12 rfl rfl ?_
 refine .sr ?_
 refine Rg.wd trivial (w_boxed (cs := [.slice pv nv cv]) rfl rfl) rfl ?_
 rintro _ w1 ⟨b2,rfl,q2,hx1,hv2⟩
 replace hx := hx.ext hx1
 refine Rg.wd trivial (w_boxed (cs := g.cells) rfl rfl) rfl ?_
 rintro _ w2 ⟨b3,rfl,q3,hx2,hv3⟩
 replace hx := hx.ext hx2
 replace hv2 := hv2.ext hx2
 have h4g0 := hx.le
 refine Rg.wd trivial (w_new Tryz.zeroValue32 rfl) rfl ?_
 rintro _ w3 ⟨b4,rfl,q4,hx3,hv4⟩
 replace hx := hx.ext hx3
 replace hv2 := hv2.ext hx3
 replace hv3 := hv3.ext hx3
 have h2l := hv2.lt
 have h3l := hv3.lt
 have h4l := hv4.lt
 have h4g := hx.le
 refine .as rfl rfl ?_
 refine .as rfl rfl ?_
 refine .done ?_
 refine .seq ?_
 refine .sr ?_
 refine .tq (t_loadA rfl hv2.cells (by exact ty32)) rfl ?_
 refine Rg.wd trivial (w_call Tryz.call15 rfl (validateA_ok (hA.ext hx) hv hl)) rfl ?_
 rintro _ w4 ⟨rfl,hx4⟩
 replace hx := hx.ext hx4
 replace hv2 := hv2.ext hx4
 replace hv3 := hv3.ext hx4
 replace hv4 := hv4.ext hx4
 refine .as rfl rfl ?_
 refine .done ?_
 refine .sr ?_
 refine .mv rfl rfl ?_
 refine .tq (t_neqF rfl rfl rfl) rfl ?_
 refine .done ?_
 refine .condF rfl ?_
 refine Wp.skip ?_
 refine .sr ?_
 refine Rg.wd trivial (w_new Tryz.zeroValue3 rfl) rfl ?_
 rintro _ wa ⟨b8,rfl,q8,hxa,hva⟩
 refine Rg.wn trivial (w_put hva rfl rfl rfl ty3 rfl rfl) ?_
 rintro _ w8 ⟨hu8,hv8⟩
 have hx8 := hxa.upd hu8 (Nat.le_of_eq q8.symm)
 clear hva
 have h4b8 : b4 < b8 := by have := hv4.lt; omega
 have h3b8 : b3 < b8 := by have := hv3.lt; omega
 have h2b8 : b2 < b8 := by have := hv2.lt; omega
 replace hx := hx.ext hx8
 replace hv2 := hv2.ext hx8
 replace hv3 := hv3.ext hx8
 replace hv4 := hv4.ext hx8
 have hb8g : w.heap.size ≤ b8 := by omega
 refine .done ?_
 refine .seq ?_
 refine Wp.block ?_
 refine .sr ?_
 refine .tq (t_loadA rfl hv3.cells (by rw [Gt.len]; exact ty25)) rfl ?_
 refine Rg.wd trivial (w_call Tryz.call28 rfl (exceeds_ok _ g (Nat.le_refl _) (Lo w) _ 1 b8 4000 (hg.bw (Bw.of hx fun z hz => hz) fun z hz => hz) (fun z hz => ⟨Nat.lt_of_lt_of_le hz hx.le,by have hz : z < w.heap.size := hz; omega⟩) hv8 (by omega) (by decide) (by decide) (by omega))) rfl ?_
 rintro _ w9 ⟨rfl,hv8b,hb9⟩
 have hx9 : Ext w w9 := Bw.ext (F := Lo w) hx (hb9.sub fun z hz => ⟨Nat.lt_of_lt_of_le hz hx.le,by have hz : z < w.heap.size := hz; omega⟩) fun z hz => hz
 clear hv8
 clear hx
 have hx := hx9
 replace hv2 := var_bw hv2 hb9 ⟨hv2.lt,by omega⟩
 replace hv3 := var_bw hv3 hb9 ⟨hv3.lt,by omega⟩
 replace hv4 := var_bw hv4 hb9 ⟨hv4.lt,by omega⟩
 refine .as rfl rfl ?_
 refine .done ?_
 refine .condF rfl ?_
 refine .sr ?_
 refine .tq (t_loadA rfl hv3.cells (by rw [Gt.len]; exact ty25)) rfl ?_
 refine Rg.wd trivial (w_call Tryz.call29 rfl (isTree_ok _ g (Nat.le_refl _) (Lo w) _ (hg.bw (Bw.of hx fun z hz => hz) fun z hz => hz) (fun z hz => Nat.lt_of_lt_of_le hz hx.le) hwf (by omega))) rfl ?_
 rintro _ w5 ⟨rfl,hx5⟩
 replace hx := hx.ext hx5
 replace hv2 := hv2.ext hx5
 replace hv3 := hv3.ext hx5
 replace hv4 := hv4.ext hx5
 refine .tq (t_notB rfl) rfl ?_
 refine .as rfl rfl ?_
 refine .done ?_
 refine .condF rfl ?_
 refine Wp.skip ?_
 refine .sr ?_
 refine .tq (t_loadA rfl hv2.cells (by exact ty32)) rfl ?_
 refine Rg.wd trivial (w_call Tryz.call30 rfl (cloneA_ok (hA.ext hx) (fun z hz => Nat.lt_of_lt_of_le hz hx.le) hl)) rfl ?_
 rintro _ w11 ⟨v9,a9,Q9,rfl,he9,hown9,hok9,hQ9,hx11,hnil9⟩
 have hcl := hx.le
 have hvl2 := hv2.lt
 have hvl3 := hv3.lt
 have hvl4 := hv4.lt
 have hx0 := hx
 replace hx := hx.ext hx11
 replace hv3 := hv3.ext hx11
 replace hv4 := hv4.ext hx11
 obtain ⟨p9,n9,c9,rfl⟩ : ∃ p n c,v9 = .slice p n c := by
  rcases own_wholeG hown9 with ⟨e,_⟩ | ⟨_,_,_,e,_⟩ <;> exact ⟨_,_,_,e⟩
 refine Rg.wd trivial (w_new Tryz.zeroValue32 rfl) rfl ?_
 rintro _ wb ⟨b9,rfl,q9,hxb,hvb⟩
 refine Rg.wn trivial (w_put hvb rfl rfl rfl ty32 rfl rfl) ?_
 rintro _ w12 ⟨hu12,hv9⟩
 have hx12 := hxb.upd hu12 (Nat.le_of_eq q9.symm)
 clear hvb
 replace hv3 := hv3.ext hx12
 replace hv4 := hv4.ext hx12
 have l11 := hx11.le
 have l12 := hx12.le
 have hArW : ArW (Lo w5) Q9 w12 b9 (.slice p9 n9 c9) a9 := by
  refine ⟨hv9,own_ext ⟨hown9.1,hown9.2.imp id fun ⟨g,cap,cur,e1,e2,e3⟩ => ⟨g,cap,cur,e1,Nat.zero_le _,e3⟩⟩ hx12,fun m hm => (hok9 m hm).ext hx12,fun z hz => ?_,fun z hz => ?_,⟨fun h => ?_,fun h => ?_⟩,fun z hz => ⟨fun h => ?_,fun h => (hQ9 z h).2.2 (by rw [hz]),?_⟩,hnil9⟩
  ·have hz : z < w5.heap.size := hz
   omega
  ·have := (hQ9 z hz).2.1
   omega
  ·have h : b9 < w5.heap.size := h
   omega
  ·have := (hQ9 _ h).2.1
   omega
  ·have h : z < w5.heap.size := h
   have := own_ge hown9 hz
   omega
  ·have := own_lt hown9 hz
   omega
 replace hx := hx.ext hx12
 have hgc : GOk (Lo w5) w12 g := (hg.bw (Bw.of hx fun z hz => hz) fun z hz => hz).mono fun z hz => Nat.lt_of_lt_of_le hz hcl
 refine .done ?_
 refine .sr ?_
 refine .tq (t_loadA rfl hv3.cells (by rw [Gt.len]; exact ty25)) rfl ?_
 refine Rg.wd trivial (w_call Tryz.call31 rfl (insert_ok _ g (Nat.le_refl _) (Lo w5) Q9 _ b9 _ a9 hArW hgc (by rw [he9]; exact hv) hwf ht (by omega) (by have := congrArg List.length he9; rw [ers_len,ers_len] at this; omega))) rfl ?_
 rintro _ w13 ⟨rfl,Q13,v13,a13,hAr13,he13,hb13,hvv13,hQ13⟩
 have hx13 : Ext w w13 := Bw.ext (F := Lo w) hx (hb13.sub fun z hz => Nat.lt_of_lt_of_le hz hcl) fun z hz => hz
 replace hv4 := var_bw hv4 hb13 hvl4
 have hs13 := own_slc hAr13.own
 rw [he9] at he13
 have hln : a13.length ≤ 4000 := by rw [← ers_len,he13]; exact hn
 obtain ⟨p13,n13,c13,rfl⟩ : ∃ p n c,v13 = .slice p n c := by
  rcases own_wholeG hAr13.own with ⟨e,_⟩ | ⟨_,_,_,e,_⟩ <;> exact ⟨_,_,_,e⟩
 refine .as rfl rfl ?_
 refine .done ?_
 refine .seq ?_
 refine .sr ?_
 refine .tq (t_fieldAddr fa32_0 rfl) rfl ?_
 refine .tq (t_load ty30 rfl (Cells.get (i := 0) hAr13.var.cells rfl)) rfl ?_
 refine .tq (t_lenC hs13 Tryz.underlying30 rfl) rfl ?_
 first | refine .tq (t_gtrT rfl rfl (by omega)) rfl ?_ | refine .tq (t_gtrF rfl rfl (by omega)) rfl ?_ | refine .tq (t_gtr rfl rfl) rfl ?_
 refine .done ?_
 refine .condF rfl ?_
 refine Wp.skip ?_
 refine .sr ?_
 refine .tq (t_loadA rfl hAr13.var.cells (by exact ty32)) rfl ?_
 refine .mv rfl rfl ?_
 refine Rg.wn trivial (w_put hv4 rfl rfl rfl ty32 rfl rfl) ?_
 rintro _ w14 ⟨hu14,hv14⟩
 have l14 := hu14.size
 refine .as rfl rfl ?_
 refine .as rfl rfl ?_
 refine .done ?_
 refine Wp.ret ?_
 have hb4 : ∀ z,Q13 z ∨ z = b9 ∨ (Value.slice p13 n13 c13).ownBlock = some z → z ≠ b4 := fun z hz e => by
  subst e
  rcases hz with hz | hz | hz
  ·rcases hQ13 _ hz with h | h
   ·have := (hQ9 _ h).1
    omega
   ·omega
  ·omega
  ·exact (hAr13.offV _ hz).1 hvl4
 refine ⟨[_,_,_],⟨⟨_,rfl,lv_agg hv14 ty32⟩,rfl,rfl,trivial⟩,.slice p13 n13 c13,a13,?_,?_,he13,hx13.upd hu14 (by omega)⟩
 ·rw [he9]
  rfl
 ·have h0 : ArOk (fun z => z < w13.heap.size ∧ z ≠ b4) w13 (.slice p13 n13 c13) a13 := ⟨hs13,fun m hm => (hAr13.ok m hm).mono fun z hz => ⟨hAr13.undQ z hz,hb4 z (.inl hz)⟩,fun z hz => ⟨hAr13.lt.2 z hz,hb4 z (.inr (.inr hz))⟩,rfl,hAr13.nil⟩
  have h1 := h0.bw (R := fun z => z < w13.heap.size ∧ z ≠ b4) (Bw.upd hu14 fun hh => hh.2 rfl) fun z hz => hz
  exact ⟨h1.slc,fun m hm => (h1.ok m hm).mono fun z hz => by have := hz.1; show z < w14.heap.size; omega,fun z hz => by have := (h1.inn z hz).1; show z < w14.heap.size; omega,h1.one,h1.nil⟩
end Go.Proofs.YtcelfjbajdffkaaGreatDoor.Par
namespace Go.Proofs.YtcelfjbajdffkaaGreatDoor.Par
set_option maxRecDepth 20000
open Go.Gx Go.RowKit Go.Lib
open Lexi (Asc)
theorem RdL.len {a : List Gn} : ∀ {l : List Tr} {is : List Nat},RdL a l is → is.length = l.length
 | [],is,h => by
  have h : is = [] := h
  rw [h]
  rfl
 | t :: l,is,h => by
  obtain ⟨i,is1,rfl,_,h2⟩ := h
  simp [RdL.len h2]
theorem RdL.at {a : List Gn} : ∀ {l : List Tr} {is : List Nat},RdL a l is → ∀ k (h : k < l.length) (h' : k < is.length),Rd a l[k] is[k]
 | [],is,h,k,hk,_ => absurd hk (Nat.not_lt_zero _)
 | t :: l,is,h,k,hk,hk' => by
  obtain ⟨i,is1,rfl,h1,h2⟩ := h
  cases k with
  | zero => exact h1
  | succ k => exact RdL.at h2 k (by simpa using hk) (by simpa using hk')
structure BldI (w : World) (bl b3 b6 b8 : Nat) (v : Value) (c : Int) (kk : Int) (tt0 : ByteArray) (ks : List Tr) (k : Nat) (w' : World) (gs : List Gt) (cvk : Value) : Prop where
 var : Var w' b8 [.int .i64 kk,.string tt0,cvk] 25
 row : w'.ownsRow w.heap.size 25 3 cvk k (encs Gt.cells gs)
 ok : ∀ g ∈ gs,GOk (fun z => w.heap.size ≤ z ∧ z < w'.heap.size ∧ z ≠ b6 ∧ z ≠ b8 ∧ cvk.ownBlock ≠ some z) w' g
 er : erL gs = ks.take k
 cnt : Var w' bl [.int .i64 (c - 1 - cntL (ks.take k))] 3
 v3 : Var w' b3 [v] 32
 v6 : Var w' b6 [.int .i64 0,.string ⟨#[]⟩,.slice none 0 0] 25
 bw : Bw (Ex w bl) w w'
 off : ∀ z,cvk.ownBlock = some z → z ≠ b3 ∧ z ≠ b6 ∧ z ≠ b8 ∧ z ≠ bl
def BuildR (w : World) (bl : Nat) (c : Int) (t : Tr) (u : Value) (w' : World) : Prop := ∃ g : Gt,u = .agg g.cells.toArray ∧ g.er = t ∧ GOk (fun z => w.heap.size ≤ z ∧ z < w'.heap.size) w' g ∧ Var w' bl [.int .i64 (c - t.cnt)] 3 ∧ Bw (Ex w bl) w w'
set_option maxHeartbeats 4000000 in
theorem build_ok : ∀ (n : Nat) (t : Tr),t.cnt ≤ n → ∀ (P : Fs) (w : World) (v : Value) (a : List Gc) (i bl : Nat) (c : Int),ArOk P w v a → (∀ z,P z → z < w.heap.size ∧ z ≠ bl) → Rd (ers a) t i → Var w bl [.int .i64 c] 3 → (t.cnt : Int) ≤ c → c ≤ 4000 →
  Cl Tryz.prog 32 #[.agg #[v],.int .i64 i,.pointer (some ⟨bl,0,none⟩)] w (BuildR w bl c t) := by
 intro n
 induction n with
 | zero =>
  intro t hn
  cases t
  simp [Tr.cnt] at hn
 | succ n ih =>
  intro t hn P w v a i bl c hA hP hrd hvl hc hc4
  obtain ⟨kk,tt0,ks⟩ := t
  obtain ⟨wn,is,hat,hrl⟩ := hrd
  have hi : i < a.length := by
   have := (List.getElem?_eq_some_iff.1 hat).1
   rwa [ers_len] at this
  rw [ers_at hi] at hat
  have hni := hA.ok _ (List.getElem_mem hi)
  obtain ⟨nd,hnd⟩ : ∃ nd,a[i] = nd := ⟨_,rfl⟩
  rw [hnd] at hat hni
  obtain ⟨nk,nw,nt,ncv,nis⟩ := nd
  injection hat with hat
  injection hat with e1 e2 e3 e4
  subst e1 e2 e3 e4
  simp only [Tr.cnt] at hn hc
  have hx := Ext.refl w
  have hs0 := hA.slc
  have hbl := hvl.lt
  have hrl : RdL (ers a) ks nis := hrl
  have hlen : nis.length = ks.length := hrl.len
  have hnis := hni.slc
  have hnone := hni.one
  have hone := hA.one
  have hlenk := len_cntL ks
  obtain ⟨i25,hi25,hz25,hsi25,hby25⟩ := inf25
  simp only at hnis hnone
  refine Cl.enter Tryz.func32 rfl Tryz.ntmps32 rfl rfl ?_
  refine .sr ?_
  refine Rg.wd trivial (w_boxed (cs := [v]) rfl rfl) rfl ?_
  rintro _ w11 ⟨b3,rfl,q3,hx11,hv3⟩
  replace hx := hx.ext hx11
  have l1 := hx.le
  refine Rg.wd trivial (w_new Tryz.zeroValue25 rfl) rfl ?_
  rintro _ w12 ⟨b6,rfl,q6,hx12,hv6⟩
  replace hx := hx.ext hx12
  replace hv3 := hv3.ext hx12
  have l2 := hx.le
  have h3l := hv3.lt
  have h6l := hv6.lt
  refine .done ?_
  refine .sr ?_
  refine .mv rfl rfl ?_
  refine .tq (t_nilCheck rfl) rfl ?_
  refine .tq (t_load ty3 rfl (Cells.get (i := 0) (hvl.ext hx).cells rfl)) rfl ?_
  refine .tq (t_subI rfl rfl (by omega)) rfl ?_
  refine .tq (t_nilCheck rfl) rfl ?_
  refine Rg.wn trivial (w_put (hvl.ext hx) rfl rfl rfl ty3 rfl rfl) ?_
  rintro _ w4 ⟨hu4,hvl4⟩
  have hsz4 := hu4.size
  have hbw : Bw (Ex w bl) w w4 := (Bw.of hx fun z hz => hz.1).trans (Bw.upd hu4 fun hh => hh.2 rfl)
  clear hx
  clear hvl
  have hvl := hvl4
  clear hvl4
  replace hv3 := hv3.upd hu4 (by omega)
  replace hv6 := hv6.upd hu4 (by omega)
  have hx := Ext.refl w4
  refine .done ?_
  have hsA : SlC w4 v 4 a.length (encs Gc.cells a) := slC_bw hs0 hbw fun z hz => hP z (hA.inn z hz)
  refine .sr ?_
  refine .tq (t_fieldAddr fa32_0 rfl) rfl ?_
  refine .tq (t_load ty30 rfl (Cells.get (i := 0) hv3.cells rfl)) rfl ?_
  refine .mv rfl rfl ?_
  refine Rg.ix hsA trivial rfl rfl Tryz.underlying30 ty103 (by omega) rfl ?_
  intro bt19 ot19 ht19
  rw [Int.toNat_natCast,encs_at Gc.len a i hi,hnd] at ht19
  refine .tq (t_loadA rfl ht19 (by exact ty103)) rfl ?_
  refine Rg.wd trivial (w_new Tryz.zeroValue103 rfl) rfl ?_
  rintro _ wa ⟨b7,rfl,q7,hxa,hva⟩
  refine Rg.wn trivial (w_put (cs := Gc.cells ⟨nk,nw,nt,ncv,nis⟩) hva rfl rfl rfl ty103 rfl (by simp only [Gc.cells,List.all_cons,hnone,List.all_nil]; rfl)) ?_
  rintro _ w6 ⟨hu6,hv7⟩
  have hx6 := hxa.upd hu6 (Nat.le_of_eq q7.symm)
  clear hva
  have l6 := hx6.le
  replace hx := hx.ext hx6
  replace hv3 := hv3.ext hx6
  replace hv6 := hv6.ext hx6
  replace hvl := hvl.ext hx6
  refine .done ?_
  refine .sr ?_
  refine .tq (t_fieldAddr fa103_0 rfl) rfl ?_
  refine .tq (t_load ty3 rfl (Cells.get (i := 0) hv7.cells rfl)) rfl ?_
  refine .tq (t_fieldAddr fa103_2 rfl) rfl ?_
  refine .tq (t_load ty9 rfl (Cells.get (i := 2) hv7.cells rfl)) rfl ?_
  refine .tq (t_build (bd25_0_1 _ _) rfl) rfl ?_
  refine Rg.wd trivial (w_new Tryz.zeroValue25 rfl) rfl ?_
  rintro _ wb ⟨b8,rfl,q8,hxb,hvb⟩
  refine Rg.wn trivial (w_put hvb rfl rfl rfl ty25 rfl rfl) ?_
  rintro _ w8 ⟨hu8,hv8⟩
  have hx8 := hxb.upd hu8 (Nat.le_of_eq q8.symm)
  clear hvb
  have l8 := hx8.le
  have hv7l := hv7.lt
  replace hx := hx.ext hx8
  replace hv3 := hv3.ext hx8
  replace hv6 := hv6.ext hx8
  replace hv7 := hv7.ext hx8
  replace hvl := hvl.ext hx8
  refine .done ?_
  refine .seq ?_
  refine .sr ?_
  refine .tq (t_fieldAddr fa103_3 rfl) rfl ?_
  refine .tq (t_load ty51 rfl (Cells.get (i := 3) hv7.cells rfl)) rfl ?_
  refine .tq (t_lenC hnis Tryz.underlying51 rfl) rfl ?_
  refine .mv rfl rfl ?_
  refine .done ?_
  refine Wp.block ?_
  have hbw0 : Bw (Ex w bl) w w8 := hbw.trans (Bw.of hx fun z hz => Nat.lt_of_lt_of_le hz.1 hbw.size)
  have hsz := hbw.size
  have hv8l := hv8.lt
  refine Wp.loop (ι := Nat) (fun k => [(2,.pointer (some ⟨bl,0,none⟩)),(3,.pointer (some ⟨b3,0,none⟩)),(6,.pointer (some ⟨b6,0,none⟩)),(8,.pointer (some ⟨b8,0,none⟩)),(27,ncv),(28,.int .i64 nis.length),(29,.int .i64 k)])
   (fun k w' => k ≤ nis.length ∧ ∃ gs cvk,BldI w bl b3 b6 b8 v c nk nt ks k w' gs cvk) (fun k => nis.length - k) 0 (by repeat (first | exact .nil | refine .cons rfl ?_)) ⟨Nat.zero_le _,[],.slice none 0 0,hv8,own_nil _ _ _ _,fun g hg => absurd hg List.not_mem_nil,by simp [erL],by simpa [cntL] using hvl,hv3,hv6,hbw0,fun z hz => (by cases hz)⟩ ?_
  clear hvl hv3 hv6 hv7 hv8 hx
  rintro k w9 ⟨hk9,gs,cvk,J⟩
  have hv8 := J.var
  have hrow := J.row
  have hv3 := J.v3
  have hv6 := J.v6
  have hvl := J.cnt
  have hbwF := J.bw
  have h8w := hv8.lt
  have h6w := hv6.lt
  have h3w := hv3.lt
  have hblw := hvl.lt
  have hszF := hbwF.size
  have hgl : gs.length = k := by
   have := congrArg List.length J.er
   rw [erL_len,List.length_take] at this
   omega
  have hsk : SlC w9 ncv 1 nis.length (ints nis) := slC_bw hnis hbwF fun z hz => hP z (hni.inn z hz)
  obtain ⟨pc,nc,cc,rfl⟩ : ∃ p n c,cvk = .slice p n c := by
   rcases own_wholeG hrow with ⟨e,_⟩ | ⟨_,_,_,e,_⟩ <;> exact ⟨_,_,_,e⟩
  by_cases hlt : k < nis.length
  ·have hltK : k < ks.length := by omega
   have hrk := hrl.at k hltK hlt
   have hck := cntL_take ks k hltK
   have hcl := cntL_le ks (k + 1)
   have hcm := cntL_mem (List.getElem_mem hltK)
   have hx := Ext.refl w9
   refine .sr ?_
   first | refine .tq (t_lssT rfl rfl (by omega)) rfl ?_ | refine .tq (t_lssF rfl rfl (by omega)) rfl ?_ | refine .tq (t_lss rfl rfl) rfl ?_
   refine .done ?_
   refine .seq ?_
   refine .condT rfl ?_
   refine Wp.skip ?_
   refine .seq ?_
   refine Wp.block ?_
   refine .sr ?_
   refine Rg.ix hsk trivial rfl rfl Tryz.underlying51 ty3 (by omega) rfl ?_
   intro bt31 ot31 ht31
   rw [Int.toNat_natCast,ints_at nis k hlt] at ht31
   refine .tq (t_load ty3 rfl (Cells.get (i := 0) ht31 rfl)) rfl ?_
   refine .as rfl rfl ?_
   refine .done ?_
   refine .sr ?_
   refine .mv rfl rfl ?_
   refine .tq (t_nilCheck rfl) rfl ?_
   refine .tq (t_load ty3 rfl (Cells.get (i := 0) hvl.cells rfl)) rfl ?_
   refine .tq (t_geqT rfl rfl (by omega)) rfl ?_
   refine .done ?_
   refine .condT rfl ?_
   refine Wp.cut (fun L w' => ∃ i_ : Unit,Sub ((fun _ => [(2,.pointer (some ⟨bl,0,none⟩)),(3,.pointer (some ⟨b3,0,none⟩)),(6,.pointer (some ⟨b6,0,none⟩)),(8,.pointer (some ⟨b8,0,none⟩)),(27,ncv),(28,.int .i64 nis.length),(29,.int .i64 k)]) i_) L ∧ (fun _ w' => ∃ gs cvk,BldI w bl b3 b6 b8 v c nk nt ks (k + 1) w' gs cvk) i_ w') ?_ ?_
   ·skip
    refine Wp.drawB (fun w' => Var w' b8 [.int .i64 nk,.string nt,.slice pc nc cc] 25 ∧ Var w' b3 [v] 32) 7 mixed ?_
    intro w21 hx21 hh21
    replace hx := hx.ext hx21
    replace hv8 := hv8.ext hx21
    replace hv3 := hv3.ext hx21
    replace hv6 := hv6.ext hx21
    replace hvl := hvl.ext hx21
    replace ht31 := ht31.ext hx21
    refine ⟨⟨hv8,hv3⟩,?_⟩
    have hx21 := hx
    have l21 := hx.le
    refine Qb.tameW (by kernel_rfl) 0 rfl (by kernel_rfl) trivial (tw_of fun wz => t_fieldAddr fa25_2 rfl) rfl ?_
    refine Qb.tame (by kernel_rfl) 1 rfl (by kernel_rfl) trivial (ts fun wz hkz => by exact t_load ty23 rfl (Cells.get (i := 2) hkz.1.cells rfl)) rfl ?_
    refine Qb.tame (by kernel_rfl) 2 rfl (by kernel_rfl) trivial (ts fun wz hkz => by exact t_loadA rfl hkz.2.cells (by exact ty32)) rfl ?_
    refine Qb.tameW (by kernel_rfl) 3 rfl (by kernel_rfl) trivial (tw_of fun wz => t_move rfl) rfl ?_
    refine Qb.tameW (by kernel_rfl) 4 rfl (by kernel_rfl) trivial (tw_of fun wz => t_move rfl) rfl ?_
    refine Qb.alt1 (i := 5) (by kernel_rfl) ?_
    refine ⟨_,_,rfl,rfl,trivial,w_call Tryz.call32 rfl (ih ks[k] (by omega) P _ v a nis[k] bl _ (hA.bw (R := P) ((hbwF.sub hP).trans (Bw.of hx fun z hz => Nat.lt_of_lt_of_le (hP z hz).1 hszF)) fun z hz => hz) (fun z hz => ⟨Nat.lt_of_lt_of_le (hP z hz).1 (Nat.le_trans hszF l21),(hP z hz).2⟩) hrk hvl (by omega) (by omega)),rfl,fun _ _ hr => by obtain ⟨_,_,_,_,_,hb⟩ := hr; exact ⟨var_bw hv8 hb ⟨hv8.lt,by omega⟩,var_bw hv3 hb ⟨hv3.lt,by omega⟩⟩,?_⟩
    rintro _ w30 ⟨gk,rfl,hge,hgk,hvl2,hb30⟩
    have l30 := hb30.size
    have hxb := hx
    replace hrow := own_bw (own_ext hrow hx) hb30 fun z hz => ⟨by have := own_lt J.row hz; omega,fun e => (J.off z hz).2.2.2 e⟩
    replace hv8 := var_bw hv8 hb30 ⟨hv8.lt,by omega⟩
    replace hv3 := var_bw hv3 hb30 ⟨hv3.lt,by omega⟩
    replace hv6 := var_bw hv6 hb30 ⟨hv6.lt,by omega⟩
    obtain ⟨gk1,gk2,gkc,gks⟩ := gk
    obtain ⟨gp,gn,gcc,rfl⟩ : ∃ p n c,gkc = .slice p n c := by
     cases hgk with
     | mk h1 _ _ _ =>
      obtain ⟨_,p,c,e,_⟩ := h1
      exact ⟨_,_,_,e⟩
    have hbA : Bw (fun z => w.heap.size ≤ z ∧ z < w9.heap.size ∧ z ≠ b6 ∧ z ≠ b8 ∧ (Value.slice pc nc cc).ownBlock ≠ some z) w9 w30 := (Bw.of hx fun z hz => hz.2.1).trans (hb30.sub fun z hz => ⟨by omega,by omega⟩)
    refine Qb.alt1 (i := 6) (by kernel_rfl) ?_
    refine ⟨_,_,rfl,rfl,trivial,w_buildSlice (bs23_1 _ _ _ _ _) rfl,rfl,fun _ _ hr => by obtain ⟨_,_,_,hr,_⟩ := hr; exact ⟨hv8.ext hr,hv3.ext hr⟩,?_⟩
    rintro _ w31 ⟨b43,rfl,q43,hx31,hv43⟩
    have l31 := hx31.le
    replace hrow := own_ext hrow hx31
    replace hv8 := hv8.ext hx31
    replace hv3 := hv3.ext hx31
    replace hv6 := hv6.ext hx31
    replace hvl2 := hvl2.ext hx31
    refine Qb.bar (fun _ => True) 7 10 rfl (by kernel_rfl) rfl trivial (w_appendO (size := 3) Tryz.underlying23 hi25 hz25 hsi25 hby25 rfl rfl rfl ⟨hrow.1,hrow.2.imp id fun ⟨g,cap,cur,e1,e2,e3⟩ => ⟨g,cap,cur,e1,Nat.zero_le _,e3⟩⟩ (slc_var hv43 rfl) (by intro u hu; simp at hu; rcases hu with rfl | rfl | rfl <;> rfl) (by decide) (by unfold maxLen; omega) (by omega)) rfl (fun _ _ _ => trivial) ?_
    rintro v44 w44 hap
    have hb44 : Bw (fun z => z < w31.heap.size ∧ (Value.slice pc nc cc).ownBlock ≠ some z) w31 w44 := by
     obtain ⟨g,cap,sp,e1,e2,e3,e4,e5,e6⟩ := hap
     rcases e6 with ⟨⟨c,e7⟩,e8⟩ | ⟨e7,e8⟩
     ·exact Bw.upd e8 fun hh => hh.2 (by rw [e7]; rfl)
     ·exact Bw.of e8 fun z hz => hz.1
    have l44 := hb44.size
    have hrow44 : w44.ownsRow w.heap.size 25 3 v44 (k + 1) (encs Gt.cells (gs ++ [.mk gk1 gk2 (.slice gp gn gcc) gks])) := by
     obtain ⟨g,cap,sp,e1,e2,e3,e4,e5,e6⟩ := hap
     rw [e1]
     refine whole_ownG ?_ (by rw [encs_len Gt.len,List.length_append,hgl]; rfl) e2 e3 e4 ?_
     ·rcases e6 with ⟨⟨c,e7⟩,e8⟩ | ⟨e7,e8⟩
      ·exact own_ge hrow (by rw [e7]; rfl)
      ·omega
     ·rw [encs_app]
      exact e5
    have hv44f : ∀ z,v44.ownBlock = some z → (Value.slice pc nc cc).ownBlock = some z ∨ w31.heap.size ≤ z := fun z hz => by
     obtain ⟨g,cap,sp,e1,e2,e3,e4,e5,e6⟩ := hap
     rw [e1] at hz
     cases hz
     rcases e6 with ⟨⟨c,e7⟩,e8⟩ | ⟨e7,e8⟩
     ·exact .inl (by rw [e7]; rfl)
     ·exact .inr e7
    obtain ⟨p44,n44,c44,rfl⟩ : ∃ p n c,v44 = .slice p n c := by
     obtain ⟨g,cap,sp,e1,_⟩ := hap
     exact ⟨_,_,_,e1⟩
    clear hap
    replace hv8 := var_bw hv8 hb44 ⟨hv8.lt,fun e => (J.off _ e).2.2.1 rfl⟩
    replace hv3 := var_bw hv3 hb44 ⟨hv3.lt,fun e => (J.off _ e).1 rfl⟩
    replace hv6 := var_bw hv6 hb44 ⟨hv6.lt,fun e => (J.off _ e).2.1 rfl⟩
    replace hvl2 := var_bw hvl2 hb44 ⟨hvl2.lt,fun e => (J.off _ e).2.2.2 rfl⟩
    refine Qb.tameW (by kernel_rfl) 8 rfl (by kernel_rfl) trivial (tw_of fun wz => t_fieldAddr fa25_2 rfl) rfl ?_
    refine Qb.alt1 (i := 9) (by kernel_rfl) ?_
    refine ⟨_,_,rfl,rfl,trivial,w_putAt (cs := [.slice p44 n44 c44]) hv8 rfl rfl rfl ty23 (by simp only [List.length_cons,List.length_nil]; omega) (by intro u hu; simp at hu; subst hu; rfl),rfl,fun _ _ h => trivial,?_⟩
    rintro _ w45 ⟨hu45,hv8b⟩
    have l45 := hu45.size
    have hv8b : Var w45 b8 [.int .i64 nk,.string nt,.slice p44 n44 c44] 25 := hv8b
    have hoff44 : ∀ z,(Value.slice p44 n44 c44).ownBlock = some z → z ≠ b3 ∧ z ≠ b6 ∧ z ≠ b8 ∧ z ≠ bl := fun z hz => by
     rcases hv44f z hz with h | h
     ·exact J.off z h
     ·exact ⟨by omega,by omega,by omega,by omega⟩
    have hbB : Bw (fun z => (z < w31.heap.size ∧ (Value.slice pc nc cc).ownBlock ≠ some z) ∧ z ≠ b8) w31 w45 := (hb44.sub fun z hz => hz.1).trans (Bw.upd hu45 fun hh => hh.2 rfl)
    have hJ : BldI w bl b3 b6 b8 v c nk nt ks (k + 1) w45 (gs ++ [.mk gk1 gk2 (.slice gp gn gcc) gks]) (.slice p44 n44 c44) := by
     refine ⟨hv8b,own_bw hrow44 (Bw.upd (F := fun z => z ≠ b8) hu45 fun hh => hh rfl) fun z hz => (hoff44 z hz).2.2.1,fun g hg => ?_,?_,?_,hv3.upd hu45 (by omega),hv6.upd hu45 (by omega),?_,hoff44⟩
     ·rcases List.mem_append.1 hg with hg | hg
      ·refine ((J.ok g hg).bw (G := fun z => w.heap.size ≤ z ∧ z < w9.heap.size ∧ z ≠ b6 ∧ z ≠ b8 ∧ (Value.slice pc nc cc).ownBlock ≠ some z) (hbA.trans ((Bw.of hx31 fun z hz => by omega).trans (hbB.sub fun z hz => ⟨⟨by omega,hz.2.2.2.2⟩,hz.2.2.2.1⟩))) fun z hz => hz).mono fun z hz => ⟨hz.1,by omega,hz.2.2.1,hz.2.2.2.1,fun e => (hv44f z e).elim hz.2.2.2.2 fun h => by omega⟩
      ·obtain rfl : g = .mk gk1 gk2 (.slice gp gn gcc) gks := by simpa using hg
       have hcl2 : ∀ z,(Value.slice pc nc cc).ownBlock = some z → z < w9.heap.size := fun z hz => own_lt J.row hz
       have hlx := hxb.le
       refine (hgk.bw (G := fun z => w21.heap.size ≤ z ∧ z < w30.heap.size) ((Bw.of hx31 fun z hz => hz.2).trans (hbB.sub fun z hz => ⟨⟨by omega,fun e => by have := hcl2 z e; omega⟩,by omega⟩)) fun z hz => hz).mono fun z hz => ⟨by omega,by omega,by omega,by omega,fun e => (hv44f z e).elim (fun h => by have := hcl2 z h; omega) fun h => by omega⟩
     ·rw [erL_app,J.er,List.take_succ_eq_append_getElem hltK,← hge]
      rfl
     ·have := hvl2.upd hu45 (by omega)
      rw [hck]
      rw [show c - 1 - ((cntL (ks.take k) + ks[k].cnt : Nat) : Int) = c - 1 - cntL (ks.take k) - ks[k].cnt from by omega]
      exact this
     ·exact hbwF.trans ((Bw.of hxb fun z hz => by have := hz.1; omega).trans ((hb30.sub fun z hz => ⟨by have := hz.1; have := hxb.le; omega,hz.2⟩).trans ((Bw.of hx31 fun z hz => by have := hz.1; omega).trans (hbB.sub fun z hz => ⟨⟨by have := hz.1; omega,fun e => by have := own_ge J.row e; have := hz.1; omega⟩,by have := hz.1; omega⟩))))
    refine Qb.done (by kernel_rfl) ?_
    exact ⟨(),by repeat (first | exact .nil | refine .cons rfl ?_),_,_,hJ⟩
   ·rintro L' wF ⟨_,hs,gs',cvk',hJ⟩
    refine Wp.sub hs ?_
    clear hs
    refine Wp.region ?_
    first | refine .tq (t_addI rfl rfl (by omega)) rfl ?_ | refine .tq (t_add rfl rfl) rfl ?_
    refine .mv rfl rfl ?_
    refine .done ?_
    exact ⟨k + 1,by repeat (first | exact .nil | refine .cons rfl ?_),⟨hlt,gs',cvk',hJ⟩,by omega⟩
  ·obtain rfl : k = nis.length := by omega
   refine .sr ?_
   first | refine .tq (t_lssT rfl rfl (by omega)) rfl ?_ | refine .tq (t_lssF rfl rfl (by omega)) rfl ?_ | refine .tq (t_lss rfl rfl) rfl ?_
   refine .done ?_
   refine .seq ?_
   refine .condF rfl ?_
   refine Wp.exit ?_
   refine .sr ?_
   refine .tq (t_loadA rfl hv8.cells (by exact ty25)) rfl ?_
   refine Rg.wn trivial (w_put hv6 rfl rfl rfl ty25 rfl rfl) ?_
   rintro _ w50 ⟨hu50,hv6b⟩
   have l50 := hu50.size
   refine .done ?_
   refine Wp.ret ?_
   have hks : ks.take nis.length = ks := by rw [hlen,List.take_length]
   have her := J.er
   rw [hks] at her hvl
   refine ⟨[_],⟨⟨_,rfl,lv_agg hv6b ty25⟩,trivial⟩,.mk nk nt (.slice pc nc cc) gs,rfl,by rw [← her]; rfl,?_,?_,hbwF.trans (Bw.upd hu50 fun hh => by have := hh.1; omega)⟩
   ·refine .mk ?_ rfl (fun z hz => ⟨own_ge hrow hz,by have := own_lt hrow hz; omega⟩) fun g hg => ?_
    ·rw [hgl]
     exact own_slc (own_bw hrow (Bw.upd (F := fun z => z ≠ b6) hu50 fun hh => hh rfl) fun z hz => (J.off z hz).2.1)
    ·exact ((J.ok g hg).bw (G := fun z => w.heap.size ≤ z ∧ z < w9.heap.size ∧ z ≠ b6 ∧ z ≠ b8 ∧ (Value.slice pc nc cc).ownBlock ≠ some z) (Bw.upd hu50 fun hh => hh.2.2.1 rfl) fun z hz => hz).mono fun z hz => ⟨hz.1,by omega⟩
   ·have := hvl.upd hu50 (by omega)
    rw [show c - ((Tr.mk nk nt ks).cnt : Int) = c - 1 - cntL ks from by simp only [Tr.cnt]; omega]
    exact this
end Go.Proofs.YtcelfjbajdffkaaGreatDoor.Par
namespace Go.Proofs.YtcelfjbajdffkaaGreatDoor.Par
set_option maxRecDepth 20000
open Go.Gx Go.RowKit Go.Lib
open Lexi (Asc)
def TreeR (w : World) (t : Tr) (u : Value) (w' : World) : Prop := ∃ g : Gt,u = .tuple #[.agg g.cells.toArray,.int .i64 0] ∧ g.er = t ∧ GOk (Lo w') w' g ∧ Ext w w'
theorem treeG_ok {w : World} {v : Value} {a : List Gc} {t : Tr} {i : Nat} (hA : ArOk (Lo w) w v a) (hv : Valid (ers a)) (hl : a.length ≤ 4000) (hr : Rd (ers a) t i) (hc : t.cnt ≤ 4000) :
  Cl Tryz.prog 13 #[.agg #[v],.int .i64 i] w (TreeR w t) := by
 have hx := Ext.refl w
 have hone := hA.one
 have hs0 := hA.slc
 have hil := hr.lt
 rw [ers_len] at hil
 refine Cl.enter Tryz.func13 rfl Tryz.ntmps13 rfl rfl ?_
 refine .sr ?_
 refine Rg.wd trivial (w_boxed (cs := [v]) rfl rfl) rfl ?_
 rintro _ w11 ⟨b2,rfl,q2,hx11,hv2⟩
 replace hx := hx.ext hx11
 have h4g0 := hx.le
 refine Rg.wd trivial (w_new Tryz.zeroValue25 rfl) rfl ?_
 rintro _ w12 ⟨b4,rfl,q4,hx12,hv4⟩
 replace hx := hx.ext hx12
 replace hv2 := hv2.ext hx12
 have h2l := hv2.lt
 have h4l := hv4.lt
 refine .as rfl rfl ?_
 refine .done ?_
 refine .seq ?_
 refine .sr ?_
 refine .tq (t_loadA rfl hv2.cells (by exact ty32)) rfl ?_
 refine Rg.wd trivial (w_call Tryz.call15 rfl (validateA_ok (hA.ext hx) hv hl)) rfl ?_
 rintro _ w13 ⟨rfl,hx13⟩
 replace hx := hx.ext hx13
 replace hv2 := hv2.ext hx13
 replace hv4 := hv4.ext hx13
 refine .as rfl rfl ?_
 refine .done ?_
 refine .sr ?_
 refine .mv rfl rfl ?_
 refine .tq (t_neqF rfl rfl rfl) rfl ?_
 refine .done ?_
 refine .condF rfl ?_
 refine Wp.skip ?_
 refine .seq ?_
 refine .sr ?_
 refine .mv rfl rfl ?_
 refine .tq (t_lssF rfl rfl (by omega)) rfl ?_
 refine .mv rfl rfl ?_
 first | refine .gd (t_move rfl) rfl ?_ | refine .so rfl rfl ?_
 first | refine .gd (t_fieldAddr fa32_0 rfl) rfl ?_ | refine .so rfl rfl ?_
 refine .gd (t_load ty30 rfl (Cells.get (i := 0) hv2.cells rfl)) rfl ?_
 first | refine .gd (t_lenC hs0 Tryz.underlying30 rfl) rfl ?_ | refine .so rfl rfl ?_
 refine .gd (t_geqF rfl rfl (by omega)) rfl ?_
 first | refine .tq (t_pickT rfl rfl) rfl ?_ | refine .tq (t_pickF rfl rfl) rfl ?_
 refine .done ?_
 refine .condF rfl ?_
 refine Wp.skip ?_
 refine .sr ?_
 refine Rg.wd trivial (w_new Tryz.zeroValue3 rfl) rfl ?_
 rintro _ wa ⟨b7,rfl,q7,hxa,hva⟩
 refine Rg.wn trivial (w_put hva rfl rfl rfl ty3 rfl rfl) ?_
 rintro _ w7 ⟨hu7,hv7⟩
 have hx7 := hxa.upd hu7 (Nat.le_of_eq q7.symm)
 clear hva
 have h4l7 := hv4.lt
 have h2l7 := hv2.lt
 have hl7 := hx.le
 have l7 := hx7.le
 replace hx := hx.ext hx7
 replace hv2 := hv2.ext hx7
 replace hv4 := hv4.ext hx7
 refine .done ?_
 refine .sr ?_
 refine .tq (t_loadA rfl hv2.cells (by exact ty32)) rfl ?_
 refine .mv rfl rfl ?_
 refine Rg.wd trivial (w_call Tryz.call32 rfl (build_ok _ t (Nat.le_refl _) (Lo w) _ v a i b7 4000 (hA.ext hx) (fun z hz => ⟨Nat.lt_of_lt_of_le hz hx.le,by have hz : z < w.heap.size := hz; omega⟩) hr hv7 (by omega) (by decide))) rfl ?_
 rintro _ w8 ⟨g,rfl,hge,hgk,hv7b,hb8⟩
 have hx8 : Ext w w8 := Bw.ext (F := Lo w) hx (hb8.sub fun z hz => ⟨Nat.lt_of_lt_of_le hz hx.le,by have hz : z < w.heap.size := hz; omega⟩) fun z hz => hz
 have lx := hx.le
 have l8 := hb8.size
 replace hv4 := var_bw hv4 hb8 ⟨hv4.lt,by omega⟩
 clear hv7
 have hv7 := hv7b
 clear hv7b hx
 have hx := hx8
 clear hx8
 have hgk8 : GOk (fun z => z < w8.heap.size ∧ z ≠ b4) w8 g := hgk.mono fun z hz => ⟨hz.2,by omega⟩
 refine Rg.wd trivial (w_new Tryz.zeroValue25 rfl) rfl ?_
 rintro _ wb ⟨b8,rfl,q8,hxb,hvb⟩
 refine Rg.wn trivial (w_put (cs := g.cells) hvb rfl rfl rfl (by rw [Gt.len]; exact ty25) (by rw [Gt.len]; rfl) (List.all_eq_true.2 hgk.one)) ?_
 rintro _ w9 ⟨hu9,hv8⟩
 have hx9 := hxb.upd hu9 (Nat.le_of_eq q8.symm)
 clear hvb
 replace hx := hx.ext hx9
 replace hv4 := hv4.ext hx9
 replace hv7 := hv7.ext hx9
 have hgk9 := hgk8.bw (Bw.of hx9 fun z hz => hz.1) fun z hz => hz
 have l9 := hx9.le
 refine .done ?_
 refine .seq ?_
 refine .sr ?_
 refine .tq (t_load ty3 rfl (Cells.get (i := 0) hv7.cells rfl)) rfl ?_
 refine .tq (t_lssF rfl rfl (by omega)) rfl ?_
 refine .done ?_
 refine .condF rfl ?_
 refine Wp.skip ?_
 refine .sr ?_
 refine .tq (t_loadA rfl hv8.cells (by rw [Gt.len]; exact ty25)) rfl ?_
 refine Rg.wn trivial (w_put (cs := g.cells) hv4 rfl rfl rfl (by rw [Gt.len]; exact ty25) (by rw [Gt.len]; rfl) (List.all_eq_true.2 hgk.one)) ?_
 rintro _ w10 ⟨hu10,hv10⟩
 have l10 := hu10.size
 refine .as rfl rfl ?_
 refine .done ?_
 refine Wp.ret ?_
 refine ⟨[_,_],⟨⟨_,rfl,lv_agg hv10 (by rw [Gt.len]; exact ty25)⟩,rfl,trivial⟩,g,rfl,hge,(hgk9.bw (G := fun z => z < w8.heap.size ∧ z ≠ b4) (Bw.upd hu10 fun hh => hh.2 rfl) fun z hz => hz).mono fun z hz => by have := hz.1; show z < w10.heap.size; omega,hx.upd hu10 (by omega)⟩
theorem short_ok {w : World} {s : ByteArray} {n : Nat} : Cl Tryz.prog 11 #[.string s,.int .i64 n] w (fun u w' => u = .string (s.extract 0 (min s.size n)) ∧ Ext w w') := by
 have hx := Ext.refl w
 refine Cl.enter Tryz.func11 rfl Tryz.ntmps11 rfl rfl ?_
 refine .sr ?_
 refine .as rfl rfl ?_
 refine .done ?_
 refine .sr ?_
 refine .mv rfl rfl ?_
 refine .mv rfl rfl ?_
 refine .tq (t_len Tryz.underlying9 rfl) rfl ?_
 refine .mv rfl rfl ?_
 refine .tq (t_minI rfl rfl) rfl ?_
 rw [show min (s.size : Int) (n : Int) = ((min s.size n : Nat) : Int) from by omega]
 refine .tq (t_sliceS Tryz.underlying9 rfl rfl rfl (by omega)) rfl ?_
 refine .as rfl rfl ?_
 refine .done ?_
 refine Wp.ret ?_
 exact ⟨[_],⟨rfl,trivial⟩,rfl,hx⟩
def pairT : Tr := .mk 17 nob [.mk 103 ⟨#[97]⟩ [],.mk 103 ⟨#[97]⟩ []]
theorem pair_ok {w : World} : Cl Tryz.prog 23 #[] w (fun u w' => ∃ g : Gt,u = .agg g.cells.toArray ∧ g.er = pairT ∧ GOk (Lo w') w' g ∧ Ext w w') := by
 have hx := Ext.refl w
 refine Cl.enter Tryz.func23 rfl Tryz.ntmps23 rfl rfl ?_
 refine .sr ?_
 refine Rg.wd trivial (w_new Tryz.zeroValue25 rfl) rfl ?_
 rintro _ w11 ⟨b0,rfl,q0,hx11,hv0⟩
 replace hx := hx.ext hx11
 have h0l := hv0.lt
 refine .done ?_
 refine .sr ?_
 refine .tq (t_build (bd25_0_1 _ _) rfl) rfl ?_
 refine Rg.wd trivial (w_new Tryz.zeroValue25 rfl) rfl ?_
 rintro _ wa ⟨b1,rfl,q1,hxa,hva⟩
 refine Rg.wn trivial (w_put hva rfl rfl rfl ty25 rfl rfl) ?_
 rintro _ w2 ⟨hu2,hv1⟩
 have hx2 := hxa.upd hu2 (Nat.le_of_eq q1.symm)
 clear hva
 replace hx := hx.ext hx2
 replace hv0 := hv0.ext hx2
 refine .done ?_
 refine .sr ?_
 refine .tq (t_loadA rfl hv1.cells (by exact ty25)) rfl ?_
 refine .tq (t_loadA rfl hv1.cells (by exact ty25)) rfl ?_
 refine Rg.wd trivial (w_buildSlice (bs23_2 _ _ _ _ _ _ _ _ _ _) rfl) rfl ?_
 rintro _ w3 ⟨b5,rfl,q5,hx3,hv5⟩
 have h0l3 := hv0.lt
 replace hx := hx.ext hx3
 replace hv0 := hv0.ext hx3
 refine .tq (t_build (bd25_0_2 _ _ _ _) rfl) rfl ?_
 refine Rg.wn trivial (w_put hv0 rfl rfl rfl ty25 rfl rfl) ?_
 rintro _ w4 ⟨hu4,hv4⟩
 have l4 := hu4.size
 have hn5 : b5 ≠ b0 := by omega
 refine .done ?_
 refine Wp.ret ?_
 have hv5b := hv5.upd hu4 hn5
 have h5l := hv5b.lt
 have leaf : GOk (Lo w4) w4 (.mk 103 ⟨#[97]⟩ (.slice none 0 0) []) := .mk ⟨rfl,none,0,rfl,Nat.le_refl _,.inl rfl⟩ rfl (fun b hb => by cases hb) fun g hg => absurd hg List.not_mem_nil
 refine ⟨[_],⟨⟨_,rfl,lv_agg hv4 ty25⟩,trivial⟩,.mk 17 nob (.slice (some ⟨b5,0,none⟩) 2 2) [.mk 103 ⟨#[97]⟩ (.slice none 0 0) [],.mk 103 ⟨#[97]⟩ (.slice none 0 0) []],rfl,rfl,.mk (slc_var hv5b rfl) rfl (fun b hb => by cases hb; exact h5l) fun g hg => ?_,hx.upd hu4 (by omega)⟩
 simp only [List.mem_cons,List.not_mem_nil,or_false,or_self] at hg
 subst hg
 exact leaf
theorem sameTree_ok : ∀ (n : Nat) (g h : Gt),g.er.cnt ≤ n → g.er.cnt ≤ 1000000 → ∀ (w : World),GOk (Lo w) w g → GOk (Lo w) w h → Cl Tryz.prog 14 #[.agg g.cells.toArray,.agg h.cells.toArray] w (fun u w' => (∃ b,u = .bool b ∧ (b = true ↔ g.er = h.er)) ∧ Ext w w') := by
 intro n
 induction n with
 | zero =>
  intro g h hn
  cases g
  simp [Gt.er,Tr.cnt] at hn
 | succ n ih =>
  intro g h hn hc w hg hh
  obtain ⟨k1,t1,c1,l1⟩ := g
  obtain ⟨k2,t2,c2,l2⟩ := h
  cases hg with
  | mk hs1 h1 hb1 hk1 =>
   cases hh with
   | mk hs2 h2 hb2 hk2 =>
    simp only [Gt.er,Tr.cnt] at hn hc
    have hlenk := len_cntL (erL l1)
    rw [erL_len] at hlenk
    have hx := Ext.refl w
    by_cases e1 : k1 = k2
    ·by_cases e2 : t1 = t2
     ·by_cases e3 : l1.length = l2.length
      ·skip
       refine Cl.enter Tryz.func14 rfl Tryz.ntmps14 rfl rfl ?_
       have hs10 := hs1
       have hs20 := hs2
       refine .sr ?_
       refine Rg.wd trivial (w_boxed (cs := [.int .i64 k1,.string t1,c1]) rfl rfl) rfl ?_
       rintro _ w1 ⟨b2,rfl,q2,hx1,hv2⟩
       replace hx := hx.ext hx1
       refine Rg.wd trivial (w_boxed (cs := [.int .i64 k2,.string t2,c2]) rfl rfl) rfl ?_
       rintro _ w2 ⟨b3,rfl,q3,hx2,hv3⟩
       replace hx := hx.ext hx2
       replace hv2 := hv2.ext hx2
       refine .as rfl rfl ?_
       refine .done ?_
       refine .seq ?_
       refine .sr ?_
       refine .tq (t_fieldAddr fa25_0 rfl) rfl ?_
       refine .tq (t_load ty3 rfl (Cells.get (i := 0) hv2.cells rfl)) rfl ?_
       refine .tq (t_fieldAddr fa25_0 rfl) rfl ?_
       refine .tq (t_load ty3 rfl (Cells.get (i := 0) hv3.cells rfl)) rfl ?_
       refine .tq (t_neqF rfl rfl e1) rfl ?_
       refine .mv rfl rfl ?_
       first | refine .gd (t_fieldAddr fa25_1 rfl) rfl ?_ | refine .so rfl rfl ?_
       refine .gd (t_load ty9 rfl (Cells.get (i := 1) hv2.cells rfl)) rfl ?_
       first | refine .gd (t_fieldAddr fa25_1 rfl) rfl ?_ | refine .so rfl rfl ?_
       refine .gd (t_load ty9 rfl (Cells.get (i := 1) hv3.cells rfl)) rfl ?_
       refine .gd (t_sneqF rfl rfl e2) rfl ?_
       refine .tq (t_pickF rfl rfl) rfl ?_
       refine .mv rfl rfl ?_
       first | refine .gd (t_fieldAddr fa25_2 rfl) rfl ?_ | refine .so rfl rfl ?_
       refine .gd (t_load ty23 rfl (Cells.get (i := 2) hv2.cells rfl)) rfl ?_
       first | refine .gd (t_lenC hs10 Tryz.underlying23 rfl) rfl ?_ | refine .so rfl rfl ?_
       first | refine .gd (t_fieldAddr fa25_2 rfl) rfl ?_ | refine .so rfl rfl ?_
       refine .gd (t_load ty23 rfl (Cells.get (i := 2) hv3.cells rfl)) rfl ?_
       first | refine .gd (t_lenC hs20 Tryz.underlying23 rfl) rfl ?_ | refine .so rfl rfl ?_
       refine .gd (t_neqF rfl rfl (by omega)) rfl ?_
       refine .tq (t_pickF rfl rfl) rfl ?_
       refine .done ?_
       refine .condF rfl ?_
       refine Wp.skip ?_
       refine .seq ?_
       refine .sr ?_
       refine .tq (t_fieldAddr fa25_2 rfl) rfl ?_
       refine .tq (t_load ty23 rfl (Cells.get (i := 2) hv2.cells rfl)) rfl ?_
       refine .tq (t_lenC hs10 Tryz.underlying23 rfl) rfl ?_
       refine .mv rfl rfl ?_
       refine .done ?_
       refine Wp.block ?_
       refine Wp.loop (ι := Nat) (fun k => [(2,.pointer (some ⟨b2,0,none⟩)),(3,.pointer (some ⟨b3,0,none⟩)),(29,.int .i64 l1.length),(30,.int .i64 k)])
        (fun k w' => k ≤ l1.length ∧ (erL l1).take k = (erL l2).take k ∧ Ext w w' ∧ Var w' b2 [.int .i64 k1,.string t1,c1] 25 ∧ Var w' b3 [.int .i64 k2,.string t2,c2] 25) (fun k => l1.length - k) 0 (by repeat (first | exact .nil | refine .cons rfl ?_)) ⟨Nat.zero_le _,rfl,hx,hv2,hv3⟩ ?_
       clear hx hv2 hv3
       rintro k w9 ⟨hk,he,hx,hv2,hv3⟩
       by_cases hlt : k < l1.length
       ·have hlt2 : k < l2.length := by omega
        have hltE : k < (erL l1).length := by rw [erL_len]; exact hlt
        have hltE2 : k < (erL l2).length := by rw [erL_len]; exact hlt2
        have hem := erL_at l1 k hlt
        have hem2 := erL_at l2 k hlt2
        have hcm := cntL_mem (List.getElem_mem hltE)
        rw [hem] at hcm
        by_cases heq : l1[k].er = l2[k].er
        ·skip
         refine .sr ?_
         first | refine .tq (t_lssT rfl rfl (by omega)) rfl ?_ | refine .tq (t_lssF rfl rfl (by omega)) rfl ?_ | refine .tq (t_lss rfl rfl) rfl ?_
         refine .done ?_
         refine .seq ?_
         refine .condT rfl ?_
         refine Wp.skip ?_
         refine .seq ?_
         refine Wp.block ?_
         refine .sr ?_
         refine .mv rfl rfl ?_
         refine .as rfl rfl ?_
         refine .done ?_
         refine Wp.seq (Wp.draw [0,1,2,3,4,5,6,7,8,9,10,11] [] mixed (by kernel_rfl) (by kernel_rfl) ?_)
         intro w21 hx21 _
         replace hx := hx.ext hx21
         replace hv2 := hv2.ext hx21
         replace hv3 := hv3.ext hx21
         refine .tq (t_fieldAddr fa25_2 rfl) rfl ?_
         refine .tq (t_load ty23 rfl (Cells.get (i := 2) hv2.cells rfl)) rfl ?_
         refine .mv rfl rfl ?_
         refine Rg.ix hs10 trivial rfl rfl Tryz.underlying23 ty25 (by omega) rfl ?_
         intro bt36 ot36 ht36
         replace ht36 := ht36.ext hx
         rw [Int.toNat_natCast,encs_at Gt.len l1 k hlt] at ht36
         refine .tq (t_loadA rfl ht36 (by rw [Gt.len]; exact ty25)) rfl ?_
         refine .tq (t_fieldAddr fa25_2 rfl) rfl ?_
         refine .tq (t_load ty23 rfl (Cells.get (i := 2) hv3.cells rfl)) rfl ?_
         refine .mv rfl rfl ?_
         refine Rg.ix hs20 trivial rfl rfl Tryz.underlying23 ty25 (by omega) rfl ?_
         intro bt41 ot41 ht41
         replace ht41 := ht41.ext hx
         rw [Int.toNat_natCast,encs_at Gt.len l2 k hlt2] at ht41
         refine .tq (t_loadA rfl ht41 (by rw [Gt.len]; exact ty25)) rfl ?_
         refine Rg.wdB trivial rfl (w_call Tryz.call14 rfl (ih l1[k] l2[k] (by omega) (by omega) _ (((hk1 _ (List.getElem_mem hlt)).bw (Bw.of hx fun z hz => hz) fun z hz => hz).mono fun z hz => Nat.lt_of_lt_of_le hz hx.le) (((hk2 _ (List.getElem_mem hlt2)).bw (Bw.of hx fun z hz => hz) fun z hz => hz).mono fun z hz => Nat.lt_of_lt_of_le hz hx.le))) rfl (fun _ _ h => h.2) ?_
         rintro _ w22 ⟨⟨bb,rfl,hbb⟩,hx22⟩
         replace hx := hx.ext hx22
         replace hv2 := hv2.ext hx22
         replace hv3 := hv3.ext hx22
         replace ht36 := ht36.ext hx22
         replace ht41 := ht41.ext hx22
         obtain rfl : bb = true := by
          exact hbb.2 heq
         refine .tq (t_notB rfl) rfl ?_
         refine .done ?_
         refine .condF rfl ?_
         refine Wp.skip ?_
         refine Wp.region ?_
         first | refine .tq (t_addI rfl rfl (by omega)) rfl ?_ | refine .tq (t_add rfl rfl) rfl ?_
         refine .mv rfl rfl ?_
         refine .done ?_
         exact ⟨k + 1,by repeat (first | exact .nil | refine .cons rfl ?_),⟨hlt,by rw [List.take_succ_eq_append_getElem hltE,List.take_succ_eq_append_getElem hltE2,he,hem,hem2,heq],hx,hv2,hv3⟩,by omega⟩
        ·skip
         refine .sr ?_
         first | refine .tq (t_lssT rfl rfl (by omega)) rfl ?_ | refine .tq (t_lssF rfl rfl (by omega)) rfl ?_ | refine .tq (t_lss rfl rfl) rfl ?_
         refine .done ?_
         refine .seq ?_
         refine .condT rfl ?_
         refine Wp.skip ?_
         refine .seq ?_
         refine Wp.block ?_
         refine .sr ?_
         refine .mv rfl rfl ?_
         refine .as rfl rfl ?_
         refine .done ?_
         refine Wp.seq (Wp.draw [0,1,2,3,4,5,6,7,8,9,10,11] [] mixed (by kernel_rfl) (by kernel_rfl) ?_)
         intro w21 hx21 _
         replace hx := hx.ext hx21
         replace hv2 := hv2.ext hx21
         replace hv3 := hv3.ext hx21
         refine .tq (t_fieldAddr fa25_2 rfl) rfl ?_
         refine .tq (t_load ty23 rfl (Cells.get (i := 2) hv2.cells rfl)) rfl ?_
         refine .mv rfl rfl ?_
         refine Rg.ix hs10 trivial rfl rfl Tryz.underlying23 ty25 (by omega) rfl ?_
         intro bt36 ot36 ht36
         replace ht36 := ht36.ext hx
         rw [Int.toNat_natCast,encs_at Gt.len l1 k hlt] at ht36
         refine .tq (t_loadA rfl ht36 (by rw [Gt.len]; exact ty25)) rfl ?_
         refine .tq (t_fieldAddr fa25_2 rfl) rfl ?_
         refine .tq (t_load ty23 rfl (Cells.get (i := 2) hv3.cells rfl)) rfl ?_
         refine .mv rfl rfl ?_
         refine Rg.ix hs20 trivial rfl rfl Tryz.underlying23 ty25 (by omega) rfl ?_
         intro bt41 ot41 ht41
         replace ht41 := ht41.ext hx
         rw [Int.toNat_natCast,encs_at Gt.len l2 k hlt2] at ht41
         refine .tq (t_loadA rfl ht41 (by rw [Gt.len]; exact ty25)) rfl ?_
         refine Rg.wdB trivial rfl (w_call Tryz.call14 rfl (ih l1[k] l2[k] (by omega) (by omega) _ (((hk1 _ (List.getElem_mem hlt)).bw (Bw.of hx fun z hz => hz) fun z hz => hz).mono fun z hz => Nat.lt_of_lt_of_le hz hx.le) (((hk2 _ (List.getElem_mem hlt2)).bw (Bw.of hx fun z hz => hz) fun z hz => hz).mono fun z hz => Nat.lt_of_lt_of_le hz hx.le))) rfl (fun _ _ h => h.2) ?_
         rintro _ w22 ⟨⟨bb,rfl,hbb⟩,hx22⟩
         replace hx := hx.ext hx22
         replace hv2 := hv2.ext hx22
         replace hv3 := hv3.ext hx22
         replace ht36 := ht36.ext hx22
         replace ht41 := ht41.ext hx22
         obtain rfl : bb = false := by
          cases bb
          ·rfl
          ·exact absurd (hbb.1 rfl) heq
         refine .tq (t_notB rfl) rfl ?_
         refine .done ?_
         refine .condT rfl ?_
         refine .sr ?_
         refine .as rfl rfl ?_
         refine .done ?_
         refine Wp.ret ?_
         refine ⟨[_],⟨rfl,trivial⟩,⟨false,rfl,⟨fun e => by (cases e),fun e => ?_⟩⟩,hx⟩
         injection e with _ _ e
         exact absurd (by rw [← hem,← hem2]; simp only [e]) heq
       ·skip
        refine .sr ?_
        first | refine .tq (t_lssT rfl rfl (by omega)) rfl ?_ | refine .tq (t_lssF rfl rfl (by omega)) rfl ?_ | refine .tq (t_lss rfl rfl) rfl ?_
        refine .done ?_
        refine .seq ?_
        refine .condF rfl ?_
        refine Wp.exit ?_
        refine .sr ?_
        refine .as rfl rfl ?_
        refine .done ?_
        refine Wp.ret ?_
        refine ⟨[_],⟨rfl,trivial⟩,⟨true,rfl,⟨fun _ => ?_,fun _ => rfl⟩⟩,hx⟩
        have hkl : k = (erL l1).length := by rw [erL_len]; omega
        rw [hkl,List.take_length,show (erL l1).length = (erL l2).length from by rw [erL_len,erL_len,e3],List.take_length] at he
        simp only [Gt.er,e1,e2,he]
      ·skip
       refine Cl.enter Tryz.func14 rfl Tryz.ntmps14 rfl rfl ?_
       have hs10 := hs1
       have hs20 := hs2
       refine .sr ?_
       refine Rg.wd trivial (w_boxed (cs := [.int .i64 k1,.string t1,c1]) rfl rfl) rfl ?_
       rintro _ w1 ⟨b2,rfl,q2,hx1,hv2⟩
       replace hx := hx.ext hx1
       refine Rg.wd trivial (w_boxed (cs := [.int .i64 k2,.string t2,c2]) rfl rfl) rfl ?_
       rintro _ w2 ⟨b3,rfl,q3,hx2,hv3⟩
       replace hx := hx.ext hx2
       replace hv2 := hv2.ext hx2
       refine .as rfl rfl ?_
       refine .done ?_
       refine .seq ?_
       refine .sr ?_
       refine .tq (t_fieldAddr fa25_0 rfl) rfl ?_
       refine .tq (t_load ty3 rfl (Cells.get (i := 0) hv2.cells rfl)) rfl ?_
       refine .tq (t_fieldAddr fa25_0 rfl) rfl ?_
       refine .tq (t_load ty3 rfl (Cells.get (i := 0) hv3.cells rfl)) rfl ?_
       refine .tq (t_neqF rfl rfl e1) rfl ?_
       refine .mv rfl rfl ?_
       first | refine .gd (t_fieldAddr fa25_1 rfl) rfl ?_ | refine .so rfl rfl ?_
       refine .gd (t_load ty9 rfl (Cells.get (i := 1) hv2.cells rfl)) rfl ?_
       first | refine .gd (t_fieldAddr fa25_1 rfl) rfl ?_ | refine .so rfl rfl ?_
       refine .gd (t_load ty9 rfl (Cells.get (i := 1) hv3.cells rfl)) rfl ?_
       refine .gd (t_sneqF rfl rfl e2) rfl ?_
       refine .tq (t_pickF rfl rfl) rfl ?_
       refine .mv rfl rfl ?_
       first | refine .gd (t_fieldAddr fa25_2 rfl) rfl ?_ | refine .so rfl rfl ?_
       refine .gd (t_load ty23 rfl (Cells.get (i := 2) hv2.cells rfl)) rfl ?_
       first | refine .gd (t_lenC hs10 Tryz.underlying23 rfl) rfl ?_ | refine .so rfl rfl ?_
       first | refine .gd (t_fieldAddr fa25_2 rfl) rfl ?_ | refine .so rfl rfl ?_
       refine .gd (t_load ty23 rfl (Cells.get (i := 2) hv3.cells rfl)) rfl ?_
       first | refine .gd (t_lenC hs20 Tryz.underlying23 rfl) rfl ?_ | refine .so rfl rfl ?_
       refine .gd (t_neqT rfl rfl (by omega)) rfl ?_
       refine .tq (t_pickF rfl rfl) rfl ?_
       refine .done ?_
       refine .condT rfl ?_
       refine .sr ?_
       refine .as rfl rfl ?_
       refine .done ?_
       refine Wp.ret ?_
       refine ⟨[_],⟨rfl,trivial⟩,⟨false,rfl,⟨fun e => by (cases e),fun e => ?_⟩⟩,hx⟩
       refine absurd ?_ e3
       injection e with _ _ e
       rw [← erL_len,e,erL_len]
     ·skip
      refine Cl.enter Tryz.func14 rfl Tryz.ntmps14 rfl rfl ?_
      refine .sr ?_
      refine Rg.wd trivial (w_boxed (cs := [.int .i64 k1,.string t1,c1]) rfl rfl) rfl ?_
      rintro _ w1 ⟨b2,rfl,q2,hx1,hv2⟩
      replace hx := hx.ext hx1
      refine Rg.wd trivial (w_boxed (cs := [.int .i64 k2,.string t2,c2]) rfl rfl) rfl ?_
      rintro _ w2 ⟨b3,rfl,q3,hx2,hv3⟩
      replace hx := hx.ext hx2
      replace hv2 := hv2.ext hx2
      refine .as rfl rfl ?_
      refine .done ?_
      refine .seq ?_
      refine .sr ?_
      refine .tq (t_fieldAddr fa25_0 rfl) rfl ?_
      refine .tq (t_load ty3 rfl (Cells.get (i := 0) hv2.cells rfl)) rfl ?_
      refine .tq (t_fieldAddr fa25_0 rfl) rfl ?_
      refine .tq (t_load ty3 rfl (Cells.get (i := 0) hv3.cells rfl)) rfl ?_
      refine .tq (t_neqF rfl rfl e1) rfl ?_
      refine .mv rfl rfl ?_
      first | refine .gd (t_fieldAddr fa25_1 rfl) rfl ?_ | refine .so rfl rfl ?_
      refine .gd (t_load ty9 rfl (Cells.get (i := 1) hv2.cells rfl)) rfl ?_
      first | refine .gd (t_fieldAddr fa25_1 rfl) rfl ?_ | refine .so rfl rfl ?_
      refine .gd (t_load ty9 rfl (Cells.get (i := 1) hv3.cells rfl)) rfl ?_
      refine .gd (t_sneqT rfl rfl e2) rfl ?_
      refine .tq (t_pickF rfl rfl) rfl ?_
      refine .mv rfl rfl ?_
      refine .so rfl rfl ?_
      refine .so rfl rfl ?_
      refine .so rfl rfl ?_
      refine .so rfl rfl ?_
      refine .so rfl rfl ?_
      refine .so rfl rfl ?_
      refine .so rfl rfl ?_
      refine .tq (t_pickT rfl rfl) rfl ?_
      refine .done ?_
      refine .condT rfl ?_
      refine .sr ?_
      refine .as rfl rfl ?_
      refine .done ?_
      refine Wp.ret ?_
      refine ⟨[_],⟨rfl,trivial⟩,⟨false,rfl,⟨fun e => by (cases e),fun e => ?_⟩⟩,hx⟩
      exact absurd (by injection e) e2
    ·skip
     refine Cl.enter Tryz.func14 rfl Tryz.ntmps14 rfl rfl ?_
     refine .sr ?_
     refine Rg.wd trivial (w_boxed (cs := [.int .i64 k1,.string t1,c1]) rfl rfl) rfl ?_
     rintro _ w1 ⟨b2,rfl,q2,hx1,hv2⟩
     replace hx := hx.ext hx1
     refine Rg.wd trivial (w_boxed (cs := [.int .i64 k2,.string t2,c2]) rfl rfl) rfl ?_
     rintro _ w2 ⟨b3,rfl,q3,hx2,hv3⟩
     replace hx := hx.ext hx2
     replace hv2 := hv2.ext hx2
     refine .as rfl rfl ?_
     refine .done ?_
     refine .seq ?_
     refine .sr ?_
     refine .tq (t_fieldAddr fa25_0 rfl) rfl ?_
     refine .tq (t_load ty3 rfl (Cells.get (i := 0) hv2.cells rfl)) rfl ?_
     refine .tq (t_fieldAddr fa25_0 rfl) rfl ?_
     refine .tq (t_load ty3 rfl (Cells.get (i := 0) hv3.cells rfl)) rfl ?_
     refine .tq (t_neqT rfl rfl e1) rfl ?_
     refine .mv rfl rfl ?_
     refine .so rfl rfl ?_
     refine .so rfl rfl ?_
     refine .so rfl rfl ?_
     refine .so rfl rfl ?_
     refine .so rfl rfl ?_
     refine .tq (t_pickT rfl rfl) rfl ?_
     refine .mv rfl rfl ?_
     refine .so rfl rfl ?_
     refine .so rfl rfl ?_
     refine .so rfl rfl ?_
     refine .so rfl rfl ?_
     refine .so rfl rfl ?_
     refine .so rfl rfl ?_
     refine .so rfl rfl ?_
     refine .tq (t_pickT rfl rfl) rfl ?_
     refine .done ?_
     refine .condT rfl ?_
     refine .sr ?_
     refine .as rfl rfl ?_
     refine .done ?_
     refine Wp.ret ?_
     refine ⟨[_],⟨rfl,trivial⟩,⟨false,rfl,⟨fun e => by (cases e),fun e => ?_⟩⟩,hx⟩
     exact absurd (by injection e) e1
end Go.Proofs.YtcelfjbajdffkaaGreatDoor.Par
