/- Tokens as plain data: white space or a comment put between two tokens. No program. -/
import Derived.Test.YtiogccmfmjhipaaGreatDoorXb
import Derived.Test.YtiogccmfmjhipaaGreatDoorXi
set_option linter.unusedVariables false
set_option linter.unusedSimpArgs false
namespace Go.Proofs.YtiogccmfmjhipaaGreatDoor.Lexi
theorem two_second {x : ByteArray} (h : isTwo x = true) : bt x 1 = 58 ∨ bt x 1 = 62 ∨ bt x 1 = 61 ∨ bt x 1 = 38 ∨ bt x 1 = 124 := by
 have key : ∀ (l : List ByteArray),(∀ y ∈ l,bt y 1 = 58 ∨ bt y 1 = 62 ∨ bt y 1 = 61 ∨ bt y 1 = 38 ∨ bt y 1 = 124) → ∀ i,0 ≤ Lib.idxFromS l x i → bt x 1 = 58 ∨ bt x 1 = 62 ∨ bt x 1 = 61 ∨ bt x 1 = 38 ∨ bt x 1 = 124 := by
  intro l
  induction l with
  | nil => intro _ i hi; simp [Lib.idxFromS] at hi
  | cons y l ih =>
   intro hl i hi
   simp only [Lib.idxFromS] at hi
   split at hi
   ·rename_i he
    have : x = y := by simpa [eq_comm] using he
    rw [this]
    exact hl y List.mem_cons_self
   ·exact ih (fun z hz => hl z (List.mem_cons_of_mem _ hz)) _ hi
 have h2 : 0 ≤ Lib.idxFromS twoList x 0 := by
  unfold isTwo Lib.containsS Lib.idxOfS at h
  simpa using h
 refine key twoList ?_ 0 h2
 decide
theorem tok_sep {s t : ByteArray} (h : 0 < s.size) (k1 : (tok s).2 ≠ 101) (k2 : (tok s).2 ≠ 102) (k8 : (tok s).2 ≠ 108) (hn : (tok s).1 ≤ t.size) (ht : ∀ i,i < (tok s).1 → bt t i = bt s i)
  (he : (tok s).1 < t.size → bt t (tok s).1 = 32 ∨ bt t (tok s).1 = 9 ∨ bt t (tok s).1 = 10) : tok t = tok s := by
 have hin := tok_in h
 have tpos : 0 < t.size := by omega
 have e0 : bt t 0 = bt s 0 := ht 0 (by omega)
 have z0 : bz t 0 = bz s 0 := by rw [bz_in tpos,bz_in h,e0]
 have c1 : ¬ isSp (bt s 0) = true := fun c => k1 (by rw [tok_sp c])
 have c2 : ¬ (bz s 0 = 47 ∧ bz s 1 = 47) := fun c => k2 (by unfold tok; rw [if_neg c1,if_pos c])
 have ends : ∀ p : Int → Bool,p 32 = false → p 9 = false → p 10 = false → scan p s 0 = (tok s).1 → scan p t 0 = (tok s).1 := fun p p1 p2 p3 e => by
  obtain ⟨a1,a2,a3,a4⟩ := scan_spec p s 0
  refine scan_unique (Nat.zero_le _) hn (fun k _ hk => ?_) fun hk => ?_
  ·rw [ht k hk]; exact a3 k (Nat.zero_le _) (by omega)
  ·rcases he hk with e | e | e <;> rw [e] <;> assumption
 have ee : t.extract 0 (tok s).1 = s.extract 0 (tok s).1 := ext_eq hin.2 hn ht
 have c2t : (bz s 0 = 47 → (tok s).1 = 1 ∨ 1 < (tok s).1) → ¬ (bz t 0 = 47 ∧ bz t 1 = 47) := fun _ hc => by
  by_cases h1 : 1 < (tok s).1
  ·have : bz t 1 = bz s 1 := by rw [bz_in (by omega),bz_in (by omega),ht 1 h1]
   exact c2 ⟨by rw [← z0]; exact hc.1,by rw [← this]; exact hc.2⟩
  ·have h1 : (tok s).1 = 1 := by omega
   rw [h1] at he
   have hb := hc.2
   have hlt : 1 < t.size := bz_lt (by rw [hb]; decide)
   rw [bz_in hlt] at hb
   rcases he hlt with e | e | e <;> rw [e] at hb <;> exact absurd hb (by decide)
 have c2' := c2t fun _ => by omega
 by_cases c3 : isLt (bt s 0) = true
 ·have e : tok s = (scan isId s 0,if isKw (s.extract 0 (scan isId s 0)) then 104 else 103) := by unfold tok; rw [if_neg c1,if_neg c2,if_pos c3]
  have es := ends isId rfl rfl rfl (by rw [e])
  have et : tok t = (scan isId t 0,if isKw (t.extract 0 (scan isId t 0)) then 104 else 103) := by unfold tok; rw [e0,if_neg c1,if_neg c2',if_pos c3]
  rw [et,es,ee]
  have : (tok s).1 = scan isId s 0 := by rw [e]
  rw [this]
  exact e.symm
 by_cases c4 : isDg (bt s 0) = true
 ·have e : tok s = (scan isDg s 0,105) := by unfold tok; rw [if_neg c1,if_neg c2,if_neg c3,if_pos c4]
  have es := ends isDg rfl rfl rfl (by rw [e])
  have et : tok t = (scan isDg t 0,105) := by unfold tok; rw [e0,if_neg c1,if_neg c2',if_neg c3,if_pos c4]
  rw [et,es]
  have : (tok s).1 = scan isDg s 0 := by rw [e]
  rw [this]
  exact e.symm
 by_cases c5 : bt s 0 = 34
 ·have e : tok s = (match str s 1 with | some j => (j,106) | none => (scan noNl s 1,108)) := by unfold tok; rw [if_neg c1,if_neg c2,if_neg c3,if_neg c4,if_pos c5]; rfl
  have e' : tok t = (match str t 1 with | some j => (j,106) | none => (scan noNl t 1,108)) := by unfold tok; rw [e0,if_neg c1,if_neg c2',if_neg c3,if_neg c4,if_pos c5]; rfl
  cases hs : str s 1 with
  | some j =>
   rw [hs] at e
   simp only at e
   rw [e] at ht hn
   simp only at ht hn
   obtain ⟨a1,a2,a3⟩ := strN_some _ _ _ hs
   have a4 : str t 1 = some j := a3 t _ (by omega) (fun k hk => by rw [bz_in (by omega),bz_in (by omega),ht k hk])
   rw [e',a4,e]
  | none =>
   rw [hs] at e
   exact absurd (by rw [e]) k8
 by_cases c6 : bz s 1 ≠ 10 ∧ isTwo (s.extract 0 2)
 ·have e : tok s = (2,107) := by unfold tok; rw [if_neg c1,if_neg c2,if_neg c3,if_neg c4,if_neg c5,if_pos c6]
  rw [e] at ht hn ee
  simp only at ht hn ee
  have b1 := bz_lt c6.1
  have z1 : bz t 1 = bz s 1 := by rw [bz_in (by omega),bz_in (by omega),ht 1 (by omega)]
  rw [e]
  unfold tok
  rw [e0,if_neg c1,if_neg c2',if_neg c3,if_neg c4,if_neg c5,if_pos (by rw [z1,ee]; exact c6)]
 have c7 : isOne (bt s 0) = true := by
  cases hc : isOne (bt s 0) with
  | true => rfl
  | false => exact absurd (by unfold tok; rw [if_neg c1,if_neg c2,if_neg c3,if_neg c4,if_neg c5,if_neg c6,hc]; rfl) k8
 have e : tok s = (1,107) := by unfold tok; rw [if_neg c1,if_neg c2,if_neg c3,if_neg c4,if_neg c5,if_neg c6,if_pos c7]
 have c6t : ¬ (bz t 1 ≠ 10 ∧ isTwo (t.extract 0 2) = true) := fun hc => by
  rw [e] at he
  simp only at he
  have hlt := bz_lt hc.1
  have h2 := two_second hc.2
  have : bt (t.extract 0 2) 1 = bt t 1 := by
   unfold bt
   rw [list_cut,List.drop_zero,List.getD_eq_getElem?_getD,List.getD_eq_getElem?_getD,List.getElem?_take,if_pos (by omega)]
  rw [this] at h2
  rcases he hlt with e | e | e <;> rw [e] at h2 <;> exact absurd h2 (by decide)
 rw [e]
 unfold tok
 rw [e0,if_neg c1,if_neg c2',if_neg c3,if_neg c4,if_neg c5,if_neg c6t,if_pos c7]
theorem run_sp {a c b : ByteArray} (hc : c.size = 1) (hs : isSp (bt c 0) = true) (h : ∀ i,i < a.size → isSp (bt a i) = true) : scan isSp (a ++ c ++ b) 0 = a.size + (1 + scan isSp b 0) := by
 obtain ⟨k1,k2,k3,k4⟩ := scan_spec isSp b 0
 have k2 := k2 (Nat.zero_le _)
 have hsz : (a ++ c).size = a.size + 1 := by rw [ByteArray.size_append,hc]
 refine scan_unique (Nat.zero_le _) (by rw [ByteArray.size_append,hsz]; omega) (fun k _ hk => ?_) (fun hk => ?_)
 ·by_cases c1 : k < a.size
  ·rw [bt_app_l (by omega),bt_app_l c1]; exact h k c1
  ·by_cases c2 : k = a.size
   ·rw [bt_app_l (by omega),c2,show a.size = a.size + 0 from rfl,bt_app_r]; exact hs
   ·have : k = (a ++ c).size + (k - a.size - 1) := by omega
    rw [this,bt_app_r]
    exact k3 _ (Nat.zero_le _) (by omega)
 ·rw [ByteArray.size_append,hsz] at hk
  have : a.size + (1 + scan isSp b 0) = (a ++ c).size + scan isSp b 0 := by omega
  rw [this,bt_app_r]
  exact k4 (by omega)
def sgx (l : List (Int × ByteArray)) : List (Int × ByteArray) := l.filter fun t => !(t.1 == 101 || t.1 == 102)
theorem sgx_sig (l : List (Int × ByteArray)) : sgx l = (sig l).filter fun t => t.1 != 102 := by
 unfold sgx sig
 rw [List.filter_filter]
 congr 1
 funext t
 cases h1 : (t.1 == 101) <;> cases h2 : (t.1 == 102) <;> simp_all [bne]
theorem sgx_app (a b : List (Int × ByteArray)) : sgx (a ++ b) = sgx a ++ sgx b := List.filter_append ..
theorem sgx_cons (t : Int × ByteArray) (l : List (Int × ByteArray)) : sgx (t :: l) = sgx [t] ++ sgx l := sgx_app [t] l
theorem sgx_of_sig {a b : List (Int × ByteArray)} (h : sig a = sig b) : sgx a = sgx b := by rw [sgx_sig,sgx_sig,h]
theorem lead_sp {a c b : ByteArray} (hc : c.size = 1) (hs : isSp (bt c 0) = true) (h : ∀ i,i < a.size → isSp (bt a i) = true) : sig (toks (a ++ c ++ b)) = sig (toks b) := by
 have hsz : (a ++ c ++ b).size = a.size + 1 + b.size := by rw [ByteArray.size_append,ByteArray.size_append,hc]
 rw [← sig_lead b]
 refine sig_space (by omega) ?_ (run_sp hc hs h) ?_
 ·by_cases ha : 0 < a.size
  ·rw [bt_app_l (by rw [ByteArray.size_append]; omega),bt_app_l ha]; exact h 0 ha
  ·rw [bt_app_l (by rw [ByteArray.size_append,hc]; omega),show (0 : Nat) = a.size + 0 from by omega,bt_app_r]; exact hs
 ·rw [← Nat.add_assoc,show a.size + 1 = (a ++ c).size from by rw [ByteArray.size_append,hc],tail_past]
theorem sp_cases {c : Int} (h : c = 32 ∨ c = 9 ∨ c = 10) : isSp c = true := by rcases h with rfl | rfl | rfl <;> rfl
theorem spaced {c : ByteArray} (hc : c.size = 1) (hs : bt c 0 = 32 ∨ bt c 0 = 9 ∨ bt c 0 = 10) : ∀ (a b : ByteArray),(∀ t ∈ toks a,t.1 ≠ 108) → (∀ t,(toks a).getLast? = some t → t.1 = 102 → b.size = 0 ∨ bt b 0 = 10) →
  sgx (toks (a ++ c ++ b)) = sgx (toks a) ++ sgx (toks b) := fun a b => by
 have hsp := sp_cases hs
 revert a
 refine induct_size fun a ih hg hl => ?_
 have hsz : (a ++ c ++ b).size = a.size + 1 + b.size := by rw [ByteArray.size_append,ByteArray.size_append,hc]
 by_cases ha : a.size = 0
 ·rw [toks_nil ha]
  exact sgx_of_sig (lead_sp hc hsp fun i hi => by omega)
 ·have h0 : 0 < a.size := by omega
  have hin := tok_in h0
  have hrest : (a ++ c ++ b).extract (tok a).1 (a ++ c ++ b).size = a.extract (tok a).1 a.size ++ c ++ b := by
   rw [ByteArray.append_assoc,tail_app hin.2,ByteArray.append_assoc]
  have hhead : (a ++ c ++ b).extract 0 (tok a).1 = a.extract 0 (tok a).1 := by rw [ByteArray.append_assoc,head_app hin.2]
  have hbt : ∀ i,i < a.size → bt (a ++ c ++ b) i = bt a i := fun i hi => by rw [ByteArray.append_assoc,bt_app_l hi]
  have hmid : bt (a ++ c ++ b) a.size = bt c 0 := by
   rw [bt_app_l (by rw [ByteArray.size_append,hc]; omega),show a.size = a.size + 0 from rfl,bt_app_r]
  have hcons := toks_cons h0
  have hg0 : (tok a).2 ≠ 108 := hg _ (by rw [hcons]; exact List.mem_cons_self)
  -- the first token stays: go on
  have go : tok (a ++ c ++ b) = tok a → sgx (toks (a ++ c ++ b)) = sgx (toks a) ++ sgx (toks b) := fun e => by
   have hi := ih (a.extract (tok a).1 a.size) (by rw [size_tail]; omega) (fun t ht => hg t (by rw [hcons]; exact List.mem_cons_of_mem _ ht)) (fun t ht => by
    by_cases hr : (a.extract (tok a).1 a.size).size = 0
    ·rw [toks_nil hr] at ht; cases ht
    ·refine hl t ?_
     rw [hcons,List.getLast?_cons,ht]
     rfl)
   rw [toks_cons (s := a ++ c ++ b) (by omega),e,hhead,hrest,hcons,sgx_cons ((tok a).2,a.extract 0 (tok a).1) (toks (a.extract (tok a).1 a.size ++ c ++ b)),hi,sgx_cons ((tok a).2,a.extract 0 (tok a).1) (toks (a.extract (tok a).1 a.size)),List.append_assoc]
  by_cases hlt : (tok a).1 < a.size
  ·refine go ?_
   by_cases k1 : (tok a).2 = 101
   ·have c1 : isSp (bt a 0) = true := by
     cases hc1 : isSp (bt a 0) with
     | true => rfl
     | false => exact absurd k1 (tok_ns (by rw [hc1]; simp))
    have et := tok_sp c1
    obtain ⟨b1,b2,b3,b4⟩ := scan_spec isSp a 0
    rw [et] at hlt ⊢
    simp only at hlt
    rw [tok_sp (by rw [hbt 0 h0]; exact c1)]
    congr 1
    exact scan_unique (Nat.zero_le _) (by omega) (fun k x y => by rw [hbt k (by omega)]; exact b3 k x y) (fun _ => by rw [hbt _ hlt]; exact b4 hlt)
   ·exact tok_local h0 k1 fun i hi => by rw [bz_in (by omega),bz_in (by omega),hbt i (by omega)]
  ·have hfull : (tok a).1 = a.size := by omega
   have hsing : toks a = [((tok a).2,a)] := by
    rw [hcons,hfull,full,toks_nil (by rw [size_tail]; omega)]
   by_cases k1 : (tok a).2 = 101
   ·have c1 : isSp (bt a 0) = true := by
     cases hc1 : isSp (bt a 0) with
     | true => rfl
     | false => exact absurd k1 (tok_ns (by rw [hc1]; simp))
    have et := tok_sp c1
    obtain ⟨b1,b2,b3,b4⟩ := scan_spec isSp a 0
    rw [et] at hfull
    simp only at hfull
    rw [hsing]
    have e0 : sgx [((tok a).2,a)] = [] := by simp [sgx,k1]
    rw [e0,List.nil_append]
    exact sgx_of_sig (lead_sp hc hsp fun i hi => b3 i (Nat.zero_le _) (by omega))
   by_cases k2 : (tok a).2 = 102
   ·have hb := hl _ (by rw [hsing]; rfl) k2
    have e0 : sgx [((tok a).2,a)] = [] := by simp [sgx,k2]
    rw [hsing,e0,List.nil_append]
    -- a comment takes the byte,unless it is a line feed
    have c1 : ¬ isSp (bt a 0) = true := fun c => k1 (by rw [tok_sp c])
    have c2 : bz a 0 = 47 ∧ bz a 1 = 47 := by
     by_cases hc2 : bz a 0 = 47 ∧ bz a 1 = 47
     ·exact hc2
     ·exfalso
      revert k2
      unfold tok
      rw [if_neg c1,if_neg hc2]
      repeat' split
      all_goals simp
    have h1 : 1 < a.size := bz_lt (by rw [c2.2]; decide)
    have et : tok a = (scan noNl a 0,102) := by unfold tok; rw [if_neg c1,if_pos c2]
    rw [et] at hfull
    simp only at hfull
    obtain ⟨b1,b2,b3,b4⟩ := scan_spec noNl a 0
    have et' : tok (a ++ c ++ b) = (scan noNl (a ++ c ++ b) 0,102) := by
     unfold tok
     rw [hbt 0 h0,bz_in (show 0 < (a ++ c ++ b).size by omega),bz_in (show 1 < (a ++ c ++ b).size by omega),hbt 0 h0,hbt 1 h1,if_neg c1,← bz_in h0,← bz_in h1,if_pos c2]
    by_cases hnl : bt c 0 = 10
    ·have es : scan noNl (a ++ c ++ b) 0 = a.size := scan_unique (Nat.zero_le _) (by omega) (fun k _ hk => by rw [hbt k hk]; exact b3 k (Nat.zero_le _) (by omega)) (fun _ => by rw [hmid,hnl]; rfl)
     rw [toks_cons (by omega),et',es]
     have e1 : (a ++ c ++ b).extract a.size (a ++ c ++ b).size = c ++ b := by rw [ByteArray.append_assoc,show a.size = a.size + 0 from rfl,tail_past,full]
     rw [e1]
     rw [sgx_cons,show sgx [((102 : Int),(a ++ c ++ b).extract 0 a.size)] = [] from rfl,List.nil_append]
     have := lead_sp (a := ByteArray.empty) (b := b) hc hsp (fun i hi => absurd hi (by simp))
     rw [show ByteArray.empty ++ c ++ b = c ++ b from by rw [ByteArray.empty_append]] at this
     exact sgx_of_sig this
    ·have es : scan noNl (a ++ c ++ b) 0 = a.size + 1 := by
      refine scan_unique (Nat.zero_le _) (by omega) (fun k _ hk => ?_) (fun hk => ?_)
      ·by_cases hka : k < a.size
       ·rw [hbt k hka]; exact b3 k (Nat.zero_le _) (by omega)
       ·rw [show k = a.size from by omega,hmid]
        rcases hs with e | e | e
        ·rw [e]; rfl
        ·rw [e]; rfl
        ·exact absurd e hnl
      ·have e2 : bt (a ++ c ++ b) (a.size + 1) = bt b 0 := by
        rw [show a.size + 1 = (a ++ c).size + 0 from by rw [ByteArray.size_append,hc],bt_app_r]
       rw [e2]
       rcases hb with hb | hb
       ·omega
       ·rw [hb]; rfl
     rw [toks_cons (by omega),et',es]
     have e1 : (a ++ c ++ b).extract (a.size + 1) (a ++ c ++ b).size = b := by rw [show a.size + 1 = (a ++ c).size + 0 from by rw [ByteArray.size_append,hc],tail_past,full]
     rw [e1]
     rw [sgx_cons]
     rfl
   ·have e := tok_sep (t := a ++ c ++ b) h0 k1 k2 hg0 (by omega) (fun i hi => hbt i (by omega)) (fun _ => by rw [hfull,hmid]; exact hs)
    exact go e
theorem toks_take : ∀ (k : Nat) (s : ByteArray),(∀ t ∈ toks s,t.1 ≠ 108) → toks (catT ((toks s).take k)) = (toks s).take k
 | 0,s,_ => by rw [List.take_zero]; exact toks_nil rfl
 | k + 1,s,hg => by
  by_cases h : s.size = 0
  ·rw [toks_nil h,List.take_nil]; exact toks_nil rfl
  ·have h0 : 0 < s.size := by omega
   have hin := tok_in h0
   have hcons := toks_cons h0
   obtain ⟨r,hr⟩ : ∃ r,s.extract (tok s).1 s.size = r := ⟨_,rfl⟩
   have hgr : ∀ t ∈ toks r,t.1 ≠ 108 := fun t ht => hg t (by rw [hcons,hr]; exact List.mem_cons_of_mem _ ht)
   have ih := toks_take k r hgr
   have hg0 : (tok s).2 ≠ 108 := hg _ (by rw [hcons]; exact List.mem_cons_self)
   rw [hcons,hr,List.take_succ_cons,catT]
   obtain ⟨d,hd⟩ : ∃ d,catT ((toks r).take k) = d := ⟨_,rfl⟩
   rw [hd] at ih ⊢
   obtain ⟨x,hx⟩ : ∃ x,s.extract 0 (tok s).1 = x := ⟨_,rfl⟩
   have hxs : x.size = (tok s).1 := by rw [← hx,ByteArray.size_extract]; omega
   have hxb : ∀ i,i < (tok s).1 → bt x i = bt s i := fun i hi => by
    rw [← hx]
    unfold bt
    rw [list_front,List.getD_eq_getElem?_getD,List.getD_eq_getElem?_getD,List.getElem?_take,if_pos hi]
   have hb : ∀ i,i < (tok s).1 → bt (x ++ d) i = bt s i := fun i hi => by rw [bt_app_l (by omega),hxb i hi]
   have hdb : 0 < d.size → (tok s).1 < s.size ∧ bt (x ++ d) (tok s).1 = bt s (tok s).1 := fun hdp => by
    have hrp : 0 < r.size := by
     rcases Nat.eq_zero_or_pos r.size with c | c
     ·rw [toks_nil c,List.take_nil] at hd
      rw [← hd] at hdp
      exact absurd hdp (by simp [catT])
     ·exact c
    have hk : 0 < k := by
     rcases Nat.eq_zero_or_pos k with c | c
     ·rw [c,List.take_zero] at hd; rw [← hd] at hdp; exact absurd hdp (by simp [catT])
     ·exact c
    have hlt : (tok s).1 < s.size := by rw [← hr,size_tail] at hrp; omega
    refine ⟨hlt,?_⟩
    obtain ⟨k,rfl⟩ : ∃ j,k = j + 1 := ⟨k - 1,by omega⟩
    have e1 : bt d 0 = bt r 0 := by
     rw [← hd,toks_cons hrp,List.take_succ_cons,catT]
     have hir := tok_in hrp
     rw [bt_app_l (by rw [ByteArray.size_extract]; omega)]
     unfold bt
     rw [list_front,List.getD_eq_getElem?_getD,List.getD_eq_getElem?_getD,List.getElem?_take,if_pos (by omega)]
    rw [← hxs,show x.size = x.size + 0 from rfl,bt_app_r,e1,← hr,bt_tail,hxs]
   have hsz : (x ++ d).size = (tok s).1 + d.size := by rw [ByteArray.size_append,hxs]
   have et : tok (x ++ d) = tok s := by
    by_cases k1 : (tok s).2 = 101
    ·have c1 : isSp (bt s 0) = true := by
      cases hc1 : isSp (bt s 0) with
      | true => rfl
      | false => exact absurd k1 (tok_ns (by rw [hc1]; simp))
     have e := tok_sp c1
     have e1 : (tok s).1 = scan isSp s 0 := by rw [e]
     rw [e,tok_sp (by rw [hb 0 (by omega)]; exact c1)]
     congr 1
     obtain ⟨b1,b2,b3,b4⟩ := scan_spec isSp s 0
     refine scan_unique (Nat.zero_le _) (by omega) (fun i y z => by rw [hb i (by omega)]; exact b3 i y z) (fun hi => ?_)
     obtain ⟨q1,q2⟩ := hdb (by omega)
     rw [← e1,q2,e1]
     exact b4 (by omega)
    ·by_cases hdp : 0 < d.size
     ·obtain ⟨q1,q2⟩ := hdb hdp
      refine tok_local h0 k1 fun i hi => ?_
      rw [bz_in (by omega),bz_in (by omega)]
      by_cases hi2 : i < (tok s).1
      ·exact hb i hi2
      ·rw [show i = (tok s).1 from by omega]; exact q2
     ·have hd0 : d.size = 0 := by omega
      by_cases k2 : (tok s).2 = 102
      ·have c1 : ¬ isSp (bt s 0) = true := fun c => k1 (by rw [tok_sp c])
       have c2 : bz s 0 = 47 ∧ bz s 1 = 47 := by
        by_cases hc2 : bz s 0 = 47 ∧ bz s 1 = 47
        ·exact hc2
        ·exfalso
         revert k2
         unfold tok
         rw [if_neg c1,if_neg hc2]
         repeat' split
         all_goals simp
       have h1 : 1 < s.size := bz_lt (by rw [c2.2]; decide)
       have e : tok s = (scan noNl s 0,102) := by unfold tok; rw [if_neg c1,if_pos c2]
       have e1 : (tok s).1 = scan noNl s 0 := by rw [e]
       obtain ⟨b1,b2,b3,b4⟩ := scan_spec noNl s 0
       have h2 : 1 < (tok s).1 := by
        rw [e1]
        rcases Nat.lt_or_ge 1 (scan noNl s 0) with q | q
        ·exact q
        ·exfalso
         have hp0 : noNl (bt s 0) = true := by rw [← bz_in h0,c2.1]; rfl
         have hp1 : noNl (bt s 1) = true := by rw [← bz_in h1,c2.2]; rfl
         have h3 := scan_pos h0 hp0
         have h4 : scan noNl s 0 = 1 := by omega
         have h5 := b4 (by omega)
         rw [h4,hp1] at h5
         cases h5
       have z0 : bz (x ++ d) 0 = bz s 0 := by rw [bz_in (by omega),bz_in h0,hb 0 (by omega)]
       have z1 : bz (x ++ d) 1 = bz s 1 := by rw [bz_in (by omega),bz_in h1,hb 1 (by omega)]
       have e' : tok (x ++ d) = (scan noNl (x ++ d) 0,102) := by unfold tok; rw [hb 0 (by omega),z0,z1,if_neg c1,if_pos c2]
       rw [e',e]
       congr 1
       exact scan_unique (Nat.zero_le _) (by omega) (fun i y z => by rw [hb i (by omega)]; exact b3 i y z) (fun hi => by omega)
      ·exact tok_sep h0 k1 k2 hg0 (by omega) hb (fun hi => by omega)
   have hpos : 0 < (x ++ d).size := by omega
   show toks (s.extract 0 (tok s).1 ++ d) = _
   rw [hx,toks_cons hpos,et]
   have e1 : (x ++ d).extract 0 (tok s).1 = x := by rw [head_app (by omega),← hxs,full]
   have e2 : (x ++ d).extract (tok s).1 (x ++ d).size = d := by rw [show (tok s).1 = x.size + 0 from by omega,tail_past,full]
   rw [e1,e2,ih]
theorem sgx_space {c s : ByteArray} (hc : c.size = 1) (hs : bt c 0 = 32 ∨ bt c 0 = 9 ∨ bt c 0 = 10) (hg : ∀ t ∈ toks s,t.1 ≠ 108) (k : Nat) :
  sgx (toks (catT ((toks s).take k) ++ c ++ catT ((toks s).drop k))) = sgx (toks s) := by
 have e1 := toks_take k s hg
 have e2 := toks_drop k s
 rw [spaced hc hs _ _ (by rw [e1]; exact fun t ht => hg t (List.mem_of_mem_take ht)) ?_,e1,e2,← sgx_app,List.take_append_drop]
 rw [e1]
 intro t ht h102
 by_cases hb : (catT ((toks s).drop k)).size = 0
 ·exact .inl hb
 ·right
  have hlen : k < (toks s).length := by
   rcases Nat.lt_or_ge k (toks s).length with q | q
   ·exact q
   ·rw [List.drop_of_length_le q] at hb; exact absurd rfl hb
  have hk : 0 < k := by
   rcases Nat.eq_zero_or_pos k with q | q
   ·rw [q,List.take_zero] at ht; cases ht
   ·exact q
  obtain ⟨k,rfl⟩ : ∃ j,k = j + 1 := ⟨k - 1,by omega⟩
  have e3 : ((toks s).take (k + 1)).getLast? = (toks s)[k]? := by
   rw [List.getLast?_eq_getElem?,List.length_take,Nat.min_eq_left (by omega),List.getElem?_take,if_pos (by omega)]
   rfl
  rw [e3] at ht
  -- the k-th token is a comment: the byte behind is a line feed
  have e4 := toks_drop k s
  obtain ⟨r,hr⟩ : ∃ r,catT ((toks s).drop k) = r := ⟨_,rfl⟩
  rw [hr] at e4
  have hdr : (toks s).drop k = t :: (toks s).drop (k + 1) := by
   rw [List.drop_eq_getElem_cons (by omega)]
   rw [List.getElem?_eq_getElem (by omega)] at ht
   rw [Option.some.inj ht]
  rw [hdr] at e4 hr
  have hrp : 0 < r.size := by
   rcases Nat.eq_zero_or_pos r.size with q | q
   ·rw [toks_nil q] at e4; cases e4
   ·exact q
  have e5 := toks_cons hrp
  rw [e5] at e4
  obtain ⟨e6,e7⟩ := List.cons.inj e4
  have k2 : (tok r).2 = 102 := by rw [← e6] at h102; exact h102
  have c1 : ¬ isSp (bt r 0) = true := fun c => by rw [tok_sp c] at k2; cases k2
  have c2 : bz r 0 = 47 ∧ bz r 1 = 47 := by
   by_cases hc2 : bz r 0 = 47 ∧ bz r 1 = 47
   ·exact hc2
   ·exfalso
    revert k2
    unfold tok
    rw [if_neg c1,if_neg hc2]
    repeat' split
    all_goals simp
  have e : tok r = (scan noNl r 0,102) := by unfold tok; rw [if_neg c1,if_pos c2]
  obtain ⟨b1,b2,b3,b4⟩ := scan_spec noNl r 0
  have hq : catT ((toks s).drop (k + 1)) = r.extract (tok r).1 r.size := by
   rw [← e7,cat_toks]
  rw [hq,e] at hb ⊢
  simp only at hb ⊢
  rw [size_tail] at hb
  have h5 := b4 (by omega)
  rw [bt_tail,Nat.add_zero]
  simpa [noNl] using h5
def noteT : ByteArray := ⟨#[10,47,47,32,110,111,116,101,10]⟩
theorem sgx_note {s : ByteArray} (hg : ∀ t ∈ toks s,t.1 ≠ 108) (k : Nat) :
  sgx (toks (catT ((toks s).take k) ++ noteT ++ catT ((toks s).drop k))) = sgx (toks s) := by
 have e1 := toks_take k s hg
 have e2 := toks_drop k s
 have e3 : noteT = nl ++ (⟨#[47,47,32,110,111,116,101]⟩ ++ nl) := by decide
 rw [e3]
 have e4 : catT ((toks s).take k) ++ (nl ++ (⟨#[47,47,32,110,111,116,101]⟩ ++ nl)) ++ catT ((toks s).drop k) = catT ((toks s).take k) ++ nl ++ (⟨#[47,47,32,110,111,116,101]⟩ ++ nl ++ catT ((toks s).drop k)) := by
  simp only [ByteArray.append_assoc]
 rw [e4,sgx_sig,lines,lines,e1,e2]
 have e5 : sig (toks ⟨#[47,47,32,110,111,116,101]⟩) = [(102,⟨#[47,47,32,110,111,116,101]⟩)] := by decide
 rw [e5,List.filter_append,List.filter_append]
 rw [show ([((102 : Int),(⟨#[47,47,32,110,111,116,101]⟩ : ByteArray))].filter fun t => t.1 != 102) = [] from rfl,List.nil_append,← sgx_sig,← sgx_sig,← sgx_app,List.take_append_drop]
end Go.Proofs.YtiogccmfmjhipaaGreatDoor.Lexi
namespace Go.Proofs.YtiogccmfmjhipaaGreatDoor.Ast
open Par
open Lexi (toks bt)
variable {src src' : ByteArray} {d : Nat}
def An.kids : An → List An
 | .mk _ l => l
end Go.Proofs.YtiogccmfmjhipaaGreatDoor.Ast
namespace Go.Proofs.YtiogccmfmjhipaaGreatDoor.Par
set_option maxRecDepth 20000
open Go.Gx Go.RowKit Go.Lib
open Lexi (Asc toks)
open Ast
def NoL (w : World) (g : Mn) : Prop := NOk (Lo w) w g
theorem NoL.ext {w w' : World} {g : Mn} (h : NoL w g) (x : Ext w w') : NoL w' g := (NOk.bw h (Bw.of x fun z hz => hz) fun z hz => hz).mono fun z hz => Nat.lt_of_lt_of_le hz x.le
theorem NoL.oneL {w : World} {g : Mn} (h : NoL w g) : (g.cells.all (·.oneCell')) = true := NOk.oneL h
theorem encs_df (ds : List Dg) : encs dgc ds = encs dfc (ds.map Dg.df) := by
 induction ds with
 | nil => rfl
 | cons d l ih => show dgc d ++ encs dgc l = dfc d.df ++ encs dfc (l.map Dg.df); rw [ih]; rfl
structure LvL (w : World) (lv : Value) (ds : List Dg) : Prop where
 sl : SlC w lv 5 ds.length (encs dgc ds)
 one : lv.oneCell' = true
theorem LvL.ext {w w' : World} {lv : Value} {ds : List Dg} (h : LvL w lv ds) (x : Ext w w') : LvL w' lv ds := ⟨h.sl.ext x,h.one⟩
theorem LvL.df {w : World} {lv : Value} {ds : List Dg} (h : LvL w lv ds) : SlC w lv 5 (ds.map Dg.df).length (encs dfc (ds.map Dg.df)) := by
 have := h.sl
 rw [encs_df] at this
 simpa using this
theorem parseA_no {w w' : World} {s : ByteArray} {u lv : Value} {t : Tr} {mn : Mn} {ds : List Dg} {K : Fs} (h : ParseA w s u w' t mn lv ds K) : NoL w' mn ∧ LvL w' lv ds := ⟨h.ok.mono fun z hz => (h.lo z hz).2,h.sl,h.one⟩
theorem er_ext {w w' : World} (h : Er w) (x : Ext w w') : Er w' := by
 obtain ⟨a,b,h⟩ := h
 exact ⟨a,b,x.cell h⟩
def exS : ByteArray := ⟨#[99,111,110,115,116,32,99,58,32,105,110,116,32,61,32,59]⟩
theorem ex_run : ((run body 40 file ⟨toks exS,[],false,0⟩).map fun r => ((cvt exS (.mk 1 nob r.kids) 0 []).2.2,(cvt exS (.mk 1 nob r.kids) 0 []).1.kids.map fun a => a.hd.kind)) = some ([(1,14,14)],[8]) := by decide +kernel
theorem ex_ast {t : Tr} (h : Parsed exS t) : (cvt exS t 0 []).2.2 = [(1,14,14)] ∧ (cvt exS t 0 []).1.kids.map (fun a => a.hd.kind) = [8] := by
 have h1 := ex_run
 rw [Option.map_eq_some_iff] at h1
 obtain ⟨r,h2,h3⟩ := h1
 have h4 := Parsed.unique h ⟨_,r,h2,rfl⟩
 rw [h4]
 exact ⟨congrArg Prod.fst h3,congrArg Prod.snd h3⟩
theorem astOf_kids (s : ByteArray) (t : Tr) : (astOf s t).kids = (cvt s t 0 []).1.kids := by
 unfold astOf
 cases (cvt s t 0 []).1
 rfl
theorem sortD_one (d : Dg) : sortD [d] = [d] := List.length_eq_one_iff.1 (sortD_length [d]) |>.elim fun a h => by
 have hp : (sortD [d]).Perm [d] := List.mergeSort_perm _ _
 exact List.perm_singleton.1 hp
theorem example_ok {w : World} (hA0 : Asc w) (hE0 : Er w) : Cl Tryz.prog 15 #[] w (fun u w' => u = .bool true ∧ Ext w w') := by
 have hx := Ext.refl w
 refine Cl.enter Tryz.func15 rfl Tryz.ntmps15 rfl rfl (.sr (.as rfl rfl (.done (.sr ?_))))
 refine Rg.wd trivial (w_call Tryz.call18 rfl (astParse_ok (s := exS) (by decide) (hA0.ext hx) (er_ext hE0 hx))) rfl ?_
 rintro _ w1 ⟨t,mn,lv,ds,K,A⟩
 have hx1 := A.ext
 obtain ⟨hn,hl⟩ := (parseA_no A)
 have hue := A.ue
 subst hue
 have hdd := A.dse
 have her := A.er
 obtain ⟨ed,ek⟩ := ex_ast A.pt
 rw [ed,sortD_one,cmpL_one] at hdd
 subst hdd
 have hkk : mn.er.kids.map (fun a => a.hd.kind) = [8] := by rw [her,astOf_kids]; exact ek
 have hno := hn.oneL
 clear A
 replace hx := hx.ext hx1
 refine .mv rfl rfl (.tq (t_extract rfl rfl) rfl (.tq (t_extract rfl rfl) rfl (.tq (t_extract rfl rfl) rfl (Rg.wd trivial (w_new Tryz.zeroValue27 rfl) rfl ?_))))
 rintro _ wab1 ⟨b1,rfl,qb1,hxab1,hvab1⟩
 refine Rg.wn trivial (w_put (cs := mn.cells) hvab1 rfl rfl rfl (by rw [Mn.len]; exact ty27) (by rw [Mn.len]; rfl) (hno)) ?_
 rintro _ w2 ⟨hub1,hvb1⟩
 have hx2 := hxab1.upd hub1 (Nat.le_of_eq qb1.symm)
 clear hvab1 hub1 hxab1
 replace hx := hx.ext hx2
 replace hn := hn.ext hx2
 replace hl := hl.ext hx2
 clear qb1
 refine .as rfl rfl (.as rfl rfl (.done ?_))
 obtain ⟨h,cv,kids⟩ := mn
 obtain ⟨hs,hone⟩ : SlC _ cv 7 kids.length (encs Mn.cells kids) ∧ cv.oneCell' = true := by cases hn with | mk a b c d => exact ⟨a,b⟩
 have hkids : ∃ k1,kids = [k1] ∧ k1.hd.kind = 8 := by
  have h0 : (mnL kids).map (fun a => a.hd.kind) = [8] := hkk
  rw [mnL_map] at h0
  rcases kids with _ | ⟨k1,_ | ⟨k2,l⟩⟩
  ·cases h0
  ·refine ⟨k1,rfl,?_⟩
   simp only [List.map_cons,List.map_nil,List.cons.injEq,and_true] at h0
   cases k1
   exact h0
  ·simp at h0
 obtain ⟨k1,rfl,hk8⟩ := hkids
 have hk1l : [k1].length = 1 := rfl
 refine .sr (.mv rfl rfl (.tq (t_eqlT rfl rfl rfl) rfl (.mv rfl rfl (.gd (t_fieldAddr fa27_6 rfl) rfl (.gd (t_load ty25 rfl (Cells.get (i := 6) hvb1.cells rfl)) rfl (.gd (t_lenC hs Tryz.underlying25 rfl) rfl ?_))))))
 refine .gd (t_eqlT rfl rfl (by simp)) rfl ?_
 refine .tq (t_pickT rfl rfl) rfl (.mv rfl rfl (.gd (t_fieldAddr fa27_6 rfl) rfl (.gd (t_load ty25 rfl (Cells.get (i := 6) hvb1.cells rfl)) rfl ?_)))
 refine Rg.ix hs ⟨_,rfl,rfl⟩ rfl rfl Tryz.underlying25 ty27 (by omega) rfl ?_
 intro bt20 ot20 ht20
 rw [show ((encs Mn.cells [k1]).drop ((0 : Int).toNat * 7)).take 7 = k1.cells from by cases k1; rfl] at ht20
 refine .gd (t_fieldAddr fa27_0 rfl) rfl ?_
 refine .gd (t_load ty3 rfl (Cells.get (i := 0) (v := .int .i64 k1.hd.kind) ht20 (by cases k1; rfl))) rfl ?_
 refine .gd (t_eqlT rfl rfl hk8) rfl (.tq (t_pickT rfl rfl) rfl (.mv rfl rfl (.gd (t_move rfl) rfl (.gd (t_build (bd80_0_2_3 _ _ _) rfl) rfl (Rg.wd ⟨_,rfl,rfl⟩ (w_buildSlice (bs28_1 _ _ _ _ _) rfl) rfl ?_)))))
 rintro _ w3 ⟨bb,rfl,qb,hx3,hvb⟩
 replace hx := hx.ext hx3
 replace hn := hn.ext hx3
 replace hl := hl.ext hx3
 replace hvb1 := hvb1.ext hx3
 replace ht20 := ht20.ext hx3
 refine Rg.wd ⟨_,rfl,rfl⟩ (w_call Tryz.call40 rfl (equalD_ok (xs := [Dg.df (1,14,14)]) (ys := [Dg.df (1,14,14)]) hl.df (slc_var hvb rfl) (by decide))) rfl ?_
 rintro _ w4 ⟨⟨bq,rfl,hbq⟩,hx4⟩
 replace hx := hx.ext hx4
 replace hn := hn.ext hx4
 replace hl := hl.ext hx4
 replace hvb1 := hvb1.ext hx4
 replace ht20 := ht20.ext hx4
 replace hvb := hvb.ext hx4
 obtain rfl := hbq.2 rfl
 refine .tq (t_pickT rfl rfl) rfl (.as rfl rfl (.done (Wp.ret ?_)))
 exact ⟨[_],⟨rfl,trivial⟩,rfl,hx⟩
end Go.Proofs.YtiogccmfmjhipaaGreatDoor.Par
namespace Go.Proofs.YtiogccmfmjhipaaGreatDoor.Par
set_option maxRecDepth 20000
open Go.Gx Go.RowKit Go.Lib
open Lexi (Asc toks catT tcs tcs_at)
open Ast
theorem catT_append : ∀ a b : List (Int × ByteArray),catT (a ++ b) = catT a ++ catT b
 | [],b => by show catT b = ByteArray.empty ++ catT b; rw [ByteArray.empty_append]
 | t :: a,b => by
  show t.2 ++ catT (a ++ b) = t.2 ++ catT a ++ catT b
  rw [catT_append a b,ByteArray.append_assoc]
theorem catT_succ {l : List (Int × ByteArray)} {k : Nat} (h : k < l.length) : catT (l.take (k + 1)) = catT (l.take k) ++ l[k].2 := by
 rw [List.take_succ_eq_append_getElem h,catT_append]
 show _ ++ (l[k].2 ++ ByteArray.empty) = _
 rw [ByteArray.append_empty]
theorem catT_le {l : List (Int × ByteArray)} (k : Nat) : (catT (l.take k)).size ≤ (catT l).size := by
 have := congrArg ByteArray.size (catT_append (l.take k) (l.drop k))
 rw [List.take_append_drop,ByteArray.size_append] at this
 omega
theorem source22_ok {w : World} {v : Value} {l : List (Int × ByteArray)} (hs0 : SlC w v 2 l.length (tcs l)) (hlen : l.length < 4611686018427387904) (hb : (catT l).size ≤ 1099511627776) :
  Cl Tryz.prog 22 #[v] w (fun u w' => u = .string (catT l) ∧ Ext w w') := by
 have hx := Ext.refl w
 refine Cl.enter Tryz.func22 rfl Tryz.ntmps22 rfl rfl (.sr (.as rfl rfl (.done (.sr (.as rfl rfl (.done (.seq (.sr (.mv rfl rfl (.tq (t_lenC hs0 Tryz.underlying34 rfl) rfl (.mv rfl rfl (.done ?_))))))))))))
 refine Wp.block ?_
 refine Wp.loop (ι := Nat) (fun k => [(3,.string (catT (l.take k))),(6,v),(7,.int .i64 l.length),(8,.int .i64 k)])
  (fun k w' => k ≤ l.length ∧ Ext w w') (fun k => l.length - k) 0 (by repeat (first | exact .nil | refine .cons rfl ?_)) ⟨Nat.zero_le _,hx⟩ ?_
 clear hx
 rintro k w3 ⟨hk,hx⟩
 by_cases hlt : k < l.length
 ·have es := catT_succ hlt
  have el := catT_le (l := l) (k + 1)
  rw [es,ByteArray.size_append] at el
  refine .sr ?_
  refine .tq (t_lssT rfl rfl (by omega)) rfl ?_
  refine .done (.seq (.condT rfl (Wp.skip (.seq (Wp.block (.sr ?_))))))
  refine Rg.ix hs0 trivial rfl rfl Tryz.underlying34 ty91 (by omega) rfl ?_
  intro bt10 ot10 ht10
  replace ht10 := ht10.ext hx
  rw [Int.toNat_natCast,tcs_at l k hlt] at ht10
  refine .tq (t_loadA rfl ht10 ty91) rfl (Rg.wd trivial (w_new Tryz.zeroValue91 rfl) rfl ?_)
  rintro _ wab5 ⟨b5,rfl,qb5,hxab5,hvab5⟩
  refine Rg.wn trivial (w_put (cs := [.int .i64 l[k].1,.string l[k].2]) hvab5 rfl rfl rfl (ty91) (rfl) (rfl)) ?_
  rintro _ w4 ⟨hub5,hvb5⟩
  have hx4 := hxab5.upd hub5 (Nat.le_of_eq qb5.symm)
  clear hvab5 hub5 hxab5
  replace hx := hx.ext hx4
  replace ht10 := ht10.ext hx4
  clear qb5
  refine .done (Wp.region (.mv rfl rfl (.tq (t_fieldAddr fa91_1 rfl) rfl (.tq (t_load ty9 rfl (Cells.get (i := 1) hvb5.cells rfl)) rfl ?_))))
  refine .tq (t_sadd rfl rfl (by omega)) rfl ?_
  refine .as rfl rfl (.done (Wp.region ?_))
  refine .tq (t_addI rfl rfl (by omega)) rfl ?_
  refine .mv rfl rfl (.done ?_)
  refine ⟨k + 1,?_,⟨hlt,hx⟩,by omega⟩
  rw [es]
  repeat (first | exact .nil | refine .cons rfl ?_)
 ·have e0 : k = l.length := by omega
  subst e0
  rw [List.take_length]
  refine .sr ?_
  refine .tq (t_lssF rfl rfl (by omega)) rfl ?_
  refine .done (.seq (.condF rfl (Wp.exit (.sr (.mv rfl rfl (.as rfl rfl (.done (Wp.ret ?_))))))))
  exact ⟨[_],⟨rfl,trivial⟩,rfl,hx⟩
theorem mod_ok {w : World} {a : Int} {n : Nat} (hn : 0 < n) (hn2 : n ≤ 1000000) : Cl Tryz.prog 21 #[.int .i64 a,.int .i64 n] w (fun u w' => (∃ k : Nat,u = .int .i64 k ∧ k < n ∧ (k : Int) = a % n) ∧ Ext w w') := by
 have hx := Ext.refl w
 have hm := Int.emod_nonneg a (show (n : Int) ≠ 0 by omega)
 have hm2 := Int.emod_lt_of_pos a (show (0 : Int) < n by omega)
 have ht : a.tmod n = a % n ∨ (a.tmod n < 0 ∧ a.tmod n + n = a % n) := by
  by_cases h0 : 0 ≤ a
  ·left; exact Int.tmod_eq_emod_of_nonneg h0
  ·have e1 := Int.tmod_eq_emod (a := a) (b := n)
   split at e1
   ·left; simpa using e1
   ·right
    have : ((n : Int).natAbs : Int) = n := by omega
    omega
 by_cases hneg : a.tmod n < 0
 ·skip
  refine Cl.enter Tryz.func21 rfl Tryz.ntmps21 rfl rfl (.sr (.as rfl rfl (.done (.sr (.mv rfl rfl (.mv rfl rfl ?_))))))
  refine .tq (t_remI rfl rfl (by omega)) rfl ?_
  refine .as rfl rfl (.done (.seq (.sr (.mv rfl rfl ?_))))
  refine .tq (t_lssT rfl rfl (by omega)) rfl ?_
  refine .done (.condT rfl (Wp.region (.mv rfl rfl (.mv rfl rfl ?_))))
  refine .tq (t_addI rfl rfl (by omega)) rfl ?_
  refine .as rfl rfl (.done (.sr (.mv rfl rfl (.as rfl rfl (.done (Wp.ret ?_))))))
  have e : a.tmod n + n = a % n := by
   rcases ht with h | h
   ·rw [h] at hneg; exact absurd hneg (by omega)
   ·exact h.2
  refine ⟨[_],⟨rfl,trivial⟩,⟨(a % n).toNat,?_,by omega,by omega⟩,hx⟩
  rw [Int.toNat_of_nonneg hm,e]; rfl
 ·skip
  refine Cl.enter Tryz.func21 rfl Tryz.ntmps21 rfl rfl (.sr (.as rfl rfl (.done (.sr (.mv rfl rfl (.mv rfl rfl ?_))))))
  refine .tq (t_remI rfl rfl (by omega)) rfl ?_
  refine .as rfl rfl (.done (.seq (.sr (.mv rfl rfl ?_))))
  refine .tq (t_lssF rfl rfl (by omega)) rfl ?_
  refine .done (.condF rfl (Wp.skip (.sr (.mv rfl rfl (.as rfl rfl (.done (Wp.ret ?_)))))))
  have e : a.tmod n = a % n := by
   rcases ht with h | h
   ·rw [h] at hneg; exact h
   ·exact absurd h.1 hneg
  refine ⟨[_],⟨rfl,trivial⟩,⟨(a % n).toNat,?_,by omega,by omega⟩,hx⟩
  rw [Int.toNat_of_nonneg hm,e]; rfl
mutual
def core : An → An
 | .mk h ks => .mk ⟨h.kind,h.value,h.text,0,0,0⟩ (coreL ks)
def coreL : List An → List An
 | [] => []
 | a :: l => core a :: coreL l
end
mutual
def anc : An → Nat
 | .mk _ ks => ancL ks + 1
def ancL : List An → Nat
 | [] => 0
 | a :: l => anc a + ancL l
end
theorem coreL_map (l : List An) : coreL l = l.map core := by
 induction l with
 | nil => rfl
 | cons a l ih => simp [coreL,ih]
mutual
theorem core_bare : ∀ a,core (bare a) = core a
 | .mk h ks => by rw [bare,core,core,core_bareL ks]; rfl
theorem core_bareL : ∀ l,coreL (bareL l) = coreL l
 | [] => rfl
 | a :: l => by rw [bareL,coreL,coreL,core_bare a,core_bareL l]
end
theorem core_of {a b : An} (h : bare a = bare b) : core a = core b := by rw [← core_bare a,← core_bare b,h]
theorem ancL_len (l : List An) : l.length ≤ ancL l := by
 induction l with
 | nil => exact Nat.le_refl _
 | cons a l ih => cases a; simp only [ancL,anc,List.length_cons]; omega
theorem ancL_mem {l : List An} {a : An} (h : a ∈ l) : anc a ≤ ancL l := by
 induction l with
 | nil => cases h
 | cons b l ih =>
  rcases List.mem_cons.1 h with rfl | h
  ·simp only [ancL]; omega
  ·have := ih h; simp only [ancL]; omega
theorem ancL_app (a b : List An) : ancL (a ++ b) = ancL a + ancL b := by
 induction a with
 | nil => simp [ancL]
 | cons x a ih => simp only [List.cons_append,ancL,ih]; omega
theorem fin_anc (src : ByteArray) (h : Hd) (ns : List An) (ds : List Dg) : anc (fin src h ns ds).1 ≤ ancL ns + 1 := by
 unfold fin
 split
 ·split
  ·simp only [anc,ancL]; omega
  ·simp only [anc,ancL]; omega
 split
 ·simp only [anc,ancL]; omega
 ·simp only [anc]; omega
mutual
theorem cvt_anc (src : ByteArray) : ∀ (t : Tr) (off : Int) (ds : List Dg),anc (cvt src t off ds).1 ≤ t.cnt
 | .mk k x ks,off,ds => by
  rw [cvt,Tr.cnt]
  have h1 := fin_anc src (endH (cvtL src ks (hd0 k off) [] off ds).1) (cvtL src ks (hd0 k off) [] off ds).2.1 (cvtL src ks (hd0 k off) [] off ds).2.2.2
  have h2 := cvtL_anc src ks (hd0 k off) [] off ds
  simp only [ancL] at h2
  show anc (fin _ _ _ _).1 ≤ _
  omega
theorem cvtL_anc (src : ByteArray) : ∀ (l : List Tr) (h : Hd) (ns : List An) (off : Int) (ds : List Dg),ancL (cvtL src l h ns off ds).2.1 ≤ ancL ns + cntL l
 | [],h,ns,off,ds => by rw [cvtL]; simp [cntL]
 | t :: l,h,ns,off,ds => by
  rw [cvtL,cntL]
  split
  ·have := cvtL_anc src l (tokS h off ds (kd t) (tx t)).1 ns (tokS h off ds (kd t) (tx t)).2.1 (tokS h off ds (kd t) (tx t)).2.2
   simp only
   omega
  ·have h1 := cvt_anc src t off ds
   have h2 := cvtL_anc src l (ext h (cvt src t off ds).1.hd.st (cvt src t off ds).1.hd.en) (ns ++ [(cvt src t off ds).1]) (cvt src t off ds).2.1 (cvt src t off ds).2.2
   rw [ancL_app] at h2
   simp only [ancL] at h2
   simp only
   omega
end
theorem astOf_anc (s : ByteArray) (t : Tr) : anc (astOf s t) ≤ t.cnt := by
 have := cvt_anc s t 0 []
 unfold astOf
 cases h : (cvt s t 0 []).1 with
 | mk a ks => rw [h] at this; exact this
theorem mnL_at (l : List Mn) (k : Nat) (h : k < l.length) : (mnL l)[k]'(by rw [mnL_len]; exact h) = l[k].er := by simp [mnL_map]
theorem equal_ok : ∀ (n : Nat) (g h : Mn),anc g.er ≤ n → anc g.er ≤ 1000000 → ∀ (w : World),NoL w g → NoL w h → Cl Tryz.prog 19 #[.agg g.cells.toArray,.agg h.cells.toArray] w (fun u w' => (∃ b,u = .bool b ∧ (b = true ↔ core g.er = core h.er)) ∧ Ext w w') := by
 intro n
 induction n with
 | zero =>
  intro g h hn
  cases g
  simp [Mn.er,anc] at hn
 | succ n ih =>
  intro g h hn hc w hg hh
  obtain ⟨a,c1,l1⟩ := g
  obtain ⟨b,c2,l2⟩ := h
  cases hg with
  | mk hs1 h1 hb1 hk1 =>
   cases hh with
   | mk hs2 h2 hb2 hk2 =>
    simp only [Mn.er,anc] at hn hc
    have hlenk := ancL_len (mnL l1)
    rw [mnL_len] at hlenk
    have hx := Ext.refl w
    have o1 := Hd.one a h1
    have o2 := Hd.one b h2
    by_cases e1 : a.kind = b.kind
    ·by_cases e2 : a.value = b.value
     ·by_cases e3 : a.text = b.text
      ·by_cases e4 : l1.length = l2.length
       ·skip
        refine Cl.enter Tryz.func19 rfl Tryz.ntmps19 rfl rfl ?_
        have hs10 := hs1
        have hs20 := hs2
        refine .sr (Rg.wd trivial (w_boxed (cs := a.cells c1) rfl rfl) rfl ?_)
        rintro _ w1 ⟨b2,rfl,q2,hx1,hv2⟩
        replace hx := hx.ext hx1
        refine Rg.wd trivial (w_boxed (cs := b.cells c2) rfl rfl) rfl ?_
        rintro _ w2 ⟨b3,rfl,q3,hx2,hv3⟩
        replace hx := hx.ext hx2
        replace hv2 := hv2.ext hx2
        refine .as rfl rfl (.done (.seq (.sr (.tq (t_fieldAddr fa27_0 rfl) rfl (.tq (t_load ty3 rfl (Cells.get (i := 0) hv2.cells rfl)) rfl (.tq (t_fieldAddr fa27_0 rfl) rfl (.tq (t_load ty3 rfl (Cells.get (i := 0) hv3.cells rfl)) rfl (.tq (t_neqF rfl rfl e1) rfl (.mv rfl rfl (.gd (t_fieldAddr fa27_1 rfl) rfl (.gd (t_load ty3 rfl (Cells.get (i := 1) hv2.cells rfl)) rfl (.gd (t_fieldAddr fa27_1 rfl) rfl ?_))))))))))))
        refine .gd (t_load ty3 rfl (Cells.get (i := 1) hv3.cells rfl)) rfl (.gd (t_neqF rfl rfl e2) rfl (.tq (t_pickF rfl rfl) rfl (.mv rfl rfl (.gd (t_fieldAddr fa27_2 rfl) rfl (.gd (t_load ty9 rfl (Cells.get (i := 2) hv2.cells rfl)) rfl (.gd (t_fieldAddr fa27_2 rfl) rfl (.gd (t_load ty9 rfl (Cells.get (i := 2) hv3.cells rfl)) rfl (.gd (t_sneqF rfl rfl e3) rfl (.tq (t_pickF rfl rfl) rfl (.mv rfl rfl (.gd (t_fieldAddr fa27_6 rfl) rfl (.gd (t_load ty25 rfl (Cells.get (i := 6) hv2.cells rfl)) rfl ?_))))))))))))
        refine .gd (t_lenC hs10 Tryz.underlying25 rfl) rfl (.gd (t_fieldAddr fa27_6 rfl) rfl (.gd (t_load ty25 rfl (Cells.get (i := 6) hv3.cells rfl)) rfl (.gd (t_lenC hs20 Tryz.underlying25 rfl) rfl ?_)))
        refine .gd (t_neqF rfl rfl (by omega)) rfl ?_
        refine .tq (t_pickF rfl rfl) rfl (.done (.condF rfl (Wp.skip (.seq (.sr (.tq (t_fieldAddr fa27_6 rfl) rfl (.tq (t_load ty25 rfl (Cells.get (i := 6) hv2.cells rfl)) rfl (.tq (t_lenC hs10 Tryz.underlying25 rfl) rfl (.mv rfl rfl (.done (Wp.block ?_)))))))))))
        refine Wp.loop (ι := Nat) (fun k => [(2,.pointer (some ⟨b2,0,none⟩)),(3,.pointer (some ⟨b3,0,none⟩)),(36,.int .i64 l1.length),(37,.int .i64 k)])
         (fun k w' => k ≤ l1.length ∧ (coreL (mnL l1)).take k = (coreL (mnL l2)).take k ∧ Ext w w' ∧ Var w' b2 (a.cells c1) 27 ∧ Var w' b3 (b.cells c2) 27) (fun k => l1.length - k) 0 (by repeat (first | exact .nil | refine .cons rfl ?_)) ⟨Nat.zero_le _,rfl,hx,hv2,hv3⟩ ?_
        clear hx hv2 hv3
        rintro k w9 ⟨hk,he,hx,hv2,hv3⟩
        have hcl1 : (coreL (mnL l1)).length = l1.length := by simp [coreL_map,mnL_len]
        have hcl2 : (coreL (mnL l2)).length = l2.length := by simp [coreL_map,mnL_len]
        by_cases hlt : k < l1.length
        ·have hlt2 : k < l2.length := by omega
         have hem : (coreL (mnL l1))[k]'(by omega) = core l1[k].er := by simp [coreL_map,mnL_map]
         have hem2 : (coreL (mnL l2))[k]'(by omega) = core l2[k].er := by simp [coreL_map,mnL_map]
         have hcm : anc l1[k].er ≤ ancL (mnL l1) := ancL_mem (by rw [← mnL_at l1 k hlt]; exact List.getElem_mem _)
         by_cases heq : core l1[k].er = core l2[k].er
         ·skip
          refine .sr ?_
          refine .tq (t_lssT rfl rfl (by omega)) rfl ?_
          refine .done (.seq (.condT rfl (Wp.skip (.seq (Wp.block (.sr (.mv rfl rfl (.as rfl rfl (.done ?_)))))))))
          refine Wp.seq (Wp.draw [0,1,2,3,4,5,6,7,8,9,10,11] [] mixed (by kernel_rfl) (by kernel_rfl) ?_)
          intro w21 hx21 _
          replace hx := hx.ext hx21
          replace hv2 := hv2.ext hx21
          replace hv3 := hv3.ext hx21
          refine .tq (t_fieldAddr fa27_6 rfl) rfl (.tq (t_load ty25 rfl (Cells.get (i := 6) hv2.cells rfl)) rfl (.mv rfl rfl ?_))
          refine Rg.ix hs10 trivial rfl rfl Tryz.underlying25 ty27 (by omega) rfl ?_
          intro bt43 ot43 ht43
          replace ht43 := ht43.ext hx
          rw [Int.toNat_natCast,encs_at Mn.len l1 k hlt] at ht43
          refine .tq (t_loadA rfl ht43 (by rw [Mn.len]; exact ty27)) rfl ?_
          refine .tq (t_fieldAddr fa27_6 rfl) rfl (.tq (t_load ty25 rfl (Cells.get (i := 6) hv3.cells rfl)) rfl (.mv rfl rfl ?_))
          refine Rg.ix hs20 trivial rfl rfl Tryz.underlying25 ty27 (by omega) rfl ?_
          intro bt48 ot48 ht48
          replace ht48 := ht48.ext hx
          rw [Int.toNat_natCast,encs_at Mn.len l2 k hlt2] at ht48
          refine .tq (t_loadA rfl ht48 (by rw [Mn.len]; exact ty27)) rfl ?_
          refine Rg.wdB trivial rfl (w_call Tryz.call19 rfl (ih l1[k] l2[k] (by omega) (by omega) _ (NoL.ext (hk1 _ (List.getElem_mem hlt)) hx) (NoL.ext (hk2 _ (List.getElem_mem hlt2)) hx))) rfl (fun _ _ h => h.2) ?_
          rintro _ w22 ⟨⟨bb,rfl,hbb⟩,hx22⟩
          replace hx := hx.ext hx22
          replace hv2 := hv2.ext hx22
          replace hv3 := hv3.ext hx22
          replace ht43 := ht43.ext hx22
          replace ht48 := ht48.ext hx22
          obtain rfl : bb = true := by
           exact hbb.2 heq
          refine .tq (t_notB rfl) rfl (.done (.condF rfl (Wp.skip (Wp.region ?_))))
          refine .tq (t_addI rfl rfl (by omega)) rfl ?_
          refine .mv rfl rfl (.done ?_)
          exact ⟨k + 1,by repeat (first | exact .nil | refine .cons rfl ?_),⟨hlt,by rw [List.take_succ_eq_append_getElem (by omega),List.take_succ_eq_append_getElem (by omega),he,hem,hem2,heq],hx,hv2,hv3⟩,by omega⟩
         ·skip
          refine .sr ?_
          refine .tq (t_lssT rfl rfl (by omega)) rfl ?_
          refine .done (.seq (.condT rfl (Wp.skip (.seq (Wp.block (.sr (.mv rfl rfl (.as rfl rfl (.done ?_)))))))))
          refine Wp.seq (Wp.draw [0,1,2,3,4,5,6,7,8,9,10,11] [] mixed (by kernel_rfl) (by kernel_rfl) ?_)
          intro w21 hx21 _
          replace hx := hx.ext hx21
          replace hv2 := hv2.ext hx21
          replace hv3 := hv3.ext hx21
          refine .tq (t_fieldAddr fa27_6 rfl) rfl (.tq (t_load ty25 rfl (Cells.get (i := 6) hv2.cells rfl)) rfl (.mv rfl rfl ?_))
          refine Rg.ix hs10 trivial rfl rfl Tryz.underlying25 ty27 (by omega) rfl ?_
          intro bt43 ot43 ht43
          replace ht43 := ht43.ext hx
          rw [Int.toNat_natCast,encs_at Mn.len l1 k hlt] at ht43
          refine .tq (t_loadA rfl ht43 (by rw [Mn.len]; exact ty27)) rfl ?_
          refine .tq (t_fieldAddr fa27_6 rfl) rfl (.tq (t_load ty25 rfl (Cells.get (i := 6) hv3.cells rfl)) rfl (.mv rfl rfl ?_))
          refine Rg.ix hs20 trivial rfl rfl Tryz.underlying25 ty27 (by omega) rfl ?_
          intro bt48 ot48 ht48
          replace ht48 := ht48.ext hx
          rw [Int.toNat_natCast,encs_at Mn.len l2 k hlt2] at ht48
          refine .tq (t_loadA rfl ht48 (by rw [Mn.len]; exact ty27)) rfl ?_
          refine Rg.wdB trivial rfl (w_call Tryz.call19 rfl (ih l1[k] l2[k] (by omega) (by omega) _ (NoL.ext (hk1 _ (List.getElem_mem hlt)) hx) (NoL.ext (hk2 _ (List.getElem_mem hlt2)) hx))) rfl (fun _ _ h => h.2) ?_
          rintro _ w22 ⟨⟨bb,rfl,hbb⟩,hx22⟩
          replace hx := hx.ext hx22
          replace hv2 := hv2.ext hx22
          replace hv3 := hv3.ext hx22
          replace ht43 := ht43.ext hx22
          replace ht48 := ht48.ext hx22
          obtain rfl : bb = false := by
           cases bb
           ·rfl
           ·exact absurd (hbb.1 rfl) heq
          refine .tq (t_notB rfl) rfl (.done (.condT rfl (.sr (.as rfl rfl (.done (Wp.ret ?_))))))
          refine ⟨[_],⟨rfl,trivial⟩,⟨false,rfl,⟨fun e => by (cases e),fun e => ?_⟩⟩,hx⟩
          simp only [Mn.er,core,An.mk.injEq] at e
          exact absurd (by rw [← hem,← hem2]; simp only [e.2]) heq
        ·skip
         refine .sr ?_
         refine .tq (t_lssF rfl rfl (by omega)) rfl ?_
         refine .done (.seq (.condF rfl (Wp.exit (.sr (.as rfl rfl (.done (Wp.ret ?_)))))))
         refine ⟨[_],⟨rfl,trivial⟩,⟨true,rfl,⟨fun _ => ?_,fun _ => rfl⟩⟩,hx⟩
         rw [show k = (coreL (mnL l1)).length from by omega,List.take_length,show (coreL (mnL l1)).length = (coreL (mnL l2)).length from by omega,List.take_length] at he
         simp only [Mn.er,core,e1,e2,e3,he]
       ·skip
        refine Cl.enter Tryz.func19 rfl Tryz.ntmps19 rfl rfl ?_
        have hs10 := hs1
        have hs20 := hs2
        refine .sr (Rg.wd trivial (w_boxed (cs := a.cells c1) rfl rfl) rfl ?_)
        rintro _ w1 ⟨b2,rfl,q2,hx1,hv2⟩
        replace hx := hx.ext hx1
        refine Rg.wd trivial (w_boxed (cs := b.cells c2) rfl rfl) rfl ?_
        rintro _ w2 ⟨b3,rfl,q3,hx2,hv3⟩
        replace hx := hx.ext hx2
        replace hv2 := hv2.ext hx2
        refine .as rfl rfl (.done (.seq (.sr (.tq (t_fieldAddr fa27_0 rfl) rfl (.tq (t_load ty3 rfl (Cells.get (i := 0) hv2.cells rfl)) rfl (.tq (t_fieldAddr fa27_0 rfl) rfl (.tq (t_load ty3 rfl (Cells.get (i := 0) hv3.cells rfl)) rfl (.tq (t_neqF rfl rfl e1) rfl (.mv rfl rfl (.gd (t_fieldAddr fa27_1 rfl) rfl (.gd (t_load ty3 rfl (Cells.get (i := 1) hv2.cells rfl)) rfl (.gd (t_fieldAddr fa27_1 rfl) rfl ?_))))))))))))
        refine .gd (t_load ty3 rfl (Cells.get (i := 1) hv3.cells rfl)) rfl (.gd (t_neqF rfl rfl e2) rfl (.tq (t_pickF rfl rfl) rfl (.mv rfl rfl (.gd (t_fieldAddr fa27_2 rfl) rfl (.gd (t_load ty9 rfl (Cells.get (i := 2) hv2.cells rfl)) rfl (.gd (t_fieldAddr fa27_2 rfl) rfl (.gd (t_load ty9 rfl (Cells.get (i := 2) hv3.cells rfl)) rfl (.gd (t_sneqF rfl rfl e3) rfl (.tq (t_pickF rfl rfl) rfl (.mv rfl rfl (.gd (t_fieldAddr fa27_6 rfl) rfl (.gd (t_load ty25 rfl (Cells.get (i := 6) hv2.cells rfl)) rfl ?_))))))))))))
        refine .gd (t_lenC hs10 Tryz.underlying25 rfl) rfl (.gd (t_fieldAddr fa27_6 rfl) rfl (.gd (t_load ty25 rfl (Cells.get (i := 6) hv3.cells rfl)) rfl (.gd (t_lenC hs20 Tryz.underlying25 rfl) rfl ?_)))
        refine .gd (t_neqT rfl rfl (by omega)) rfl ?_
        refine .tq (t_pickF rfl rfl) rfl (.done (.condT rfl (.sr (.as rfl rfl (.done (Wp.ret ?_))))))
        refine ⟨[_],⟨rfl,trivial⟩,⟨false,rfl,⟨fun e => by (cases e),fun e => ?_⟩⟩,hx⟩
        simp only [Mn.er,core,An.mk.injEq,Hd.mk.injEq] at e
        exact absurd (by have := congrArg List.length e.2; simpa [coreL_map,mnL_len] using this) e4
      ·skip
       refine Cl.enter Tryz.func19 rfl Tryz.ntmps19 rfl rfl (.sr (Rg.wd trivial (w_boxed (cs := a.cells c1) rfl rfl) rfl ?_))
       rintro _ w1 ⟨b2,rfl,q2,hx1,hv2⟩
       replace hx := hx.ext hx1
       refine Rg.wd trivial (w_boxed (cs := b.cells c2) rfl rfl) rfl ?_
       rintro _ w2 ⟨b3,rfl,q3,hx2,hv3⟩
       replace hx := hx.ext hx2
       replace hv2 := hv2.ext hx2
       refine .as rfl rfl (.done (.seq (.sr (.tq (t_fieldAddr fa27_0 rfl) rfl (.tq (t_load ty3 rfl (Cells.get (i := 0) hv2.cells rfl)) rfl (.tq (t_fieldAddr fa27_0 rfl) rfl (.tq (t_load ty3 rfl (Cells.get (i := 0) hv3.cells rfl)) rfl (.tq (t_neqF rfl rfl e1) rfl (.mv rfl rfl (.gd (t_fieldAddr fa27_1 rfl) rfl (.gd (t_load ty3 rfl (Cells.get (i := 1) hv2.cells rfl)) rfl (.gd (t_fieldAddr fa27_1 rfl) rfl ?_))))))))))))
       refine .gd (t_load ty3 rfl (Cells.get (i := 1) hv3.cells rfl)) rfl (.gd (t_neqF rfl rfl e2) rfl (.tq (t_pickF rfl rfl) rfl (.mv rfl rfl (.gd (t_fieldAddr fa27_2 rfl) rfl (.gd (t_load ty9 rfl (Cells.get (i := 2) hv2.cells rfl)) rfl (.gd (t_fieldAddr fa27_2 rfl) rfl (.gd (t_load ty9 rfl (Cells.get (i := 2) hv3.cells rfl)) rfl (.gd (t_sneqT rfl rfl e3) rfl (.tq (t_pickF rfl rfl) rfl (.mv rfl rfl (.so rfl rfl (.so rfl rfl ?_))))))))))))
       refine .so rfl rfl (.so rfl rfl (.so rfl rfl (.so rfl rfl (.so rfl rfl (.tq (t_pickT rfl rfl) rfl (.done (.condT rfl (.sr (.as rfl rfl (.done (Wp.ret ?_)))))))))))
       refine ⟨[_],⟨rfl,trivial⟩,⟨false,rfl,⟨fun e => by (cases e),fun e => ?_⟩⟩,hx⟩
       simp only [Mn.er,core,An.mk.injEq,Hd.mk.injEq] at e
       exact absurd e.1.2.2.1 e3
     ·skip
      refine Cl.enter Tryz.func19 rfl Tryz.ntmps19 rfl rfl (.sr (Rg.wd trivial (w_boxed (cs := a.cells c1) rfl rfl) rfl ?_))
      rintro _ w1 ⟨b2,rfl,q2,hx1,hv2⟩
      replace hx := hx.ext hx1
      refine Rg.wd trivial (w_boxed (cs := b.cells c2) rfl rfl) rfl ?_
      rintro _ w2 ⟨b3,rfl,q3,hx2,hv3⟩
      replace hx := hx.ext hx2
      replace hv2 := hv2.ext hx2
      refine .as rfl rfl (.done (.seq (.sr (.tq (t_fieldAddr fa27_0 rfl) rfl (.tq (t_load ty3 rfl (Cells.get (i := 0) hv2.cells rfl)) rfl (.tq (t_fieldAddr fa27_0 rfl) rfl (.tq (t_load ty3 rfl (Cells.get (i := 0) hv3.cells rfl)) rfl (.tq (t_neqF rfl rfl e1) rfl (.mv rfl rfl (.gd (t_fieldAddr fa27_1 rfl) rfl (.gd (t_load ty3 rfl (Cells.get (i := 1) hv2.cells rfl)) rfl (.gd (t_fieldAddr fa27_1 rfl) rfl ?_))))))))))))
      refine .gd (t_load ty3 rfl (Cells.get (i := 1) hv3.cells rfl)) rfl (.gd (t_neqT rfl rfl e2) rfl (.tq (t_pickF rfl rfl) rfl (.mv rfl rfl (.so rfl rfl (.so rfl rfl (.so rfl rfl (.so rfl rfl (.so rfl rfl (.tq (t_pickT rfl rfl) rfl (.mv rfl rfl (.so rfl rfl (.so rfl rfl ?_))))))))))))
      refine .so rfl rfl (.so rfl rfl (.so rfl rfl (.so rfl rfl (.so rfl rfl (.tq (t_pickT rfl rfl) rfl (.done (.condT rfl (.sr (.as rfl rfl (.done (Wp.ret ?_)))))))))))
      refine ⟨[_],⟨rfl,trivial⟩,⟨false,rfl,⟨fun e => by (cases e),fun e => ?_⟩⟩,hx⟩
      simp only [Mn.er,core,An.mk.injEq,Hd.mk.injEq] at e
      exact absurd e.1.2.1 e2
    ·skip
     refine Cl.enter Tryz.func19 rfl Tryz.ntmps19 rfl rfl (.sr (Rg.wd trivial (w_boxed (cs := a.cells c1) rfl rfl) rfl ?_))
     rintro _ w1 ⟨b2,rfl,q2,hx1,hv2⟩
     replace hx := hx.ext hx1
     refine Rg.wd trivial (w_boxed (cs := b.cells c2) rfl rfl) rfl ?_
     rintro _ w2 ⟨b3,rfl,q3,hx2,hv3⟩
     replace hx := hx.ext hx2
     replace hv2 := hv2.ext hx2
     refine .as rfl rfl (.done (.seq (.sr (.tq (t_fieldAddr fa27_0 rfl) rfl (.tq (t_load ty3 rfl (Cells.get (i := 0) hv2.cells rfl)) rfl (.tq (t_fieldAddr fa27_0 rfl) rfl (.tq (t_load ty3 rfl (Cells.get (i := 0) hv3.cells rfl)) rfl (.tq (t_neqT rfl rfl e1) rfl (.mv rfl rfl (.so rfl rfl (.so rfl rfl (.so rfl rfl ?_))))))))))))
     refine .so rfl rfl (.so rfl rfl (.tq (t_pickT rfl rfl) rfl (.mv rfl rfl (.so rfl rfl (.so rfl rfl (.so rfl rfl (.so rfl rfl (.so rfl rfl (.tq (t_pickT rfl rfl) rfl (.mv rfl rfl (.so rfl rfl (.so rfl rfl ?_))))))))))))
     refine .so rfl rfl (.so rfl rfl (.so rfl rfl (.so rfl rfl (.so rfl rfl (.tq (t_pickT rfl rfl) rfl (.done (.condT rfl (.sr (.as rfl rfl (.done (Wp.ret ?_)))))))))))
     refine ⟨[_],⟨rfl,trivial⟩,⟨false,rfl,⟨fun e => by (cases e),fun e => ?_⟩⟩,hx⟩
     simp only [Mn.er,core,An.mk.injEq,Hd.mk.injEq] at e
     exact absurd e.1.1 e1
end Go.Proofs.YtiogccmfmjhipaaGreatDoor.Par
namespace Go.Proofs.YtiogccmfmjhipaaGreatDoor.Par
set_option maxRecDepth 20000
open Go.Gx Go.RowKit Go.Lib
open Lexi (Asc toks catT tcs tcs_at tcs_drop tcs_length tcs_append sgx noteT)
open Ast
theorem slC_front {w : World} {p : Option Addr} {n k cap : Nat} {l : List Tok} (h : SlC w (.slice p n cap) 2 n (tcs l)) (hn : l.length = n) (hk : k ≤ n) : SlC w (.slice (if cap = 0 then p else p.map (·.add (0 * 2))) (k - 0) (cap - 0)) 2 (l.take k).length (tcs (l.take k)) := by
 have h1 := h.cut (l := 0) (r := k) (Nat.zero_le _) hk
 have e1 : ((tcs l).drop (0 * 2)).take ((k - 0) * 2) = tcs (l.take k) := by
  have h2 := tcs_append (l.take k) (l.drop k)
  rw [List.take_append_drop] at h2
  rw [h2,Nat.zero_mul,List.drop_zero,Nat.sub_zero,List.take_left' (by rw [tcs_length,List.length_take]; omega)]
 rw [e1] at h1
 rw [show (l.take k).length = k - 0 from by rw [List.length_take]; omega]
 exact h1
theorem slC_back {w : World} {p : Option Addr} {n k cap : Nat} {l : List Tok} (h : SlC w (.slice p n cap) 2 n (tcs l)) (hn : l.length = n) (hk : k ≤ n) : SlC w (.slice (if cap = k then p else p.map (·.add (k * 2))) (n - k) (cap - k)) 2 (l.drop k).length (tcs (l.drop k)) := by
 have h1 := h.cut (l := k) (r := n) hk (Nat.le_refl _)
 have e1 : ((tcs l).drop (k * 2)).take ((n - k) * 2) = tcs (l.drop k) := by
  rw [tcs_drop,List.take_of_length_le (by rw [tcs_length,List.length_drop]; omega)]
 rw [e1] at h1
 rw [show (l.drop k).length = n - k from by rw [List.length_drop]; omega]
 exact h1
theorem sg_sgx (l : List Tok) : sgk l = sgx l := rfl
def putT : List ByteArray := [⟨#[32]⟩,⟨#[10]⟩,noteT,⟨#[9]⟩]
theorem putT_le : ∀ t ∈ putT,t.size ≤ 9 := by decide
theorem sg_put {s tr : ByteArray} (hg : ∀ t ∈ toks s,t.1 ≠ 108) (k : Nat) (ht : tr ∈ putT) : sgk (toks (catT ((toks s).take k) ++ tr ++ catT ((toks s).drop k))) = sgk (toks s) := by
 rw [sg_sgx,sg_sgx]
 simp only [putT,List.mem_cons,List.not_mem_nil,or_false] at ht
 rcases ht with rfl | rfl | rfl | rfl
 ·exact Lexi.sgx_space rfl (.inl rfl) hg k
 ·exact Lexi.sgx_space rfl (.inr (.inr rfl)) hg k
 ·exact Lexi.sgx_note hg k
 ·exact Lexi.sgx_space rfl (.inr (.inl rfl)) hg k
theorem core_ast (s : ByteArray) (t : Tr) : core (astOf s t) = core (cvt s t 0 []).1 := by
 unfold astOf
 cases (cvt s t 0 []).1
 rfl
theorem ds_nil {l : List Dg} (h : cmpL (sortD l) = []) : l = [] := by
 have h1 := cmpL_nil.1 h
 have h2 := sortD_length l
 rw [h1] at h2
 exact List.length_eq_zero_iff.1 h2.symm
theorem nil_ds {l : List Dg} (h : l = []) : cmpL (sortD l) = [] := by
 subst h
 rw [show sortD ([] : List Dg) = [] from List.length_eq_zero_iff.1 (sortD_length [])]
 rfl
structure Kept (w : World) (s : ByteArray) (t : Tr) (mn : Mn) (lv : Value) (ds : List Dg) : Prop where
 pt : Parsed s t
 er : mn.er = astOf s t
 dse : ds = cmpL (sortD (cvt s t 0 []).2.2)
 ok : NoL w mn
 lv : LvL w lv ds
theorem Kept.ext {w w' : World} {s : ByteArray} {t : Tr} {mn : Mn} {lv : Value} {ds : List Dg} (h : Kept w s t mn lv ds) (x : Ext w w') : Kept w' s t mn lv ds := ⟨h.pt,h.er,h.dse,h.ok.ext x,h.lv.ext x⟩
theorem parseA_kept {w w' : World} {s : ByteArray} {u lv : Value} {t : Tr} {mn : Mn} {ds : List Dg} {K : Fs} (h : ParseA w s u w' t mn lv ds K) : Kept w' s t mn lv ds := ⟨h.pt,h.er,h.dse,(parseA_no h).1,(parseA_no h).2⟩
theorem parseA_keptB {w w' w2 : World} {s : ByteArray} {u lv : Value} {t : Tr} {mn : Mn} {ds : List Dg} {K : Fs} (h : ParseA w s u w' t mn lv ds K) (hb : Bw K w' w2) : Kept w2 s t mn lv ds :=
 ⟨h.pt,h.er,h.dse,(NOk.bw h.ok hb fun z hz => hz).mono fun z hz => Nat.lt_of_lt_of_le (h.lo z hz).2 hb.size,slC_bw h.sl hb h.bl,h.one⟩
theorem triviaLaw {w : World} {src : ByteArray} {i which : Int} (hA0 : Asc w) (hE0 : Er w) : Cl Tryz.prog 4 #[.string src,.int .i64 i,.int .i64 which] w (fun u w' => u = .bool true ∧ Ext w w') := by
 have hx := Ext.refl w
 obtain ⟨s,hs⟩ : ∃ s,src.extract 0 (min src.size 300) = s := ⟨_,rfl⟩
 have hsz : s.size ≤ 300 := by rw [← hs,ByteArray.size_extract]; omega
 have hlk := Lexi.toks_length s
 obtain ⟨n,hn⟩ : ∃ n,(toks s).length = n := ⟨_,rfl⟩
 by_cases h0 : n = 0
 ·skip
  refine Cl.enter Tryz.func4 rfl Tryz.ntmps4 rfl rfl (.sr (.as rfl rfl (.done (.seq (.sr (Rg.wd trivial (w_call Tryz.call15 rfl (example_ok (hA0.ext hx) (er_ext hE0 hx))) rfl ?_))))))
  rintro _ w1 ⟨rfl,hx1⟩
  replace hx := hx.ext hx1
  refine .tq (t_notB rfl) rfl (.done (.condF rfl (Wp.skip (.sr (.mv rfl rfl (Rg.wd trivial (w_call Tryz.call16 rfl (short_ok (n := 300))) rfl ?_))))))
  rintro _ w2 ⟨rfl,hx2⟩
  replace hx := hx.ext hx2
  rw [hs]
  refine Rg.wd trivial (w_call Tryz.call20 rfl (Lexi.tokenize_ok (by omega) (hA0.ext hx))) rfl ?_
  rintro _ w3 ⟨⟨tv,rfl,htv⟩,hx3⟩
  replace hx := hx.ext hx3
  obtain ⟨_,p,cap,rfl,hcap,_⟩ := id htv
  rw [hn] at htv hcap
  refine .mv rfl rfl (.tq (t_extract rfl rfl) rfl (.tq (t_extract rfl rfl) rfl (.as rfl rfl (.as rfl rfl (.done (.seq (.sr (.mv rfl rfl (.tq (t_neqF rfl rfl rfl) rfl (.mv rfl rfl (.gd (t_move rfl) rfl (.gd (t_lenS Tryz.underlying34 rfl) rfl ?_))))))))))))
  rw [hn]
  refine .gd (t_eqlT rfl rfl (by omega)) rfl ?_
  refine .tq (t_pickF rfl rfl) rfl (.done (.condT rfl (.sr (Rg.wd trivial (w_call Tryz.call15 rfl (example_ok (hA0.ext hx) (er_ext hE0 hx))) rfl ?_))))
  rintro _ w4 ⟨rfl,hx4⟩
  replace hx := hx.ext hx4
  replace htv := htv.ext hx4
  refine .as rfl rfl (.done (Wp.ret ?_))
  exact ⟨[_],⟨rfl,trivial⟩,rfl,hx⟩
 ·skip
  refine Cl.enter Tryz.func4 rfl Tryz.ntmps4 rfl rfl (.sr (.as rfl rfl (.done (.seq (.sr (Rg.wd trivial (w_call Tryz.call15 rfl (example_ok (hA0.ext hx) (er_ext hE0 hx))) rfl ?_))))))
  rintro _ w1 ⟨rfl,hx1⟩
  replace hx := hx.ext hx1
  refine .tq (t_notB rfl) rfl (.done (.condF rfl (Wp.skip (.sr (.mv rfl rfl (Rg.wd trivial (w_call Tryz.call16 rfl (short_ok (n := 300))) rfl ?_))))))
  rintro _ w2 ⟨rfl,hx2⟩
  replace hx := hx.ext hx2
  rw [hs]
  refine Rg.wd trivial (w_call Tryz.call20 rfl (Lexi.tokenize_ok (by omega) (hA0.ext hx))) rfl ?_
  rintro _ w3 ⟨⟨tv,rfl,htv⟩,hx3⟩
  replace hx := hx.ext hx3
  obtain ⟨_,p,cap,rfl,hcap,_⟩ := id htv
  rw [hn] at htv hcap
  refine .mv rfl rfl (.tq (t_extract rfl rfl) rfl (.tq (t_extract rfl rfl) rfl (.as rfl rfl (.as rfl rfl (.done (.seq (.sr (.mv rfl rfl (.tq (t_neqF rfl rfl rfl) rfl (.mv rfl rfl (.gd (t_move rfl) rfl (.gd (t_lenS Tryz.underlying34 rfl) rfl ?_))))))))))))
  rw [hn]
  refine .gd (t_eqlF rfl rfl (by omega)) rfl ?_
  refine .tq (t_pickF rfl rfl) rfl (.done (.condF rfl (Wp.skip (.sr (.mv rfl rfl (.mv rfl rfl (.tq (t_lenS Tryz.underlying34 rfl) rfl ?_)))))))
  refine .tq (t_addI rfl rfl (by omega)) rfl ?_
  rw [show ((n : Nat) : Int) + 1 = ((n + 1 : Nat) : Int) from by omega]
  refine Rg.wd trivial (w_call Tryz.call21 rfl (mod_ok (n := n + 1) (by omega) (by omega))) rfl ?_
  rintro _ w4 ⟨⟨k,rfl,hk,_⟩,hx4⟩
  replace hx := hx.ext hx4
  replace htv := htv.ext hx4
  refine .as rfl rfl (.done (.sr (Rg.wd trivial (w_buildSlice (bs38_4 _ _ _ _) rfl) rfl ?_)))
  rintro _ w5 ⟨bb,rfl,qb,hx5,hvb⟩
  replace hx := hx.ext hx5
  replace htv := htv.ext hx5
  refine .mv rfl rfl ?_
  refine Rg.wd trivial (w_call Tryz.call21 rfl (mod_ok (n := 4) (by omega) (by omega))) rfl ?_
  rintro _ w6 ⟨⟨j,rfl,hj,_⟩,hx6⟩
  replace hx := hx.ext hx6
  replace htv := htv.ext hx6
  replace hvb := hvb.ext hx6
  refine .tq (t_indexAddrL Tryz.underlying38 ty9 rfl rfl (by omega)) rfl ?_
  obtain ⟨tr,htr,htm⟩ : ∃ tr,[Value.string ⟨#[32]⟩,.string ⟨#[10]⟩,.string noteT,.string ⟨#[9]⟩][j]? = some (.string tr) ∧ tr ∈ putT := by
   rcases j with _ | _ | _ | _ | j
   ·exact ⟨_,rfl,by simp [putT]⟩
   ·exact ⟨_,rfl,by simp [putT]⟩
   ·exact ⟨_,rfl,by simp [putT]⟩
   ·exact ⟨_,rfl,by simp [putT]⟩
   ·omega
  have hcj : Cells _ bb (0 + ((j : Nat) : Int).toNat * 1) [.string tr] := fun q v hq => by
   rcases q with _ | q
   ·obtain rfl := Option.some.inj hq
    rw [Int.toNat_natCast,Nat.zero_add,Nat.mul_one,Nat.add_zero]
    have := hvb.cells j _ htr
    rwa [Nat.zero_add] at this
   ·cases hq
  refine .tq (t_load ty9 rfl (Cells.get (i := 0) hcj rfl)) rfl (.as rfl rfl (.done (.sr (.mv rfl rfl ?_))))
  refine Rg.wd trivial (w_call Tryz.call22 rfl (source22_ok (l := toks s) (by rw [hn]; exact htv) (by omega) (by rw [Lexi.cat_toks]; omega))) rfl ?_
  rintro _ w7 ⟨rfl,hx7⟩
  replace hx := hx.ext hx7
  replace htv := htv.ext hx7
  replace hvb := hvb.ext hx7
  rw [Lexi.cat_toks]
  refine Rg.wd trivial (w_call Tryz.call18 rfl (astParse_ok (s := s) (by omega) (hA0.ext hx) (er_ext hE0 hx))) rfl ?_
  rintro _ w8 ⟨t1,mn1,lv1,ds1,K1,A1⟩
  have hx8 := A1.ext
  obtain hk1 := parseA_kept A1
  have hue := A1.ue
  subst hue
  have hno := hk1.ok.oneL
  clear A1
  replace hx := hx.ext hx8
  replace htv := htv.ext hx8
  replace hvb := hvb.ext hx8
  refine .mv rfl rfl (.tq (t_extract rfl rfl) rfl (.tq (t_extract rfl rfl) rfl (.tq (t_extract rfl rfl) rfl (Rg.wd trivial (w_new Tryz.zeroValue27 rfl) rfl ?_))))
  rintro _ wab11 ⟨b11,rfl,qb11,hxab11,hvab11⟩
  refine Rg.wn trivial (w_put (cs := mn1.cells) hvab11 rfl rfl rfl (by rw [Mn.len]; exact ty27) (by rw [Mn.len]; rfl) (hno)) ?_
  rintro _ w9 ⟨hub11,hvb11⟩
  have hx9 := hxab11.upd hub11 (Nat.le_of_eq qb11.symm)
  clear hvab11 hub11 hxab11
  replace hx := hx.ext hx9
  replace htv := htv.ext hx9
  replace hvb := hvb.ext hx9
  replace hk1 := hk1.ext hx9
  clear qb11
  refine .as rfl rfl (.as rfl rfl (.done ?_))
  have hlt := catT_le (l := toks s) k
  have hct := congrArg ByteArray.size (catT_append ((toks s).take k) ((toks s).drop k))
  rw [List.take_append_drop,Lexi.cat_toks,ByteArray.size_append] at hct
  have htl := putT_le tr htm
  refine Wp.seq (Wp.cut (fun L w' => ∃ i_ : Nat × Value,Sub ((fun i => [(11,.pointer (some ⟨b11,0,none⟩)),(12,lv1),(13,.int .i64 0),(14,.pointer (some ⟨i.1,0,none⟩)),(15,i.2),(16,.int .i64 0)]) i_) L ∧ (fun i w' => (∃ t2 mn2 ds2,Kept w' (catT ((toks s).take k) ++ tr ++ catT ((toks s).drop k)) t2 mn2 i.2 ds2 ∧ Var w' i.1 mn2.cells 27) ∧ Ext w9 w') i_ w') ?_ ?_)
  ·skip
   refine Wp.drawB (fun _ => True) 20 mixed ?_
   intro w10 hx10 hh10
   replace hx := hx.ext hx10
   replace htv := htv.ext hx10
   refine ⟨trivial,?_⟩
   have hyB := hx10
   have hy9 := Ext.refl w10
   refine Qb.tameW (by kernel_rfl) 0 rfl (by kernel_rfl) trivial (tw_of fun wz => t_move rfl) rfl ?_
   refine Qb.tameW (by kernel_rfl) 1 rfl (by kernel_rfl) trivial (tw_of fun wz => t_move rfl) rfl ?_
   refine Qb.tameW (by kernel_rfl) 2 rfl (by kernel_rfl) trivial (tw_of fun wz => t_sliceG Tryz.underlying34 ty91 rfl rfl rfl (by omega)) rfl ?_
   refine Qb.tameW (by kernel_rfl) 4 rfl (by kernel_rfl) trivial (tw_of fun wz => t_move rfl) rfl ?_
   refine Qb.tameW (by kernel_rfl) 6 rfl (by kernel_rfl) trivial (tw_of fun wz => t_move rfl) rfl ?_
   refine Qb.tameW (by kernel_rfl) 7 rfl (by kernel_rfl) trivial (tw_of fun wz => t_move rfl) rfl ?_
   refine Qb.tameW (by kernel_rfl) 8 rfl (by kernel_rfl) trivial (tw_of fun wz => t_sliceG Tryz.underlying34 ty91 rfl rfl rfl (by omega)) rfl ?_
   refine Qb.alt2 (i := 3) (j := 16) (by kernel_rfl) ?_ ?_
   ·skip
    refine ⟨_,_,rfl,rfl,trivial,w_call Tryz.call22 rfl (source22_ok (l := (toks s).take k) (slC_front htv hn (by omega)) (by rw [List.length_take]; omega) (by omega)),rfl,fun _ _ h => trivial,?_⟩
    rintro _ w11 ⟨rfl,hx11⟩
    replace hx := hx.ext hx11
    replace htv := htv.ext hx11
    replace hy9 := hy9.ext hx11
    refine Qb.tameW (by kernel_rfl) 5 rfl (by kernel_rfl) trivial (tw_of fun wz => t_sadd rfl rfl (by omega)) rfl ?_
    refine Qb.alt2 (i := 9) (j := 16) (by kernel_rfl) ?_ ?_
    ·skip
     refine ⟨_,_,rfl,rfl,trivial,w_call Tryz.call22 rfl (source22_ok (l := (toks s).drop k) (slC_back htv hn (by omega)) (by rw [List.length_drop]; omega) (by omega)),rfl,fun _ _ h => trivial,?_⟩
     rintro _ w12 ⟨rfl,hx12⟩
     replace hx := hx.ext hx12
     replace htv := htv.ext hx12
     replace hy9 := hy9.ext hx12
     refine Qb.tameW (by kernel_rfl) 10 rfl (by kernel_rfl) trivial (tw_of fun wz => t_sadd rfl rfl (by rw [ByteArray.size_append]; omega)) rfl ?_
     refine Qb.alt2 (i := 11) (j := 16) (by kernel_rfl) ?_ ?_
     ·skip
      refine ⟨_,_,rfl,rfl,trivial,w_call Tryz.call18 rfl (astParse_ok (s := catT ((toks s).take k) ++ tr ++ catT ((toks s).drop k)) (by rw [ByteArray.size_append,ByteArray.size_append]; omega) (hA0.ext hx) (er_ext hE0 hx)),rfl,fun _ _ h => trivial,?_⟩
      rintro _ w13 ⟨t2,mn2,lv2,ds2,K2,A2⟩
      have hx13 := A2.ext
      have hue2 := A2.ue
      subst hue2
      have hno2 := (parseA_no A2).1.oneL
      have hb2 : Bw K2 w13 w13 := Bw.refl _ _
      replace hx := hx.ext hx13
      replace htv := htv.ext hx13
      replace hy9 := hy9.ext hx13
      refine Qb.tameW (by kernel_rfl) 12 rfl (by kernel_rfl) trivial (tw_of fun wz => t_move rfl) rfl ?_
      refine Qb.tameW (by kernel_rfl) 13 rfl (by kernel_rfl) trivial (tw_of fun wz => t_extract rfl rfl) rfl ?_
      refine Qb.tameW (by kernel_rfl) 14 rfl (by kernel_rfl) trivial (tw_of fun wz => t_extract rfl rfl) rfl ?_
      refine Qb.tameW (by kernel_rfl) 15 rfl (by kernel_rfl) trivial (tw_of fun wz => t_extract rfl rfl) rfl ?_
      refine Qb.alt1 (i := 16) (by kernel_rfl) ?_
      refine ⟨_,_,rfl,rfl,trivial,w_new Tryz.zeroValue27 rfl,rfl,fun _ _ h => trivial,?_⟩
      rintro _ w14 ⟨b14,rfl,q14,hx14,hva14⟩
      have g14 : w10.heap.size ≤ b14 := by have := hy9.le; omega
      have nb14 : ¬ K2 b14 := fun hk => by have := (A2.lo b14 hk).2; omega
      replace hb2 := hb2.trans (Bw.of hx14 fun z hz => (A2.lo z hz).2)
      replace hx := hx.ext hx14
      replace htv := htv.ext hx14
      replace hy9 := hy9.ext hx14
      refine Qb.alt1 (i := 17) (by kernel_rfl) ?_
      refine ⟨_,_,rfl,rfl,trivial,w_put (cs := mn2.cells) hva14 rfl rfl rfl (by rw [Mn.len]; exact ty27) (by rw [Mn.len]; rfl) hno2,rfl,fun _ _ h => trivial,?_⟩
      rintro _ wz ⟨huz,hv14⟩
      replace hb2 := hb2.trans (Bw.upd huz nb14)
      have hyz := hy9.upd huz g14
      have hk2 := parseA_keptB A2 hb2
      refine Qb.tameW (by kernel_rfl) 18 rfl (by kernel_rfl) trivial (tw_of fun wz => t_assign rfl) rfl ?_
      refine Qb.tameW (by kernel_rfl) 19 rfl (by kernel_rfl) trivial (tw_of fun wz => t_assign rfl) rfl ?_
      refine Qb.done (by kernel_rfl) ?_
      exact ⟨(b14,lv2),by repeat (first | exact .nil | refine .cons rfl ?_),⟨t2,mn2,ds2,hk2,hv14⟩,hyB.ext hyz⟩
     ·skip
      refine ⟨_,_,rfl,rfl,trivial,w_new Tryz.zeroValue27 rfl,rfl,fun _ _ h => trivial,?_⟩
      rintro _ w13 ⟨b14,rfl,q14,hx13,hva14⟩
      have g14 : w10.heap.size ≤ b14 := by have := hy9.le; omega
      replace hx := hx.ext hx13
      replace htv := htv.ext hx13
      replace hy9 := hy9.ext hx13
      refine Qb.alt1 (i := 11) (by kernel_rfl) ?_
      refine ⟨_,_,rfl,rfl,trivial,w_call Tryz.call18 rfl (astParse_ok (s := catT ((toks s).take k) ++ tr ++ catT ((toks s).drop k)) (by rw [ByteArray.size_append,ByteArray.size_append]; omega) (hA0.ext hx) (er_ext hE0 hx)),rfl,fun _ _ h => trivial,?_⟩
      rintro _ w14 ⟨t2,mn2,lv2,ds2,K2,A2⟩
      have hx14 := A2.ext
      have hue2 := A2.ue
      subst hue2
      have hno2 := (parseA_no A2).1.oneL
      have hb2 : Bw K2 w14 w14 := Bw.refl _ _
      have nb14 : ¬ K2 b14 := fun hk => by have := (A2.lo b14 hk).1; have := hva14.lt; omega
      replace hx := hx.ext hx14
      replace htv := htv.ext hx14
      replace hy9 := hy9.ext hx14
      replace hva14 := hva14.ext hx14
      refine Qb.tameW (by kernel_rfl) 12 rfl (by kernel_rfl) trivial (tw_of fun wz => t_move rfl) rfl ?_
      refine Qb.tameW (by kernel_rfl) 13 rfl (by kernel_rfl) trivial (tw_of fun wz => t_extract rfl rfl) rfl ?_
      refine Qb.tameW (by kernel_rfl) 14 rfl (by kernel_rfl) trivial (tw_of fun wz => t_extract rfl rfl) rfl ?_
      refine Qb.tameW (by kernel_rfl) 15 rfl (by kernel_rfl) trivial (tw_of fun wz => t_extract rfl rfl) rfl ?_
      refine Qb.alt1 (i := 17) (by kernel_rfl) ?_
      refine ⟨_,_,rfl,rfl,trivial,w_put (cs := mn2.cells) hva14 rfl rfl rfl (by rw [Mn.len]; exact ty27) (by rw [Mn.len]; rfl) hno2,rfl,fun _ _ h => trivial,?_⟩
      rintro _ wz ⟨huz,hv14⟩
      replace hb2 := hb2.trans (Bw.upd huz nb14)
      have hyz := hy9.upd huz g14
      have hk2 := parseA_keptB A2 hb2
      refine Qb.tameW (by kernel_rfl) 18 rfl (by kernel_rfl) trivial (tw_of fun wz => t_assign rfl) rfl ?_
      refine Qb.tameW (by kernel_rfl) 19 rfl (by kernel_rfl) trivial (tw_of fun wz => t_assign rfl) rfl ?_
      refine Qb.done (by kernel_rfl) ?_
      exact ⟨(b14,lv2),by repeat (first | exact .nil | refine .cons rfl ?_),⟨t2,mn2,ds2,hk2,hv14⟩,hyB.ext hyz⟩
    ·skip
     refine ⟨_,_,rfl,rfl,trivial,w_new Tryz.zeroValue27 rfl,rfl,fun _ _ h => trivial,?_⟩
     rintro _ w12 ⟨b14,rfl,q14,hx12,hva14⟩
     have g14 : w10.heap.size ≤ b14 := by have := hy9.le; omega
     replace hx := hx.ext hx12
     replace htv := htv.ext hx12
     replace hy9 := hy9.ext hx12
     refine Qb.alt1 (i := 9) (by kernel_rfl) ?_
     refine ⟨_,_,rfl,rfl,trivial,w_call Tryz.call22 rfl (source22_ok (l := (toks s).drop k) (slC_back htv hn (by omega)) (by rw [List.length_drop]; omega) (by omega)),rfl,fun _ _ h => trivial,?_⟩
     rintro _ w13 ⟨rfl,hx13⟩
     replace hx := hx.ext hx13
     replace htv := htv.ext hx13
     replace hy9 := hy9.ext hx13
     replace hva14 := hva14.ext hx13
     refine Qb.tameW (by kernel_rfl) 10 rfl (by kernel_rfl) trivial (tw_of fun wz => t_sadd rfl rfl (by rw [ByteArray.size_append]; omega)) rfl ?_
     refine Qb.alt1 (i := 11) (by kernel_rfl) ?_
     refine ⟨_,_,rfl,rfl,trivial,w_call Tryz.call18 rfl (astParse_ok (s := catT ((toks s).take k) ++ tr ++ catT ((toks s).drop k)) (by rw [ByteArray.size_append,ByteArray.size_append]; omega) (hA0.ext hx) (er_ext hE0 hx)),rfl,fun _ _ h => trivial,?_⟩
     rintro _ w14 ⟨t2,mn2,lv2,ds2,K2,A2⟩
     have hx14 := A2.ext
     have hue2 := A2.ue
     subst hue2
     have hno2 := (parseA_no A2).1.oneL
     have hb2 : Bw K2 w14 w14 := Bw.refl _ _
     have nb14 : ¬ K2 b14 := fun hk => by have := (A2.lo b14 hk).1; have := hva14.lt; omega
     replace hx := hx.ext hx14
     replace htv := htv.ext hx14
     replace hy9 := hy9.ext hx14
     replace hva14 := hva14.ext hx14
     refine Qb.tameW (by kernel_rfl) 12 rfl (by kernel_rfl) trivial (tw_of fun wz => t_move rfl) rfl ?_
     refine Qb.tameW (by kernel_rfl) 13 rfl (by kernel_rfl) trivial (tw_of fun wz => t_extract rfl rfl) rfl ?_
     refine Qb.tameW (by kernel_rfl) 14 rfl (by kernel_rfl) trivial (tw_of fun wz => t_extract rfl rfl) rfl ?_
     refine Qb.tameW (by kernel_rfl) 15 rfl (by kernel_rfl) trivial (tw_of fun wz => t_extract rfl rfl) rfl ?_
     refine Qb.alt1 (i := 17) (by kernel_rfl) ?_
     refine ⟨_,_,rfl,rfl,trivial,w_put (cs := mn2.cells) hva14 rfl rfl rfl (by rw [Mn.len]; exact ty27) (by rw [Mn.len]; rfl) hno2,rfl,fun _ _ h => trivial,?_⟩
     rintro _ wz ⟨huz,hv14⟩
     replace hb2 := hb2.trans (Bw.upd huz nb14)
     have hyz := hy9.upd huz g14
     have hk2 := parseA_keptB A2 hb2
     refine Qb.tameW (by kernel_rfl) 18 rfl (by kernel_rfl) trivial (tw_of fun wz => t_assign rfl) rfl ?_
     refine Qb.tameW (by kernel_rfl) 19 rfl (by kernel_rfl) trivial (tw_of fun wz => t_assign rfl) rfl ?_
     refine Qb.done (by kernel_rfl) ?_
     exact ⟨(b14,lv2),by repeat (first | exact .nil | refine .cons rfl ?_),⟨t2,mn2,ds2,hk2,hv14⟩,hyB.ext hyz⟩
   ·skip
    refine ⟨_,_,rfl,rfl,trivial,w_new Tryz.zeroValue27 rfl,rfl,fun _ _ h => trivial,?_⟩
    rintro _ w11 ⟨b14,rfl,q14,hx11,hva14⟩
    have g14 : w10.heap.size ≤ b14 := by have := hy9.le; omega
    replace hx := hx.ext hx11
    replace htv := htv.ext hx11
    replace hy9 := hy9.ext hx11
    refine Qb.alt1 (i := 3) (by kernel_rfl) ?_
    refine ⟨_,_,rfl,rfl,trivial,w_call Tryz.call22 rfl (source22_ok (l := (toks s).take k) (slC_front htv hn (by omega)) (by rw [List.length_take]; omega) (by omega)),rfl,fun _ _ h => trivial,?_⟩
    rintro _ w12 ⟨rfl,hx12⟩
    replace hx := hx.ext hx12
    replace htv := htv.ext hx12
    replace hy9 := hy9.ext hx12
    replace hva14 := hva14.ext hx12
    refine Qb.tameW (by kernel_rfl) 5 rfl (by kernel_rfl) trivial (tw_of fun wz => t_sadd rfl rfl (by omega)) rfl ?_
    refine Qb.alt1 (i := 9) (by kernel_rfl) ?_
    refine ⟨_,_,rfl,rfl,trivial,w_call Tryz.call22 rfl (source22_ok (l := (toks s).drop k) (slC_back htv hn (by omega)) (by rw [List.length_drop]; omega) (by omega)),rfl,fun _ _ h => trivial,?_⟩
    rintro _ w13 ⟨rfl,hx13⟩
    replace hx := hx.ext hx13
    replace htv := htv.ext hx13
    replace hy9 := hy9.ext hx13
    replace hva14 := hva14.ext hx13
    refine Qb.tameW (by kernel_rfl) 10 rfl (by kernel_rfl) trivial (tw_of fun wz => t_sadd rfl rfl (by rw [ByteArray.size_append]; omega)) rfl ?_
    refine Qb.alt1 (i := 11) (by kernel_rfl) ?_
    refine ⟨_,_,rfl,rfl,trivial,w_call Tryz.call18 rfl (astParse_ok (s := catT ((toks s).take k) ++ tr ++ catT ((toks s).drop k)) (by rw [ByteArray.size_append,ByteArray.size_append]; omega) (hA0.ext hx) (er_ext hE0 hx)),rfl,fun _ _ h => trivial,?_⟩
    rintro _ w14 ⟨t2,mn2,lv2,ds2,K2,A2⟩
    have hx14 := A2.ext
    have hue2 := A2.ue
    subst hue2
    have hno2 := (parseA_no A2).1.oneL
    have hb2 : Bw K2 w14 w14 := Bw.refl _ _
    have nb14 : ¬ K2 b14 := fun hk => by have := (A2.lo b14 hk).1; have := hva14.lt; omega
    replace hx := hx.ext hx14
    replace htv := htv.ext hx14
    replace hy9 := hy9.ext hx14
    replace hva14 := hva14.ext hx14
    refine Qb.tameW (by kernel_rfl) 12 rfl (by kernel_rfl) trivial (tw_of fun wz => t_move rfl) rfl ?_
    refine Qb.tameW (by kernel_rfl) 13 rfl (by kernel_rfl) trivial (tw_of fun wz => t_extract rfl rfl) rfl ?_
    refine Qb.tameW (by kernel_rfl) 14 rfl (by kernel_rfl) trivial (tw_of fun wz => t_extract rfl rfl) rfl ?_
    refine Qb.tameW (by kernel_rfl) 15 rfl (by kernel_rfl) trivial (tw_of fun wz => t_extract rfl rfl) rfl ?_
    refine Qb.alt1 (i := 17) (by kernel_rfl) ?_
    refine ⟨_,_,rfl,rfl,trivial,w_put (cs := mn2.cells) hva14 rfl rfl rfl (by rw [Mn.len]; exact ty27) (by rw [Mn.len]; rfl) hno2,rfl,fun _ _ h => trivial,?_⟩
    rintro _ wz ⟨huz,hv14⟩
    replace hb2 := hb2.trans (Bw.upd huz nb14)
    have hyz := hy9.upd huz g14
    have hk2 := parseA_keptB A2 hb2
    refine Qb.tameW (by kernel_rfl) 18 rfl (by kernel_rfl) trivial (tw_of fun wz => t_assign rfl) rfl ?_
    refine Qb.tameW (by kernel_rfl) 19 rfl (by kernel_rfl) trivial (tw_of fun wz => t_assign rfl) rfl ?_
    refine Qb.done (by kernel_rfl) ?_
    exact ⟨(b14,lv2),by repeat (first | exact .nil | refine .cons rfl ?_),⟨t2,mn2,ds2,hk2,hv14⟩,hyB.ext hyz⟩
  ·rintro L' wF ⟨⟨b14,lv2⟩,hsub,⟨t2,mn2,ds2,hk2,hv14⟩,hyF⟩
   refine Wp.sub hsub ?_
   replace hx := hx.ext hyF
   have hvb11F := hvb11.ext hyF
   have hk1F := hk1.ext hyF
   clear hvb11 hk1
   have hvb11 := hvb11F
   have hk1 := hk1F
   clear hvb11F hk1F
   have hsm1 := hk1.pt.small
   by_cases hd : ds1 = []
   ·skip
    have hc0 := ds_nil (hk1.dse.symm.trans hd)
    obtain ⟨hc2,hbare⟩ := same_ast hk1.pt hk2.pt (sg_put (hk1.pt.no108 hc0) k htm).symm hc0
    have hd2 : ds2 = [] := hk2.dse.trans (nil_ds hc2)
    have hcore : core mn1.er = core mn2.er := by rw [hk1.er,hk2.er,core_ast,core_ast]; exact core_of hbare
    have hanc : anc mn1.er ≤ 1000000 := by
     rw [hk1.er]
     have := astOf_anc s t1
     have := hsm1.cnt
     omega
    have hl1 : SlC wF lv1 5 0 [] := by have := hk1.lv.sl; rw [hd] at this; exact this
    have hl2 : SlC wF lv2 5 0 [] := by have := hk2.lv.sl; rw [hd2] at this; exact this
    refine .sr (Rg.wd trivial (w_call Tryz.call15 rfl (example_ok (hA0.ext hx) (er_ext hE0 hx))) rfl ?_)
    rintro _ w61 ⟨rfl,hx61⟩
    replace hx := hx.ext hx61
    replace hvb11 := hvb11.ext hx61
    replace hk1 := hk1.ext hx61
    replace hv14 := hv14.ext hx61
    replace hk2 := hk2.ext hx61
    replace hl1 := hl1.ext hx61
    replace hl2 := hl2.ext hx61
    refine .mv rfl rfl (.gd (t_move rfl) rfl (.gd (t_eqlT rfl rfl rfl) rfl (.tq (t_pickT rfl rfl) rfl (.mv rfl rfl (.gd (t_move rfl) rfl (.gd (t_eqlT rfl rfl rfl) rfl (.tq (t_pickT rfl rfl) rfl (.mv rfl rfl (.gd (t_move rfl) rfl (.gd (t_lenC hl1 Tryz.underlying28 rfl) rfl ?_))))))))))
    refine .gd (t_gtrF rfl rfl (by decide)) rfl ?_
    refine .gd (t_move rfl) rfl (.gd (t_move rfl) rfl (.gd (t_lenC hl2 Tryz.underlying28 rfl) rfl ?_))
    refine .gd (t_eqlT rfl rfl (by decide)) rfl ?_
    refine .gd (t_move rfl) rfl ?_
    refine .gd (t_loadA rfl hvb11.cells (by rw [Mn.len]; exact ty27)) rfl ?_
    refine .gd (t_loadA rfl hv14.cells (by rw [Mn.len]; exact ty27)) rfl ?_
    refine Rg.wd ⟨_,rfl,rfl⟩ (w_call Tryz.call19 rfl (equal_ok _ mn1 mn2 (Nat.le_refl _) hanc _ hk1.ok hk2.ok)) rfl ?_
    rintro _ w62 ⟨⟨bq,rfl,hbq⟩,hx62⟩
    replace hx := hx.ext hx62
    replace hvb11 := hvb11.ext hx62
    replace hk1 := hk1.ext hx62
    replace hv14 := hv14.ext hx62
    replace hk2 := hk2.ext hx62
    replace hl1 := hl1.ext hx62
    replace hl2 := hl2.ext hx62
    obtain rfl := hbq.2 hcore
    refine .gd (t_pickT rfl rfl) rfl (.gd (t_pickF rfl rfl) rfl (.tq (t_pickT rfl rfl) rfl (.as rfl rfl (.done (Wp.ret ?_)))))
    exact ⟨[_],⟨rfl,trivial⟩,rfl,hx⟩
   ·skip
    have hpos : 0 < ds1.length := List.length_pos_iff.2 hd
    have hl1 := hk1.lv.sl
    refine .sr (Rg.wd trivial (w_call Tryz.call15 rfl (example_ok (hA0.ext hx) (er_ext hE0 hx))) rfl ?_)
    rintro _ w61 ⟨rfl,hx61⟩
    replace hx := hx.ext hx61
    replace hvb11 := hvb11.ext hx61
    replace hk1 := hk1.ext hx61
    replace hv14 := hv14.ext hx61
    replace hk2 := hk2.ext hx61
    replace hl1 := hl1.ext hx61
    refine .mv rfl rfl (.gd (t_move rfl) rfl (.gd (t_eqlT rfl rfl rfl) rfl (.tq (t_pickT rfl rfl) rfl (.mv rfl rfl (.gd (t_move rfl) rfl (.gd (t_eqlT rfl rfl rfl) rfl (.tq (t_pickT rfl rfl) rfl (.mv rfl rfl (.gd (t_move rfl) rfl (.gd (t_lenC hl1 Tryz.underlying28 rfl) rfl ?_))))))))))
    refine .gd (t_gtrT rfl rfl (by omega)) rfl ?_
    refine .gd (t_move rfl) rfl (.so rfl rfl (.so rfl rfl (.so rfl rfl (.so rfl rfl (Rg.skip (.inr ⟨_,rfl,rfl⟩) rfl (Rg.skip (.inr ⟨_,rfl,rfl⟩) rfl (Rg.skip (.inr ⟨_,rfl,rfl⟩) rfl (.so rfl rfl (.gd (t_pickT rfl rfl) rfl (.tq (t_pickT rfl rfl) rfl (.as rfl rfl (.done ?_))))))))))))
    refine Wp.ret ?_
    exact ⟨[_],⟨rfl,trivial⟩,rfl,hx⟩
end Go.Proofs.YtiogccmfmjhipaaGreatDoor.Par
