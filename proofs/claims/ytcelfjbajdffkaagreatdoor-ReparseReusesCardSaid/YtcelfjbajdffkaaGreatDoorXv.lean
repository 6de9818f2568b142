/- The reference's tokens as plain data: they are the lexer's. No program. -/
import Derived.Test.YtcelfjbajdffkaaGreatDoorXd
import Derived.Test.YtcelfjbajdffkaaGreatDoorXk
import Derived.Test.YtcelfjbajdffkaaGreatDoorXj
import Derived.Test.YtcelfjbajdffkaaGreatDoorXb
import Derived.Test.YtcelfjbajdffkaaGreatDoorXa
import Derived.Test.YtcelfjbajdffkaaGreatDoorXp
set_option linter.unusedVariables false
set_option linter.unusedSimpArgs false
namespace Go.Proofs.YtcelfjbajdffkaaGreatDoor.Lexi
open Go.Lib
def lit (s : ByteArray) : Nat → Nat → Bool → Option Nat
 | 0,_,_ => none
 | f + 1,i,e => if bz s i = 10 then none else if bz s i = 34 ∧ e = false then some (i + 1) else lit s f (i + 1) (decide (bz s i = 92) && !e)
theorem lit_str (s : ByteArray) : ∀ (f i : Nat),s.size - i < f → lit s f i false = str s i
 | f + 1,i,hf => by
  unfold lit
  by_cases h1 : bz s i = 10
  ·rw [if_pos h1,str_nl h1]
  ·have hi := bz_lt h1
   rw [if_neg h1]
   by_cases h2 : bz s i = 34
   ·rw [if_pos ⟨h2,rfl⟩,str_q h2]
   ·rw [if_neg (fun h => h2 h.1),str_step h1 h2]
    by_cases h3 : bz s i = 92
    ·simp only [h3,decide_true,Bool.not_false,Bool.and_true]
     by_cases h4 : bz s (i + 1) = 10
     ·rw [if_neg (fun h => h.2 h4),str_nl h4]
      cases f with
      | zero => rfl
      | succ f => unfold lit; rw [if_pos h4]
     ·have hi2 := bz_lt h4
      rw [if_pos ⟨trivial,h4⟩]
      obtain ⟨f,rfl⟩ : ∃ g,f = g + 1 := ⟨f - 1,by omega⟩
      unfold lit
      rw [if_neg h4,if_neg (fun h => by cases h.2)]
      simp only [Bool.not_true,Bool.and_false]
      exact lit_str s f (i + 2) (by omega)
    ·rw [if_neg (fun h => h3 h.1)]
     simp only [h3,decide_false,Bool.false_and]
     exact lit_str s f (i + 1) (by omega)
def oneList : List ByteArray := oneText.data.toList.map fun b => ⟨#[b]⟩
def puncts : List ByteArray := [⟨#[58,58]⟩,⟨#[61,62]⟩,⟨#[45,62]⟩,⟨#[61,61]⟩,⟨#[38,38]⟩,⟨#[124,124]⟩,⟨#[40]⟩,⟨#[41]⟩,⟨#[123]⟩,⟨#[125]⟩,⟨#[91]⟩,⟨#[93]⟩,⟨#[60]⟩,⟨#[62]⟩,⟨#[44]⟩,⟨#[59]⟩,⟨#[58]⟩,⟨#[46]⟩,⟨#[61]⟩,⟨#[43]⟩,⟨#[45]⟩,⟨#[42]⟩,⟨#[47]⟩,⟨#[33]⟩,⟨#[38]⟩,⟨#[124]⟩]
theorem puncts_eq : puncts = twoList ++ oneList := by decide +kernel
def pm (s p : ByteArray) : Bool := decide (p.size ≤ s.size) && decide (s.extract 0 p.size = p)
theorem two_size {p : ByteArray} (h : p ∈ twoList) : p.size = 2 := by
 have h2 : (twoList.all fun x => decide (x.size = 2)) = true := by decide +kernel
 exact of_decide_eq_true (List.all_eq_true.1 h2 _ h)
theorem one_size {p : ByteArray} (h : p ∈ oneList) : p.size = 1 := by
 obtain ⟨b,_,rfl⟩ := List.mem_map.1 h
 rfl
theorem two_iff {s : ByteArray} (hs : 1 ≤ s.size) : (bz s 1 ≠ 10 ∧ isTwo (s.extract 0 2) = true) ↔ ∃ p ∈ twoList,pm s p = true := by
 constructor
 ·rintro ⟨_,h⟩
  have hm := (containsS_iff _ _).1 h
  have hz := two_size hm
  refine ⟨_,hm,?_⟩
  rw [ByteArray.size_extract] at hz
  have hs2 : 2 ≤ s.size := by omega
  have e : (s.extract 0 2).size = 2 := by rw [ByteArray.size_extract]; omega
  simp only [pm,e,hs2,decide_true,Bool.true_and]
 ·rintro ⟨p,hm,hp⟩
  have hz := two_size hm
  simp only [pm,hz,Bool.and_eq_true,decide_eq_true_eq] at hp
  have ht : isTwo (s.extract 0 2) = true := (containsS_iff _ _).2 (by rw [hp.2]; exact hm)
  exact ⟨two_nl ht (by omega),ht⟩
theorem one_iff {s : ByteArray} (hs : 1 ≤ s.size) : isOne (bt s 0) = true ↔ ∃ p ∈ oneList,pm s p = true := by
 have key : ∀ (l : List UInt8) (c : UInt8),0 ≤ Lib.indexByte l c ↔ c ∈ l := by
  intro l
  induction l with
  | nil => intro c; simp [Lib.indexByte]
  | cons x l ih =>
   intro c
   have := ih c
   unfold Lib.indexByte
   by_cases h : x = c
   ·simp [h]
   ·simp only [List.mem_cons,Ne.symm h,false_or,← this]
    have h2 : (x == c) = false := by simpa using h
    simp only [h2]
    simp
    split <;> omega
 obtain ⟨b,l,hbl⟩ : ∃ b l,s.data.toList = b :: l := by
  cases h : s.data.toList with
  | nil => have := list_len s; rw [h] at this; simp at this; omega
  | cons b l => exact ⟨b,l,rfl⟩
 have hb : bt s 0 = (b.toNat : Int) := by unfold bt; rw [hbl]; rfl
 have he : s.extract 0 1 = ⟨#[b]⟩ := by
  apply by_list
  rw [list_front,hbl]
  rfl
 unfold isOne
 rw [decide_eq_true_iff,hb,key]
 have hu : ((b.toNat : Int).toNat.toUInt8) = b := by
  rw [Int.toNat_natCast]
  exact UInt8.ofNat_toNat
 rw [hu]
 constructor
 ·intro h
  refine ⟨⟨#[b]⟩,List.mem_map.2 ⟨b,h,rfl⟩,?_⟩
  simp only [pm,Bool.and_eq_true,decide_eq_true_eq]
  exact ⟨hs,he⟩
 ·rintro ⟨p,hm,hp⟩
  obtain ⟨c,hc,rfl⟩ := List.mem_map.1 hm
  simp only [pm,Bool.and_eq_true,decide_eq_true_eq] at hp
  have e : (⟨#[b]⟩ : ByteArray) = ⟨#[c]⟩ := by rw [← he]; exact hp.2
  injection e with e
  injection e with e
  injection e with e
  rw [e]
  exact hc
theorem punct_tok {s : ByteArray} (hs : 1 ≤ s.size) : (if bz s 1 ≠ 10 ∧ isTwo (s.extract 0 2) = true then ((2 : Nat),(107 : Int)) else if isOne (bt s 0) = true then (1,107) else (1,108)) = (match puncts.find? (pm s) with | some p => (p.size,107) | none => (1,108)) := by
 rw [puncts_eq,List.find?_append]
 by_cases h2 : bz s 1 ≠ 10 ∧ isTwo (s.extract 0 2) = true
 ·rw [if_pos h2]
  obtain ⟨p,hm,hp⟩ := (two_iff hs).1 h2
  cases hf : twoList.find? (pm s) with
  | none => exact absurd hp (by simpa using List.find?_eq_none.1 hf p hm)
  | some q =>
   have := two_size (List.mem_of_find?_eq_some hf)
   simp [this]
 ·rw [if_neg h2]
  have hn : twoList.find? (pm s) = none := List.find?_eq_none.2 fun p hm hp => h2 ((two_iff hs).2 ⟨p,hm,hp⟩)
  rw [hn]
  simp only [Option.none_or]
  by_cases h1 : isOne (bt s 0) = true
  ·rw [if_pos h1]
   obtain ⟨p,hm,hp⟩ := (one_iff hs).1 h1
   cases hf : oneList.find? (pm s) with
   | none => exact absurd hp (by simpa using List.find?_eq_none.1 hf p hm)
   | some q =>
    have := one_size (List.mem_of_find?_eq_some hf)
    simp [this]
  ·rw [if_neg h1]
   have hn : oneList.find? (pm s) = none := List.find?_eq_none.2 fun p hm hp => h1 ((one_iff hs).2 ⟨p,hm,hp⟩)
   rw [hn]
def kws : List ByteArray := [⟨#[117,115,101]⟩,⟨#[112,117,98]⟩,⟨#[97,115]⟩,⟨#[102,110]⟩,⟨#[115,116,114,117,99,116]⟩,⟨#[101,110,117,109]⟩,⟨#[116,114,97,105,116]⟩,⟨#[105,109,112,108]⟩,⟨#[102,111,114]⟩,⟨#[99,111,110,115,116]⟩,⟨#[109,97,99,114,111]⟩,⟨#[108,101,116]⟩,⟨#[109,117,116]⟩,⟨#[119,104,105,108,101]⟩,⟨#[114,101,116,117,114,110]⟩,⟨#[109,97,116,99,104]⟩,⟨#[105,102]⟩,⟨#[101,108,115,101]⟩,⟨#[110,101,119]⟩,⟨#[116,114,117,101]⟩,⟨#[102,97,108,115,101]⟩,⟨#[116,121,112,101]⟩]
theorem kws_eq : kws = kwList := by decide +kernel
theorem tok_ref {s : ByteArray} (h : 0 < s.size) : tok s =
  if 0 < scan isSp s 0 then ((scan isSp s 0 : Nat),(101 : Int)) else if bz s 0 = 47 ∧ bz s 1 = 47 then (scan noNl s 0,102) else if 0 < scan isDg s 0 then (scan isDg s 0,105)
  else if 0 < scan isId s 0 then (scan isId s 0,if isKw (s.extract 0 (scan isId s 0)) then 104 else 103)
  else if bt s 0 = 34 then (match str s 1 with | some j => (j,106) | none => (scan noNl s 0,108))
  else match puncts.find? (pm s) with | some p => (p.size,107) | none => (1,108) := by
 have key : ∀ p : Int → Bool,(0 < scan p s 0) ↔ p (bt s 0) = true := fun p => by
  constructor
  ·intro hp
   obtain ⟨_,_,k3,_⟩ := scan_spec p s 0
   exact k3 0 (Nat.le_refl _) hp
  ·exact scan_pos h
 rw [← punct_tok h]
 unfold tok
 simp only [key]
 by_cases h1 : isSp (bt s 0) = true
 ·rw [if_pos h1,if_pos h1]
 rw [if_neg h1,if_neg h1]
 by_cases h2 : bz s 0 = 47 ∧ bz s 1 = 47
 ·rw [if_pos h2,if_pos h2]
 rw [if_neg h2,if_neg h2]
 by_cases h3 : isLt (bt s 0) = true
 ·have h4 : ¬ isDg (bt s 0) = true := by
   intro h4
   simp [isLt,isDg] at h3 h4
   omega
  have h6 : isId (bt s 0) = true := by simp [isId,h3]
  rw [if_pos h3,if_neg h4,if_pos h6]
 rw [if_neg h3]
 by_cases h4 : isDg (bt s 0) = true
 ·rw [if_pos h4,if_pos h4]
 have h6 : ¬ isId (bt s 0) = true := by simp [isId,h3,h4]
 rw [if_neg h4,if_neg h4,if_neg h6]
 by_cases h5 : bt s 0 = 34
 ·rw [if_pos h5,if_pos h5,scan_next (p := noNl) (i := 0) h (by rw [h5]; rfl)]
  cases str s 1 <;> rfl
 ·rw [if_neg h5,if_neg h5]
theorem cm_iff {s : ByteArray} : (bz s 0 = 47 ∧ bz s 1 = 47) ↔ (1 < s.size ∧ s.extract 0 2 = ⟨#[47,47]⟩) := by
 have hl := list_len s
 constructor
 ·rintro ⟨h0,h1⟩
  have i1 : 1 < s.size := bz_lt (by rw [h1]; decide)
  rw [bz_in (by omega)] at h0
  rw [bz_in i1] at h1
  refine ⟨i1,?_⟩
  apply by_list
  rw [list_front]
  unfold bt at h0 h1
  match hd : s.data.toList with
  | [] => rw [hd] at hl; simp at hl; omega
  | [x] => rw [hd] at hl; simp at hl; omega
  | x :: y :: r =>
   rw [hd] at h0 h1
   have e0 : x = 47 := UInt8.toNat_inj.1 (by have : (x.toNat : Int) = 47 := h0; show x.toNat = 47; omega)
   have e1 : y = 47 := UInt8.toNat_inj.1 (by have : (y.toNat : Int) = 47 := h1; show y.toNat = 47; omega)
   rw [e0,e1]
   rfl
 ·rintro ⟨i1,he⟩
  rw [bz_in (by omega),bz_in i1]
  have h2 : (s.extract 0 2).data.toList = [47,47] := by rw [he]
  rw [list_front] at h2
  unfold bt
  match hd : s.data.toList with
  | [] => rw [hd] at hl; simp at hl; omega
  | [x] => rw [hd] at hl; simp at hl; omega
  | x :: y :: r =>
   rw [hd] at h2
   injection h2 with e0 h2
   injection h2 with e1 h2
   rw [e0,e1]
   exact ⟨rfl,rfl⟩
end Go.Proofs.YtcelfjbajdffkaaGreatDoor.Lexi
namespace Go.Proofs.YtcelfjbajdffkaaGreatDoor.Lexi
set_option maxRecDepth 20000
open Go.Gx Go.RowKit Go.Lib
open Par (lv_agg)
theorem isWord_ok {w : World} {c : Int} : Cl Tryz.prog 118 #[.int .u8 c] w (fun u w' => u = .bool (isId c) ∧ w = w') := by
 have hc : (97 ≤ c ∧ c ≤ 122) ∨ 122 < c ∨ (65 ≤ c ∧ c ≤ 90) ∨ (90 < c ∧ c < 97 ∧ c = 95) ∨ (90 < c ∧ c < 97 ∧ c ≠ 95) ∨ (57 < c ∧ c < 65) ∨ (48 ≤ c ∧ c ≤ 57) ∨ c < 48 := by omega
 rcases hc with h | h | h | h | h | h | h | h
 all_goals
  refine Cl.enter Tryz.func118 rfl Tryz.ntmps118 rfl rfl (.sr (.as rfl rfl (.done (.sr (.mv rfl rfl ?_)))))
  first | refine .tq (t_geqT rfl rfl (by omega)) rfl ?_ | refine .tq (t_geqF rfl rfl (by omega)) rfl ?_ | refine .tq (t_geq rfl rfl) rfl ?_
  refine .mv rfl rfl ?_
  first | refine .gd (t_move rfl) rfl ?_ | refine .so rfl rfl ?_
  first | refine .gd (t_leqT rfl rfl (by omega)) rfl ?_ | refine .gd (t_leqF rfl rfl (by omega)) rfl ?_ | refine .gd (t_leq rfl rfl) rfl ?_ | refine .so rfl rfl ?_
  first | refine .tq (t_pickT rfl rfl) rfl ?_ | refine .tq (t_pickF rfl rfl) rfl ?_
  refine .mv rfl rfl ?_
  first | refine .gd (t_move rfl) rfl ?_ | refine .so rfl rfl ?_
  first | refine .gd (t_geqT rfl rfl (by omega)) rfl ?_ | refine .gd (t_geqF rfl rfl (by omega)) rfl ?_ | refine .gd (t_geq rfl rfl) rfl ?_ | refine .so rfl rfl ?_
  first | refine .gd (t_move rfl) rfl ?_ | refine .so rfl rfl ?_
  first | refine .gd (t_move rfl) rfl ?_ | refine .so rfl rfl ?_
  first | refine .gd (t_leqT rfl rfl (by omega)) rfl ?_ | refine .gd (t_leqF rfl rfl (by omega)) rfl ?_ | refine .gd (t_leq rfl rfl) rfl ?_ | refine .so rfl rfl ?_
  first | refine .gd (t_pickT rfl rfl) rfl ?_ | refine .gd (t_pickF rfl rfl) rfl ?_ | refine .so rfl rfl ?_
  first | refine .tq (t_pickT rfl rfl) rfl ?_ | refine .tq (t_pickF rfl rfl) rfl ?_
  refine .mv rfl rfl ?_
  first | refine .gd (t_move rfl) rfl ?_ | refine .so rfl rfl ?_
  first | refine .gd (t_eqlT rfl rfl (by omega)) rfl ?_ | refine .gd (t_eqlF rfl rfl (by omega)) rfl ?_ | refine .gd (t_eql rfl rfl) rfl ?_ | refine .so rfl rfl ?_
  first | refine .tq (t_pickT rfl rfl) rfl ?_ | refine .tq (t_pickF rfl rfl) rfl ?_
  refine .mv rfl rfl ?_
  first | refine .gd (t_move rfl) rfl ?_ | refine .so rfl rfl ?_
  first | refine .gd (t_geqT rfl rfl (by omega)) rfl ?_ | refine .gd (t_geqF rfl rfl (by omega)) rfl ?_ | refine .gd (t_geq rfl rfl) rfl ?_ | refine .so rfl rfl ?_
  first | refine .gd (t_move rfl) rfl ?_ | refine .so rfl rfl ?_
  first | refine .gd (t_move rfl) rfl ?_ | refine .so rfl rfl ?_
  first | refine .gd (t_leqT rfl rfl (by omega)) rfl ?_ | refine .gd (t_leqF rfl rfl (by omega)) rfl ?_ | refine .gd (t_leq rfl rfl) rfl ?_ | refine .so rfl rfl ?_
  first | refine .gd (t_pickT rfl rfl) rfl ?_ | refine .gd (t_pickF rfl rfl) rfl ?_ | refine .so rfl rfl ?_
  first | refine .tq (t_pickT rfl rfl) rfl ?_ | refine .tq (t_pickF rfl rfl) rfl ?_
  refine .as rfl rfl (.done (Wp.ret ?_))
  exact ⟨[_],⟨rfl,trivial⟩,congrArg Value.bool (by simp [isId,isLt,isDg]; omega),rfl⟩
theorem run0_ok {w : World} {s : ByteArray} (hs : s.size ≤ 2000) : Cl Tryz.prog 81 #[.string s,.int .i64 0] w (fun u w' => u = .int .i64 (scan isSp s 0) ∧ w = w') := by
 refine Cl.enter Tryz.func81 rfl Tryz.ntmps81 rfl rfl (.sr (.as rfl rfl (.done (.seq (.sr (.as rfl rfl (.done (Wp.block ?_))))))))
 refine Wp.loop (ι := Nat) (fun i => [(0,.string s),(1,.int .i64 0),(5,.int .i64 i)])
  (fun i w' => i ≤ s.size ∧ (∀ k,0 ≤ k → k < i → isSp (bt s k) = true) ∧ w = w') (fun i => s.size - i) 0 (by repeat (first | exact .nil | refine .cons rfl ?_)) ⟨Nat.zero_le _,fun k _ h => absurd h (Nat.not_lt_zero _),rfl⟩ ?_
 rintro i _ ⟨hi,hall,rfl⟩
 by_cases hlt : i < s.size
 ·obtain ⟨c,hc⟩ : ∃ c,bt s i = c := ⟨_,rfl⟩
  cases hp : isSp c with
  | true =>
   have hd : c = 32 ∨ c = 9 ∨ c = 10 ∨ c = 13 := by simp [isSp] at hp; omega
   rcases hd with h | h | h | h
   all_goals
    refine .seq (.sr (.mv rfl rfl (.mv rfl rfl (.tq (t_len Tryz.underlying9 rfl) rfl ?_))))
    refine .tq (t_lssT rfl rfl (by omega)) rfl ?_
    refine .done (.condT rfl (Wp.skip (.seq (Wp.block (.sr (.mv rfl rfl (.mv rfl rfl ?_)))))))
    refine .tq (t_index Tryz.underlying9 rfl rfl (by omega)) rfl ?_
    rw [show ((s.data.toList.getD ((i : Nat) : Int).toNat 0).toNat : Int) = c from hc]
    refine .as rfl rfl (.done (.sr (.mv rfl rfl ?_)))
    first | refine .tq (t_neqT rfl rfl (by omega)) rfl ?_ | refine .tq (t_neqF rfl rfl (by omega)) rfl ?_ | refine .tq (t_neq rfl rfl) rfl ?_
    refine .as rfl rfl (.done (.seq (.sr (.mv rfl rfl (.done (Wp.block (.sr ?_)))))))
    first | refine .tq (t_eqlT rfl rfl (by omega)) rfl ?_ | refine .tq (t_eqlF rfl rfl (by omega)) rfl ?_ | refine .tq (t_eql rfl rfl) rfl ?_
    refine .as rfl rfl (.done (.condT rfl (Wp.region (.mv rfl rfl ?_))))
    first | refine .tq (t_eqlT rfl rfl (by omega)) rfl ?_ | refine .tq (t_eqlF rfl rfl (by omega)) rfl ?_ | refine .tq (t_eql rfl rfl) rfl ?_
    refine .mv rfl rfl ?_
    first | refine .gd (t_move rfl) rfl ?_ | refine .so rfl rfl ?_
    first | refine .gd (t_eqlT rfl rfl (by omega)) rfl ?_ | refine .gd (t_eqlF rfl rfl (by omega)) rfl ?_ | refine .gd (t_eql rfl rfl) rfl ?_ | refine .so rfl rfl ?_
    first | refine .tq (t_pickT rfl rfl) rfl ?_ | refine .tq (t_pickF rfl rfl) rfl ?_
    refine .mv rfl rfl ?_
    first | refine .gd (t_move rfl) rfl ?_ | refine .so rfl rfl ?_
    first | refine .gd (t_eqlT rfl rfl (by omega)) rfl ?_ | refine .gd (t_eqlF rfl rfl (by omega)) rfl ?_ | refine .gd (t_eql rfl rfl) rfl ?_ | refine .so rfl rfl ?_
    first | refine .tq (t_pickT rfl rfl) rfl ?_ | refine .tq (t_pickF rfl rfl) rfl ?_
    refine .mv rfl rfl ?_
    first | refine .gd (t_move rfl) rfl ?_ | refine .so rfl rfl ?_
    first | refine .gd (t_eqlT rfl rfl (by omega)) rfl ?_ | refine .gd (t_eqlF rfl rfl (by omega)) rfl ?_ | refine .gd (t_eql rfl rfl) rfl ?_ | refine .so rfl rfl ?_
    first | refine .tq (t_pickT rfl rfl) rfl ?_ | refine .tq (t_pickF rfl rfl) rfl ?_
    refine .as rfl rfl (.done (.sr (.mv rfl rfl (.tq (t_notB rfl) rfl (.done (.condF rfl (Wp.skip (Wp.region (.mv rfl rfl ?_)))))))))
    first | refine .tq (t_addI rfl rfl (by omega)) rfl ?_ | refine .tq (t_add rfl rfl) rfl ?_
    refine .as rfl rfl (.done ?_)
    exact ⟨i + 1,by repeat (first | exact .nil | refine .cons rfl ?_),⟨hlt,fun k _ hk => by rcases Nat.lt_succ_iff_lt_or_eq.1 hk with hk | rfl; exact hall k (Nat.zero_le _) hk; rw [hc]; exact hp,rfl⟩,by omega⟩
  | false =>
   have hd : (c ≠ 32 ∧ c ≠ 9 ∧ c ≠ 10 ∧ c ≠ 13) ∨ False := by simp [isSp] at hp; omega
   rcases hd with h | h
   all_goals try exact h.elim
   all_goals
    refine .seq (.sr (.mv rfl rfl (.mv rfl rfl (.tq (t_len Tryz.underlying9 rfl) rfl ?_))))
    refine .tq (t_lssT rfl rfl (by omega)) rfl ?_
    refine .done (.condT rfl (Wp.skip (.seq (Wp.block (.sr (.mv rfl rfl (.mv rfl rfl ?_)))))))
    refine .tq (t_index Tryz.underlying9 rfl rfl (by omega)) rfl ?_
    rw [show ((s.data.toList.getD ((i : Nat) : Int).toNat 0).toNat : Int) = c from hc]
    refine .as rfl rfl (.done (.sr (.mv rfl rfl ?_)))
    first | refine .tq (t_neqT rfl rfl (by omega)) rfl ?_ | refine .tq (t_neqF rfl rfl (by omega)) rfl ?_ | refine .tq (t_neq rfl rfl) rfl ?_
    refine .as rfl rfl (.done (.seq (.sr (.mv rfl rfl (.done (Wp.block (.sr ?_)))))))
    first | refine .tq (t_eqlT rfl rfl (by omega)) rfl ?_ | refine .tq (t_eqlF rfl rfl (by omega)) rfl ?_ | refine .tq (t_eql rfl rfl) rfl ?_
    refine .as rfl rfl (.done (.condT rfl (Wp.region (.mv rfl rfl ?_))))
    first | refine .tq (t_eqlT rfl rfl (by omega)) rfl ?_ | refine .tq (t_eqlF rfl rfl (by omega)) rfl ?_ | refine .tq (t_eql rfl rfl) rfl ?_
    refine .mv rfl rfl ?_
    first | refine .gd (t_move rfl) rfl ?_ | refine .so rfl rfl ?_
    first | refine .gd (t_eqlT rfl rfl (by omega)) rfl ?_ | refine .gd (t_eqlF rfl rfl (by omega)) rfl ?_ | refine .gd (t_eql rfl rfl) rfl ?_ | refine .so rfl rfl ?_
    first | refine .tq (t_pickT rfl rfl) rfl ?_ | refine .tq (t_pickF rfl rfl) rfl ?_
    refine .mv rfl rfl ?_
    first | refine .gd (t_move rfl) rfl ?_ | refine .so rfl rfl ?_
    first | refine .gd (t_eqlT rfl rfl (by omega)) rfl ?_ | refine .gd (t_eqlF rfl rfl (by omega)) rfl ?_ | refine .gd (t_eql rfl rfl) rfl ?_ | refine .so rfl rfl ?_
    first | refine .tq (t_pickT rfl rfl) rfl ?_ | refine .tq (t_pickF rfl rfl) rfl ?_
    refine .mv rfl rfl ?_
    first | refine .gd (t_move rfl) rfl ?_ | refine .so rfl rfl ?_
    first | refine .gd (t_eqlT rfl rfl (by omega)) rfl ?_ | refine .gd (t_eqlF rfl rfl (by omega)) rfl ?_ | refine .gd (t_eql rfl rfl) rfl ?_ | refine .so rfl rfl ?_
    first | refine .tq (t_pickT rfl rfl) rfl ?_ | refine .tq (t_pickF rfl rfl) rfl ?_
    refine .as rfl rfl (.done (.sr (.mv rfl rfl (.tq (t_notB rfl) rfl (.done (.condT rfl (.sr (.mv rfl rfl (.as rfl rfl (.done (Wp.ret ?_)))))))))))
    exact ⟨[_],⟨rfl,trivial⟩,by rw [scan_unique (p := isSp) (i := 0) (j := i) (Nat.zero_le _) hi hall fun _ => by rw [hc]; exact hp]; rfl,rfl⟩
 ·have hk : i = s.size := by omega
  subst hk
  refine .seq (.sr (.mv rfl rfl (.mv rfl rfl (.tq (t_len Tryz.underlying9 rfl) rfl ?_))))
  refine .tq (t_lssF rfl rfl (by omega)) rfl ?_
  refine .done (.condF rfl (Wp.exit (.sr (.mv rfl rfl (.tq (t_len Tryz.underlying9 rfl) rfl (.as rfl rfl (.done (Wp.ret ?_))))))))
  exact ⟨[_],⟨rfl,trivial⟩,by rw [scan_unique (p := isSp) (i := 0) (j := s.size) (Nat.zero_le _) (Nat.le_refl _) hall fun h => absurd h (Nat.lt_irrefl _)]; rfl,rfl⟩
theorem run1_ok {w : World} {s : ByteArray} (hs : s.size ≤ 2000) : Cl Tryz.prog 81 #[.string s,.int .i64 1] w (fun u w' => u = .int .i64 (scan noNl s 0) ∧ w = w') := by
 refine Cl.enter Tryz.func81 rfl Tryz.ntmps81 rfl rfl (.sr (.as rfl rfl (.done (.seq (.sr (.as rfl rfl (.done (Wp.block ?_))))))))
 refine Wp.loop (ι := Nat) (fun i => [(0,.string s),(1,.int .i64 1),(5,.int .i64 i)])
  (fun i w' => i ≤ s.size ∧ (∀ k,0 ≤ k → k < i → noNl (bt s k) = true) ∧ w = w') (fun i => s.size - i) 0 (by repeat (first | exact .nil | refine .cons rfl ?_)) ⟨Nat.zero_le _,fun k _ h => absurd h (Nat.not_lt_zero _),rfl⟩ ?_
 rintro i _ ⟨hi,hall,rfl⟩
 by_cases hlt : i < s.size
 ·obtain ⟨c,hc⟩ : ∃ c,bt s i = c := ⟨_,rfl⟩
  cases hp : noNl c with
  | true =>
   have hd : c ≠ 10 ∨ False := by simp [noNl] at hp; omega
   rcases hd with h | h
   all_goals try exact h.elim
   all_goals
    refine .seq (.sr (.mv rfl rfl (.mv rfl rfl (.tq (t_len Tryz.underlying9 rfl) rfl ?_))))
    refine .tq (t_lssT rfl rfl (by omega)) rfl ?_
    refine .done (.condT rfl (Wp.skip (.seq (Wp.block (.sr (.mv rfl rfl (.mv rfl rfl ?_)))))))
    refine .tq (t_index Tryz.underlying9 rfl rfl (by omega)) rfl ?_
    rw [show ((s.data.toList.getD ((i : Nat) : Int).toNat 0).toNat : Int) = c from hc]
    refine .as rfl rfl (.done (.sr (.mv rfl rfl ?_)))
    first | refine .tq (t_neqT rfl rfl (by omega)) rfl ?_ | refine .tq (t_neqF rfl rfl (by omega)) rfl ?_ | refine .tq (t_neq rfl rfl) rfl ?_
    refine .as rfl rfl (.done (.seq (.sr (.mv rfl rfl (.done (Wp.block (.sr ?_)))))))
    first | refine .tq (t_eqlT rfl rfl (by omega)) rfl ?_ | refine .tq (t_eqlF rfl rfl (by omega)) rfl ?_ | refine .tq (t_eql rfl rfl) rfl ?_
    refine .as rfl rfl (.done (.condF rfl (.sr ?_)))
    first | refine .tq (t_eqlT rfl rfl (by omega)) rfl ?_ | refine .tq (t_eqlF rfl rfl (by omega)) rfl ?_ | refine .tq (t_eql rfl rfl) rfl ?_
    refine .as rfl rfl (.done (.condF rfl (.sr ?_)))
    first | refine .tq (t_eqlT rfl rfl (by omega)) rfl ?_ | refine .tq (t_eqlF rfl rfl (by omega)) rfl ?_ | refine .tq (t_eql rfl rfl) rfl ?_
    refine .as rfl rfl (.done (.condF rfl (Wp.skip (.sr (.mv rfl rfl (.tq (t_notB rfl) rfl (.done (.condF rfl (Wp.skip (Wp.region (.mv rfl rfl ?_)))))))))))
    first | refine .tq (t_addI rfl rfl (by omega)) rfl ?_ | refine .tq (t_add rfl rfl) rfl ?_
    refine .as rfl rfl (.done ?_)
    exact ⟨i + 1,by repeat (first | exact .nil | refine .cons rfl ?_),⟨hlt,fun k _ hk => by rcases Nat.lt_succ_iff_lt_or_eq.1 hk with hk | rfl; exact hall k (Nat.zero_le _) hk; rw [hc]; exact hp,rfl⟩,by omega⟩
  | false =>
   have hd : c = 10 ∨ False := by simp [noNl] at hp; omega
   rcases hd with h | h
   all_goals try exact h.elim
   all_goals
    refine .seq (.sr (.mv rfl rfl (.mv rfl rfl (.tq (t_len Tryz.underlying9 rfl) rfl ?_))))
    refine .tq (t_lssT rfl rfl (by omega)) rfl ?_
    refine .done (.condT rfl (Wp.skip (.seq (Wp.block (.sr (.mv rfl rfl (.mv rfl rfl ?_)))))))
    refine .tq (t_index Tryz.underlying9 rfl rfl (by omega)) rfl ?_
    rw [show ((s.data.toList.getD ((i : Nat) : Int).toNat 0).toNat : Int) = c from hc]
    refine .as rfl rfl (.done (.sr (.mv rfl rfl ?_)))
    first | refine .tq (t_neqT rfl rfl (by omega)) rfl ?_ | refine .tq (t_neqF rfl rfl (by omega)) rfl ?_ | refine .tq (t_neq rfl rfl) rfl ?_
    refine .as rfl rfl (.done (.seq (.sr (.mv rfl rfl (.done (Wp.block (.sr ?_)))))))
    first | refine .tq (t_eqlT rfl rfl (by omega)) rfl ?_ | refine .tq (t_eqlF rfl rfl (by omega)) rfl ?_ | refine .tq (t_eql rfl rfl) rfl ?_
    refine .as rfl rfl (.done (.condF rfl (.sr ?_)))
    first | refine .tq (t_eqlT rfl rfl (by omega)) rfl ?_ | refine .tq (t_eqlF rfl rfl (by omega)) rfl ?_ | refine .tq (t_eql rfl rfl) rfl ?_
    refine .as rfl rfl (.done (.condF rfl (.sr ?_)))
    first | refine .tq (t_eqlT rfl rfl (by omega)) rfl ?_ | refine .tq (t_eqlF rfl rfl (by omega)) rfl ?_ | refine .tq (t_eql rfl rfl) rfl ?_
    refine .as rfl rfl (.done (.condF rfl (Wp.skip (.sr (.mv rfl rfl (.tq (t_notB rfl) rfl (.done (.condT rfl (.sr (.mv rfl rfl (.as rfl rfl (.done ?_))))))))))))
    refine Wp.ret ?_
    exact ⟨[_],⟨rfl,trivial⟩,by rw [scan_unique (p := noNl) (i := 0) (j := i) (Nat.zero_le _) hi hall fun _ => by rw [hc]; exact hp]; rfl,rfl⟩
 ·have hk : i = s.size := by omega
  subst hk
  refine .seq (.sr (.mv rfl rfl (.mv rfl rfl (.tq (t_len Tryz.underlying9 rfl) rfl ?_))))
  refine .tq (t_lssF rfl rfl (by omega)) rfl ?_
  refine .done (.condF rfl (Wp.exit (.sr (.mv rfl rfl (.tq (t_len Tryz.underlying9 rfl) rfl (.as rfl rfl (.done (Wp.ret ?_))))))))
  exact ⟨[_],⟨rfl,trivial⟩,by rw [scan_unique (p := noNl) (i := 0) (j := s.size) (Nat.zero_le _) (Nat.le_refl _) hall fun h => absurd h (Nat.lt_irrefl _)]; rfl,rfl⟩
theorem run2_ok {w : World} {s : ByteArray} (hs : s.size ≤ 2000) : Cl Tryz.prog 81 #[.string s,.int .i64 2] w (fun u w' => u = .int .i64 (scan isId s 0) ∧ w = w') := by
 refine Cl.enter Tryz.func81 rfl Tryz.ntmps81 rfl rfl (.sr (.as rfl rfl (.done (.seq (.sr (.as rfl rfl (.done (Wp.block ?_))))))))
 refine Wp.loop (ι := Nat) (fun i => [(0,.string s),(1,.int .i64 2),(5,.int .i64 i)])
  (fun i w' => i ≤ s.size ∧ (∀ k,0 ≤ k → k < i → isId (bt s k) = true) ∧ w = w') (fun i => s.size - i) 0 (by repeat (first | exact .nil | refine .cons rfl ?_)) ⟨Nat.zero_le _,fun k _ h => absurd h (Nat.not_lt_zero _),rfl⟩ ?_
 rintro i _ ⟨hi,hall,rfl⟩
 by_cases hlt : i < s.size
 ·obtain ⟨c,hc⟩ : ∃ c,bt s i = c := ⟨_,rfl⟩
  cases hp : isId c with
  | true =>
   have hd : True ∨ False := by exact .inl trivial
   rcases hd with h | h
   all_goals try exact h.elim
   all_goals
    refine .seq (.sr (.mv rfl rfl (.mv rfl rfl (.tq (t_len Tryz.underlying9 rfl) rfl ?_))))
    refine .tq (t_lssT rfl rfl (by omega)) rfl ?_
    refine .done (.condT rfl (Wp.skip (.seq (Wp.block (.sr (.mv rfl rfl (.mv rfl rfl ?_)))))))
    refine .tq (t_index Tryz.underlying9 rfl rfl (by omega)) rfl ?_
    rw [show ((s.data.toList.getD ((i : Nat) : Int).toNat 0).toNat : Int) = c from hc]
    refine .as rfl rfl (.done (.sr (.mv rfl rfl ?_)))
    first | refine .tq (t_neqT rfl rfl (by omega)) rfl ?_ | refine .tq (t_neqF rfl rfl (by omega)) rfl ?_ | refine .tq (t_neq rfl rfl) rfl ?_
    refine .as rfl rfl (.done (.seq (.sr (.mv rfl rfl (.done (Wp.block (.sr ?_)))))))
    first | refine .tq (t_eqlT rfl rfl (by omega)) rfl ?_ | refine .tq (t_eqlF rfl rfl (by omega)) rfl ?_ | refine .tq (t_eql rfl rfl) rfl ?_
    refine .as rfl rfl (.done (.condF rfl (.sr ?_)))
    first | refine .tq (t_eqlT rfl rfl (by omega)) rfl ?_ | refine .tq (t_eqlF rfl rfl (by omega)) rfl ?_ | refine .tq (t_eql rfl rfl) rfl ?_
    refine .as rfl rfl (.done (.condT rfl (Wp.region (.mv rfl rfl (Rg.wd trivial (w_call Tryz.call118 rfl isWord_ok) rfl ?_)))))
    rintro _ _ ⟨rfl,rfl⟩
    rw [hp]
    refine .as rfl rfl (.done (.sr (.mv rfl rfl (.tq (t_notB rfl) rfl (.done (.condF rfl (Wp.skip (Wp.region (.mv rfl rfl ?_)))))))))
    first | refine .tq (t_addI rfl rfl (by omega)) rfl ?_ | refine .tq (t_add rfl rfl) rfl ?_
    refine .as rfl rfl (.done ?_)
    exact ⟨i + 1,by repeat (first | exact .nil | refine .cons rfl ?_),⟨hlt,fun k _ hk => by rcases Nat.lt_succ_iff_lt_or_eq.1 hk with hk | rfl; exact hall k (Nat.zero_le _) hk; rw [hc]; exact hp,rfl⟩,by omega⟩
  | false =>
   have hd : True ∨ False := by exact .inl trivial
   rcases hd with h | h
   all_goals try exact h.elim
   all_goals
    refine .seq (.sr (.mv rfl rfl (.mv rfl rfl (.tq (t_len Tryz.underlying9 rfl) rfl ?_))))
    refine .tq (t_lssT rfl rfl (by omega)) rfl ?_
    refine .done (.condT rfl (Wp.skip (.seq (Wp.block (.sr (.mv rfl rfl (.mv rfl rfl ?_)))))))
    refine .tq (t_index Tryz.underlying9 rfl rfl (by omega)) rfl ?_
    rw [show ((s.data.toList.getD ((i : Nat) : Int).toNat 0).toNat : Int) = c from hc]
    refine .as rfl rfl (.done (.sr (.mv rfl rfl ?_)))
    first | refine .tq (t_neqT rfl rfl (by omega)) rfl ?_ | refine .tq (t_neqF rfl rfl (by omega)) rfl ?_ | refine .tq (t_neq rfl rfl) rfl ?_
    refine .as rfl rfl (.done (.seq (.sr (.mv rfl rfl (.done (Wp.block (.sr ?_)))))))
    first | refine .tq (t_eqlT rfl rfl (by omega)) rfl ?_ | refine .tq (t_eqlF rfl rfl (by omega)) rfl ?_ | refine .tq (t_eql rfl rfl) rfl ?_
    refine .as rfl rfl (.done (.condF rfl (.sr ?_)))
    first | refine .tq (t_eqlT rfl rfl (by omega)) rfl ?_ | refine .tq (t_eqlF rfl rfl (by omega)) rfl ?_ | refine .tq (t_eql rfl rfl) rfl ?_
    refine .as rfl rfl (.done (.condT rfl (Wp.region (.mv rfl rfl (Rg.wd trivial (w_call Tryz.call118 rfl isWord_ok) rfl ?_)))))
    rintro _ _ ⟨rfl,rfl⟩
    rw [hp]
    refine .as rfl rfl (.done (.sr (.mv rfl rfl (.tq (t_notB rfl) rfl (.done (.condT rfl (.sr (.mv rfl rfl (.as rfl rfl (.done (Wp.ret ?_)))))))))))
    exact ⟨[_],⟨rfl,trivial⟩,by rw [scan_unique (p := isId) (i := 0) (j := i) (Nat.zero_le _) hi hall fun _ => by rw [hc]; exact hp]; rfl,rfl⟩
 ·have hk : i = s.size := by omega
  subst hk
  refine .seq (.sr (.mv rfl rfl (.mv rfl rfl (.tq (t_len Tryz.underlying9 rfl) rfl ?_))))
  refine .tq (t_lssF rfl rfl (by omega)) rfl ?_
  refine .done (.condF rfl (Wp.exit (.sr (.mv rfl rfl (.tq (t_len Tryz.underlying9 rfl) rfl (.as rfl rfl (.done (Wp.ret ?_))))))))
  exact ⟨[_],⟨rfl,trivial⟩,by rw [scan_unique (p := isId) (i := 0) (j := s.size) (Nat.zero_le _) (Nat.le_refl _) hall fun h => absurd h (Nat.lt_irrefl _)]; rfl,rfl⟩
theorem run3_ok {w : World} {s : ByteArray} (hs : s.size ≤ 2000) : Cl Tryz.prog 81 #[.string s,.int .i64 3] w (fun u w' => u = .int .i64 (scan isDg s 0) ∧ w = w') := by
 refine Cl.enter Tryz.func81 rfl Tryz.ntmps81 rfl rfl (.sr (.as rfl rfl (.done (.seq (.sr (.as rfl rfl (.done (Wp.block ?_))))))))
 refine Wp.loop (ι := Nat) (fun i => [(0,.string s),(1,.int .i64 3),(5,.int .i64 i)])
  (fun i w' => i ≤ s.size ∧ (∀ k,0 ≤ k → k < i → isDg (bt s k) = true) ∧ w = w') (fun i => s.size - i) 0 (by repeat (first | exact .nil | refine .cons rfl ?_)) ⟨Nat.zero_le _,fun k _ h => absurd h (Nat.not_lt_zero _),rfl⟩ ?_
 rintro i _ ⟨hi,hall,rfl⟩
 by_cases hlt : i < s.size
 ·obtain ⟨c,hc⟩ : ∃ c,bt s i = c := ⟨_,rfl⟩
  cases hp : isDg c with
  | true =>
   have hd : (48 ≤ c ∧ c ≤ 57) ∨ False := by simp [isDg] at hp; omega
   rcases hd with h | h
   all_goals try exact h.elim
   all_goals
    refine .seq (.sr (.mv rfl rfl (.mv rfl rfl (.tq (t_len Tryz.underlying9 rfl) rfl ?_))))
    refine .tq (t_lssT rfl rfl (by omega)) rfl ?_
    refine .done (.condT rfl (Wp.skip (.seq (Wp.block (.sr (.mv rfl rfl (.mv rfl rfl ?_)))))))
    refine .tq (t_index Tryz.underlying9 rfl rfl (by omega)) rfl ?_
    rw [show ((s.data.toList.getD ((i : Nat) : Int).toNat 0).toNat : Int) = c from hc]
    refine .as rfl rfl (.done (.sr (.mv rfl rfl ?_)))
    first | refine .tq (t_neqT rfl rfl (by omega)) rfl ?_ | refine .tq (t_neqF rfl rfl (by omega)) rfl ?_ | refine .tq (t_neq rfl rfl) rfl ?_
    refine .as rfl rfl (.done (.seq (.sr (.mv rfl rfl (.done (Wp.block (.sr ?_)))))))
    first | refine .tq (t_eqlT rfl rfl (by omega)) rfl ?_ | refine .tq (t_eqlF rfl rfl (by omega)) rfl ?_ | refine .tq (t_eql rfl rfl) rfl ?_
    refine .as rfl rfl (.done (.condF rfl (.sr ?_)))
    first | refine .tq (t_eqlT rfl rfl (by omega)) rfl ?_ | refine .tq (t_eqlF rfl rfl (by omega)) rfl ?_ | refine .tq (t_eql rfl rfl) rfl ?_
    refine .as rfl rfl (.done (.condF rfl (.sr ?_)))
    first | refine .tq (t_eqlT rfl rfl (by omega)) rfl ?_ | refine .tq (t_eqlF rfl rfl (by omega)) rfl ?_ | refine .tq (t_eql rfl rfl) rfl ?_
    refine .as rfl rfl (.done (.condT rfl (Wp.region (.mv rfl rfl ?_))))
    first | refine .tq (t_geqT rfl rfl (by omega)) rfl ?_ | refine .tq (t_geqF rfl rfl (by omega)) rfl ?_ | refine .tq (t_geq rfl rfl) rfl ?_
    refine .mv rfl rfl ?_
    first | refine .gd (t_move rfl) rfl ?_ | refine .so rfl rfl ?_
    first | refine .gd (t_leqT rfl rfl (by omega)) rfl ?_ | refine .gd (t_leqF rfl rfl (by omega)) rfl ?_ | refine .gd (t_leq rfl rfl) rfl ?_ | refine .so rfl rfl ?_
    first | refine .tq (t_pickT rfl rfl) rfl ?_ | refine .tq (t_pickF rfl rfl) rfl ?_
    refine .as rfl rfl (.done (.sr (.mv rfl rfl (.tq (t_notB rfl) rfl (.done (.condF rfl (Wp.skip (Wp.region (.mv rfl rfl ?_)))))))))
    first | refine .tq (t_addI rfl rfl (by omega)) rfl ?_ | refine .tq (t_add rfl rfl) rfl ?_
    refine .as rfl rfl (.done ?_)
    exact ⟨i + 1,by repeat (first | exact .nil | refine .cons rfl ?_),⟨hlt,fun k _ hk => by rcases Nat.lt_succ_iff_lt_or_eq.1 hk with hk | rfl; exact hall k (Nat.zero_le _) hk; rw [hc]; exact hp,rfl⟩,by omega⟩
  | false =>
   have hd : c < 48 ∨ 57 < c := by simp [isDg] at hp; omega
   rcases hd with h | h
   all_goals
    refine .seq (.sr (.mv rfl rfl (.mv rfl rfl (.tq (t_len Tryz.underlying9 rfl) rfl ?_))))
    refine .tq (t_lssT rfl rfl (by omega)) rfl ?_
    refine .done (.condT rfl (Wp.skip (.seq (Wp.block (.sr (.mv rfl rfl (.mv rfl rfl ?_)))))))
    refine .tq (t_index Tryz.underlying9 rfl rfl (by omega)) rfl ?_
    rw [show ((s.data.toList.getD ((i : Nat) : Int).toNat 0).toNat : Int) = c from hc]
    refine .as rfl rfl (.done (.sr (.mv rfl rfl ?_)))
    first | refine .tq (t_neqT rfl rfl (by omega)) rfl ?_ | refine .tq (t_neqF rfl rfl (by omega)) rfl ?_ | refine .tq (t_neq rfl rfl) rfl ?_
    refine .as rfl rfl (.done (.seq (.sr (.mv rfl rfl (.done (Wp.block (.sr ?_)))))))
    first | refine .tq (t_eqlT rfl rfl (by omega)) rfl ?_ | refine .tq (t_eqlF rfl rfl (by omega)) rfl ?_ | refine .tq (t_eql rfl rfl) rfl ?_
    refine .as rfl rfl (.done (.condF rfl (.sr ?_)))
    first | refine .tq (t_eqlT rfl rfl (by omega)) rfl ?_ | refine .tq (t_eqlF rfl rfl (by omega)) rfl ?_ | refine .tq (t_eql rfl rfl) rfl ?_
    refine .as rfl rfl (.done (.condF rfl (.sr ?_)))
    first | refine .tq (t_eqlT rfl rfl (by omega)) rfl ?_ | refine .tq (t_eqlF rfl rfl (by omega)) rfl ?_ | refine .tq (t_eql rfl rfl) rfl ?_
    refine .as rfl rfl (.done (.condT rfl (Wp.region (.mv rfl rfl ?_))))
    first | refine .tq (t_geqT rfl rfl (by omega)) rfl ?_ | refine .tq (t_geqF rfl rfl (by omega)) rfl ?_ | refine .tq (t_geq rfl rfl) rfl ?_
    refine .mv rfl rfl ?_
    first | refine .gd (t_move rfl) rfl ?_ | refine .so rfl rfl ?_
    first | refine .gd (t_leqT rfl rfl (by omega)) rfl ?_ | refine .gd (t_leqF rfl rfl (by omega)) rfl ?_ | refine .gd (t_leq rfl rfl) rfl ?_ | refine .so rfl rfl ?_
    first | refine .tq (t_pickT rfl rfl) rfl ?_ | refine .tq (t_pickF rfl rfl) rfl ?_
    refine .as rfl rfl (.done (.sr (.mv rfl rfl (.tq (t_notB rfl) rfl (.done (.condT rfl (.sr (.mv rfl rfl (.as rfl rfl (.done (Wp.ret ?_)))))))))))
    exact ⟨[_],⟨rfl,trivial⟩,by rw [scan_unique (p := isDg) (i := 0) (j := i) (Nat.zero_le _) hi hall fun _ => by rw [hc]; exact hp]; rfl,rfl⟩
 ·have hk : i = s.size := by omega
  subst hk
  refine .seq (.sr (.mv rfl rfl (.mv rfl rfl (.tq (t_len Tryz.underlying9 rfl) rfl ?_))))
  refine .tq (t_lssF rfl rfl (by omega)) rfl ?_
  refine .done (.condF rfl (Wp.exit (.sr (.mv rfl rfl (.tq (t_len Tryz.underlying9 rfl) rfl (.as rfl rfl (.done (Wp.ret ?_))))))))
  exact ⟨[_],⟨rfl,trivial⟩,by rw [scan_unique (p := isDg) (i := 0) (j := s.size) (Nat.zero_le _) (Nat.le_refl _) hall fun h => absurd h (Nat.lt_irrefl _)]; rfl,rfl⟩
theorem literal_ok {w : World} {s : ByteArray} (hs : s.size ≤ 2000) : Cl Tryz.prog 84 #[.string s] w (fun u w' => u = .int .i64 ((str s 1).getD 0 : Nat) ∧ w = w') := by
 refine Cl.enter Tryz.func84 rfl Tryz.ntmps84 rfl rfl (.sr (.as rfl rfl (.done (.sr (.as rfl rfl (.done (.seq (.sr (.as rfl rfl (.done (Wp.block ?_)))))))))))
 refine Wp.loop (ι := Nat × Bool) (fun j => [(0,.string s),(3,.bool j.2),(4,.int .i64 j.1)])
  (fun j w' => (∃ f,s.size - j.1 < f ∧ lit s f j.1 j.2 = str s 1) ∧ w = w') (fun j => s.size - j.1) (1,false) (by repeat (first | exact .nil | refine .cons rfl ?_)) ⟨⟨s.size + 1,by simp only; omega,lit_str s _ 1 (by omega)⟩,rfl⟩ ?_
 rintro ⟨i,e⟩ _ ⟨⟨f,hf,hl⟩,rfl⟩
 simp only at hf hl ⊢
 obtain ⟨f,rfl⟩ : ∃ g,f = g + 1 := ⟨f - 1,by omega⟩
 unfold lit at hl
 by_cases hlt : i < s.size
 ·obtain ⟨c,hc⟩ : ∃ c,bt s i = c := ⟨_,rfl⟩
  rw [bz_in hlt,hc] at hl
  by_cases h10 : c = 10
  ·skip
   refine .seq (.sr (.mv rfl rfl (.mv rfl rfl (.tq (t_len Tryz.underlying9 rfl) rfl ?_))))
   refine .tq (t_lssT rfl rfl (by omega)) rfl ?_
   refine .mv rfl rfl ?_
   first | refine .gd (t_move rfl) rfl ?_ | refine .so rfl rfl ?_
   first | refine .gd (t_move rfl) rfl ?_ | refine .so rfl rfl ?_
   refine .gd (t_index Tryz.underlying9 rfl rfl (by omega)) rfl ?_
   rw [show ((s.data.toList.getD ((i : Nat) : Int).toNat 0).toNat : Int) = c from hc]
   refine .gd (t_neqF rfl rfl h10) rfl ?_
   first | refine .tq (t_pickT rfl rfl) rfl ?_ | refine .tq (t_pickF rfl rfl) rfl ?_
   refine .done (.condF rfl (Wp.exit (.sr (.as rfl rfl (.done (Wp.ret ?_))))))
   rw [if_pos h10] at hl
   exact ⟨[_],⟨rfl,trivial⟩,by rw [← hl]; rfl,rfl⟩
  ·rw [if_neg h10] at hl
   by_cases hq : c = 34 ∧ e = false
   ·obtain ⟨hq1,rfl⟩ := hq
    rw [if_pos ⟨hq1,rfl⟩] at hl
    refine .seq (.sr (.mv rfl rfl (.mv rfl rfl (.tq (t_len Tryz.underlying9 rfl) rfl ?_))))
    refine .tq (t_lssT rfl rfl (by omega)) rfl ?_
    refine .mv rfl rfl ?_
    first | refine .gd (t_move rfl) rfl ?_ | refine .so rfl rfl ?_
    first | refine .gd (t_move rfl) rfl ?_ | refine .so rfl rfl ?_
    refine .gd (t_index Tryz.underlying9 rfl rfl (by omega)) rfl ?_
    rw [show ((s.data.toList.getD ((i : Nat) : Int).toNat 0).toNat : Int) = c from hc]
    refine .gd (t_neqT rfl rfl h10) rfl ?_
    first | refine .tq (t_pickT rfl rfl) rfl ?_ | refine .tq (t_pickF rfl rfl) rfl ?_
    refine .done (.condT rfl (Wp.skip (.seq (Wp.block (.seq (.sr (.mv rfl rfl (.mv rfl rfl ?_))))))))
    refine .tq (t_index Tryz.underlying9 rfl rfl (by omega)) rfl ?_
    rw [show ((s.data.toList.getD ((i : Nat) : Int).toNat 0).toNat : Int) = c from hc]
    first | refine .tq (t_eqlT rfl rfl (by omega)) rfl ?_ | refine .tq (t_eqlF rfl rfl (by omega)) rfl ?_ | refine .tq (t_eql rfl rfl) rfl ?_
    refine .mv rfl rfl ?_
    first | refine .gd (t_move rfl) rfl ?_ | refine .so rfl rfl ?_
    first | refine .gd (t_notB rfl) rfl ?_ | refine .so rfl rfl ?_
    first | refine .tq (t_pickT rfl rfl) rfl ?_ | refine .tq (t_pickF rfl rfl) rfl ?_
    refine .done (.condT rfl (.sr (.mv rfl rfl ?_)))
    first | refine .tq (t_addI rfl rfl (by omega)) rfl ?_ | refine .tq (t_add rfl rfl) rfl ?_
    refine .as rfl rfl (.done (Wp.ret ?_))
    exact ⟨[_],⟨rfl,trivial⟩,by rw [← hl]; simp [tup],rfl⟩
   ·rw [if_neg hq] at hl
    have hd : ((c = 34 ∧ e = true) ∨ (c = 92 ∧ e = true) ∨ (c ≠ 34 ∧ c ≠ 92)) ∨ (c = 92 ∧ e = false) := by
     cases e <;> simp at hq ⊢ <;> omega
    rcases hd with hd | ⟨h,rfl⟩
    ·rcases hd with ⟨h,rfl⟩ | ⟨h,rfl⟩ | h
     all_goals
      refine .seq (.sr (.mv rfl rfl (.mv rfl rfl (.tq (t_len Tryz.underlying9 rfl) rfl ?_))))
      refine .tq (t_lssT rfl rfl (by omega)) rfl ?_
      refine .mv rfl rfl ?_
      first | refine .gd (t_move rfl) rfl ?_ | refine .so rfl rfl ?_
      first | refine .gd (t_move rfl) rfl ?_ | refine .so rfl rfl ?_
      refine .gd (t_index Tryz.underlying9 rfl rfl (by omega)) rfl ?_
      rw [show ((s.data.toList.getD ((i : Nat) : Int).toNat 0).toNat : Int) = c from hc]
      refine .gd (t_neqT rfl rfl h10) rfl ?_
      first | refine .tq (t_pickT rfl rfl) rfl ?_ | refine .tq (t_pickF rfl rfl) rfl ?_
      refine .done (.condT rfl (Wp.skip (.seq (Wp.block (.seq (.sr (.mv rfl rfl (.mv rfl rfl ?_))))))))
      refine .tq (t_index Tryz.underlying9 rfl rfl (by omega)) rfl ?_
      rw [show ((s.data.toList.getD ((i : Nat) : Int).toNat 0).toNat : Int) = c from hc]
      first | refine .tq (t_eqlT rfl rfl (by omega)) rfl ?_ | refine .tq (t_eqlF rfl rfl (by omega)) rfl ?_ | refine .tq (t_eql rfl rfl) rfl ?_
      refine .mv rfl rfl ?_
      first | refine .gd (t_move rfl) rfl ?_ | refine .so rfl rfl ?_
      first | refine .gd (t_notB rfl) rfl ?_ | refine .so rfl rfl ?_
      first | refine .tq (t_pickT rfl rfl) rfl ?_ | refine .tq (t_pickF rfl rfl) rfl ?_
      refine .done (.condF rfl (Wp.skip (Wp.region (.mv rfl rfl (.mv rfl rfl ?_)))))
      refine .tq (t_index Tryz.underlying9 rfl rfl (by omega)) rfl ?_
      rw [show ((s.data.toList.getD ((i : Nat) : Int).toNat 0).toNat : Int) = c from hc]
      first | refine .tq (t_eqlT rfl rfl (by omega)) rfl ?_ | refine .tq (t_eqlF rfl rfl (by omega)) rfl ?_ | refine .tq (t_eql rfl rfl) rfl ?_
      refine .mv rfl rfl ?_
      first | refine .gd (t_move rfl) rfl ?_ | refine .so rfl rfl ?_
      first | refine .gd (t_notB rfl) rfl ?_ | refine .so rfl rfl ?_
      first | refine .tq (t_pickT rfl rfl) rfl ?_ | refine .tq (t_pickF rfl rfl) rfl ?_
      refine .as rfl rfl (.done (Wp.region (.mv rfl rfl ?_)))
      first | refine .tq (t_addI rfl rfl (by omega)) rfl ?_ | refine .tq (t_add rfl rfl) rfl ?_
      refine .as rfl rfl (.done ?_)
      exact ⟨(i + 1,false),by repeat (first | exact .nil | refine .cons rfl ?_),⟨⟨f,by simp only; omega,by rw [← hl]; simp [h]⟩,rfl⟩,by simp only; omega⟩
    ·skip
     refine .seq (.sr (.mv rfl rfl (.mv rfl rfl (.tq (t_len Tryz.underlying9 rfl) rfl ?_))))
     refine .tq (t_lssT rfl rfl (by omega)) rfl ?_
     refine .mv rfl rfl ?_
     first | refine .gd (t_move rfl) rfl ?_ | refine .so rfl rfl ?_
     first | refine .gd (t_move rfl) rfl ?_ | refine .so rfl rfl ?_
     refine .gd (t_index Tryz.underlying9 rfl rfl (by omega)) rfl ?_
     rw [show ((s.data.toList.getD ((i : Nat) : Int).toNat 0).toNat : Int) = c from hc]
     refine .gd (t_neqT rfl rfl h10) rfl ?_
     first | refine .tq (t_pickT rfl rfl) rfl ?_ | refine .tq (t_pickF rfl rfl) rfl ?_
     refine .done (.condT rfl (Wp.skip (.seq (Wp.block (.seq (.sr (.mv rfl rfl (.mv rfl rfl ?_))))))))
     refine .tq (t_index Tryz.underlying9 rfl rfl (by omega)) rfl ?_
     rw [show ((s.data.toList.getD ((i : Nat) : Int).toNat 0).toNat : Int) = c from hc]
     first | refine .tq (t_eqlT rfl rfl (by omega)) rfl ?_ | refine .tq (t_eqlF rfl rfl (by omega)) rfl ?_ | refine .tq (t_eql rfl rfl) rfl ?_
     refine .mv rfl rfl ?_
     first | refine .gd (t_move rfl) rfl ?_ | refine .so rfl rfl ?_
     first | refine .gd (t_notB rfl) rfl ?_ | refine .so rfl rfl ?_
     first | refine .tq (t_pickT rfl rfl) rfl ?_ | refine .tq (t_pickF rfl rfl) rfl ?_
     refine .done (.condF rfl (Wp.skip (Wp.region (.mv rfl rfl (.mv rfl rfl ?_)))))
     refine .tq (t_index Tryz.underlying9 rfl rfl (by omega)) rfl ?_
     rw [show ((s.data.toList.getD ((i : Nat) : Int).toNat 0).toNat : Int) = c from hc]
     first | refine .tq (t_eqlT rfl rfl (by omega)) rfl ?_ | refine .tq (t_eqlF rfl rfl (by omega)) rfl ?_ | refine .tq (t_eql rfl rfl) rfl ?_
     refine .mv rfl rfl ?_
     first | refine .gd (t_move rfl) rfl ?_ | refine .so rfl rfl ?_
     first | refine .gd (t_notB rfl) rfl ?_ | refine .so rfl rfl ?_
     first | refine .tq (t_pickT rfl rfl) rfl ?_ | refine .tq (t_pickF rfl rfl) rfl ?_
     refine .as rfl rfl (.done (Wp.region (.mv rfl rfl ?_)))
     first | refine .tq (t_addI rfl rfl (by omega)) rfl ?_ | refine .tq (t_add rfl rfl) rfl ?_
     refine .as rfl rfl (.done ?_)
     exact ⟨(i + 1,true),by repeat (first | exact .nil | refine .cons rfl ?_),⟨⟨f,by simp only; omega,by rw [← hl]; simp [h]⟩,rfl⟩,by simp only; omega⟩
 ·rw [bz_out (by omega),if_pos rfl] at hl
  refine .seq (.sr (.mv rfl rfl (.mv rfl rfl (.tq (t_len Tryz.underlying9 rfl) rfl ?_))))
  refine .tq (t_lssF rfl rfl (by omega)) rfl ?_
  refine .mv rfl rfl (.so rfl rfl (.so rfl rfl (.so rfl rfl (.so rfl rfl ?_))))
  first | refine .tq (t_pickT rfl rfl) rfl ?_ | refine .tq (t_pickF rfl rfl) rfl ?_
  refine .done (.condF rfl (Wp.exit (.sr (.as rfl rfl (.done (Wp.ret ?_))))))
  exact ⟨[_],⟨rfl,trivial⟩,by rw [← hl]; rfl,rfl⟩
theorem rcontains_ok {w : World} {v : Value} {zs : List ByteArray} {x : ByteArray} (hz : SlC w v 1 zs.length (zs.map .string)) (hl : zs.length ≤ 1000000) : Cl Tryz.prog 82 #[v,.string x] w (fun u w' => u = .bool (Lib.containsS zs x) ∧ w = w') := by
 refine Cl.enter Tryz.func82 rfl Tryz.ntmps82 rfl rfl (.sr (.as rfl rfl (.done (.seq (.sr (.mv rfl rfl (.tq (t_lenC hz Tryz.underlying124 rfl) rfl (.mv rfl rfl (.done (Wp.block ?_))))))))))
 refine Wp.loop (ι := Nat) (fun k => [(1,.string x),(7,v),(8,.int .i64 zs.length),(9,.int .i64 k)])
  (fun k w' => k ≤ zs.length ∧ (∀ j (h : j < zs.length),j < k → x ≠ zs[j]) ∧ w = w') (fun k => zs.length - k) 0 (by repeat (first | exact .nil | refine .cons rfl ?_)) ⟨Nat.zero_le _,fun j _ h => absurd h (Nat.not_lt_zero _),rfl⟩ ?_
 rintro k _ ⟨hk,hno,rfl⟩
 by_cases hlt : k < zs.length
 ·by_cases he : x = zs[k]
  ·skip
   refine .sr ?_
   first | refine .tq (t_lssT rfl rfl (by omega)) rfl ?_ | refine .tq (t_lssF rfl rfl (by omega)) rfl ?_ | refine .tq (t_lss rfl rfl) rfl ?_
   refine .done (.seq (.condT rfl (Wp.skip (.seq (Wp.block (.sr ?_))))))
   refine Rg.ix hz trivial rfl rfl Tryz.underlying124 ty9 (by omega) rfl ?_
   intro bt11 ot11 ht11
   rw [Int.toNat_natCast,Nat.mul_one,show ((zs.map Value.string).drop k).take 1 = [.string zs[k]] from by rw [List.drop_eq_getElem_cons (by simpa using hlt)]; simp] at ht11
   refine .tq (t_load ty9 rfl (Cells.get (i := 0) ht11 rfl)) rfl (.as rfl rfl (.done (.sr (.mv rfl rfl (.mv rfl rfl (.tq (t_seqlT rfl rfl he) rfl (.done (.condT rfl (.sr (.as rfl rfl (.done (Wp.ret ?_))))))))))))
   exact ⟨[_],⟨rfl,trivial⟩,by rw [(containsS_iff _ _).2 (he ▸ List.getElem_mem hlt)]; rfl,rfl⟩
  ·skip
   refine .sr ?_
   first | refine .tq (t_lssT rfl rfl (by omega)) rfl ?_ | refine .tq (t_lssF rfl rfl (by omega)) rfl ?_ | refine .tq (t_lss rfl rfl) rfl ?_
   refine .done (.seq (.condT rfl (Wp.skip (.seq (Wp.block (.sr ?_))))))
   refine Rg.ix hz trivial rfl rfl Tryz.underlying124 ty9 (by omega) rfl ?_
   intro bt11 ot11 ht11
   rw [Int.toNat_natCast,Nat.mul_one,show ((zs.map Value.string).drop k).take 1 = [.string zs[k]] from by rw [List.drop_eq_getElem_cons (by simpa using hlt)]; simp] at ht11
   refine .tq (t_load ty9 rfl (Cells.get (i := 0) ht11 rfl)) rfl (.as rfl rfl (.done (.sr (.mv rfl rfl (.mv rfl rfl (.tq (t_seqlF rfl rfl he) rfl (.done (.condF rfl (Wp.skip (Wp.region ?_))))))))))
   first | refine .tq (t_addI rfl rfl (by omega)) rfl ?_ | refine .tq (t_add rfl rfl) rfl ?_
   refine .mv rfl rfl (.done ?_)
   exact ⟨k + 1,by repeat (first | exact .nil | refine .cons rfl ?_),⟨hlt,fun j h hj => by rcases Nat.lt_succ_iff_lt_or_eq.1 hj with c | c; exact hno j h c; subst c; exact he,rfl⟩,by omega⟩
 ·skip
  refine .sr ?_
  first | refine .tq (t_lssT rfl rfl (by omega)) rfl ?_ | refine .tq (t_lssF rfl rfl (by omega)) rfl ?_ | refine .tq (t_lss rfl rfl) rfl ?_
  refine .done (.seq (.condF rfl (Wp.exit (.sr (.as rfl rfl (.done (Wp.ret ?_)))))))
  have hn : Lib.containsS zs x = false := by
   cases hc : Lib.containsS zs x with
   | false => rfl
   | true =>
    obtain ⟨j,hj,e⟩ := List.getElem_of_mem ((containsS_iff _ _).1 hc)
    exact absurd e.symm (hno j hj (by omega))
  exact ⟨[_],⟨rfl,trivial⟩,by rw [hn]; rfl,rfl⟩
theorem rkeys_ok {w : World} : Cl Tryz.prog 83 #[] w (fun u w' => (∃ b,u = .slice (some ⟨b,0,none⟩) kws.length kws.length ∧ Var w' b (kws.map .string) 9) ∧ Ext w w') := by
 refine Cl.enter Tryz.func83 rfl Tryz.ntmps83 rfl rfl (.sr (.as rfl rfl (.done (.sr (Rg.wd trivial (w_buildSlice (bs124_22 _ _ _ _ _ _ _ _ _ _ _ _ _ _ _ _ _ _ _ _ _ _) rfl) rfl ?_)))))
 rintro _ w1 ⟨b1,rfl,q1,hx1,hv1⟩
 refine .as rfl rfl (.done (Wp.ret ?_))
 exact ⟨[_],⟨rfl,trivial⟩,⟨b1,rfl,hv1⟩,hx1⟩
theorem rpuncts_ok {w : World} : Cl Tryz.prog 85 #[] w (fun u w' => (∃ b,u = .slice (some ⟨b,0,none⟩) puncts.length puncts.length ∧ Var w' b (puncts.map .string) 9) ∧ Ext w w') := by
 refine Cl.enter Tryz.func85 rfl Tryz.ntmps85 rfl rfl (.sr (.as rfl rfl (.done (.sr (Rg.wd trivial (w_buildSlice (bs124_26 _ _ _ _ _ _ _ _ _ _ _ _ _ _ _ _ _ _ _ _ _ _ _ _ _ _) rfl) rfl ?_)))))
 rintro _ w1 ⟨b1,rfl,q1,hx1,hv1⟩
 refine .as rfl rfl (.done (Wp.ret ?_))
 exact ⟨[_],⟨rfl,trivial⟩,⟨b1,rfl,hv1⟩,hx1⟩
theorem clo80_ok {w : World} {k : Int} {n b : Nat} {s : ByteArray} (hv : Var w b [.string s] 9) (hn : n ≤ s.size) : Cl Tryz.prog 80 #[.int .i64 k,.int .i64 n,.pointer (some ⟨b,0,none⟩)] w (fun u w' => u = .agg #[.int .i64 k,.string (s.extract 0 n)] ∧ Ext w w') := by
 have hx := Ext.refl w
 refine Cl.enter Tryz.func80 rfl Tryz.ntmps80 rfl rfl (.sr (Rg.wd trivial (w_new Tryz.zeroValue55 rfl) rfl ?_))
 rintro _ w1 ⟨b5,rfl,q5,hx1,hv5⟩
 replace hx := hx.ext hx1
 replace hv := hv.ext hx1
 have q5b : w.heap.size ≤ b5 := by omega
 refine .done (.sr (.mv rfl rfl (.tq (t_load ty9 rfl (Cells.get (i := 0) hv.cells rfl)) rfl (.mv rfl rfl ?_))))
 refine .tq (t_sliceS Tryz.underlying9 rfl rfl rfl (by omega)) rfl ?_
 refine .tq (t_build (bd55_0_1 _ _) rfl) rfl (Rg.wn trivial (w_put (cs := [.int .i64 k,.string (s.extract 0 n)]) hv5 rfl rfl rfl ty55 rfl rfl) ?_)
 rintro _ w9 ⟨hu9,hv9⟩
 refine .done (Wp.ret ?_)
 exact ⟨[_],⟨⟨_,rfl,lv_agg hv9 ty55⟩,trivial⟩,rfl,hx.upd hu9 q5b⟩
end Go.Proofs.YtcelfjbajdffkaaGreatDoor.Lexi
namespace Go.Proofs.YtcelfjbajdffkaaGreatDoor.Lexi
set_option maxRecDepth 20000
open Go.Gx Go.RowKit Go.Lib
open Par (lv_agg)
theorem firstToken_ok {w : World} {s : ByteArray} (hs : s.size ≤ 2000) (h0 : 0 < s.size) : Cl Tryz.prog 43 #[.string s] w (fun u w' => u = .agg #[.int .i64 (tok s).2,.string (s.extract 0 (tok s).1)] ∧ Ext w w') := by
 have hx := Ext.refl w
 have hsz : ∀ p : Int → Bool,scan p s 0 ≤ s.size := fun p => (scan_spec p s 0).2.1 (Nat.zero_le _)
 have htr := tok_ref h0
 have hpl : puncts.length = 26 := rfl
 refine Cl.enter Tryz.func43 rfl Tryz.ntmps43 rfl rfl ?_
 by_cases h1 : 0 < scan isSp s 0
 ·have hb := hsz isSp
  refine .sr (Rg.wd trivial (w_boxed (cs := [.string s]) rfl rfl) rfl ?_)
  rintro _ w1 ⟨b1,rfl,q1,hx1,hv1⟩
  replace hx := hx.ext hx1
  refine Rg.wd trivial (w_new Tryz.zeroValue55 rfl) rfl ?_
  rintro _ w2 ⟨b2,rfl,q2,hx2,hv2⟩
  replace hx := hx.ext hx2
  replace hv1 := hv1.ext hx2
  have q2b : w.heap.size ≤ b2 := by have := hx1.le; omega
  refine .done (.sr (.tq (t_makeFuncB (us := []) (vs := [.pointer (some ⟨b1,0,none⟩)]) rfl rfl) rfl (.as rfl rfl (.done (.seq (.sr (.tq (t_load ty9 rfl (Cells.get (i := 0) hv1.cells rfl)) rfl (Rg.wd trivial (w_call Tryz.call81 rfl (run0_ok hs)) rfl ?_))))))))
  rintro _ _ ⟨rfl,rfl⟩
  refine .as rfl rfl (.done (.sr (.mv rfl rfl ?_)))
  refine .tq (t_gtrT rfl rfl (by omega)) rfl ?_
  refine .done (.condT rfl (.sr (.mv rfl rfl (.mv rfl rfl ?_))))
  refine Rg.wd trivial (w_callG (fst := []) (cap := [.pointer (some ⟨b1,0,none⟩)]) rfl Tryz.call80 rfl (vs := [.int .i64 101,.int .i64 (scan isSp s 0 : Nat)]) (clo80_ok (k := 101) (n := scan isSp s 0) hv1 (by omega))) rfl ?_
  rintro _ w3 ⟨rfl,hx3⟩
  replace hx := hx.ext hx3
  replace hv1 := hv1.ext hx3
  replace hv2 := hv2.ext hx3
  refine Rg.wn trivial (w_put (cs := [.int .i64 101,.string (s.extract 0 (scan isSp s 0))]) hv2 rfl rfl rfl ty55 rfl rfl) ?_
  rintro _ wz ⟨huz,hvz⟩
  refine .done (Wp.ret ?_)
  have ht : tok s = (scan isSp s 0,101) := by rw [htr,if_pos h1]
  rw [ht]
  exact ⟨[_],⟨⟨_,rfl,lv_agg hvz ty55⟩,trivial⟩,rfl,hx.upd huz q2b⟩
 ·rw [if_neg h1] at htr
  by_cases h2 : bz s 0 = 47 ∧ bz s 1 = 47
  ·obtain ⟨e1,e2⟩ := cm_iff.1 h2
   have hb := hsz noNl
   refine .sr (Rg.wd trivial (w_boxed (cs := [.string s]) rfl rfl) rfl ?_)
   rintro _ w1 ⟨b1,rfl,q1,hx1,hv1⟩
   replace hx := hx.ext hx1
   refine Rg.wd trivial (w_new Tryz.zeroValue55 rfl) rfl ?_
   rintro _ w2 ⟨b2,rfl,q2,hx2,hv2⟩
   replace hx := hx.ext hx2
   replace hv1 := hv1.ext hx2
   have q2b : w.heap.size ≤ b2 := by have := hx1.le; omega
   refine .done (.sr (.tq (t_makeFuncB (us := []) (vs := [.pointer (some ⟨b1,0,none⟩)]) rfl rfl) rfl (.as rfl rfl (.done (.seq (.sr (.tq (t_load ty9 rfl (Cells.get (i := 0) hv1.cells rfl)) rfl (Rg.wd trivial (w_call Tryz.call81 rfl (run0_ok hs)) rfl ?_))))))))
   rintro _ _ ⟨rfl,rfl⟩
   refine .as rfl rfl (.done (.sr (.mv rfl rfl ?_)))
   refine .tq (t_gtrF rfl rfl (by omega)) rfl ?_
   refine .done (.condF rfl (Wp.skip (.seq (.sr (.tq (t_load ty9 rfl (Cells.get (i := 0) hv1.cells rfl)) rfl (.tq (t_len Tryz.underlying9 rfl) rfl ?_))))))
   refine .tq (t_gtrT rfl rfl (by omega)) rfl ?_
   refine .mv rfl rfl (.gd (t_load ty9 rfl (Cells.get (i := 0) hv1.cells rfl)) rfl ?_)
   refine .gd (t_sliceS Tryz.underlying9 rfl rfl rfl (by omega)) rfl ?_
   refine .gd (t_seqlT rfl rfl e2) rfl ?_
   first | refine .tq (t_pickT rfl rfl) rfl ?_ | refine .tq (t_pickF rfl rfl) rfl ?_
   refine .done (.condT rfl (.sr (.mv rfl rfl (.tq (t_load ty9 rfl (Cells.get (i := 0) hv1.cells rfl)) rfl (Rg.wd trivial (w_call Tryz.call81 rfl (run1_ok hs)) rfl ?_)))))
   rintro _ _ ⟨rfl,rfl⟩
   refine Rg.wd trivial (w_callG (fst := []) (cap := [.pointer (some ⟨b1,0,none⟩)]) rfl Tryz.call80 rfl (vs := [.int .i64 102,.int .i64 (scan noNl s 0 : Nat)]) (clo80_ok (k := 102) (n := scan noNl s 0) hv1 (by omega))) rfl ?_
   rintro _ w3 ⟨rfl,hx3⟩
   replace hx := hx.ext hx3
   replace hv1 := hv1.ext hx3
   replace hv2 := hv2.ext hx3
   refine Rg.wn trivial (w_put (cs := [.int .i64 102,.string (s.extract 0 (scan noNl s 0))]) hv2 rfl rfl rfl ty55 rfl rfl) ?_
   rintro _ wz ⟨huz,hvz⟩
   refine .done (Wp.ret ?_)
   have ht : tok s = (scan noNl s 0,102) := by rw [htr,if_pos h2]
   rw [ht]
   exact ⟨[_],⟨⟨_,rfl,lv_agg hvz ty55⟩,trivial⟩,rfl,hx.upd huz q2b⟩
  ·rw [if_neg h2] at htr
   have h2n : ¬ (1 < s.size ∧ s.extract 0 2 = ⟨#[47,47]⟩) := fun h => h2 (cm_iff.2 h)
   refine .sr (Rg.wd trivial (w_boxed (cs := [.string s]) rfl rfl) rfl ?_)
   rintro _ w1 ⟨b1,rfl,q1,hx1,hv1⟩
   replace hx := hx.ext hx1
   refine Rg.wd trivial (w_new Tryz.zeroValue55 rfl) rfl ?_
   rintro _ w2 ⟨b2,rfl,q2,hx2,hv2⟩
   replace hx := hx.ext hx2
   replace hv1 := hv1.ext hx2
   have q2b : w.heap.size ≤ b2 := by have := hx1.le; omega
   refine .done (.sr (.tq (t_makeFuncB (us := []) (vs := [.pointer (some ⟨b1,0,none⟩)]) rfl rfl) rfl (.as rfl rfl (.done (.seq (.sr (.tq (t_load ty9 rfl (Cells.get (i := 0) hv1.cells rfl)) rfl (Rg.wd trivial (w_call Tryz.call81 rfl (run0_ok hs)) rfl ?_))))))))
   rintro _ _ ⟨rfl,rfl⟩
   refine .as rfl rfl (.done (.sr (.mv rfl rfl ?_)))
   refine .tq (t_gtrF rfl rfl (by omega)) rfl ?_
   refine .done (.condF rfl (Wp.skip (.seq ?_)))
   refine Wp.seq (Wp.cut (fun L w' => Gx.Sub [(1,.pointer (some ⟨b1,0,none⟩)),(2,.pointer (some ⟨b2,0,none⟩)),(3,.func (.func 80) #[] #[.pointer (some ⟨b1,0,none⟩)]),(25,.bool false)] L ∧ w2 = w') ?_ ?_)
   ·by_cases hs1 : 1 < s.size
    ·skip
     refine Wp.region (.tq (t_load ty9 rfl (Cells.get (i := 0) hv1.cells rfl)) rfl (.tq (t_len Tryz.underlying9 rfl) rfl ?_))
     refine .tq (t_gtrT rfl rfl (by omega)) rfl ?_
     refine .mv rfl rfl (.gd (t_load ty9 rfl (Cells.get (i := 0) hv1.cells rfl)) rfl ?_)
     refine .gd (t_sliceS Tryz.underlying9 rfl rfl rfl (by omega)) rfl ?_
     refine .gd (t_seqlF rfl rfl (fun e => h2n ⟨hs1,e⟩)) rfl ?_
     first | refine .tq (t_pickT rfl rfl) rfl ?_ | refine .tq (t_pickF rfl rfl) rfl ?_
     refine .done ?_
     exact ⟨by repeat (first | exact .nil | refine .cons rfl ?_),rfl⟩
    ·skip
     refine Wp.region (.tq (t_load ty9 rfl (Cells.get (i := 0) hv1.cells rfl)) rfl (.tq (t_len Tryz.underlying9 rfl) rfl ?_))
     refine .tq (t_gtrF rfl rfl (by omega)) rfl ?_
     refine .mv rfl rfl (.so rfl rfl (.so rfl rfl (.so rfl rfl ?_)))
     first | refine .tq (t_pickT rfl rfl) rfl ?_ | refine .tq (t_pickF rfl rfl) rfl ?_
     refine .done ?_
     exact ⟨by repeat (first | exact .nil | refine .cons rfl ?_),rfl⟩
   ·rintro L' _ ⟨hs',rfl⟩
    refine Wp.sub hs' (.condF rfl (Wp.skip (.seq ?_)))
    by_cases h3 : 0 < scan isDg s 0
    ·have hb := hsz isDg
     refine .sr (.tq (t_load ty9 rfl (Cells.get (i := 0) hv1.cells rfl)) rfl (Rg.wd trivial (w_call Tryz.call81 rfl (run3_ok hs)) rfl ?_))
     rintro _ _ ⟨rfl,rfl⟩
     refine .as rfl rfl (.done (.sr (.mv rfl rfl ?_)))
     refine .tq (t_gtrT rfl rfl (by omega)) rfl ?_
     refine .done (.condT rfl (.sr (.mv rfl rfl (.mv rfl rfl ?_))))
     refine Rg.wd trivial (w_callG (fst := []) (cap := [.pointer (some ⟨b1,0,none⟩)]) rfl Tryz.call80 rfl (vs := [.int .i64 105,.int .i64 (scan isDg s 0 : Nat)]) (clo80_ok (k := 105) (n := scan isDg s 0) hv1 (by omega))) rfl ?_
     rintro _ w3 ⟨rfl,hx3⟩
     replace hx := hx.ext hx3
     replace hv1 := hv1.ext hx3
     replace hv2 := hv2.ext hx3
     refine Rg.wn trivial (w_put (cs := [.int .i64 105,.string (s.extract 0 (scan isDg s 0))]) hv2 rfl rfl rfl ty55 rfl rfl) ?_
     rintro _ wz ⟨huz,hvz⟩
     refine .done (Wp.ret ?_)
     have ht : tok s = (scan isDg s 0,105) := by rw [htr,if_pos h3]
     rw [ht]
     exact ⟨[_],⟨⟨_,rfl,lv_agg hvz ty55⟩,trivial⟩,rfl,hx.upd huz q2b⟩
    ·rw [if_neg h3] at htr
     by_cases h4 : 0 < scan isId s 0
     ·have hb := hsz isId
      cases hk : isKw (s.extract 0 (scan isId s 0)) with
      | true =>
       refine .sr (.tq (t_load ty9 rfl (Cells.get (i := 0) hv1.cells rfl)) rfl (Rg.wd trivial (w_call Tryz.call81 rfl (run3_ok hs)) rfl ?_))
       rintro _ _ ⟨rfl,rfl⟩
       refine .as rfl rfl (.done (.sr (.mv rfl rfl ?_)))
       refine .tq (t_gtrF rfl rfl (by omega)) rfl ?_
       refine .done (.condF rfl (Wp.skip (.seq (.sr (.tq (t_load ty9 rfl (Cells.get (i := 0) hv1.cells rfl)) rfl (Rg.wd trivial (w_call Tryz.call81 rfl (run2_ok hs)) rfl ?_))))))
       rintro _ _ ⟨rfl,rfl⟩
       refine .as rfl rfl (.done (.sr (.mv rfl rfl ?_)))
       refine .tq (t_gtrT rfl rfl (by omega)) rfl ?_
       refine .done (.condT rfl (.seq ?_))
       refine Wp.seq (Wp.draw [1,2,3,0,4] [] mixed (by kernel_rfl) (by kernel_rfl) ?_)
       intro w3 hx3 _
       replace hx := hx.ext hx3
       replace hv1 := hv1.ext hx3
       replace hv2 := hv2.ext hx3
       refine .tq (t_load ty9 rfl (Cells.get (i := 0) hv1.cells rfl)) rfl (.mv rfl rfl ?_)
       refine .tq (t_sliceS Tryz.underlying9 rfl rfl rfl (by omega)) rfl ?_
       refine Rg.wdB trivial rfl (w_call Tryz.call83 rfl rkeys_ok) rfl (fun _ _ h => h.2) ?_
       rintro _ w4 ⟨⟨bk,rfl,hvk⟩,hx4⟩
       replace hx := hx.ext hx4
       replace hv1 := hv1.ext hx4
       replace hv2 := hv2.ext hx4
       have hsk : SlC w4 (.slice (some ⟨bk,0,none⟩) kws.length kws.length) 1 kws.length (kws.map .string) := ⟨by simp,_,_,rfl,Nat.le_refl _,.inr ⟨bk,0,rfl,hvk.cells⟩⟩
       refine Rg.wdB trivial rfl (w_call Tryz.call82 rfl (rcontains_ok hsk (by decide))) rfl (fun _ _ h => h.2 ▸ Below.refl _ _) ?_
       rintro _ _ ⟨rfl,rfl⟩
       rw [show Lib.containsS kws (s.extract (0 : Int).toNat ((scan isId s 0 : Nat) : Int).toNat) = true from by rw [kws_eq]; exact hk]
       refine .done (.condT rfl (.sr (.mv rfl rfl (.mv rfl rfl ?_))))
       refine Rg.wd trivial (w_callG (fst := []) (cap := [.pointer (some ⟨b1,0,none⟩)]) rfl Tryz.call80 rfl (vs := [.int .i64 104,.int .i64 (scan isId s 0 : Nat)]) (clo80_ok (k := 104) (n := scan isId s 0) hv1 (by omega))) rfl ?_
       rintro _ w5 ⟨rfl,hx5⟩
       replace hx := hx.ext hx5
       replace hv1 := hv1.ext hx5
       replace hv2 := hv2.ext hx5
       replace hsk := hsk.ext hx5
       refine Rg.wn trivial (w_put (cs := [.int .i64 104,.string (s.extract 0 (scan isId s 0))]) hv2 rfl rfl rfl ty55 rfl rfl) ?_
       rintro _ wz ⟨huz,hvz⟩
       refine .done (Wp.ret ?_)
       have ht : tok s = (scan isId s 0,104) := by rw [htr,if_pos h4,hk]; rfl
       rw [ht]
       exact ⟨[_],⟨⟨_,rfl,lv_agg hvz ty55⟩,trivial⟩,rfl,hx.upd huz q2b⟩
      | false =>
       refine .sr (.tq (t_load ty9 rfl (Cells.get (i := 0) hv1.cells rfl)) rfl (Rg.wd trivial (w_call Tryz.call81 rfl (run3_ok hs)) rfl ?_))
       rintro _ _ ⟨rfl,rfl⟩
       refine .as rfl rfl (.done (.sr (.mv rfl rfl ?_)))
       refine .tq (t_gtrF rfl rfl (by omega)) rfl ?_
       refine .done (.condF rfl (Wp.skip (.seq (.sr (.tq (t_load ty9 rfl (Cells.get (i := 0) hv1.cells rfl)) rfl (Rg.wd trivial (w_call Tryz.call81 rfl (run2_ok hs)) rfl ?_))))))
       rintro _ _ ⟨rfl,rfl⟩
       refine .as rfl rfl (.done (.sr (.mv rfl rfl ?_)))
       refine .tq (t_gtrT rfl rfl (by omega)) rfl ?_
       refine .done (.condT rfl (.seq ?_))
       refine Wp.seq (Wp.draw [1,2,3,0,4] [] mixed (by kernel_rfl) (by kernel_rfl) ?_)
       intro w3 hx3 _
       replace hx := hx.ext hx3
       replace hv1 := hv1.ext hx3
       replace hv2 := hv2.ext hx3
       refine .tq (t_load ty9 rfl (Cells.get (i := 0) hv1.cells rfl)) rfl (.mv rfl rfl ?_)
       refine .tq (t_sliceS Tryz.underlying9 rfl rfl rfl (by omega)) rfl ?_
       refine Rg.wdB trivial rfl (w_call Tryz.call83 rfl rkeys_ok) rfl (fun _ _ h => h.2) ?_
       rintro _ w4 ⟨⟨bk,rfl,hvk⟩,hx4⟩
       replace hx := hx.ext hx4
       replace hv1 := hv1.ext hx4
       replace hv2 := hv2.ext hx4
       have hsk : SlC w4 (.slice (some ⟨bk,0,none⟩) kws.length kws.length) 1 kws.length (kws.map .string) := ⟨by simp,_,_,rfl,Nat.le_refl _,.inr ⟨bk,0,rfl,hvk.cells⟩⟩
       refine Rg.wdB trivial rfl (w_call Tryz.call82 rfl (rcontains_ok hsk (by decide))) rfl (fun _ _ h => h.2 ▸ Below.refl _ _) ?_
       rintro _ _ ⟨rfl,rfl⟩
       rw [show Lib.containsS kws (s.extract (0 : Int).toNat ((scan isId s 0 : Nat) : Int).toNat) = false from by rw [kws_eq]; exact hk]
       refine .done (.condF rfl (Wp.skip (.sr (.mv rfl rfl (.mv rfl rfl ?_)))))
       refine Rg.wd trivial (w_callG (fst := []) (cap := [.pointer (some ⟨b1,0,none⟩)]) rfl Tryz.call80 rfl (vs := [.int .i64 103,.int .i64 (scan isId s 0 : Nat)]) (clo80_ok (k := 103) (n := scan isId s 0) hv1 (by omega))) rfl ?_
       rintro _ w5 ⟨rfl,hx5⟩
       replace hx := hx.ext hx5
       replace hv1 := hv1.ext hx5
       replace hv2 := hv2.ext hx5
       replace hsk := hsk.ext hx5
       refine Rg.wn trivial (w_put (cs := [.int .i64 103,.string (s.extract 0 (scan isId s 0))]) hv2 rfl rfl rfl ty55 rfl rfl) ?_
       rintro _ wz ⟨huz,hvz⟩
       refine .done (Wp.ret ?_)
       have ht : tok s = (scan isId s 0,103) := by rw [htr,if_pos h4,hk]; rfl
       rw [ht]
       exact ⟨[_],⟨⟨_,rfl,lv_agg hvz ty55⟩,trivial⟩,rfl,hx.upd huz q2b⟩
     ·rw [if_neg h4] at htr
      by_cases h5 : bt s 0 = 34
      ·rw [if_pos h5] at htr
       cases hst : str s 1 with
       | some j =>
        have hj : j ≤ s.size ∧ 1 < j := by
         obtain ⟨a1,a2,_⟩ := strN_some _ 1 j hst
         exact ⟨a2,a1⟩
        refine .sr (.tq (t_load ty9 rfl (Cells.get (i := 0) hv1.cells rfl)) rfl (Rg.wd trivial (w_call Tryz.call81 rfl (run3_ok hs)) rfl ?_))
        rintro _ _ ⟨rfl,rfl⟩
        refine .as rfl rfl (.done (.sr (.mv rfl rfl ?_)))
        refine .tq (t_gtrF rfl rfl (by omega)) rfl ?_
        refine .done (.condF rfl (Wp.skip (.seq (.sr (.tq (t_load ty9 rfl (Cells.get (i := 0) hv1.cells rfl)) rfl (Rg.wd trivial (w_call Tryz.call81 rfl (run2_ok hs)) rfl ?_))))))
        rintro _ _ ⟨rfl,rfl⟩
        refine .as rfl rfl (.done (.sr (.mv rfl rfl ?_)))
        refine .tq (t_gtrF rfl rfl (by omega)) rfl ?_
        refine .done (.condF rfl (Wp.skip (.seq (.sr (.tq (t_load ty9 rfl (Cells.get (i := 0) hv1.cells rfl)) rfl ?_)))))
        refine .tq (t_index Tryz.underlying9 rfl rfl (by omega)) rfl ?_
        rw [show ((s.data.toList.getD (0 : Int).toNat 0).toNat : Int) = bt s 0 from rfl]
        refine .tq (t_eqlT rfl rfl h5) rfl (.done (.condT rfl (.seq (.sr (.tq (t_load ty9 rfl (Cells.get (i := 0) hv1.cells rfl)) rfl (Rg.wd trivial (w_call Tryz.call84 rfl (literal_ok hs)) rfl ?_))))))
        rintro _ _ ⟨rfl,rfl⟩
        rw [hst]
        refine .as rfl rfl (.done (.sr (.mv rfl rfl ?_)))
        refine .tq (t_gtrT rfl rfl (by show (0 : Int) < (j : Int); omega)) rfl ?_
        refine .done (.condT rfl (.sr (.mv rfl rfl (.mv rfl rfl ?_))))
        refine Rg.wd trivial (w_callG (fst := []) (cap := [.pointer (some ⟨b1,0,none⟩)]) rfl Tryz.call80 rfl (vs := [.int .i64 106,.int .i64 (j : Nat)]) (clo80_ok (k := 106) (n := j) hv1 (by omega))) rfl ?_
        rintro _ w3 ⟨rfl,hx3⟩
        replace hx := hx.ext hx3
        replace hv1 := hv1.ext hx3
        replace hv2 := hv2.ext hx3
        refine Rg.wn trivial (w_put (cs := [.int .i64 106,.string (s.extract 0 (j))]) hv2 rfl rfl rfl ty55 rfl rfl) ?_
        rintro _ wz ⟨huz,hvz⟩
        refine .done (Wp.ret ?_)
        have ht : tok s = (j,106) := by rw [htr,hst]
        rw [ht]
        exact ⟨[_],⟨⟨_,rfl,lv_agg hvz ty55⟩,trivial⟩,rfl,hx.upd huz q2b⟩
       | none =>
        have hb := hsz noNl
        refine .sr (.tq (t_load ty9 rfl (Cells.get (i := 0) hv1.cells rfl)) rfl (Rg.wd trivial (w_call Tryz.call81 rfl (run3_ok hs)) rfl ?_))
        rintro _ _ ⟨rfl,rfl⟩
        refine .as rfl rfl (.done (.sr (.mv rfl rfl ?_)))
        refine .tq (t_gtrF rfl rfl (by omega)) rfl ?_
        refine .done (.condF rfl (Wp.skip (.seq (.sr (.tq (t_load ty9 rfl (Cells.get (i := 0) hv1.cells rfl)) rfl (Rg.wd trivial (w_call Tryz.call81 rfl (run2_ok hs)) rfl ?_))))))
        rintro _ _ ⟨rfl,rfl⟩
        refine .as rfl rfl (.done (.sr (.mv rfl rfl ?_)))
        refine .tq (t_gtrF rfl rfl (by omega)) rfl ?_
        refine .done (.condF rfl (Wp.skip (.seq (.sr (.tq (t_load ty9 rfl (Cells.get (i := 0) hv1.cells rfl)) rfl ?_)))))
        refine .tq (t_index Tryz.underlying9 rfl rfl (by omega)) rfl ?_
        rw [show ((s.data.toList.getD (0 : Int).toNat 0).toNat : Int) = bt s 0 from rfl]
        refine .tq (t_eqlT rfl rfl h5) rfl (.done (.condT rfl (.seq (.sr (.tq (t_load ty9 rfl (Cells.get (i := 0) hv1.cells rfl)) rfl (Rg.wd trivial (w_call Tryz.call84 rfl (literal_ok hs)) rfl ?_))))))
        rintro _ _ ⟨rfl,rfl⟩
        rw [hst]
        refine .as rfl rfl (.done (.sr (.mv rfl rfl ?_)))
        refine .tq (t_gtrF rfl rfl (by decide)) rfl ?_
        refine .done (.condF rfl (Wp.skip (.sr (.mv rfl rfl (.tq (t_load ty9 rfl (Cells.get (i := 0) hv1.cells rfl)) rfl (Rg.wd trivial (w_call Tryz.call81 rfl (run1_ok hs)) rfl ?_))))))
        rintro _ _ ⟨rfl,rfl⟩
        refine Rg.wd trivial (w_callG (fst := []) (cap := [.pointer (some ⟨b1,0,none⟩)]) rfl Tryz.call80 rfl (vs := [.int .i64 108,.int .i64 (scan noNl s 0 : Nat)]) (clo80_ok (k := 108) (n := scan noNl s 0) hv1 (by omega))) rfl ?_
        rintro _ w3 ⟨rfl,hx3⟩
        replace hx := hx.ext hx3
        replace hv1 := hv1.ext hx3
        replace hv2 := hv2.ext hx3
        refine Rg.wn trivial (w_put (cs := [.int .i64 108,.string (s.extract 0 (scan noNl s 0))]) hv2 rfl rfl rfl ty55 rfl rfl) ?_
        rintro _ wz ⟨huz,hvz⟩
        refine .done (Wp.ret ?_)
        have ht : tok s = (scan noNl s 0,108) := by rw [htr,hst]
        rw [ht]
        exact ⟨[_],⟨⟨_,rfl,lv_agg hvz ty55⟩,trivial⟩,rfl,hx.upd huz q2b⟩
      ·rw [if_neg h5] at htr
       refine .sr (.tq (t_load ty9 rfl (Cells.get (i := 0) hv1.cells rfl)) rfl (Rg.wd trivial (w_call Tryz.call81 rfl (run3_ok hs)) rfl ?_))
       rintro _ _ ⟨rfl,rfl⟩
       refine .as rfl rfl (.done (.sr (.mv rfl rfl ?_)))
       refine .tq (t_gtrF rfl rfl (by omega)) rfl ?_
       refine .done (.condF rfl (Wp.skip (.seq (.sr (.tq (t_load ty9 rfl (Cells.get (i := 0) hv1.cells rfl)) rfl (Rg.wd trivial (w_call Tryz.call81 rfl (run2_ok hs)) rfl ?_))))))
       rintro _ _ ⟨rfl,rfl⟩
       refine .as rfl rfl (.done (.sr (.mv rfl rfl ?_)))
       refine .tq (t_gtrF rfl rfl (by omega)) rfl ?_
       refine .done (.condF rfl (Wp.skip (.seq (.sr (.tq (t_load ty9 rfl (Cells.get (i := 0) hv1.cells rfl)) rfl ?_)))))
       refine .tq (t_index Tryz.underlying9 rfl rfl (by omega)) rfl ?_
       rw [show ((s.data.toList.getD (0 : Int).toNat 0).toNat : Int) = bt s 0 from rfl]
       refine .tq (t_eqlF rfl rfl h5) rfl (.done (.condF rfl (Wp.skip (.seq (.sr (Rg.wd trivial (w_call Tryz.call85 rfl rpuncts_ok) rfl ?_))))))
       rintro _ w3 ⟨⟨bk,rfl,hvk⟩,hx3⟩
       replace hx := hx.ext hx3
       replace hv1 := hv1.ext hx3
       replace hv2 := hv2.ext hx3
       have hsk : SlC w3 (.slice (some ⟨bk,0,none⟩) puncts.length puncts.length) 1 puncts.length (puncts.map .string) := ⟨by simp,_,_,rfl,Nat.le_refl _,.inr ⟨bk,0,rfl,hvk.cells⟩⟩
       refine .tq (t_lenC hsk Tryz.underlying124 rfl) rfl (.mv rfl rfl (.done (Wp.block ?_)))
       refine Wp.loop (ι := Nat) (fun k => [(1,.pointer (some ⟨b1,0,none⟩)),(2,.pointer (some ⟨b2,0,none⟩)),(3,.func (.func 80) #[] #[.pointer (some ⟨b1,0,none⟩)]),(66,.slice (some ⟨bk,0,none⟩) puncts.length puncts.length),(67,.int .i64 puncts.length),(68,.int .i64 k)])
        (fun k w' => k ≤ puncts.length ∧ Ext w3 w' ∧ (∀ j (h : j < puncts.length),j < k → pm s puncts[j] = false)) (fun k => puncts.length - k) 0 (by repeat (first | exact .nil | refine .cons rfl ?_)) ⟨Nat.zero_le _,Ext.refl _,fun j _ h => absurd h (Nat.not_lt_zero _)⟩ ?_
       rintro k w4 ⟨hk,hy,hno⟩
       replace hx := hx.ext hy
       replace hv1 := hv1.ext hy
       replace hv2 := hv2.ext hy
       replace hsk := hsk.ext hy
       by_cases hlt : k < puncts.length
       ·have hpz : 1 ≤ puncts[k].size ∧ puncts[k].size ≤ 2 := by
         have h2 : (puncts.all fun x => decide (1 ≤ x.size ∧ x.size ≤ 2)) = true := by decide +kernel
         exact of_decide_eq_true (List.all_eq_true.1 h2 _ (List.getElem_mem hlt))
        obtain ⟨p,hp⟩ : ∃ p,puncts[k] = p := ⟨_,rfl⟩
        rw [hp] at hpz
        refine .sr ?_
        first | refine .tq (t_lssT rfl rfl (by omega)) rfl ?_ | refine .tq (t_lssF rfl rfl (by omega)) rfl ?_ | refine .tq (t_lss rfl rfl) rfl ?_
        refine .done (.seq (.condT rfl (Wp.skip (.seq (Wp.block (.sr ?_))))))
        refine Rg.ix hsk trivial rfl rfl Tryz.underlying124 ty9 (by omega) rfl ?_
        intro bt70 ot70 ht70
        rw [Int.toNat_natCast,Nat.mul_one,show ((puncts.map Value.string).drop k).take 1 = [.string p] from by rw [List.drop_eq_getElem_cons (by simpa using hlt)]; simp [hp]] at ht70
        refine .tq (t_load ty9 rfl (Cells.get (i := 0) ht70 rfl)) rfl (.as rfl rfl (.done ?_))
        cases hm : pm s p with
        | true =>
         simp only [pm,Bool.and_eq_true,decide_eq_true_eq] at hm
         refine .sr (.tq (t_load ty9 rfl (Cells.get (i := 0) hv1.cells rfl)) rfl (.tq (t_len Tryz.underlying9 rfl) rfl (.mv rfl rfl (.tq (t_len Tryz.underlying9 rfl) rfl ?_))))
         refine .tq (t_geqT rfl rfl (by omega)) rfl ?_
         refine .mv rfl rfl (.gd (t_load ty9 rfl (Cells.get (i := 0) hv1.cells rfl)) rfl ?_)
         first | refine .gd (t_move rfl) rfl ?_ | refine .so rfl rfl ?_
         first | refine .gd (t_len Tryz.underlying9 rfl) rfl ?_ | refine .so rfl rfl ?_
         refine .gd (t_sliceS Tryz.underlying9 rfl rfl rfl (by omega)) rfl ?_
         first | refine .gd (t_move rfl) rfl ?_ | refine .so rfl rfl ?_
         refine .gd (t_seqlT rfl rfl hm.2) rfl ?_
         first | refine .tq (t_pickT rfl rfl) rfl ?_ | refine .tq (t_pickF rfl rfl) rfl ?_
         refine .done (.condT rfl (.sr (.mv rfl rfl (.mv rfl rfl (.tq (t_len Tryz.underlying9 rfl) rfl ?_)))))
         refine Rg.wd trivial (w_callG (fst := []) (cap := [.pointer (some ⟨b1,0,none⟩)]) rfl Tryz.call80 rfl (vs := [.int .i64 107,.int .i64 (p.size : Nat)]) (clo80_ok (k := 107) (n := p.size) hv1 (by omega))) rfl ?_
         rintro _ w5 ⟨rfl,hx5⟩
         replace hx := hx.ext hx5
         replace hv1 := hv1.ext hx5
         replace hv2 := hv2.ext hx5
         replace hsk := hsk.ext hx5
         replace hy := hy.ext hx5
         replace ht70 := ht70.ext hx5
         refine Rg.wn trivial (w_put (cs := [.int .i64 107,.string (s.extract 0 (p.size))]) hv2 rfl rfl rfl ty55 rfl rfl) ?_
         rintro _ wz ⟨huz,hvz⟩
         refine .done (Wp.ret ?_)
         have hfd : puncts.find? (pm s) = some p := by
          rw [List.find?_eq_some_iff_getElem]
          refine ⟨by simp [pm,hm],k,hlt,hp,fun j hj => ?_⟩
          rw [hno j (by omega) hj]
          rfl
         have ht : tok s = (p.size,107) := by rw [htr,hfd]
         rw [ht]
         exact ⟨[_],⟨⟨_,rfl,lv_agg hvz ty55⟩,trivial⟩,rfl,hx.upd huz q2b⟩
        | false =>
         simp only [pm,Bool.and_eq_false_iff,decide_eq_false_iff_not] at hm
         have hdj : s.size < p.size ∨ (p.size ≤ s.size ∧ s.extract 0 p.size ≠ p) := by
          rcases hm with hm | hm
          ·exact .inl (by omega)
          ·rcases Nat.lt_or_ge s.size p.size with h | h
           ·exact .inl h
           ·exact .inr ⟨h,hm⟩
         refine Wp.seq (Wp.cut (fun L w' => Gx.Sub [(1,.pointer (some ⟨b1,0,none⟩)),(2,.pointer (some ⟨b2,0,none⟩)),(3,.func (.func 80) #[] #[.pointer (some ⟨b1,0,none⟩)]),(66,.slice (some ⟨bk,0,none⟩) puncts.length puncts.length),(67,.int .i64 puncts.length),(68,.int .i64 k),(84,.bool false)] L ∧ w4 = w') ?_ ?_)
         ·rcases hdj with hdj | hdj
          ·skip
           refine Wp.region (.tq (t_load ty9 rfl (Cells.get (i := 0) hv1.cells rfl)) rfl (.tq (t_len Tryz.underlying9 rfl) rfl (.mv rfl rfl (.tq (t_len Tryz.underlying9 rfl) rfl ?_))))
           refine .tq (t_geqF rfl rfl (by omega)) rfl ?_
           refine .mv rfl rfl (.so rfl rfl (.so rfl rfl (.so rfl rfl (.so rfl rfl (.so rfl rfl (.so rfl rfl ?_))))))
           first | refine .tq (t_pickT rfl rfl) rfl ?_ | refine .tq (t_pickF rfl rfl) rfl ?_
           refine .done ?_
           exact ⟨by repeat (first | exact .nil | refine .cons rfl ?_),rfl⟩
          ·skip
           refine Wp.region (.tq (t_load ty9 rfl (Cells.get (i := 0) hv1.cells rfl)) rfl (.tq (t_len Tryz.underlying9 rfl) rfl (.mv rfl rfl (.tq (t_len Tryz.underlying9 rfl) rfl ?_))))
           refine .tq (t_geqT rfl rfl (by omega)) rfl ?_
           refine .mv rfl rfl (.gd (t_load ty9 rfl (Cells.get (i := 0) hv1.cells rfl)) rfl ?_)
           first | refine .gd (t_move rfl) rfl ?_ | refine .so rfl rfl ?_
           first | refine .gd (t_len Tryz.underlying9 rfl) rfl ?_ | refine .so rfl rfl ?_
           refine .gd (t_sliceS Tryz.underlying9 rfl rfl rfl (by omega)) rfl ?_
           first | refine .gd (t_move rfl) rfl ?_ | refine .so rfl rfl ?_
           refine .gd (t_seqlF rfl rfl hdj.2) rfl ?_
           first | refine .tq (t_pickT rfl rfl) rfl ?_ | refine .tq (t_pickF rfl rfl) rfl ?_
           refine .done ?_
           exact ⟨by repeat (first | exact .nil | refine .cons rfl ?_),rfl⟩
         ·rintro L' _ ⟨hs',rfl⟩
          refine Wp.sub hs' (.condF rfl (Wp.skip (Wp.region ?_)))
          first | refine .tq (t_addI rfl rfl (by omega)) rfl ?_ | refine .tq (t_add rfl rfl) rfl ?_
          refine .mv rfl rfl (.done ?_)
          refine ⟨k + 1,by repeat (first | exact .nil | refine .cons rfl ?_),⟨hlt,hy,fun j h hj => ?_⟩,by omega⟩
          rcases Nat.lt_succ_iff_lt_or_eq.1 hj with c | c
          ·exact hno j h c
          ·subst c
           rw [hp]
           simp only [pm,Bool.and_eq_false_iff,decide_eq_false_iff_not]
           exact hm
       ·have hfd : puncts.find? (pm s) = none := List.find?_eq_none.2 fun p hm => by
         obtain ⟨j,hj,rfl⟩ := List.getElem_of_mem hm
         rw [hno j hj (by omega)]
         decide
        refine .sr ?_
        first | refine .tq (t_lssT rfl rfl (by omega)) rfl ?_ | refine .tq (t_lssF rfl rfl (by omega)) rfl ?_ | refine .tq (t_lss rfl rfl) rfl ?_
        refine .done (.seq (.condF rfl (Wp.exit (.sr (.mv rfl rfl ?_)))))
        refine Rg.wd trivial (w_callG (fst := []) (cap := [.pointer (some ⟨b1,0,none⟩)]) rfl Tryz.call80 rfl (vs := [.int .i64 108,.int .i64 (1 : Nat)]) (clo80_ok (k := 108) (n := 1) hv1 (by omega))) rfl ?_
        rintro _ w5 ⟨rfl,hx5⟩
        replace hx := hx.ext hx5
        replace hv1 := hv1.ext hx5
        replace hv2 := hv2.ext hx5
        replace hsk := hsk.ext hx5
        replace hy := hy.ext hx5
        refine Rg.wn trivial (w_put (cs := [.int .i64 108,.string (s.extract 0 (1))]) hv2 rfl rfl rfl ty55 rfl rfl) ?_
        rintro _ wz ⟨huz,hvz⟩
        refine .done (Wp.ret ?_)
        have ht : tok s = (1,108) := by rw [htr,hfd]
        rw [ht]
        exact ⟨[_],⟨⟨_,rfl,lv_agg hvz ty55⟩,trivial⟩,rfl,hx.upd huz q2b⟩
set_option maxHeartbeats 1000000 in
theorem rtokens_ok {w : World} {s : ByteArray} (hs : s.size ≤ 2000) : Cl Tryz.prog 20 #[.string s] w (fun u w' => SlC w' u 2 (toks s).length (tcs (toks s)) ∧ Ext w w') := by
 obtain ⟨i,hi,hz,hsi,hby⟩ := inf55
 have hx := Ext.refl w
 have htl := toks_length s
 refine Cl.enter Tryz.func20 rfl Tryz.ntmps20 rfl rfl (.sr (.as rfl rfl (.done (.sr (.as rfl rfl (.done (.seq (Wp.block ?_))))))))
 refine Wp.loop (ι := Nat × Value) (fun j => [(0,.string (s.extract (off s j.1) s.size)),(3,j.2)])
  (fun j w' => j.1 ≤ (toks s).length ∧ w'.ownsRow w.heap.size 55 2 j.2 j.1 (tcs ((toks s).take j.1)) ∧ Ext w w')
  (fun j => (toks s).length - j.1) (0,.slice none 0 0) (by simp only [off_zero,full]; repeat (first | exact .nil | refine .cons rfl ?_)) ⟨Nat.zero_le _,own_nil _ _ _ _,hx⟩ ?_
 clear hx
 rintro ⟨k,vr⟩ w3 ⟨hk,hown,hx⟩
 simp only at hk hown ⊢
 have hdr := off_split s k
 have htd := toks_drop k s
 rw [hdr] at htd
 have hol := off_le s k
 by_cases hlt : k < (toks s).length
 ·have eo := off_step hlt
  have ol1 := off_le s (k + 1)
  have hpos : 0 < (s.extract (off s k) s.size).size := by have := off_le s (k + 1); rw [size_tail]; omega
  have hin := tok_in hpos
  rw [size_tail] at hin
  have htc := toks_cons hpos
  rw [htd,List.drop_eq_getElem_cons hlt] at htc
  injection htc with htc _
  obtain ⟨tk,htk⟩ : ∃ tk,(toks s)[k] = tk := ⟨_,rfl⟩
  rw [htk] at htc eo
  have e1 : (tok (s.extract (off s k) s.size)).2 = tk.1 := by rw [htc]
  have e2 : (s.extract (off s k) s.size).extract 0 (tok (s.extract (off s k) s.size)).1 = tk.2 := by rw [htc]
  refine .seq (.sr (.mv rfl rfl (.tq (t_len Tryz.underlying9 rfl) rfl ?_)))
  refine .tq (t_gtrT rfl rfl (by omega)) rfl ?_
  refine .done (.condT rfl (Wp.skip (Wp.block (.sr (.mv rfl rfl ?_)))))
  refine Rg.wd trivial (w_call Tryz.call43 rfl (firstToken_ok (s := s.extract (off s k) s.size) (by rw [size_tail]; omega) hpos)) rfl ?_
  rintro _ w1 ⟨rfl,hx1⟩
  replace hx := hx.ext hx1
  rw [e1,e2]
  replace hown := own_ext hown hx1
  refine Rg.wd trivial (w_new Tryz.zeroValue55 rfl) rfl ?_
  rintro _ wab4 ⟨b4,rfl,qb4,hxab4,hvab4⟩
  have hb4n : b4 ∉ vr.ownBlock.toList := fun hm => by
   have := Par.own_lt hown (by simpa using hm)
   omega
  refine Rg.wn trivial (w_put (cs := [.int .i64 tk.1,.string tk.2]) hvab4 rfl rfl rfl (ty55) (rfl) (rfl)) ?_
  rintro _ w2 ⟨hub4,hvb4⟩
  have hx2 := hxab4.upd hub4 (Nat.le_of_eq qb4.symm)
  clear hvab4 hub4 hxab4
  replace hx := hx.ext hx2
  clear qb4
  refine .done ?_
  replace hown := own_ext hown hx2
  refine .sr (.mv rfl rfl ?_)
  refine .tq (t_loadA rfl hvb4.cells (by exact ty55)) rfl ?_
  refine Rg.wd trivial (w_buildSlice (bs49_1 _ _) rfl) rfl ?_
  rintro _ w3 ⟨bb,rfl,qb,hx3,hvb⟩
  replace hx := hx.ext hx3
  replace hvb4 := hvb4.ext hx3
  replace hown := own_ext hown hx3
  refine Rg.wd trivial (w_append w.heap.size Tryz.underlying49 hi hz hsi hby rfl (by decide) rfl rfl hown rfl (fun j u hu => by rw [addr_add]; exact hvb.cells j u hu) (by simp [Value.oneCell']) (by unfold maxLen; omega) (by omega) hx.le) rfl ?_
  rintro v2 wc ⟨hown2,hgr,p2,l2,c2,rfl⟩
  have hc4 : Cells wc b4 0 [.int .i64 tk.1,.string tk.2] := (hvb4.kp (grown_kp hgr) hb4n).cells
  replace hx := own_ext3 hx hown hgr
  refine .as rfl rfl (.done (Wp.region (.mv rfl rfl (.tq (t_fieldAddr fa55_1 rfl) rfl (.tq (t_load ty9 rfl (Cells.get (i := 1) hc4 rfl)) rfl (.tq (t_len Tryz.underlying9 rfl) rfl ?_))))))
  refine .tq (t_sliceS Tryz.underlying9 rfl rfl rfl (by rw [size_tail]; omega)) rfl ?_
  refine .as rfl rfl (.done ?_)
  refine ⟨(k + 1,.slice p2 l2 c2),by rw [show s.extract (off s (k + 1)) s.size = (s.extract (off s k) s.size).extract ((tk.2.size : Nat) : Int).toNat (s.extract (off s k) s.size).size from by rw [tail_tail hol,eo.1]; rfl]; repeat (first | exact .nil | refine .cons rfl ?_),⟨hlt,?_,hx⟩,by simp only; omega⟩
  rw [List.take_succ_eq_append_getElem hlt,tcs_append,htk]
  exact hown2
 ·obtain rfl : k = (toks s).length := by omega
  rw [List.take_length] at hown
  have hz : (s.extract (off s (toks s).length) s.size).size = 0 := by
   rw [← hdr,List.drop_length]
   rfl
  refine .seq (.sr (.mv rfl rfl (.tq (t_len Tryz.underlying9 rfl) rfl ?_)))
  refine .tq (t_gtrF rfl rfl (by omega)) rfl ?_
  refine .done (.condF rfl (Wp.exit (.sr (.mv rfl rfl (.as rfl rfl (.done (Wp.ret ?_)))))))
  exact ⟨[_],⟨rfl,trivial⟩,own_slice hown,hx⟩
def startsZ (s : ByteArray) (n : Nat) : List Int := (List.range n).map fun k => (off s k : Int)
theorem startsZ_length (s : ByteArray) (n : Nat) : (startsZ s n).length = n := by simp [startsZ]
theorem startsZ_succ (s : ByteArray) (n : Nat) : startsZ s (n + 1) = startsZ s n ++ [(off s n : Int)] := by simp [startsZ,List.range_succ]
theorem startsZ_at {s : ByteArray} {n k : Nat} (h : k < n) : (startsZ s n)[k]'(by rw [startsZ_length]; exact h) = (off s k : Int) := by simp [startsZ]
theorem rstarts_ok {w : World} {v : Value} {s : ByteArray} (hsl : SlC w v 2 (toks s).length (tcs (toks s))) (hlen : s.size ≤ 2000) :
  Cl Tryz.prog 21 #[v] w (fun u w' => SlC w' u 1 (toks s).length ((startsZ s (toks s).length).map (.int .i64)) ∧ Ext w w') := by
 obtain ⟨i,hi,hz,hsi,hby⟩ := inf3
 have hx := Ext.refl w
 have htl := toks_length s
 refine Cl.enter Tryz.func21 rfl Tryz.ntmps21 rfl rfl (.sr (.as rfl rfl (.done (.sr (.as rfl rfl (.done (.sr (.as rfl rfl (.done (.seq (.sr (.mv rfl rfl ?_))))))))))))
 refine .tq (t_lenC hsl Tryz.underlying49 rfl) rfl (.mv rfl rfl (.done (Wp.block ?_)))
 refine Wp.loop (ι := Nat × Value) (fun j => [(3,j.2),(4,.int .i64 (off s j.1)),(7,v),(8,.int .i64 (toks s).length),(9,.int .i64 j.1)])
  (fun j w' => j.1 ≤ (toks s).length ∧ w'.ownsRow w.heap.size 3 1 j.2 j.1 ((startsZ s j.1).map (.int .i64)) ∧ Ext w w')
  (fun j => (toks s).length - j.1) (0,.slice none 0 0) (by repeat (first | exact .nil | refine .cons rfl ?_)) ⟨Nat.zero_le _,own_nil _ _ _ _,hx⟩ ?_
 clear hx
 rintro ⟨k,vr⟩ w3 ⟨hk,hown,hx⟩
 simp only at hk hown ⊢
 have hs3 := hsl.ext hx
 by_cases hlt : k < (toks s).length
 ·have eo := (off_step hlt).1
  have ol := off_le s (k + 1)
  refine .sr ?_
  first | refine .tq (t_lssT rfl rfl (by omega)) rfl ?_ | refine .tq (t_lssF rfl rfl (by omega)) rfl ?_ | refine .tq (t_lss rfl rfl) rfl ?_
  refine .done (.seq (.condT rfl (Wp.skip (.seq (Wp.block (.sr ?_))))))
  refine Rg.ix hs3 trivial rfl rfl Tryz.underlying49 ty55 (by omega) rfl ?_
  intro bt11 ot11 ht11
  rw [Int.toNat_natCast,tcs_at _ k hlt] at ht11
  refine .tq (t_loadA rfl ht11 ty55) rfl (Rg.wd trivial (w_new Tryz.zeroValue55 rfl) rfl ?_)
  rintro _ wab6 ⟨b6,rfl,qb6,hxab6,hvab6⟩
  refine Rg.wn trivial (w_put (cs := [.int .i64 (toks s)[k].1,.string (toks s)[k].2]) hvab6 rfl rfl rfl (ty55) (rfl) (rfl)) ?_
  rintro _ w1 ⟨hub6,hvb6⟩
  have hx1 := hxab6.upd hub6 (Nat.le_of_eq qb6.symm)
  clear hvab6 hub6 hxab6
  replace hx := hx.ext hx1
  replace ht11 := ht11.ext hx1
  clear qb6
  refine .done ?_
  replace hown := own_ext hown hx1
  refine .sr (.mv rfl rfl (.mv rfl rfl (Rg.wd trivial (w_buildSlice (bs51_1 _) rfl) rfl ?_)))
  rintro _ wb ⟨bb,rfl,qb,hxb,hvb⟩
  replace hx := hx.ext hxb
  replace hown := own_ext hown hxb
  replace hvb6 := hvb6.ext hxb
  refine Rg.wd trivial (w_append w.heap.size Tryz.underlying51 hi hz hsi hby rfl (by decide) rfl rfl hown rfl (fun j u hu => by rw [addr_add]; exact hvb.cells j u hu) (by simp [Value.oneCell']) (by unfold maxLen; omega) (by omega) hx.le) rfl ?_
  rintro v2 wc ⟨hown2,hgr,p2,l2,c2,rfl⟩
  have hc6 := (hvb6.grown hown hgr (by decide)).cells
  replace hx := own_ext3 hx hown hgr
  refine .as rfl rfl (.done (Wp.region (.mv rfl rfl (.tq (t_fieldAddr fa55_1 rfl) rfl (.tq (t_load ty9 rfl (Cells.get (i := 1) hc6 rfl)) rfl (.tq (t_len Tryz.underlying9 rfl) rfl ?_))))))
  first | refine .tq (t_addI rfl rfl (by omega)) rfl ?_ | refine .tq (t_add rfl rfl) rfl ?_
  rw [show ((off s k : Int) + ((toks s)[k].2.size : Nat)) = (off s (k + 1) : Int) from by omega]
  refine .as rfl rfl (.done (Wp.region ?_))
  first | refine .tq (t_addI rfl rfl (by omega)) rfl ?_ | refine .tq (t_add rfl rfl) rfl ?_
  refine .mv rfl rfl (.done ?_)
  refine ⟨(k + 1,.slice p2 l2 c2),by repeat (first | exact .nil | refine .cons rfl ?_),⟨hlt,?_,hx⟩,by simp only; omega⟩
  rw [startsZ_succ,List.map_append]
  exact hown2
 ·have e0 : k = (toks s).length := by omega
  subst e0
  refine .sr ?_
  first | refine .tq (t_lssT rfl rfl (by omega)) rfl ?_ | refine .tq (t_lssF rfl rfl (by omega)) rfl ?_ | refine .tq (t_lss rfl rfl) rfl ?_
  refine .done (.seq (.condF rfl (Wp.exit (.sr (.mv rfl rfl (.as rfl rfl (.done (Wp.ret ?_))))))))
  exact ⟨[_],⟨rfl,trivial⟩,own_slice hown,hx⟩
end Go.Proofs.YtcelfjbajdffkaaGreatDoor.Lexi
