/- Tokens as plain data, second part: the list of tokens and its laws. No program. -/
import Derived.Test.YtbnkncemfadfjaaGreatDoorLa
namespace Go.Proofs.YtbnkncemfadfjaaGreatDoor.Lexi
set_option linter.unusedVariables false
set_option linter.unusedSimpArgs false

theorem by_list {s t : ByteArray} (h : s.data.toList = t.data.toList) : s = t := ByteArray.ext (Array.ext' h)
theorem list_cut (s : ByteArray) (a b : Nat) : (s.extract a b).data.toList = (s.data.toList.drop a).take (b - a) := by
  simp
theorem list_len (s : ByteArray) : s.data.toList.length = s.size := by simp
theorem list_app (a b : ByteArray) : (a ++ b).data.toList = a.data.toList ++ b.data.toList := by simp
theorem list_tail (s : ByteArray) (n : Nat) : (s.extract n s.size).data.toList = s.data.toList.drop n := by
  rw [list_cut, List.take_of_length_le (by rw [List.length_drop, list_len]; omega)]
theorem tail_app {a d : ByteArray} {n : Nat} (h : n ≤ a.size) : (a ++ d).extract n (a ++ d).size = a.extract n a.size ++ d := by
  apply by_list
  rw [list_tail, list_app, list_app, list_tail, List.drop_append_of_le_length (by rw [list_len]; exact h)]
theorem tail_past {a d : ByteArray} {n : Nat} : (a ++ d).extract (a.size + n) (a ++ d).size = d.extract n d.size := by
  apply by_list
  rw [list_tail, list_app, list_tail, List.drop_append, List.drop_eq_nil_of_le (by rw [list_len]; omega), list_len]
  simp
theorem head_app {a d : ByteArray} {n : Nat} (h : n ≤ a.size) : (a ++ d).extract 0 n = a.extract 0 n := by
  apply by_list
  rw [list_front, list_front, list_app, List.take_append_of_le_length (by rw [list_len]; exact h)]
theorem cut_join {s : ByteArray} {n : Nat} (h : n ≤ s.size) : s.extract 0 n ++ s.extract n s.size = s := by
  apply by_list
  rw [list_app, list_front, list_tail, List.take_append_drop]
theorem bt_app_l {a d : ByteArray} {i : Nat} (h : i < a.size) : bt (a ++ d) i = bt a i := by
  unfold bt
  rw [list_app, List.getD_eq_getElem?_getD, List.getD_eq_getElem?_getD, List.getElem?_append_left (by rw [list_len]; exact h)]
theorem bt_app_r {a d : ByteArray} (i : Nat) : bt (a ++ d) (a.size + i) = bt d i := by
  unfold bt
  rw [list_app, List.getD_eq_getElem?_getD, List.getD_eq_getElem?_getD, List.getElem?_append_right (by rw [list_len]; omega), list_len, Nat.add_sub_cancel_left]
theorem bt_tail {s : ByteArray} {n : Nat} (i : Nat) : bt (s.extract n s.size) i = bt s (n + i) := by
  unfold bt
  rw [list_tail, List.getD_eq_getElem?_getD, List.getD_eq_getElem?_getD, List.getElem?_drop]
theorem size_tail (s : ByteArray) (n : Nat) : (s.extract n s.size).size = s.size - n := by rw [ByteArray.size_extract]; omega
theorem size_zero {s : ByteArray} (h : s.size = 0) : s = ByteArray.empty := by
  apply by_list
  have : s.data.toList.length = 0 := by rw [list_len]; exact h
  rw [List.length_eq_zero_iff.1 this]; rfl
theorem full (s : ByteArray) : s.extract 0 s.size = s := by
  apply by_list
  rw [list_front, List.take_of_length_le (by rw [list_len]; omega)]

def toksN : Nat → ByteArray → List (Int × ByteArray)
  | 0, _ => []
  | f + 1, s => if s.size = 0 then [] else ((tok s).2, s.extract 0 (tok s).1) :: toksN f (s.extract (tok s).1 s.size)
def toks (s : ByteArray) : List (Int × ByteArray) := toksN s.size s
theorem toksN_fuel : ∀ f g (s : ByteArray), s.size ≤ f → s.size ≤ g → toksN f s = toksN g s
  | 0, 0, _, _, _ => rfl
  | 0, g + 1, s, hf, hg => by unfold toksN; rw [if_pos (by omega)]
  | f + 1, 0, s, hf, hg => by unfold toksN; rw [if_pos (by omega)]
  | f + 1, g + 1, s, hf, hg => by
    unfold toksN
    by_cases h : s.size = 0
    · rw [if_pos h, if_pos h]
    · have h1 := tok_in (s := s) (by omega)
      rw [if_neg h, if_neg h, toksN_fuel f g _ (by rw [size_tail]; omega) (by rw [size_tail]; omega)]
theorem toks_nil {s : ByteArray} (h : s.size = 0) : toks s = [] := by unfold toks; rw [h]; rfl
theorem toks_cons {s : ByteArray} (h : 0 < s.size) : toks s = ((tok s).2, s.extract 0 (tok s).1) :: toks (s.extract (tok s).1 s.size) := by
  have h1 := tok_in h
  unfold toks
  obtain ⟨f, hf⟩ : ∃ f, s.size = f + 1 := ⟨s.size - 1, by omega⟩
  rw [hf]
  show (if s.size = 0 then [] else _) = _
  rw [if_neg (by omega), ← hf, toksN_fuel f (s.extract (tok s).1 s.size).size _ (by rw [size_tail]; omega) (Nat.le_refl _)]
def catT : List (Int × ByteArray) → ByteArray
  | [] => ByteArray.empty
  | t :: l => t.2 ++ catT l
theorem induct_size {P : ByteArray → Prop} (h : ∀ s, (∀ t, t.size < s.size → P t) → P s) (s : ByteArray) : P s := by
  have : ∀ n (s : ByteArray), s.size < n → P s := by
    intro n
    induction n with
    | zero => intro s hs; omega
    | succ n ih => intro s hs; exact h s fun t ht => ih t (by omega)
  exact this _ s (Nat.lt_succ_self _)
theorem cat_toks : ∀ s, catT (toks s) = s := induct_size fun s ih => by
  by_cases h : s.size = 0
  · rw [toks_nil h, size_zero h]; rfl
  · have h1 := tok_in (s := s) (by omega)
    rw [toks_cons (by omega), catT, ih _ (by rw [size_tail]; omega), cut_join h1.2]
theorem toks_full : ∀ s, ∀ t ∈ toks s, 0 < t.2.size := induct_size fun s ih t ht => by
  by_cases h : s.size = 0
  · rw [toks_nil h] at ht; cases ht
  · have h1 := tok_in (s := s) (by omega)
    rw [toks_cons (by omega)] at ht
    rcases List.mem_cons.1 ht with rfl | ht
    · simp only [ByteArray.size_extract]; omega
    · exact ih _ (by rw [size_tail]; omega) t ht
theorem toks_drop : ∀ (k : Nat) (s : ByteArray), toks (catT ((toks s).drop k)) = (toks s).drop k
  | 0, s => by rw [List.drop_zero, cat_toks]
  | k + 1, s => by
    by_cases h : s.size = 0
    · rw [toks_nil h, List.drop_nil]; rfl
    · rw [toks_cons (s := s) (by omega), List.drop_succ_cons]
      exact toks_drop k _
theorem toks_length (s : ByteArray) : (toks s).length ≤ s.size := by
  revert s
  refine induct_size fun s ih => ?_
  by_cases h : s.size = 0
  · rw [toks_nil h]; exact Nat.zero_le _
  · have h1 := tok_in (s := s) (by omega)
    rw [toks_cons (by omega), List.length_cons]
    have := ih (s.extract (tok s).1 s.size) (by rw [size_tail]; omega)
    rw [size_tail] at this
    omega
/-- the tokens that are no white space -/
def sig (l : List (Int × ByteArray)) : List (Int × ByteArray) := l.filter fun t => t.1 != 101
theorem tok_sp {s : ByteArray} (h : isSp (bt s 0) = true) : tok s = (scan isSp s 0, 101) := by unfold tok; rw [if_pos h]
theorem tok_ns {s : ByteArray} (h : ¬ isSp (bt s 0) = true) : (tok s).2 ≠ 101 := by
  unfold tok
  rw [if_neg h]
  split
  · simp
  · split
    · split <;> simp
    · split
      · simp
      · split
        · split <;> simp
        · split
          · simp
          · split <;> simp
def nl : ByteArray := ⟨#[10]⟩
theorem nl_size : nl.size = 1 := rfl
theorem bt_nl : bt nl 0 = 10 := rfl
/-- white space ahead of b is white space -/
theorem sig_lead (b : ByteArray) : sig (toks (b.extract (scan isSp b 0) b.size)) = sig (toks b) := by
  by_cases h : isSp (bt b 0) = true ∧ 0 < b.size
  · rw [toks_cons h.2, tok_sp h.1]
    simp [sig]
  · have : scan isSp b 0 = 0 := by
      by_cases hb : 0 < b.size
      · exact scan_unique (Nat.le_refl _) (Nat.zero_le _) (fun k a c => by omega) (fun _ => by
          cases e : isSp (bt b 0) with
          | true => exact absurd ⟨e, hb⟩ h
          | false => rfl)
      · have := (scan_spec isSp b 0).2.1 (Nat.zero_le _)
        omega
    rw [this, full]
theorem sig_space {c b : ByteArray} {n : Nat} (hc : 0 < c.size) (h0 : isSp (bt c 0) = true) (hn : scan isSp c 0 = n) (ht : c.extract n c.size = b) : sig (toks c) = sig (toks b) := by
  rw [toks_cons hc, tok_sp h0, hn, ht]
  simp [sig]
/-- the run of white space that ends behind a line feed -/
theorem run_nl {a b : ByteArray} (h : ∀ i, i < a.size → isSp (bt a i) = true) : scan isSp (a ++ nl ++ b) 0 = a.size + (1 + scan isSp b 0) := by
  obtain ⟨k1, k2, k3, k4⟩ := scan_spec isSp b 0
  have k2 := k2 (Nat.zero_le _)
  have hsz : (a ++ nl).size = a.size + 1 := by rw [ByteArray.size_append, nl_size]
  refine scan_unique (Nat.zero_le _) (by rw [ByteArray.size_append, hsz]; omega) (fun k _ hk => ?_) (fun hk => ?_)
  · by_cases c1 : k < a.size
    · rw [bt_app_l (by omega), bt_app_l c1]; exact h k c1
    · by_cases c2 : k = a.size
      · rw [bt_app_l (by omega), c2, show a.size = a.size + 0 from rfl, bt_app_r, bt_nl]; rfl
      · have : k = (a ++ nl).size + (k - a.size - 1) := by omega
        rw [this, bt_app_r]
        exact k3 _ (Nat.zero_le _) (by omega)
  · rw [ByteArray.size_append, hsz] at hk
    have : a.size + (1 + scan isSp b 0) = (a ++ nl).size + scan isSp b 0 := by omega
    rw [this, bt_app_r]
    exact k4 (by omega)
theorem lines : ∀ (a b : ByteArray), sig (toks (a ++ nl ++ b)) = sig (toks a) ++ sig (toks b) := fun a b => by
  revert a
  refine induct_size fun a ih => ?_
  have hsz : (a ++ nl ++ b).size = a.size + 1 + b.size := by rw [ByteArray.size_append, ByteArray.size_append, nl_size]
  by_cases ha : a.size = 0
  · have hall : ∀ i, i < a.size → isSp (bt a i) = true := fun i hi => by omega
    rw [toks_nil ha]
    show _ = [] ++ _
    rw [List.nil_append, ← sig_lead b]
    refine sig_space (by omega) ?_ (run_nl hall) ?_
    · rw [bt_app_l (by rw [ByteArray.size_append, nl_size]; omega), show (0 : Nat) = a.size + 0 from by omega, bt_app_r, bt_nl]; rfl
    · rw [← Nat.add_assoc, show a.size + 1 = (a ++ nl).size from by rw [ByteArray.size_append, nl_size], tail_past]
  · have hin := tok_in (s := a) (by omega)
    have hrest : (a ++ nl ++ b).extract (tok a).1 (a ++ nl ++ b).size = a.extract (tok a).1 a.size ++ nl ++ b := by
      rw [ByteArray.append_assoc, tail_app hin.2, ByteArray.append_assoc]
    have hhead : (a ++ nl ++ b).extract 0 (tok a).1 = a.extract 0 (tok a).1 := by rw [ByteArray.append_assoc, head_app hin.2]
    have hbt : ∀ i, i < a.size → bt (a ++ nl ++ b) i = bt a i := fun i hi => by rw [ByteArray.append_assoc, bt_app_l hi]
    have hmid : bt (a ++ nl ++ b) a.size = 10 := by
      rw [bt_app_l (by rw [ByteArray.size_append, nl_size]; omega), show a.size = a.size + 0 from rfl, bt_app_r, bt_nl]
    by_cases hs : isSp (bt a 0) = true
    · have ha0 : isSp (bt (a ++ nl ++ b) 0) = true := by rw [hbt 0 (by omega)]; exact hs
      obtain ⟨k1, k2, k3, k4⟩ := scan_spec isSp a 0
      have et := tok_sp hs
      rw [et] at hin hrest
      simp only at hin hrest
      by_cases hfull : scan isSp a 0 = a.size
      · have hall : ∀ i, i < a.size → isSp (bt a i) = true := fun i hi => k3 i (Nat.zero_le _) (by omega)
        have e1 : sig (toks a) = [] := by
          rw [toks_cons (by omega), et]
          simp only
          rw [hfull, toks_nil (by rw [size_tail]; omega)]
          simp [sig]
        rw [e1, List.nil_append, ← sig_lead b]
        refine sig_space (by omega) ha0 (run_nl hall) ?_
        rw [← Nat.add_assoc, show a.size + 1 = (a ++ nl).size from by rw [ByteArray.size_append, nl_size], tail_past]
      · have e1 : scan isSp (a ++ nl ++ b) 0 = scan isSp a 0 := scan_unique (Nat.zero_le _) (by omega) (fun k a1 a2 => by rw [hbt k (by omega)]; exact k3 k a1 a2) (fun _ => by rw [hbt _ (by omega)]; exact k4 (by omega))
        rw [sig_space (c := a ++ nl ++ b) (by omega) ha0 e1 hrest, sig_space (c := a) (by omega) hs rfl rfl]
        exact ih _ (by rw [size_tail]; omega)
    · have hk := tok_ns hs
      have ht : tok (a ++ nl ++ b) = tok a := tok_local (by omega) hk fun i hi => by
        by_cases c : i < a.size
        · rw [bz_in c, bz_in (by omega)]; exact hbt i c
        · obtain rfl : i = a.size := by omega
          rw [bz_in (by omega), bz_out (Nat.le_refl _)]; exact hmid
      rw [toks_cons (s := a ++ nl ++ b) (by omega), toks_cons (s := a) (by omega), ht, hrest, hhead]
      have e2 : ∀ l, sig (((tok a).2, a.extract 0 (tok a).1) :: l) = ((tok a).2, a.extract 0 (tok a).1) :: sig l := fun l => by simp [sig, hk]
      rw [e2, e2, ih _ (by rw [size_tail]; omega)]
      rfl
end Go.Proofs.YtbnkncemfadfjaaGreatDoor.Lexi
