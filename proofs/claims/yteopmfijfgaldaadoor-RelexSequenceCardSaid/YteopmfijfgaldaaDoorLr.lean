/- Relexing as plain data: what stays ahead of an edit, what stays behind it. No program. -/
import Derived.Test.YteopmfijfgaldaaDoorLb
namespace Go.Proofs.YteopmfijfgaldaaDoor
set_option linter.unusedVariables false
set_option linter.unusedSimpArgs false

theorem catT_app : ∀ a b : List (Int × ByteArray), catT (a ++ b) = catT a ++ catT b
  | [], b => by
    show catT b = ByteArray.empty ++ catT b
    rw [ByteArray.empty_append]
  | t :: a, b => by
    show t.2 ++ catT (a ++ b) = t.2 ++ catT a ++ catT b
    rw [catT_app a b, ByteArray.append_assoc]
/-- where the first k tokens end -/
def off (s : ByteArray) (k : Nat) : Nat := (catT ((toks s).take k)).size
theorem off_zero (s : ByteArray) : off s 0 = 0 := rfl
theorem off_succ {s : ByteArray} (h : 0 < s.size) (k : Nat) : off s (k + 1) = (tok s).1 + off (s.extract (tok s).1 s.size) k := by
  have h1 := tok_in h
  unfold off
  rw [toks_cons h, List.take_succ_cons]
  show (s.extract 0 (tok s).1 ++ catT ((toks (s.extract (tok s).1 s.size)).take k)).size = _
  rw [ByteArray.size_append, ByteArray.size_extract]
  omega
theorem off_split (s : ByteArray) (k : Nat) : catT ((toks s).drop k) = s.extract (off s k) s.size := by
  have h := catT_app ((toks s).take k) ((toks s).drop k)
  rw [List.take_append_drop, cat_toks] at h
  apply by_list
  rw [list_tail]
  have h2 := congrArg (fun x => x.data.toList) h
  simp only [list_app] at h2
  rw [h2]
  unfold off
  rw [← list_len, List.drop_left']
  rfl
theorem off_le (s : ByteArray) (k : Nat) : off s k ≤ s.size := by
  have h := congrArg ByteArray.size (catT_app ((toks s).take k) ((toks s).drop k))
  rw [List.take_append_drop, cat_toks, ByteArray.size_append] at h
  unfold off
  omega
theorem off_step {s : ByteArray} {k : Nat} (h : k < (toks s).length) : off s (k + 1) = off s k + ((toks s)[k]).2.size ∧ off s k < off s (k + 1) := by
  have h1 := toks_full s _ (List.getElem_mem h)
  have h2 : off s (k + 1) = off s k + ((toks s)[k]).2.size := by
    unfold off
    rw [List.take_succ_eq_append_getElem h, catT_app, ByteArray.size_append]
    show _ + ((toks s)[k].2 ++ ByteArray.empty).size = _
    rw [ByteArray.append_empty]
  omega
theorem off_mono {s : ByteArray} : ∀ (d : Nat) {k : Nat}, k + d ≤ (toks s).length → off s k + d ≤ off s (k + d)
  | 0, _, _ => Nat.le_refl _
  | d + 1, k, h => by
    have h1 := off_mono (s := s) d (k := k) (by omega)
    have h2 := (off_step (s := s) (k := k + d) (by omega)).2
    rw [show k + (d + 1) = k + d + 1 from by omega]
    omega
theorem off_lt {s : ByteArray} {i k : Nat} (hi : i ≤ (toks s).length) (hk : k ≤ (toks s).length) (h : off s i ≤ off s k) : i ≤ k := by
  rcases Nat.lt_or_ge k i with h1 | h1
  · have := off_mono (s := s) (i - k) (k := k) (by omega)
    rw [show k + (i - k) = i from by omega] at this
    omega
  · exact h1
theorem tail_tail {s : ByteArray} {m n : Nat} (hm : m ≤ s.size) : (s.extract m s.size).extract n (s.extract m s.size).size = s.extract (m + n) s.size := by
  apply by_list
  rw [list_tail, list_tail, list_tail, List.drop_drop]
/-- the tokens that end ahead of the first byte that differs stay -/
theorem keep_front : ∀ (r : Nat) (s N : ByteArray) (a : Nat), a ≤ s.size → a ≤ N.size → (∀ i, i < a → bt N i = bt s i) → r ≤ (toks s).length → (r = 0 ∨ off s r < a) →
    toks N = (toks s).take r ++ toks (N.extract (off s r) N.size)
  | 0, s, N, a, h1, h2, h3, h4, h5 => by rw [off_zero, full]; rfl
  | r + 1, s, N, a, h1, h2, h3, h4, h5 => by
    have h5 : off s (r + 1) < a := h5.elim (fun h => by cases h) id
    have hs : 0 < s.size := by omega
    have hin := tok_in hs
    have eo := off_succ hs r
    obtain ⟨n, hn⟩ : ∃ n, (tok s).1 = n := ⟨_, rfl⟩
    rw [hn] at hin eo
    have et : tok N = tok s := by
      by_cases hsp : isSp (bt s 0) = true
      · have e1 := tok_sp hsp
        have e2 : scan isSp s 0 = n := by rw [← hn, e1]
        obtain ⟨_, _, k3, k4⟩ := scan_spec isSp s 0
        rw [e2] at k3 k4
        have e3 : scan isSp N 0 = n := scan_unique (Nat.zero_le _) (by omega) (fun k c1 c2 => by rw [h3 k (by omega)]; exact k3 k c1 c2) (fun _ => by rw [h3 n (by omega)]; exact k4 (by omega))
        rw [e1, tok_sp (by rw [h3 0 (by omega)]; exact hsp), e2, e3]
      · refine tok_local hs (tok_ns hsp) fun i hi => ?_
        rw [hn] at hi
        rw [bz_in (by omega), bz_in (by omega)]
        exact h3 i (by omega)
    have ex : N.extract 0 n = s.extract 0 n := ext_eq (by omega) (by omega) fun i hi => h3 i (by omega)
    have h4' : r ≤ (toks (s.extract n s.size)).length := by
      have := h4
      rw [toks_cons hs, List.length_cons, hn] at this
      omega
    have ih := keep_front r (s.extract n s.size) (N.extract n N.size) (a - n) (by rw [size_tail]; omega) (by rw [size_tail]; omega)
      (fun i hi => by rw [bt_tail, bt_tail]; exact h3 _ (by omega)) h4' (.inr (by omega))
    rw [tail_tail (by omega), ← eo] at ih
    rw [toks_cons (show 0 < N.size by omega), toks_cons hs, et, hn, ex, ih, List.take_succ_cons]
    rfl
/-- one edit -/
def spl (s : ByteArray) (a b : Nat) (t : ByteArray) : ByteArray := s.extract 0 a ++ t ++ s.extract b s.size
theorem spl_size {s : ByteArray} {a b : Nat} {t : ByteArray} (h1 : a ≤ b) (h2 : b ≤ s.size) : (spl s a b t).size + b = s.size + a + t.size := by
  unfold spl
  rw [ByteArray.size_append, ByteArray.size_append, ByteArray.size_extract, ByteArray.size_extract]
  omega
theorem front_keep {s : ByteArray} {a b : Nat} {t : ByteArray} (h1 : a ≤ b) (h2 : b ≤ s.size) {r : Nat} (hr : r ≤ (toks s).length) (h : r = 0 ∨ off s r < a) :
    toks (spl s a b t) = (toks s).take r ++ toks ((spl s a b t).extract (off s r) (spl s a b t).size) := by
  have hz := spl_size (s := s) (t := t) h1 h2
  refine keep_front r s _ a (by omega) (by omega) (fun i hi => ?_) hr h
  unfold spl
  rw [ByteArray.append_assoc, bt_app_l (by rw [ByteArray.size_extract]; omega)]
  unfold bt
  rw [list_front, List.getD_eq_getElem?_getD, List.getElem?_take, if_pos hi, List.getD_eq_getElem?_getD]
/-- the tokens behind the edit stay, from an old boundary on -/
theorem back_keep {s : ByteArray} {a b : Nat} {t : ByteArray} (h1 : a ≤ b) (h2 : b ≤ s.size) {i : Nat} (h : b ≤ off s i) :
    toks ((spl s a b t).extract (off s i - b + (a + t.size)) (spl s a b t).size) = (toks s).drop i := by
  have e : (s.extract 0 a ++ t).size = a + t.size := by rw [ByteArray.size_append, ByteArray.size_extract]; omega
  have e2 : (spl s a b t).extract (off s i - b + (a + t.size)) (spl s a b t).size = s.extract (off s i) s.size := by
    unfold spl
    rw [Nat.add_comm, ← e, tail_past, tail_tail h2]
    congr 1
    omega
  rw [e2, ← off_split, toks_drop]
end Go.Proofs.YteopmfijfgaldaaDoor
