/- Positions as plain data: lines, columns, offsets. No program. -/
import Derived.Shelf.Unicode.DecodeAny
import Derived.Lib.LastIndexByte
import Derived.Lib.Bytealg
namespace Go.Proofs.YtbnkncemfadfjaaGreatDoor.Lexi
set_option linter.unusedVariables false
set_option linter.unusedSimpArgs false
open Go.Lib

def bt (s : ByteArray) (i : Nat) : Int := ((s.data.toList.getD i 0).toNat : Int)
/-- the starts of the lines in the first k bytes -/
def lsN (s : ByteArray) : Nat → List Int
  | 0 => [0]
  | k + 1 => if bt s k = 10 then lsN s k ++ [(k : Int) + 1] else lsN s k
/-- the last of them -/
def lst (s : ByteArray) : Nat → Nat
  | 0 => 0
  | k + 1 => if bt s k = 10 then k + 1 else lst s k
def nlc (s : ByteArray) : Nat → Nat
  | 0 => 0
  | k + 1 => if bt s k = 10 then nlc s k + 1 else nlc s k
theorem lsN_length (s : ByteArray) : ∀ k, (lsN s k).length = nlc s k + 1
  | 0 => rfl
  | k + 1 => by
    unfold lsN nlc
    split
    · rw [List.length_append, lsN_length s k]; rfl
    · exact lsN_length s k
theorem lsN_last (s : ByteArray) : ∀ k, (lsN s k)[nlc s k]? = some (lst s k : Int)
  | 0 => rfl
  | k + 1 => by
    unfold lsN nlc lst
    split
    · rw [List.getElem?_append_right (by rw [lsN_length]; omega), lsN_length]; simp
    · exact lsN_last s k
theorem lsN_pre (s : ByteArray) (k : Nat) : ∀ m, k ≤ m → ∀ (i : Nat) (x : Int), (lsN s k)[i]? = some x → (lsN s m)[i]? = some x
  | 0, h, i, x, hx => by
    obtain rfl : k = 0 := by omega
    exact hx
  | m + 1, h, i, x, hx => by
    by_cases he : k = m + 1
    · subst he; exact hx
    · have := lsN_pre s k m (by omega) i x hx
      unfold lsN
      split
      · rw [List.getElem?_append_left (List.getElem?_eq_some_iff.1 this).1]; exact this
      · exact this
theorem lst_le (s : ByteArray) : ∀ k, lst s k ≤ k
  | 0 => Nat.le_refl _
  | k + 1 => by
    have := lst_le s k
    unfold lst
    split <;> omega
theorem lst_free (s : ByteArray) : ∀ k i, lst s k ≤ i → i < k → bt s i ≠ 10
  | k + 1, i, h1, h2 => by
    unfold lst at h1
    split at h1
    · omega
    · rename_i hk
      by_cases he : i = k
      · subst he; exact hk
      · exact lst_free s k i h1 (by omega)
theorem nlc_le (s : ByteArray) (k : Nat) : nlc s k ≤ k := by
  induction k with
  | zero => exact Nat.le_refl _
  | succ k ih => unfold nlc; split <;> omega
theorem nlc_mono (s : ByteArray) (k : Nat) : ∀ m, k ≤ m → nlc s k ≤ nlc s m ∧ (nlc s k = nlc s m → lst s k = lst s m)
  | 0, h => by
    obtain rfl : k = 0 := by omega
    exact ⟨Nat.le_refl _, fun _ => rfl⟩
  | m + 1, h => by
    by_cases he : k = m + 1
    · subst he; exact ⟨Nat.le_refl _, fun _ => rfl⟩
    · obtain ⟨h1, h2⟩ := nlc_mono s k m (by omega)
      by_cases hb : bt s m = 10
      · have e1 : nlc s (m + 1) = nlc s m + 1 := by rw [nlc, if_pos hb]
        exact ⟨by omega, fun h => by omega⟩
      · have e1 : nlc s (m + 1) = nlc s m := by rw [nlc, if_neg hb]
        have e2 : lst s (m + 1) = lst s m := by rw [lst, if_neg hb]
        rw [e1, e2]
        exact ⟨h1, h2⟩
theorem lsN_at (s : ByteArray) {k : Nat} (h : k ≤ s.size) : (lsN s s.size)[nlc s k]? = some (lst s k : Int) := lsN_pre s k _ h _ _ (lsN_last s k)
theorem lsN_in (s : ByteArray) : ∀ (k i : Nat) (x : Int), (lsN s k)[i]? = some x → 0 ≤ x ∧ x ≤ k
  | 0, i, x, h => by
    cases i with
    | zero => simp [lsN] at h; omega
    | succ i => simp [lsN] at h
  | k + 1, i, x, h => by
    unfold lsN at h
    split at h
    · by_cases hi : i < (lsN s k).length
      · rw [List.getElem?_append_left hi] at h
        have := lsN_in s k i x h
        omega
      · rw [List.getElem?_append_right (by omega)] at h
        have := (List.getElem?_eq_some_iff.1 h).1
        simp at this
        rw [show i - (lsN s k).length = 0 from by omega] at h
        simp at h
        omega
    · have := lsN_in s k i x h
      omega

/-- what the library says of the front -/
theorem list_front (s : ByteArray) (k : Nat) : (s.extract 0 k).data.toList = s.data.toList.take k := by
  simp
theorem count_front (s : ByteArray) : ∀ k, k ≤ s.size → countByte (s.extract 0 k).data.toList 10 = nlc s k := by
  intro k hk
  rw [list_front]
  unfold countByte
  induction k with
  | zero => simp [nlc]
  | succ k ih =>
    have hlt : k < s.data.toList.length := by have : k < s.size := hk; simpa using this
    rw [List.take_succ_eq_append_getElem hlt, List.count_append, ih (by omega)]
    have e : bt s k = (s.data.toList[k].toNat : Int) := by unfold bt; rw [List.getD_eq_getElem?_getD, List.getElem?_eq_getElem hlt]; rfl
    by_cases hb : bt s k = 10
    · rw [show nlc s (k + 1) = nlc s k + 1 from by rw [nlc, if_pos hb]]
      have : s.data.toList[k] = 10 := by
        rw [e] at hb
        apply UInt8.toNat_inj.1
        have : (10 : UInt8).toNat = 10 := rfl
        omega
      rw [this]
      simp
    · rw [show nlc s (k + 1) = nlc s k from by rw [nlc, if_neg hb]]
      have : s.data.toList[k] ≠ 10 := fun h => hb (by rw [e, h]; rfl)
      rw [List.count_singleton, if_neg (by simpa using this)]
      rfl
theorem get_bt (s : ByteArray) (k : Nat) (h : k < s.size) : ((s.data[k]!).toNat : Int) = bt s k := by
  have h2 : k < s.data.size := h
  unfold bt
  rw [List.getD_eq_getElem?_getD, List.getElem?_eq_getElem (by simpa using h2), getElem!_pos s.data k h2]
  simp
theorem lastIdx_front (s : ByteArray) (k : Nat) (hk : k ≤ s.size) : ∀ m, m ≤ k → lastIdx (s.extract 0 k) 10 m + 1 = (lst s m : Int)
  | 0, _ => rfl
  | m + 1, h => by
    have e : (((s.extract 0 k).data[m]!).toNat : Int) = bt s m := by
      rw [get_bt _ m (by rw [ByteArray.size_extract]; omega)]
      unfold bt
      rw [list_front, List.getD_eq_getElem?_getD, List.getD_eq_getElem?_getD, List.getElem?_take, if_pos (by omega)]
    unfold lastIdx lst
    rw [e]
    split
    · rfl
    · exact lastIdx_front s k hk m (by omega)
theorem last_front (s : ByteArray) (k : Nat) (hk : k ≤ s.size) : lastIndexByte (s.extract 0 k) 10 + 1 = (lst s k : Int) := by
  have h := lastIdx_front s k hk k (Nat.le_refl _)
  unfold lastIndexByte
  rw [show (s.extract 0 k).size = k from by rw [ByteArray.size_extract]; omega]
  exact h

/-- the rune at i -/
def dec (s : ByteArray) (i : Nat) : Nat × Nat := decodeGo (s.extract i s.size)
theorem decodeN_ge1 (n b0 b1 b2 b3 : Nat) : 1 ≤ (decodeN n b0 b1 b2 b3).2 := by
  unfold decodeN
  repeat' split
  all_goals simp
theorem dec_ge (s : ByteArray) {i : Nat} (h : i < s.size) : 1 ≤ (dec s i).2 := by
  unfold dec decodeGo
  rw [if_neg (by rw [ByteArray.size_extract]; omega), decode_at]
  exact decodeN_ge1 _ _ _ _ _
theorem decodeN_le4' (n b0 b1 b2 b3 : Nat) : (decodeN n b0 b1 b2 b3).2 ≤ 4 := by
  unfold decodeN
  repeat' split
  all_goals simp
theorem dec_le (s : ByteArray) (i : Nat) : (dec s i).2 ≤ 4 := by
  unfold dec decodeGo
  split
  · simp
  · rw [decode_at]; exact decodeN_le4' _ _ _ _ _
def wd16 (r : Nat) : Nat := if r > 65535 then 2 else 1
def wd1 (_ : Nat) : Nat := 1
/-- reads runes while c holds: place and column -/
def run (wd : Nat → Nat) (s : ByteArray) (c : Nat → Int → Bool) : Nat → Nat → Int → Nat × Int
  | 0, i, k => (i, k)
  | f + 1, i, k => if c i k then run wd s c f (i + (dec s i).2) (k + wd (dec s i).1) else (i, k)
theorem run_fuel {wd : Nat → Nat} {s : ByteArray} {c : Nat → Int → Bool} (hc : ∀ i k, c i k = true → i < s.size) : ∀ f g i k, s.size - i ≤ f → s.size - i ≤ g → run wd s c f i k = run wd s c g i k
  | 0, 0, _, _, _, _ => rfl
  | 0, g + 1, i, k, hf, hg => by
    have : c i k = false := by
      cases h : c i k with
      | false => rfl
      | true => have := hc i k h; omega
    simp [run, this]
  | f + 1, 0, i, k, hf, hg => by
    have : c i k = false := by
      cases h : c i k with
      | false => rfl
      | true => have := hc i k h; omega
    simp [run, this]
  | f + 1, g + 1, i, k, hf, hg => by
    unfold run
    split
    · rename_i h
      have := dec_ge s (hc i k h)
      exact run_fuel hc f g _ _ (by omega) (by omega)
    · rfl
/-- all the way -/
def runs (wd : Nat → Nat) (s : ByteArray) (c : Nat → Int → Bool) (i : Nat) (k : Int) : Nat × Int := run wd s c (s.size - i) i k
theorem runs_step {wd : Nat → Nat} {s : ByteArray} {c : Nat → Int → Bool} (hc : ∀ i k, c i k = true → i < s.size) {i : Nat} {k : Int} (h : c i k = true) : runs wd s c i k = runs wd s c (i + (dec s i).2) (k + wd (dec s i).1) := by
  have h1 := hc i k h
  have h2 := dec_ge s h1
  unfold runs
  obtain ⟨f, hf⟩ : ∃ f, s.size - i = f + 1 := ⟨s.size - i - 1, by omega⟩
  rw [hf]
  show (if c i k then _ else _) = _
  rw [if_pos h]
  exact run_fuel hc _ _ _ _ (by omega) (by omega)
theorem runs_stop {wd : Nat → Nat} {s : ByteArray} {c : Nat → Int → Bool} {i : Nat} {k : Int} (h : c i k = false) : runs wd s c i k = (i, k) := by
  unfold runs
  cases s.size - i with
  | zero => rfl
  | succ f => simp [run, h]
def upTo (off : Nat) : Nat → Int → Bool := fun i _ => decide (i < off)
def colTo (s : ByteArray) (col : Int) : Nat → Int → Bool := fun i c => decide (c < col) && decide (i < s.size) && decide (bt s i ≠ 10)
theorem upTo_in {s : ByteArray} {off : Nat} (h : off ≤ s.size) : ∀ i k, upTo off i k = true → i < s.size := fun i k h' => by
  simp [upTo] at h'; omega
theorem colTo_in {s : ByteArray} {col : Int} : ∀ i k, colTo s col i k = true → i < s.size := fun i k h' => by
  simp [colTo] at h'; exact h'.1.2
theorem upTo_ge {wd : Nat → Nat} {s : ByteArray} {off : Nat} (h : off ≤ s.size) : ∀ f i k, s.size - i ≤ f → off ≤ (run wd s (upTo off) f i k).1 ∧ i ≤ (run wd s (upTo off) f i k).1
  | 0, i, k, hf => by simp [run]; omega
  | f + 1, i, k, hf => by
    unfold run
    by_cases hi : i < off
    · rw [if_pos (by simp [upTo, hi])]
      have h1 := dec_ge s (i := i) (by omega)
      have := upTo_ge (wd := wd) h f (i + (dec s i).2) (k + wd (dec s i).1) (by omega)
      exact ⟨this.1, by omega⟩
    · rw [if_neg (by simp [upTo, hi])]
      exact ⟨by simp only; omega, Nat.le_refl _⟩
/-- there and back -/
theorem back {wd : Nat → Nat} (hw : ∀ r, 1 ≤ wd r) {s : ByteArray} {off : Nat} {col : Int} (h : off ≤ s.size) : ∀ f i k, s.size - i ≤ f → (∀ j, i ≤ j → j < off → bt s j ≠ 10) → run wd s (upTo off) f i k = (off, col) → run wd s (colTo s col) f i k = (off, col) ∧ k ≤ col ∧ (i < off → k < col)
  | 0, i, k, hf, hn, he => by
    simp only [run, Prod.mk.injEq] at he ⊢
    obtain ⟨rfl, rfl⟩ := he
    exact ⟨⟨rfl, rfl⟩, Int.le_refl _, fun h => absurd h (Nat.lt_irrefl _)⟩
  | f + 1, i, k, hf, hn, he => by
    unfold run at he ⊢
    by_cases hi : i < off
    · rw [if_pos (by simp [upTo, hi])] at he
      have h1 := dec_ge s (i := i) (by omega)
      have hge := (upTo_ge (wd := wd) h f (i + (dec s i).2) (k + wd (dec s i).1) (by omega)).2
      rw [he] at hge
      obtain ⟨h2, h3, h4⟩ := back hw h f (i + (dec s i).2) (k + wd (dec s i).1) (by omega) (fun j h1 h2 => hn j (by omega) h2) he
      have h5 := hw (dec s i).1
      have h6 := hn i (Nat.le_refl _) hi
      rw [if_pos (by simp only [colTo, Bool.and_eq_true, decide_eq_true_eq]; exact ⟨⟨by omega, by omega⟩, h6⟩)]
      exact ⟨h2, by omega, fun _ => by omega⟩
    · rw [if_neg (by simp [upTo, hi])] at he
      simp only [Prod.mk.injEq] at he
      obtain ⟨rfl, rfl⟩ := he
      rw [if_neg (by simp [colTo])]
      exact ⟨rfl, Int.le_refl _, fun h => absurd h (Nat.lt_irrefl _)⟩
theorem backs {wd : Nat → Nat} (hw : ∀ r, 1 ≤ wd r) {s : ByteArray} {off : Nat} {col : Int} (h : off ≤ s.size) (he : runs wd s (upTo off) (lst s off) 0 = (off, col)) : runs wd s (colTo s col) (lst s off) 0 = (off, col) ∧ 0 ≤ col :=
  have := back hw h _ _ _ (Nat.le_refl _) (fun j h1 h2 => lst_free s off j h1 h2) he
  ⟨this.1, this.2.1⟩
/-- farther on the same line: a greater column -/
theorem farther {wd : Nat → Nat} (hw : ∀ r, 1 ≤ wd r) {s : ByteArray} {a b : Nat} {ca cb : Int} (hab : a < b) (hb : b ≤ s.size) : ∀ f i k, s.size - i ≤ f → run wd s (upTo a) f i k = (a, ca) → run wd s (upTo b) f i k = (b, cb) → ca < cb
  | 0, i, k, hf, h1, h2 => by
    simp only [run, Prod.mk.injEq] at h1 h2
    omega
  | f + 1, i, k, hf, h1, h2 => by
    unfold run at h1 h2
    by_cases hi : i < a
    · rw [if_pos (by simp [upTo, hi])] at h1
      rw [if_pos (by simp [upTo]; omega)] at h2
      have := dec_ge s (i := i) (by omega)
      exact farther hw hab hb f _ _ (by omega) h1 h2
    · rw [if_neg (by simp [upTo, hi])] at h1
      simp only [Prod.mk.injEq] at h1
      obtain ⟨rfl, rfl⟩ := h1
      rw [if_pos (by simp [upTo]; omega)] at h2
      have h3 := dec_ge s (i := i) (by omega)
      have hge := (upTo_ge (wd := wd) hb f (i + (dec s i).2) (k + wd (dec s i).1) (by omega)).2
      have h4 : ∀ f i k, k ≤ (run wd s (upTo b) f i k).2 := by
        intro f
        induction f with
        | zero => intro i k; exact Int.le_refl _
        | succ f ih =>
          intro i k
          unfold run
          split
          · have := ih (i + (dec s i).2) (k + wd (dec s i).1)
            omega
          · exact Int.le_refl _
      have h5 := h4 f (i + (dec s i).2) (k + wd (dec s i).1)
      rw [h2] at h5
      have h6 := hw (dec s i).1
      simp only at h5
      omega
/-- the two widths -/
theorem two {s : ByteArray} {off : Nat} : ∀ f i (k k' : Int), k' ≤ k → (run wd16 s (upTo off) f i k).1 = (run wd1 s (upTo off) f i k').1 ∧ (run wd1 s (upTo off) f i k').2 ≤ (run wd16 s (upTo off) f i k).2
  | 0, i, k, k', h => ⟨rfl, h⟩
  | f + 1, i, k, k', h => by
    unfold run
    by_cases hi : i < off
    · rw [if_pos (by simp [upTo, hi]), if_pos (by simp [upTo, hi])]
      refine two f _ _ _ ?_
      have : wd1 (dec s i).1 ≤ wd16 (dec s i).1 := by unfold wd1 wd16; split <;> omega
      omega
    · rw [if_neg (by simp [upTo, hi]), if_neg (by simp [upTo, hi])]
      exact ⟨rfl, h⟩
/-- a column is no more than twice the way -/
theorem run_le {wd : Nat → Nat} (hw : ∀ r, wd r ≤ 2) {s : ByteArray} {c : Nat → Int → Bool} (hc : ∀ i k, c i k = true → i < s.size) : ∀ f i k, k ≤ (run wd s c f i k).2 ∧ (run wd s c f i k).2 + 2 * i ≤ k + 2 * (run wd s c f i k).1
  | 0, i, k => by simp [run]
  | f + 1, i, k => by
    unfold run
    split
    · rename_i h
      have h1 := run_le hw hc f (i + (dec s i).2) (k + wd (dec s i).1)
      have h2 := dec_ge s (hc i k h)
      have h3 := hw (dec s i).1
      omega
    · simp

/-- a position -/
def posV (wd : Nat → Nat) (s : ByteArray) (off : Int) : Int × Int × Int :=
  if off < 0 ∨ (s.size : Int) < off then (0, 0, 1)
  else
    let r := runs wd s (upTo off.toNat) (lst s off.toNat) 0
    if (r.1 : Int) > off then (0, 0, 3) else (nlc s off.toNat, r.2, 0)
def offV (wd : Nat → Nat) (s : ByteArray) (line col : Int) : Int × Int :=
  if line < 0 ∨ ((lsN s s.size).length : Int) ≤ line then (0, 5)
  else
    let r := runs wd s (colTo s col) ((lsN s s.size).getD line.toNat 0).toNat 0
    if col < 0 ∨ r.2 < col then (0, 1) else if r.2 > col then (0, 3) else (r.1, 0)
theorem posV_ok {wd : Nat → Nat} {s : ByteArray} {off l c : Int} (h : posV wd s off = (l, c, 0)) : 0 ≤ off ∧ off ≤ s.size ∧ l = nlc s off.toNat ∧ runs wd s (upTo off.toNat) (lst s off.toNat) 0 = (off.toNat, c) := by
  unfold posV at h
  by_cases h1 : off < 0 ∨ (s.size : Int) < off
  · rw [if_pos h1] at h; simp at h
  · rw [if_neg h1] at h
    simp only at h
    have hge := (upTo_ge (wd := wd) (s := s) (off := off.toNat) (by omega) _ (lst s off.toNat) 0 (Nat.le_refl _)).1
    change off.toNat ≤ (runs wd s (upTo off.toNat) (lst s off.toNat) 0).1 at hge
    split at h
    · simp at h
    · rename_i h2
      simp only [Prod.mk.injEq] at h
      refine ⟨by omega, by omega, h.1.symm, ?_⟩
      generalize runs wd s (upTo off.toNat) (lst s off.toNat) 0 = r at *
      obtain ⟨a, b⟩ := r
      simp only at h h2 hge
      simp only [Prod.mk.injEq]
      exact ⟨by omega, h.2.1⟩
theorem round_trip {wd : Nat → Nat} (hw : ∀ r, 1 ≤ wd r) {s : ByteArray} {off l c : Int} (h : posV wd s off = (l, c, 0)) : offV wd s l c = (off, 0) := by
  obtain ⟨h1, h2, h3, h4⟩ := posV_ok h
  obtain ⟨h5, h6⟩ := backs hw (by omega) h4
  have h7 := lsN_at s (k := off.toNat) (by omega)
  have h8 := (List.getElem?_eq_some_iff.1 h7).1
  unfold offV
  rw [if_neg (by omega)]
  have e1 : ((lsN s s.size).getD l.toNat 0).toNat = lst s off.toNat := by
    rw [h3, Int.toNat_natCast, List.getD_eq_getElem?_getD, h7]; rfl
  rw [e1, h5]
  simp only
  rw [if_neg (by omega), if_neg (by omega)]
  congr 1
  omega
theorem monotone {wd : Nat → Nat} (hw : ∀ r, 1 ≤ wd r) {s : ByteArray} {a b la ca lb cb : Int} (ha : posV wd s a = (la, ca, 0)) (hb : posV wd s b = (lb, cb, 0)) (hab : a < b) : la < lb ∨ la = lb ∧ ca < cb := by
  obtain ⟨h1, h2, h3, h4⟩ := posV_ok ha
  obtain ⟨k1, k2, k3, k4⟩ := posV_ok hb
  obtain ⟨m1, m2⟩ := nlc_mono s a.toNat b.toNat (by omega)
  by_cases he : nlc s a.toNat = nlc s b.toNat
  · right
    refine ⟨by omega, ?_⟩
    rw [← m2 he] at k4
    exact farther hw (by omega) (by omega) _ _ _ (Nat.le_refl _) h4 k4
  · left; omega
theorem codes (s : ByteArray) (off : Int) : (posV wd16 s off).2.2 = (posV wd1 s off).2.2 ∧ (posV wd16 s off).1 = (posV wd1 s off).1 ∧ (posV wd1 s off).2.1 ≤ (posV wd16 s off).2.1 ∧ ((posV wd16 s off).2.2 ≠ 0 → posV wd16 s off = (0, 0, (posV wd16 s off).2.2) ∧ posV wd1 s off = (0, 0, (posV wd16 s off).2.2)) := by
  have h := two (s := s) (off := off.toNat) (s.size - lst s off.toNat) (lst s off.toNat) 0 0 (Int.le_refl _)
  change (runs wd16 s (upTo off.toNat) (lst s off.toNat) 0).1 = (runs wd1 s (upTo off.toNat) (lst s off.toNat) 0).1 ∧ _ at h
  have h' : (runs wd1 s (upTo off.toNat) (lst s off.toNat) 0).2 ≤ (runs wd16 s (upTo off.toNat) (lst s off.toNat) 0).2 := h.2
  obtain ⟨h1, _⟩ := h
  unfold posV
  by_cases hb : off < 0 ∨ (s.size : Int) < off
  · rw [if_pos hb, if_pos hb]; exact ⟨rfl, rfl, Int.le_refl _, fun _ => ⟨rfl, rfl⟩⟩
  · rw [if_neg hb, if_neg hb]
    simp only
    rw [← h1]
    by_cases hc : ((runs wd16 s (upTo off.toNat) (lst s off.toNat) 0).1 : Int) > off
    · rw [if_pos hc, if_pos hc]; exact ⟨rfl, rfl, Int.le_refl _, fun _ => ⟨rfl, rfl⟩⟩
    · rw [if_neg hc, if_neg hc]; exact ⟨rfl, rfl, h', fun hn => absurd rfl hn⟩
theorem col0 {wd : Nat → Nat} {s : ByteArray} {line : Int} (h1 : 0 ≤ line) (h2 : line < (lsN s s.size).length) : offV wd s line 0 = ((lsN s s.size).getD line.toNat 0, 0) := by
  unfold offV
  rw [if_neg (by omega), runs_stop (by simp [colTo])]
  simp only
  rw [if_neg (by omega), if_neg (by omega)]
  have h3 := (lsN_in s s.size line.toNat ((lsN s s.size).getD line.toNat 0) (by rw [List.getD_eq_getElem?_getD, List.getElem?_eq_getElem (by omega)]; rfl)).1
  congr 1
  omega
end Go.Proofs.YtbnkncemfadfjaaGreatDoor.Lexi
