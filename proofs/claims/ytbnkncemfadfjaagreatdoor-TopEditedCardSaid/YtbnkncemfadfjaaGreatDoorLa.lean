/- Tokens as plain data: the scanner, its locality, the three laws of the lexer. No program. -/
import Derived.Test.YtbnkncemfadfjaaGreatDoorPa
import Derived.Shelf.Strings.Fields
import Derived.Shelf.Slices.Turned
namespace Go.Proofs.YtbnkncemfadfjaaGreatDoor.Lexi
set_option linter.unusedVariables false
set_option linter.unusedSimpArgs false

/-- the bytes, with a line feed behind the end -/
def bz (s : ByteArray) (i : Nat) : Int := if i < s.size then bt s i else 10
theorem bz_in {s : ByteArray} {i : Nat} (h : i < s.size) : bz s i = bt s i := if_pos h
theorem bz_out {s : ByteArray} {i : Nat} (h : s.size ≤ i) : bz s i = 10 := if_neg (by omega)
theorem bz_lt {s : ByteArray} {i : Nat} (h : bz s i ≠ 10) : i < s.size := by
  rcases Nat.lt_or_ge i s.size with h' | h'
  · exact h'
  · exact absurd (bz_out h') h
def isSp (c : Int) : Bool := c == 32 || c == 9 || c == 10 || c == 13
def isLt (c : Int) : Bool := (decide (97 ≤ c) && decide (c ≤ 122)) || (decide (65 ≤ c) && decide (c ≤ 90)) || c == 95
def isDg (c : Int) : Bool := decide (48 ≤ c) && decide (c ≤ 57)
def isId (c : Int) : Bool := isLt c || isDg c
def noNl (c : Int) : Bool := c != 10
def scn (p : Int → Bool) (s : ByteArray) : Nat → Nat → Nat
  | 0, i => i
  | f + 1, i => if i < s.size then (if p (bt s i) then scn p s f (i + 1) else i) else i
def scan (p : Int → Bool) (s : ByteArray) (i : Nat) : Nat := scn p s (s.size - i) i
theorem scn_spec (p : Int → Bool) (s : ByteArray) : ∀ f i, s.size - i ≤ f → i ≤ scn p s f i ∧ (i ≤ s.size → scn p s f i ≤ s.size) ∧ (∀ k, i ≤ k → k < scn p s f i → p (bt s k) = true) ∧ (scn p s f i < s.size → p (bt s (scn p s f i)) = false)
  | 0, i, h => ⟨Nat.le_refl _, fun h => h, fun k h1 h2 => by simp only [scn] at h2; omega, fun h2 => by simp only [scn] at h2; omega⟩
  | f + 1, i, h => by
    unfold scn
    by_cases hi : i < s.size
    · rw [if_pos hi]
      cases hp : p (bt s i) with
      | true =>
        rw [if_pos rfl]
        obtain ⟨h1, h2, h3, h4⟩ := scn_spec p s f (i + 1) (by omega)
        refine ⟨by omega, fun _ => h2 (by omega), fun k k1 k2 => ?_, h4⟩
        by_cases he : k = i
        · subst he; exact hp
        · exact h3 k (by omega) k2
      | false =>
        rw [if_neg (by simp)]
        exact ⟨Nat.le_refl _, fun h => h, fun k h1 h2 => by omega, fun _ => hp⟩
    · rw [if_neg hi]
      exact ⟨Nat.le_refl _, fun h => h, fun k h1 h2 => by omega, fun h2 => absurd h2 hi⟩
theorem scan_spec (p : Int → Bool) (s : ByteArray) (i : Nat) : i ≤ scan p s i ∧ (i ≤ s.size → scan p s i ≤ s.size) ∧ (∀ k, i ≤ k → k < scan p s i → p (bt s k) = true) ∧ (scan p s i < s.size → p (bt s (scan p s i)) = false) := scn_spec p s _ i (Nat.le_refl _)
theorem scan_unique {p : Int → Bool} {s : ByteArray} {i j : Nat} (h1 : i ≤ j) (h2 : j ≤ s.size) (h3 : ∀ k, i ≤ k → k < j → p (bt s k) = true) (h4 : j < s.size → p (bt s j) = false) : scan p s i = j := by
  obtain ⟨k1, k2, k3, k4⟩ := scan_spec p s i
  have k2 := k2 (by omega)
  rcases Nat.lt_trichotomy (scan p s i) j with h | h | h
  · have a := h3 _ k1 h
    rw [k4 (by omega)] at a
    cases a
  · exact h
  · have a := k3 j h1 h
    rw [h4 (by omega)] at a
    cases a
theorem scan_pos {p : Int → Bool} {s : ByteArray} {i : Nat} (h : i < s.size) (hp : p (bt s i) = true) : i < scan p s i := by
  obtain ⟨k1, k2, k3, k4⟩ := scan_spec p s i
  rcases Nat.lt_or_ge i (scan p s i) with h' | h'
  · exact h'
  · have : scan p s i = i := by omega
    rw [this] at k4
    rw [k4 h] at hp
    cases hp
/-- a scan that a line feed stops goes by the bytes with the line feed behind the end -/
theorem scan_local {p : Int → Bool} (h10 : p 10 = false) {s t : ByteArray} {i : Nat} (hi : i ≤ s.size) (h : ∀ k, k ≤ scan p s i → bz t k = bz s k) : scan p t i = scan p s i := by
  obtain ⟨k1, k2, k3, k4⟩ := scan_spec p s i
  have k2 := k2 hi
  have hin : ∀ k, i ≤ k → k < scan p s i → k < t.size ∧ p (bt t k) = true := fun k a1 a2 => by
    have a3 := k3 k a1 a2
    have a4 := h k (by omega)
    rw [bz_in (show k < s.size by omega)] at a4
    have a5 : bz t k ≠ 10 := fun e => by rw [a4] at e; rw [e, h10] at a3; cases a3
    have a6 := bz_lt a5
    rw [bz_in a6] at a4
    exact ⟨a6, by rw [a4]; exact a3⟩
  have hend : scan p s i < t.size → p (bt t (scan p s i)) = false := fun a => by
    have a1 := h _ (Nat.le_refl _)
    rw [bz_in a] at a1
    rw [a1]
    by_cases a2 : scan p s i < s.size
    · rw [bz_in a2]; exact k4 a2
    · rw [bz_out (by omega)]; exact h10
  by_cases he : i < scan p s i
  · refine scan_unique k1 ?_ (fun k a1 a2 => (hin k a1 a2).2) hend
    have := (hin (scan p s i - 1) (by omega) (by omega)).1
    omega
  · have e : scan p s i = i := by omega
    rw [e] at hend ⊢
    by_cases ht : i < t.size
    · exact scan_unique (Nat.le_refl _) (by omega) (fun k a1 a2 => by omega) hend
    · unfold scan
      rw [show t.size - i = 0 from by omega]
      rfl
/-- the end of a string literal, if it has one on its line -/
def strN (s : ByteArray) : Nat → Nat → Option Nat
  | 0, _ => none
  | f + 1, i => if bz s i = 10 then none else if bz s i = 34 then some (i + 1) else if bz s i = 92 ∧ bz s (i + 1) ≠ 10 then strN s f (i + 2) else strN s f (i + 1)
theorem strN_fuel {s : ByteArray} : ∀ f g i, s.size - i < f → s.size - i < g → strN s f i = strN s g i
  | f + 1, g + 1, i, hf, hg => by
    unfold strN
    by_cases h : bz s i = 10
    · rw [if_pos h, if_pos h]
    · have := bz_lt h
      rw [if_neg h, if_neg h, strN_fuel f g (i + 2) (by omega) (by omega), strN_fuel f g (i + 1) (by omega) (by omega)]
def str (s : ByteArray) (i : Nat) : Option Nat := strN s (s.size + 1) i
theorem strN_some {s : ByteArray} : ∀ f i j, strN s f i = some j → i < j ∧ j ≤ s.size ∧ ∀ t g, t.size - i < g → (∀ k, k < j → bz t k = bz s k) → strN t g i = some j
  | f + 1, i, j, h => by
    unfold strN at h
    by_cases h1 : bz s i = 10
    · rw [if_pos h1] at h; cases h
    rw [if_neg h1] at h
    have hi := bz_lt h1
    by_cases h2 : bz s i = 34
    · rw [if_pos h2] at h
      obtain rfl := Option.some.inj h
      refine ⟨by omega, by omega, fun t g hg ht => ?_⟩
      obtain ⟨g, rfl⟩ : ∃ g', g = g' + 1 := ⟨g - 1, by omega⟩
      unfold strN
      rw [ht i (by omega), if_neg h1, if_pos h2]
    rw [if_neg h2] at h
    by_cases h3 : bz s i = 92 ∧ bz s (i + 1) ≠ 10
    · rw [if_pos h3] at h
      obtain ⟨a1, a2, a3⟩ := strN_some f (i + 2) j h
      refine ⟨by omega, a2, fun t g hg ht => ?_⟩
      obtain ⟨g, rfl⟩ : ∃ g', g = g' + 1 := ⟨g - 1, by omega⟩
      have b1 : i < t.size := bz_lt (by rw [ht i (by omega)]; exact h1)
      unfold strN
      rw [ht i (by omega), ht (i + 1) (by omega), if_neg h1, if_neg h2, if_pos h3]
      exact a3 t g (by omega) ht
    · rw [if_neg h3] at h
      obtain ⟨a1, a2, a3⟩ := strN_some f (i + 1) j h
      refine ⟨by omega, a2, fun t g hg ht => ?_⟩
      obtain ⟨g, rfl⟩ : ∃ g', g = g' + 1 := ⟨g - 1, by omega⟩
      have b1 : i < t.size := bz_lt (by rw [ht i (by omega)]; exact h1)
      have b2 : ¬ (bz t i = 92 ∧ bz t (i + 1) ≠ 10) := by
        rw [ht i (by omega)]
        intro hh
        by_cases hj : i + 1 < j
        · rw [ht (i + 1) hj] at hh; exact h3 hh
        · omega
      unfold strN
      rw [if_neg b2, ht i (by omega), if_neg h1, if_neg h2]
      exact a3 t g (by omega) ht

theorem strN_none {s t : ByteArray} {e : Nat} (he : bz s e = 10) (ht : ∀ k, k ≤ e → bz t k = bz s k) : ∀ f i g, i ≤ e → (∀ k, i ≤ k → k < e → bz s k ≠ 10) → strN s f i = none → s.size - i < f → t.size - i < g → strN t g i = none
  | f + 1, i, g + 1, hi, hn, h, hf, hg => by
    unfold strN at h ⊢
    rw [ht i hi]
    by_cases h1 : bz s i = 10
    · rw [if_pos h1]
    have hlt : i < e := by
      rcases Nat.lt_or_ge i e with a | a
      · exact a
      · obtain rfl : i = e := by omega
        exact absurd he h1
    have his := bz_lt h1
    have hit : i < t.size := bz_lt (by rw [ht i hi]; exact h1)
    rw [if_neg h1] at h ⊢
    by_cases h2 : bz s i = 34
    · rw [if_pos h2] at h; cases h
    rw [if_neg h2] at h ⊢
    rw [ht (i + 1) (by omega)]
    by_cases h3 : bz s i = 92 ∧ bz s (i + 1) ≠ 10
    · rw [if_pos h3] at h ⊢
      have : i + 1 < e := by
        rcases Nat.lt_or_ge (i + 1) e with a | a
        · exact a
        · obtain rfl : i + 1 = e := by omega
          exact absurd he h3.2
      exact strN_none he ht f (i + 2) g (by omega) (fun k a b => hn k (by omega) b) h (by omega) (by omega)
    · rw [if_neg h3] at h ⊢
      exact strN_none he ht f (i + 1) g (by omega) (fun k a b => hn k (by omega) b) h (by omega) (by omega)

def kwText : ByteArray := ⟨#[117, 115, 101, 32, 112, 117, 98, 32, 97, 115, 32, 102, 110, 32, 115, 116, 114, 117, 99, 116, 32, 101, 110, 117, 109, 32, 116, 114, 97, 105, 116, 32, 105, 109, 112, 108, 32, 102, 111, 114, 32, 99, 111, 110, 115, 116, 32, 109, 97, 99, 114, 111, 32, 108, 101, 116, 32, 109, 117, 116, 32, 119, 104, 105, 108, 101, 32, 114, 101, 116, 117, 114, 110, 32, 109, 97, 116, 99, 104, 32, 105, 102, 32, 101, 108, 115, 101, 32, 110, 101, 119, 32, 116, 114, 117, 101, 32, 102, 97, 108, 115, 101, 32, 116, 121, 112, 101]⟩
def twoText : ByteArray := ⟨#[58, 58, 32, 61, 62, 32, 45, 62, 32, 61, 61, 32, 38, 38, 32, 124, 124]⟩
def oneText : ByteArray := ⟨#[40, 41, 123, 125, 91, 93, 60, 62, 44, 59, 58, 46, 61, 43, 45, 42, 47, 33, 38, 124]⟩
def kwList : List ByteArray := (Lib.fields kwText.data.toList).map fun l => ⟨l.toArray⟩
def twoList : List ByteArray := (Lib.fields twoText.data.toList).map fun l => ⟨l.toArray⟩
def isKw (x : ByteArray) : Bool := Lib.containsS kwList x
def isTwo (x : ByteArray) : Bool := Lib.containsS twoList x
def isOne (c : Int) : Bool := decide (0 ≤ Lib.indexByte oneText.data.toList c.toNat.toUInt8)
/-- the first token: its length, its kind -/
def tok (s : ByteArray) : Nat × Int :=
  if isSp (bt s 0) then (scan isSp s 0, 101)
  else if bz s 0 = 47 ∧ bz s 1 = 47 then (scan noNl s 0, 102)
  else if isLt (bt s 0) then (scan isId s 0, if isKw (s.extract 0 (scan isId s 0)) then 104 else 103)
  else if isDg (bt s 0) then (scan isDg s 0, 105)
  else if bt s 0 = 34 then (match str s 1 with | some j => (j, 106) | none => (scan noNl s 1, 108))
  else if bz s 1 ≠ 10 ∧ isTwo (s.extract 0 2) then (2, 107)
  else if isOne (bt s 0) then (1, 107) else (1, 108)
theorem ext_eq {s t : ByteArray} {n : Nat} (hs : n ≤ s.size) (ht : n ≤ t.size) (h : ∀ i, i < n → bt t i = bt s i) : t.extract 0 n = s.extract 0 n := by
  apply ByteArray.ext
  apply Array.ext'
  rw [list_front, list_front]
  apply List.ext_getElem?
  intro i
  rw [List.getElem?_take, List.getElem?_take]
  by_cases hi : i < n
  · rw [if_pos hi, if_pos hi]
    have h1 := h i hi
    have e1 : i < t.data.toList.length := by have : i < t.size := by omega
                                             simpa using this
    have e2 : i < s.data.toList.length := by have : i < s.size := by omega
                                             simpa using this
    unfold bt at h1
    rw [List.getD_eq_getElem?_getD, List.getD_eq_getElem?_getD, List.getElem?_eq_getElem e1, List.getElem?_eq_getElem e2] at h1
    rw [List.getElem?_eq_getElem e1, List.getElem?_eq_getElem e2]
    simp only [Option.getD_some] at h1
    congr 1
    apply UInt8.toNat_inj.1
    omega
  · rw [if_neg hi, if_neg hi]
theorem sp10 : isSp 10 = true := rfl
theorem scan_next {p : Int → Bool} {s : ByteArray} {i : Nat} (h : i < s.size) (hp : p (bt s i) = true) : scan p s i = scan p s (i + 1) := by
  obtain ⟨k1, k2, k3, k4⟩ := scan_spec p s (i + 1)
  exact scan_unique (by omega) (k2 (by omega)) (fun k a b => by
    by_cases he : k = i
    · subst he; exact hp
    · exact k3 k (by omega) b) k4
theorem tok_in {s : ByteArray} (h : 0 < s.size) : 1 ≤ (tok s).1 ∧ (tok s).1 ≤ s.size := by
  unfold tok
  have hz := fun p => (scan_spec p s 0).2.1 (Nat.zero_le _)
  split
  · rename_i h1; exact ⟨scan_pos h h1, hz _⟩
  · rename_i h1
    split
    · rename_i h2
      refine ⟨scan_pos h ?_, hz _⟩
      rw [bz_in h] at h2
      rw [h2.1]; rfl
    · split
      · rename_i h3
        exact ⟨scan_pos h (by unfold isId; rw [h3]; rfl), hz _⟩
      · split
        · rename_i h4; exact ⟨scan_pos h h4, hz _⟩
        · split
          · cases hs : str s 1 with
            | some j =>
              obtain ⟨a1, a2, _⟩ := strN_some _ _ _ hs
              exact ⟨by simp only; omega, a2⟩
            | none =>
              have a := scan_spec noNl s 1
              exact ⟨a.1, a.2.1 h⟩
          · split
            · rename_i h6
              have := bz_lt h6.1
              exact ⟨by simp, by simp only; omega⟩
            · split <;> exact ⟨by simp, h⟩
/-- THE LOCALITY: what is no white space goes by its own bytes and the one behind it, the end being as good as a line feed -/
theorem tok_local {s t : ByteArray} (h : 0 < s.size) (hk : (tok s).2 ≠ 101) (ht : ∀ i, i ≤ (tok s).1 → bz t i = bz s i) : tok t = tok s := by
  have h0 := ht 0 (Nat.zero_le _)
  have hin := tok_in h
  have h1 := ht 1 hin.1
  by_cases c1 : isSp (bt s 0) = true
  · exfalso; apply hk; unfold tok; rw [if_pos c1]
  have n10 : bz s 0 ≠ 10 := by
    rw [bz_in h]
    intro e
    rw [e] at c1
    exact c1 sp10
  have tpos : 0 < t.size := bz_lt (by rw [h0]; exact n10)
  have e0 : bt t 0 = bt s 0 := by rw [bz_in tpos, bz_in h] at h0; exact h0
  by_cases c2 : bz s 0 = 47 ∧ bz s 1 = 47
  · have e : tok s = (scan noNl s 0, 102) := by unfold tok; rw [if_neg c1, if_pos c2]
    rw [e] at ht ⊢
    unfold tok
    rw [e0, h0, h1, if_neg c1, if_pos c2, scan_local rfl (Nat.zero_le _) ht]
  by_cases c3 : isLt (bt s 0) = true
  · have e : tok s = (scan isId s 0, if isKw (s.extract 0 (scan isId s 0)) then 104 else 103) := by unfold tok; rw [if_neg c1, if_neg c2, if_pos c3]
    rw [e] at ht ⊢
    simp only at ht
    have es := scan_local (p := isId) rfl (Nat.zero_le _) ht
    have ee : t.extract 0 (scan isId s 0) = s.extract 0 (scan isId s 0) := by
      have a1 := (scan_spec isId s 0).2.1 (Nat.zero_le _)
      have a2 := (scan_spec isId t 0).2.1 (Nat.zero_le _)
      rw [es] at a2
      refine ext_eq a1 a2 fun i hi => ?_
      have := ht i (by omega)
      rwa [bz_in (by omega), bz_in (by omega)] at this
    unfold tok
    rw [e0, h0, h1, if_neg c1, if_neg c2, if_pos c3, es, ee]
  by_cases c4 : isDg (bt s 0) = true
  · have e : tok s = (scan isDg s 0, 105) := by unfold tok; rw [if_neg c1, if_neg c2, if_neg c3, if_pos c4]
    rw [e] at ht ⊢
    unfold tok
    rw [e0, h0, h1, if_neg c1, if_neg c2, if_neg c3, if_pos c4, scan_local rfl (Nat.zero_le _) ht]
  by_cases c5 : bt s 0 = 34
  · have e : tok s = (match str s 1 with | some j => (j, 106) | none => (scan noNl s 1, 108)) := by unfold tok; rw [if_neg c1, if_neg c2, if_neg c3, if_neg c4, if_pos c5]
    have e' : tok t = (match str t 1 with | some j => (j, 106) | none => (scan noNl t 1, 108)) := by unfold tok; rw [e0, h0, h1, if_neg c1, if_neg c2, if_neg c3, if_neg c4, if_pos c5]
    cases hs : str s 1 with
    | some j =>
      rw [hs] at e
      simp only at e
      rw [e] at ht ⊢
      obtain ⟨a1, a2, a3⟩ := strN_some _ _ _ hs
      have a4 : str t 1 = some j := a3 t _ (by omega) (fun k hk => ht k (by simp only; omega))
      rw [e', a4]
    | none =>
      rw [hs] at e
      simp only at e
      rw [e] at ht ⊢
      simp only at ht
      obtain ⟨k1, k2, k3, k4⟩ := scan_spec noNl s 1
      have hz : bz s (scan noNl s 1) = 10 := by
        by_cases hz : scan noNl s 1 < s.size
        · rw [bz_in hz]; have := k4 hz; simpa [noNl] using this
        · exact bz_out (by omega)
      have a4 : str t 1 = none := strN_none hz ht _ 1 _ k1 (fun k a b => by
        have := k3 k a b
        rw [bz_in (by have := k2 h; omega)]
        simpa [noNl] using this) hs (by omega) (by omega)
      rw [e', a4]
      simp only
      rw [scan_local rfl h ht]
  by_cases c6 : bz s 1 ≠ 10 ∧ isTwo (s.extract 0 2)
  · have e : tok s = (2, 107) := by unfold tok; rw [if_neg c1, if_neg c2, if_neg c3, if_neg c4, if_neg c5, if_pos c6]
    have b1 := bz_lt c6.1
    have b2 : 1 < t.size := bz_lt (by rw [h1]; exact c6.1)
    have ee : t.extract 0 2 = s.extract 0 2 := ext_eq (by omega) (by omega) fun i hi => by
      have := ht i (by rw [e]; simp only; omega)
      rwa [bz_in (by omega), bz_in (by omega)] at this
    rw [e]
    unfold tok
    rw [e0, h0, h1, ee, if_neg c1, if_neg c2, if_neg c3, if_neg c4, if_neg c5, if_pos c6]
  have c6' : ¬ (bz t 1 ≠ 10 ∧ isTwo (t.extract 0 2)) := by
    rw [h1]
    intro hh
    apply c6
    refine ⟨hh.1, ?_⟩
    have b1 := bz_lt hh.1
    have b2 : 1 < t.size := bz_lt (by rw [h1]; exact hh.1)
    have ee : t.extract 0 2 = s.extract 0 2 := ext_eq (by omega) (by omega) fun i hi => by
      have : bz t i = bz s i := by
        rcases Nat.lt_or_ge i 1 with a | a
        · rw [show i = 0 from by omega]; exact h0
        · rw [show i = 1 from by omega]; exact h1
      rwa [bz_in (by omega), bz_in (by omega)] at this
    rw [← ee]; exact hh.2
  unfold tok
  rw [e0, h0, if_neg c1, if_neg c3, if_neg c4, if_neg c5, if_neg c6', if_neg c1, if_neg c2, if_neg c3, if_neg c4, if_neg c5, if_neg c6]
  rw [if_neg (by rw [h1]; exact c2)]
end Go.Proofs.YtbnkncemfadfjaaGreatDoor.Lexi
