/- Text edits as plain data: what Validate answers and what Apply gives. -/
import Derived.Test.YtbnkncemfadfjaaGreatDoorBa
import Derived.Test.YtbnkncemfadfjaaGreatDoorGr
namespace Go.Proofs.YtbnkncemfadfjaaGreatDoor
set_option linter.unusedVariables false
set_option linter.unusedSimpArgs false
open Go.Gx

structure TE where
  a : Int
  b : Int
  s : ByteArray
def TE.cells (e : TE) : List Value := [.int .i64 e.a, .int .i64 e.b, .string e.s]
def tes : List TE → List Value
  | [] => []
  | e :: es => e.cells ++ tes es
theorem tes_length : ∀ es : List TE, (tes es).length = es.length * 3
  | [] => rfl
  | e :: es => by simp [tes, tes_length es, TE.cells]; omega
theorem tes_at : ∀ (es : List TE) (k : Nat) (h : k < es.length), ((tes es).drop (k * 3)).take 3 = es[k].cells
  | e :: es, 0, _ => by simp [tes, TE.cells]
  | e :: es, k + 1, h => by
    have : (tes (e :: es)).drop ((k + 1) * 3) = (tes es).drop (k * 3) := by
      rw [show (k + 1) * 3 = 3 + k * 3 from by omega, ← List.drop_drop]; rfl
    rw [this, tes_at es k (by simpa using h)]; rfl

def lastE : Int → List TE → Int
  | p, [] => p
  | _, e :: es => lastE e.b es
def okE (n : Int) : Int → List TE → Prop
  | _, [] => True
  | p, e :: es => p < e.a ∧ e.a ≤ e.b ∧ e.b ≤ n ∧ okE n e.b es
def growE : List TE → Int
  | [] => 0
  | e :: es => (e.s.size : Int) - (e.b - e.a) + growE es
def appE (s : ByteArray) : Int → List TE → ByteArray
  | _, [] => ⟨#[]⟩
  | off, e :: es => s.extract off.toNat e.a.toNat ++ e.s ++ appE s e.b es
theorem lastE_snoc : ∀ (es : List TE) (p : Int) (e : TE), lastE p (es ++ [e]) = e.b
  | [], _, _ => rfl
  | d :: es, _, e => lastE_snoc es d.b e
theorem okE_snoc (n : Int) : ∀ (es : List TE) (p : Int) (e : TE), okE n p (es ++ [e]) ↔ okE n p es ∧ lastE p es < e.a ∧ e.a ≤ e.b ∧ e.b ≤ n
  | [], p, e => by simp [okE, lastE]
  | d :: es, p, e => by simp only [List.cons_append, okE, lastE, okE_snoc n es d.b e, and_assoc]
theorem growE_snoc : ∀ (es : List TE) (e : TE), growE (es ++ [e]) = growE es + ((e.s.size : Int) - (e.b - e.a))
  | [], e => by simp [growE]
  | d :: es, e => by simp only [List.cons_append, growE, growE_snoc es e]; omega
theorem appE_snoc (s : ByteArray) : ∀ (es : List TE) (off : Int) (e : TE), appE s off (es ++ [e]) = appE s off es ++ (s.extract (lastE off es).toNat e.a.toNat ++ e.s)
  | [], off, e => by
    show s.extract off.toNat e.a.toNat ++ e.s ++ ByteArray.empty = ByteArray.empty ++ (s.extract off.toNat e.a.toNat ++ e.s)
    rw [ByteArray.append_empty, ByteArray.empty_append]
  | d :: es, off, e => by
    simp only [List.cons_append, appE, lastE, appE_snoc s es d.b e, ByteArray.append_assoc]
theorem okE_take {n : Int} : ∀ (es : List TE) {p : Int} (k : Nat), okE n p es → okE n p (es.take k)
  | [], _, _, _ => by simp [okE]
  | e :: es, _, 0, _ => by simp [okE]
  | e :: es, _, k + 1, h => ⟨h.1, h.2.1, h.2.2.1, okE_take es k h.2.2.2⟩
theorem okE_at {n : Int} {es : List TE} {p : Int} {k : Nat} (hk : k < es.length) (h : okE n p es) : lastE p (es.take k) < es[k].a ∧ es[k].a ≤ es[k].b ∧ es[k].b ≤ n := by
  have h1 := okE_take es (k + 1) h
  rw [List.take_succ_eq_append_getElem hk, okE_snoc] at h1
  exact h1.2
theorem okE_le {n : Int} : ∀ (es : List TE) {p q : Int}, q ≤ p → okE n p es → okE n q es
  | [], _, _, _, h => h
  | e :: es, _, _, hq, h => ⟨by have := h.1; omega, h.2⟩
theorem lastE_le {n : Int} : ∀ (es : List TE) {p : Int}, p ≤ n → okE n p es → p ≤ lastE p es ∧ lastE p es ≤ n
  | [], _, hp, h => ⟨Int.le_refl _, hp⟩
  | e :: es, p, hp, h => by
    obtain ⟨h1, h2, h3, h4⟩ := h
    have := lastE_le es h3 h4
    simp only [lastE]; omega
theorem lastE_any : ∀ (es : List TE) {p q : Int}, es ≠ [] → lastE p es = lastE q es
  | [], _, _, h => absurd rfl h
  | e :: es, _, _, _ => rfl
theorem growE_le {n B : Int} (hB : 0 ≤ B) (hn : 0 ≤ n) : ∀ (es : List TE) {p : Int}, -1 ≤ p → (∀ e ∈ es, (e.s.size : Int) ≤ B) → okE n p es → -(n * es.length) ≤ growE es ∧ growE es ≤ B * es.length
  | [], _, _, _, _ => by simp [growE]
  | e :: es, p, hp, hs, h => by
    obtain ⟨h1, h2, h3, h4⟩ := h
    have := growE_le hB hn es (p := e.b) (by omega) (fun e he => hs e (List.mem_cons_of_mem _ he)) h4
    have h5 := hs e List.mem_cons_self
    simp only [growE, List.length_cons]
    have e1 : n * ((es.length + 1 : Nat) : Int) = n * es.length + n := by rw [Int.natCast_add, Int.mul_add]; simp
    have e2 : B * ((es.length + 1 : Nat) : Int) = B * es.length + B := by rw [Int.natCast_add, Int.mul_add]; simp
    rw [e1, e2]
    omega
/-- how long the front is -/
theorem appE_size {s : ByteArray} : ∀ (es : List TE) {off : Int}, 0 ≤ off → off ≤ s.size → okE s.size (off - 1) es → ((appE s off es).size : Int) = lastE off es - off + growE es
  | [], off, h0, h1, h => by simp [appE, lastE, growE, ByteArray.size]
  | e :: es, off, h0, h1, h => by
    obtain ⟨h2, h3, h4, h5⟩ := h
    have := appE_size es (off := e.b) (by omega) h4 (okE_le es (by omega) h5)
    simp only [appE, lastE, growE, ByteArray.size_append, ByteArray.size_extract]
    omega
theorem appE_take (s : ByteArray) : ∀ (es : List TE) (off : Int) (k : Nat), (appE s off (es.take k)).size ≤ (appE s off es).size
  | [], _, _ => by simp
  | e :: es, _, 0 => by
    simp only [List.take_zero, appE]
    exact Nat.zero_le _
  | e :: es, _, k + 1 => by
    have := appE_take s es e.b k
    simp only [List.take_succ_cons, appE, ByteArray.size_append]
    omega

open Classical in
/-- what Validate answers -/
noncomputable def codeE (n : Nat) (es : List TE) : Int := if n > 2000 ∨ es.length > 50 then 2 else if ¬ okE n (-1) es then 3 else if n + growE es > 2000 then 2 else 0
theorem codeE_zero {n : Nat} {es : List TE} (h : codeE n es = 0) : n ≤ 2000 ∧ es.length ≤ 50 ∧ okE n (-1) es ∧ n + growE es ≤ 2000 := by
  unfold codeE at h
  split at h
  · omega
  · split at h
    · omega
    · split at h
      · omega
      · rename_i h1 h2 h3
        exact ⟨by omega, by omega, Classical.not_not.1 h2, by omega⟩
/-- the outcome -/
def outE (s : ByteArray) (es : List TE) : ByteArray := appE s 0 es ++ s.extract (lastE 0 es).toNat s.size
theorem okE0 {n : Int} : ∀ {es : List TE}, okE n (-1) es → okE n (0 - 1) es := fun h => h
theorem last0 {n : Int} {es : List TE} (hn : 0 ≤ n) (h : okE n (-1) es) (k : Nat) : 0 ≤ lastE 0 (es.take k) ∧ lastE 0 (es.take k) ≤ n := by
  have h1 := okE_take es k h
  cases h2 : es.take k with
  | nil => exact ⟨Int.le_refl _, hn⟩
  | cons e l =>
    rw [h2] at h1
    obtain ⟨h3, h4, h5, h6⟩ := h1
    have := lastE_le l h5 h6
    simp only [lastE]; omega
theorem outE_size {s : ByteArray} {es : List TE} (h : okE s.size (-1) es) : ((outE s es).size : Int) = s.size + growE es := by
  have h1 := appE_size es (off := 0) (Int.le_refl _) (by omega) h
  have h2 := last0 (by omega) h es.length
  rw [List.take_length] at h2
  simp only [outE, ByteArray.size_append, ByteArray.size_extract]
  omega
theorem appE_le {s : ByteArray} {es : List TE} (h : codeE s.size es = 0) (k : Nat) : (appE s 0 (es.take k)).size ≤ 2000 ∧ (outE s es).size ≤ 2000 := by
  obtain ⟨h1, h2, h3, h4⟩ := codeE_zero h
  have h5 := outE_size h3
  have h6 := appE_take s es 0 k
  have h7 : (appE s 0 es).size ≤ (outE s es).size := by simp [outE]
  omega
theorem at0 {n : Nat} {es : List TE} {k : Nat} (hk : k < es.length) (h : codeE n es = 0) : 0 ≤ lastE 0 (es.take k) ∧ lastE 0 (es.take k) ≤ es[k].a ∧ es[k].a ≤ es[k].b ∧ es[k].b ≤ n := by
  obtain ⟨h1, h2, h3, h4⟩ := codeE_zero h
  have h5 := okE_at hk h3
  have h6 := last0 (Int.natCast_nonneg n) h3 k
  cases h7 : es.take k with
  | nil =>
    rw [h7] at h5
    simp only [lastE] at h5 ⊢
    omega
  | cons e l =>
    rw [h7] at h5 h6
    simp only [lastE] at h5 h6 ⊢
    omega
end Go.Proofs.YtbnkncemfadfjaaGreatDoor
