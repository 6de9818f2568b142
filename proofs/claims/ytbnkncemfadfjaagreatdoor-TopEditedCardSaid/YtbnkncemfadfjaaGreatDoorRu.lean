/- Ropes as trees, in plain Lean: balance, and what split gives. -/
import Derived.Test.YtbnkncemfadfjaaGreatDoorRt
namespace Go.Proofs.YtbnkncemfadfjaaGreatDoor
set_option linter.unusedVariables false
set_option linter.unusedSimpArgs false
namespace RT
theorem hgt_node (l r : RT) : l.hgt + 1 ≤ (node l r).hgt ∧ r.hgt + 1 ≤ (node l r).hgt ∧ ((node l r).hgt = l.hgt + 1 ∨ (node l r).hgt = r.hgt + 1) := by
  simp only [hgt]; omega
/-- the height of what two trees are made into -/
def Hg (l r t : RT) : Prop := l.hgt ≤ t.hgt ∧ r.hgt ≤ t.hgt ∧ (t.hgt ≤ l.hgt + 1 ∨ t.hgt ≤ r.hgt + 1)
theorem reb_bal {l r : RT} (hl : l.Bal) (hr : r.Bal) (h1 : l.hgt ≤ r.hgt + 2) (h2 : r.hgt ≤ l.hgt + 2) : (reb l r).Bal ∧ Hg l r (reb l r) ∧ (l.hgt ≤ r.hgt + 1 → r.hgt ≤ l.hgt + 1 → l.hgt + 1 ≤ (reb l r).hgt ∧ r.hgt + 1 ≤ (reb l r).hgt) := by
  unfold Hg
  by_cases hA : r.hgt + 1 < l.hgt
  · cases l with
    | leaf s => simp [hgt] at hA
    | node ll lr =>
    obtain ⟨b1, b2, b3, b4⟩ := hl
    have k1 := hgt_node ll lr
    by_cases hB : lr.hgt ≤ ll.hgt
    · have e : reb (node ll lr) r = node ll (node lr r) := by unfold reb; rw [if_pos hA]; simp only []; rw [if_pos hB]
      rw [e]
      have k2 := hgt_node lr r
      have k3 := hgt_node ll (node lr r)
      exact ⟨⟨b1, ⟨b2, hr, by omega, by omega⟩, by omega, by omega⟩, by omega, by omega⟩
    · cases lr with
      | leaf s => simp [hgt] at hB
      | node a b =>
      have e : reb (node ll (node a b)) r = node (node ll a) (node b r) := by unfold reb; rw [if_pos hA]; simp only []; rw [if_neg hB]
      rw [e]
      obtain ⟨b5, b6, b7, b8⟩ := b2
      have k2 := hgt_node a b
      have k3 := hgt_node ll a
      have k4 := hgt_node b r
      have k5 := hgt_node (node ll a) (node b r)
      exact ⟨⟨⟨b1, b5, by omega, by omega⟩, ⟨b6, hr, by omega, by omega⟩, by omega, by omega⟩, by omega, by omega⟩
  · by_cases hC : l.hgt + 1 < r.hgt
    · cases r with
      | leaf s => simp [hgt] at hC
      | node rl rr =>
      obtain ⟨b1, b2, b3, b4⟩ := hr
      have k1 := hgt_node rl rr
      by_cases hB : rl.hgt ≤ rr.hgt
      · have e : reb l (node rl rr) = node (node l rl) rr := by unfold reb; rw [if_neg hA, if_pos hC]; simp only []; rw [if_pos hB]
        rw [e]
        have k2 := hgt_node l rl
        have k3 := hgt_node (node l rl) rr
        exact ⟨⟨⟨hl, b1, by omega, by omega⟩, b2, by omega, by omega⟩, by omega, by omega⟩
      · cases rl with
        | leaf s => simp [hgt] at hB
        | node a b =>
        have e : reb l (node (node a b) rr) = node (node l a) (node b rr) := by unfold reb; rw [if_neg hA, if_pos hC]; simp only []; rw [if_neg hB]
        rw [e]
        obtain ⟨b5, b6, b7, b8⟩ := b1
        have k2 := hgt_node a b
        have k3 := hgt_node l a
        have k4 := hgt_node b rr
        have k5 := hgt_node (node l a) (node b rr)
        exact ⟨⟨⟨hl, b5, by omega, by omega⟩, ⟨b6, b2, by omega, by omega⟩, by omega, by omega⟩, by omega, by omega⟩
    · have e : reb l r = node l r := by unfold reb; rw [if_neg hA, if_neg hC]
      rw [e]
      have k := hgt_node l r
      exact ⟨⟨hl, hr, by omega, by omega⟩, by omega, by omega⟩
theorem cat_bal : ∀ l r : RT, l.Bal → r.Bal → (cat l r).Bal ∧ Hg l r (cat l r) := by
  have key : ∀ (n : Nat) (l r : RT), l.nodes + r.nodes ≤ n → l.Bal → r.Bal → (cat l r).Bal ∧ Hg l r (cat l r) := by
    intro n
    induction n with
    | zero => intro l r hn; cases l <;> simp [nodes] at hn
    | succ n ih =>
    intro l r hn hl hr
    by_cases hS : l.hgt = 0 ∧ r.hgt = 0 ∧ l.len + r.len ≤ 32
    · obtain ⟨h1, h2, h3⟩ := hS
      rw [cat_small h1 h2 h3]
      exact ⟨trivial, by simp only [Hg, h1, h2, hgt]; omega⟩
    · by_cases hA : r.hgt + 1 < l.hgt
      · cases l with
        | leaf s => simp [hgt] at hA
        | node ll lr =>
        rw [cat_left hA]
        simp only [nodes] at hn
        obtain ⟨h1, h2, h3, h4⟩ := hl
        obtain ⟨h5, h7⟩ := ih lr r (by omega) h2 hr
        have k := hgt_node ll lr
        unfold Hg at h7
        obtain ⟨h6, h9, h10⟩ := reb_bal h1 h5 (by omega) (by omega)
        unfold Hg at h9 ⊢
        exact ⟨h6, by omega⟩
      · by_cases hC : l.hgt + 1 < r.hgt
        · cases r with
          | leaf s => simp [hgt] at hC
          | node rl rr =>
          rw [cat_right hC]
          simp only [nodes] at hn
          obtain ⟨h1, h2, h3, h4⟩ := hr
          obtain ⟨h5, h7⟩ := ih l rl (by omega) hl h1
          have k := hgt_node rl rr
          unfold Hg at h7
          obtain ⟨h6, h9, h10⟩ := reb_bal h5 h2 (by omega) (by omega)
          unfold Hg at h9 ⊢
          exact ⟨h6, by omega⟩
        · rw [cat_node hS hA hC]
          have k := hgt_node l r
          exact ⟨⟨hl, hr, by omega, by omega⟩, by unfold Hg; omega⟩
  exact fun l r => key _ l r (Nat.le_refl _)

/-- a rope is as it should be -/
def Good : Option RT → Prop
  | none => True
  | some t => t.Full ∧ t.Bal
theorem good_cat {a b : Option RT} (ha : Good a) (hb : Good b) : Good (catO a b) := by
  cases a <;> cases b <;> simp only [catO, Good] at *
  · exact hb
  · exact ha
  · exact ⟨cat_full _ _ ha.1 hb.1, (cat_bal _ _ ha.2 hb.2).1⟩
theorem val_cat (a b : Option RT) : valO (catO a b) = valO a ++ valO b := by
  cases a <;> cases b <;> simp only [catO, valO]
  · rfl
  · exact (ByteArray.empty_append (b := _)).symm
  · exact (ByteArray.append_empty (b := _)).symm
  · exact cat_val _ _
theorem lenO_val (a : Option RT) : lenO a = (valO a).size := by
  cases a with
  | none => rfl
  | some t => exact len_val t
theorem len_cat (a b : Option RT) : lenO (catO a b) = lenO a + lenO b := by
  rw [lenO_val, lenO_val, lenO_val, val_cat, ByteArray.size_append]
theorem good_split : ∀ (t : RT) (i : Nat), t.Full → t.Bal → Good (split t i).1 ∧ Good (split t i).2
  | leaf s, i, hf, hb => by
    unfold split
    repeat' split
    · exact ⟨trivial, hf, hb⟩
    · exact ⟨⟨hf, hb⟩, trivial⟩
    · simp only [Good, Full, Bal, and_true, ByteArray.size_extract]; omega
  | node l r, i, hf, hb => by
    have h1 := fun j => good_split l j hf.1 hb.1
    have h2 := fun j => good_split r j hf.2 hb.2.1
    unfold split
    repeat' split
    · exact ⟨trivial, hf, hb⟩
    · exact ⟨⟨hf, hb⟩, trivial⟩
    · exact ⟨(h1 _).1, good_cat (h1 _).2 ⟨hf.2, hb.2.1⟩⟩
    · exact ⟨good_cat (a := some l) ⟨hf.1, hb.1⟩ (h2 _).1, (h2 _).2⟩
theorem extract_all {s : ByteArray} {i : Nat} (h : s.size ≤ i) : s.extract 0 i = s := by
  have : max i s.size = i := by omega
  rw [← this]; exact ByteArray.extract_zero_max_size
theorem extract_none {s : ByteArray} {i j : Nat} (h : s.size ≤ i) : s.extract i j = ⟨#[]⟩ := by
  show _ = ByteArray.empty
  rw [ByteArray.extract_eq_empty_iff]; omega
theorem extract_left {a b : ByteArray} {i : Nat} (h : i ≤ a.size) : (a ++ b).extract 0 i = a.extract 0 i ∧ (a ++ b).extract i (a.size + b.size) = a.extract i a.size ++ b := by
  rw [ByteArray.extract_append, ByteArray.extract_append]
  have e1 : b.extract (0 - a.size) (i - a.size) = ByteArray.empty := by rw [ByteArray.extract_eq_empty_iff]; omega
  have e2 : i - a.size = 0 := by omega
  have e3 : a.size + b.size - a.size = b.size := by omega
  rw [e1, e2, e3, ByteArray.append_empty, ByteArray.extract_zero_size]
  refine ⟨rfl, ?_⟩
  congr 1
  have := ByteArray.extract_eq_extract_append_extract (a := a) (i := i) (k := a.size + b.size) a.size (by omega) (by omega)
  rw [this]
  have e4 : a.extract a.size (a.size + b.size) = ByteArray.empty := by rw [ByteArray.extract_eq_empty_iff]; omega
  rw [e4, ByteArray.append_empty]
theorem extract_right {a b : ByteArray} {i : Nat} (h : a.size ≤ i) (h2 : i ≤ a.size + b.size) : (a ++ b).extract 0 i = a ++ b.extract 0 (i - a.size) ∧ (a ++ b).extract i (a.size + b.size) = b.extract (i - a.size) b.size := by
  rw [ByteArray.extract_append, ByteArray.extract_append]
  have e1 : a.extract i (a.size + b.size) = ByteArray.empty := by rw [ByteArray.extract_eq_empty_iff]; omega
  have e2 : a.size + b.size - a.size = b.size := by omega
  rw [e1, e2, ByteArray.empty_append, extract_all h, Nat.zero_sub]
  exact ⟨rfl, rfl⟩
theorem val_split : ∀ (t : RT) (i : Nat), valO (split t i).1 = t.val.extract 0 i ∧ valO (split t i).2 = t.val.extract i t.val.size
  | leaf s, i => by
    unfold split
    repeat' split
    · rename_i h; subst h; simp only [valO, val, ByteArray.extract_same, ByteArray.extract_zero_size]; exact ⟨rfl, trivial⟩
    · rename_i h; simp only [valO, val]; exact ⟨(extract_all h).symm, (extract_none h).symm⟩
    · simp only [valO, val, and_self]
  | node l r, i => by
    have h1 := val_split l i
    have h2 := val_split r (i - l.len)
    unfold split
    repeat' split
    · rename_i h; subst h; simp only [valO, ByteArray.extract_same, ByteArray.extract_zero_size]; exact ⟨rfl, trivial⟩
    · rename_i h; rw [len_val] at h; simp only [valO]; exact ⟨(extract_all h).symm, (extract_none h).symm⟩
    · rename_i h3 h4 h5
      rw [len_val] at h5
      obtain ⟨e1, e2⟩ := extract_left (a := l.val) (b := r.val) (i := i) (by omega)
      rw [val_cat, h1.1, h1.2]
      simp only [val, valO, ByteArray.size_append, e1, e2, and_self]
    · rename_i h3 h4 h5
      rw [len_val] at h5
      simp only [len, len_val] at h4
      obtain ⟨e1, e2⟩ := extract_right (a := l.val) (b := r.val) (i := i) (by omega) (by omega)
      rw [val_cat, h2.1, h2.2, len_val]
      simp only [val, valO, ByteArray.size_append, e1, e2, and_self]
end RT
end Go.Proofs.YtbnkncemfadfjaaGreatDoor
