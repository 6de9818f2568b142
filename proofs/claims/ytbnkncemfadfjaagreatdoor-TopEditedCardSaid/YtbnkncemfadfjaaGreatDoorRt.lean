/- Ropes as trees, in plain Lean: what newNode, rebalance, concat and split make of them. -/
namespace Go.Proofs.YtbnkncemfadfjaaGreatDoor
set_option linter.unusedVariables false
set_option linter.unusedSimpArgs false

inductive RT where
  | leaf (s : ByteArray)
  | node (l r : RT)

namespace RT
def len : RT → Nat
  | leaf s => s.size
  | node l r => l.len + r.len
def hgt : RT → Nat
  | leaf _ => 0
  | node l r => max l.hgt r.hgt + 1
def lvs : RT → Nat
  | leaf _ => 1
  | node l r => l.lvs + r.lvs
def val : RT → ByteArray
  | leaf s => s
  | node l r => l.val ++ r.val
def txt : RT → ByteArray
  | leaf s => s
  | node _ _ => ⟨#[]⟩
/-- no leaf is empty -/
def Full : RT → Prop
  | leaf s => 0 < s.size
  | node l r => l.Full ∧ r.Full
/-- the heights of siblings differ by at most one -/
def Bal : RT → Prop
  | leaf _ => True
  | node l r => l.Bal ∧ r.Bal ∧ l.hgt ≤ r.hgt + 1 ∧ r.hgt ≤ l.hgt + 1
def nodes : RT → Nat
  | leaf _ => 1
  | node l r => l.nodes + r.nodes + 1

theorem len_val : ∀ t : RT, t.len = t.val.size
  | leaf _ => rfl
  | node l r => by simp only [len, val, ByteArray.size_append, len_val l, len_val r]
theorem lvs_pos : ∀ t : RT, 0 < t.lvs
  | leaf _ => Nat.one_pos
  | node l r => by have := lvs_pos l; simp only [lvs]; omega
theorem lvs_le : ∀ t : RT, t.Full → t.lvs ≤ t.len
  | leaf s, h => by simp only [lvs, len]; simp only [Full] at h; omega
  | node l r, h => by have := lvs_le l h.1; have := lvs_le r h.2; simp only [lvs, len]; omega
theorem hgt_lt : ∀ t : RT, t.hgt < t.lvs
  | leaf _ => Nat.one_pos
  | node l r => by have := hgt_lt l; have := hgt_lt r; simp only [lvs, hgt]; omega
theorem hgt_zero {t : RT} (h : t.hgt = 0) : ∃ s, t = leaf s := by
  cases t with
  | leaf s => exact ⟨s, rfl⟩
  | node l r => simp [hgt] at h

def reb (l r : RT) : RT :=
  if r.hgt + 1 < l.hgt then
    match l with
    | node ll lr => if lr.hgt ≤ ll.hgt then node ll (node lr r) else
      match lr with
      | node a b => node (node ll a) (node b r)
      | leaf _ => node l r
    | leaf _ => node l r
  else if l.hgt + 1 < r.hgt then
    match r with
    | node rl rr => if rl.hgt ≤ rr.hgt then node (node l rl) rr else
      match rl with
      | node a b => node (node l a) (node b rr)
      | leaf _ => node l r
    | leaf _ => node l r
  else node l r

def cat (l r : RT) : RT :=
  match l, r with
  | leaf s, leaf t => if s.size + t.size ≤ 32 then leaf (s ++ t) else node (leaf s) (leaf t)
  | leaf s, node rl rr => if 1 < (node rl rr).hgt then reb (cat (leaf s) rl) rr else node (leaf s) (node rl rr)
  | node ll lr, leaf t => if 1 < (node ll lr).hgt then reb ll (cat lr (leaf t)) else node (node ll lr) (leaf t)
  | node ll lr, node rl rr =>
    if (node rl rr).hgt + 1 < (node ll lr).hgt then reb ll (cat lr (node rl rr))
    else if (node ll lr).hgt + 1 < (node rl rr).hgt then reb (cat (node ll lr) rl) rr
    else node (node ll lr) (node rl rr)
termination_by l.nodes + r.nodes
decreasing_by all_goals (simp only [nodes]; omega)

def catO : Option RT → Option RT → Option RT
  | none, r => r
  | some l, none => some l
  | some l, some r => some (cat l r)

theorem txt_size {t : RT} (h : t.hgt = 0) : t.txt.size = t.len := by
  obtain ⟨s, rfl⟩ := hgt_zero h; rfl
theorem cat_small {l r : RT} (h1 : l.hgt = 0) (h2 : r.hgt = 0) (h3 : l.len + r.len ≤ 32) : cat l r = leaf (l.txt ++ r.txt) := by
  obtain ⟨s, rfl⟩ := hgt_zero h1
  obtain ⟨t, rfl⟩ := hgt_zero h2
  unfold cat
  exact if_pos h3
theorem cat_left {ll lr r : RT} (h : r.hgt + 1 < (node ll lr).hgt) : cat (node ll lr) r = reb ll (cat lr r) := by
  cases r <;> (rw [cat]; exact if_pos (by simpa [hgt] using h))
theorem cat_right {l rl rr : RT} (h : l.hgt + 1 < (node rl rr).hgt) : cat l (node rl rr) = reb (cat l rl) rr := by
  cases l with
  | leaf s => rw [cat]; exact if_pos (by simpa [hgt] using h)
  | node a b => rw [cat]; rw [if_neg (by omega)]; exact if_pos h
theorem cat_node {l r : RT} (h : ¬ (l.hgt = 0 ∧ r.hgt = 0 ∧ l.len + r.len ≤ 32)) (h1 : ¬ r.hgt + 1 < l.hgt) (h2 : ¬ l.hgt + 1 < r.hgt) : cat l r = node l r := by
  cases l <;> cases r <;> unfold cat
  · exact if_neg (by simpa [hgt, len] using h)
  · exact if_neg (by simpa [hgt] using h2)
  · exact if_neg (by simpa [hgt] using h1)
  · rw [if_neg h1, if_neg h2]

/-- the tree cut ahead of byte i -/
def split : RT → Nat → Option RT × Option RT
  | leaf s, i => if i = 0 then (none, some (leaf s)) else if s.size ≤ i then (some (leaf s), none) else (some (leaf (s.extract 0 i)), some (leaf (s.extract i s.size)))
  | node l r, i => if i = 0 then (none, some (node l r)) else if (node l r).len ≤ i then (some (node l r), none) else
    if i < l.len then ((split l i).1, catO (split l i).2 (some r)) else (catO (some l) (split r (i - l.len)).1, (split r (i - l.len)).2)

def lenO : Option RT → Nat
  | none => 0
  | some t => t.len
def valO : Option RT → ByteArray
  | none => ⟨#[]⟩
  | some t => t.val
def FullO : Option RT → Prop
  | none => True
  | some t => t.Full

theorem reb_val (l r : RT) : (reb l r).val = l.val ++ r.val := by
  unfold reb
  repeat' split
  all_goals simp only [val, ByteArray.append_assoc]
theorem reb_full {l r : RT} (hl : l.Full) (hr : r.Full) : (reb l r).Full := by
  unfold reb
  repeat' split
  all_goals simp_all [Full]
theorem cat_val : ∀ l r : RT, (cat l r).val = l.val ++ r.val := by
  intro l r
  induction l, r using cat.induct <;> unfold cat <;> (repeat' split) <;> first
    | (exfalso; omega)
    | simp_all [val, reb_val, ByteArray.append_assoc]
theorem cat_full : ∀ l r : RT, l.Full → r.Full → (cat l r).Full := by
  intro l r
  induction l, r using cat.induct <;> intro hl hr <;> unfold cat <;> (repeat' split) <;> first
    | (exfalso; omega)
    | (simp only [Full, ByteArray.size_append] at *; omega)
    | simp_all [Full, reb_full]
end RT
end Go.Proofs.YtbnkncemfadfjaaGreatDoor
