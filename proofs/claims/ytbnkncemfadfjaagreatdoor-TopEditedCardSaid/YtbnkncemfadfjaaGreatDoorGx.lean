/- The engine: a light symbolic execution of the model's code over an environment of live slots. Generic in the program. -/
import Derived.WalkKit
import Derived.KernelRfl
import Derived.OrdersHeld
import Derived.Deep.LoopGhost
namespace Go.Gx
set_option linter.unusedVariables false
set_option linter.unusedSimpArgs false
open Go.RowKit

abbrev Env := List (Nat × Value)

def look : Env → Nat → Option Value
  | [], _ => none
  | (t, v) :: L, s => match Nat.beq t s with
    | true => some v
    | false => look L s

def evO (L : Env) : Operand → Option Value
  | .tmp t => look L t
  | .const v => some v
  | .global g => some (.pointer (some ⟨g, 0, none⟩))
  | .func f => some (.func (.func f) #[] #[])

structure Fr (n : Nat) (a : Act) (L : Env) : Prop where
  defers : a.defers = []
  size : a.tmps.size = n
  vals : ∀ s v, look L s = some v → s < n ∧ a.tmps.getD s undef = v

def putE (d : Option Tmp) (v : Value) (L : Env) : Env := match d with
  | some d => (d, v) :: L
  | none => L

def dOk (n : Nat) (d : Option Tmp) : Bool := match d with
  | some d => Nat.blt d n
  | none => true

theorem Fr.put {n : Nat} {a : Act} {L : Env} (h : Fr n a L) {d : Option Tmp} (hd : dOk n d = true) (v : Value) : Fr n (a.put d v) (putE d v L) := by
  cases d with
  | none => exact h
  | some d =>
    have hd' : d < n := by simpa [dOk, Nat.blt_eq] using hd
    refine ⟨h.defers, by simp [Act.put, h.size], fun s u hs => ?_⟩
    simp only [putE, look] at hs
    split at hs
    · rename_i he
      have := Nat.eq_of_beq_eq_true he
      subst this
      injection hs with hs
      subst hs
      exact ⟨hd', by simp [Act.put, Array.getD_eq_getD_getElem?, h.size, hd']⟩
    · rename_i he
      have hne : d ≠ s := fun e => by subst e; simp at he
      have := h.vals s u hs
      refine ⟨this.1, ?_⟩
      rw [← this.2]
      simp [Act.put, Array.getElem?_setIfInBounds_ne hne]

theorem Fr.eval {n : Nat} {a : Act} {L : Env} (h : Fr n a L) {x : Operand} {v : Value} (hx : evO L x = some v) : a.eval x = v := by
  cases x with
  | tmp t => exact (h.vals t v hx).2
  | const u => simpa [evO, Act.eval] using hx
  | global g => simpa [evO, Act.eval] using hx
  | func f => simpa [evO, Act.eval] using hx

/-- every entry of M stands in L -/
def Sub (M L : Env) : Prop := ∀ s v, look M s = some v → look L s = some v
theorem Sub.nil {L : Env} : Sub [] L := fun _ _ h => by cases h
theorem Sub.cons {s : Nat} {v : Value} {M L : Env} (h : look L s = some v) (k : Sub M L) : Sub ((s, v) :: M) L := fun t u ht => by
  simp only [look] at ht
  split at ht
  · rename_i he
    have := Nat.eq_of_beq_eq_true he
    subst this
    injection ht with ht
    subst ht
    exact h
  · exact k t u ht
theorem Sub.refl (L : Env) : Sub L L := fun _ _ h => h
theorem Sub.trans {A B C : Env} (h : Sub A B) (k : Sub B C) : Sub A C := fun s v hs => k s v (h s v hs)
theorem Fr.sub {n : Nat} {a : Act} {M L : Env} (h : Fr n a L) (k : Sub M L) : Fr n a M := ⟨h.defers, h.size, fun s v hs => h.vals s v (k s v hs)⟩

/-! ### posts and code -/
abbrev Kn := Env → World → Prop

def Tq (n : Nat) (N : Kn) (X : Exit → Kn) : Exit → Act → World → Prop
  | .normal, a, w => ∃ L, Fr n a L ∧ N L w
  | .panic _, _, _ => False
  | .outgrown, _, _ => False
  | e, a, w => ∃ L, Fr n a L ∧ X e L w

def Wp (P : Program) (n : Nat) (c : Code) (N : Kn) (X : Exit → Kn) (L : Env) (w : World) : Prop :=
  ∀ a, Fr n a L → c.wp P (Tq n N X) a w

section
variable {P : Program} {n : Nat} {N : Kn} {X : Exit → Kn} {L : Env} {w : World}

theorem Wp.sub {c : Code} {M : Env} (h : Sub M L) (k : Wp P n c N X M w) : Wp P n c N X L w := fun a ha => k a (ha.sub h)

theorem Wp.mono {c : Code} {N' : Kn} {X' : Exit → Kn} (h : Wp P n c N X L w) (hN : ∀ L w, N L w → N' L w) (hX : ∀ e L w, X e L w → X' e L w) : Wp P n c N' X' L w :=
  fun a ha => wp_mono (h a ha) fun e a w q => by
    cases e <;> first
      | exact q
      | (obtain ⟨L, h1, h2⟩ := q; first | exact ⟨L, h1, hN _ _ h2⟩ | exact ⟨L, h1, hX _ _ _ h2⟩)

theorem Wp.skip (h : N L w) : Wp P n .skip N X L w := fun a ha => wp_skip (Q := Tq n N X) ⟨L, ha, h⟩
theorem Wp.label {l : Nat} (h : N L w) : Wp P n (.label l) N X L w := fun a ha => wp_label (Q := Tq n N X) ⟨L, ha, h⟩
theorem Wp.ret (h : X .ret L w) : Wp P n .ret N X L w := fun a ha => wp_ret (Q := Tq n N X) ⟨L, ha, h⟩
theorem Wp.exit {i : Nat} (h : X (.exit i) L w) : Wp P n (.exit i) N X L w := fun a ha => wp_exit (Q := Tq n N X) ⟨L, ha, h⟩
theorem Wp.goto {i : Nat} (h : X (.goto i) L w) : Wp P n (.goto i) N X L w := fun a ha => wp_goto (Q := Tq n N X) ⟨L, ha, h⟩

theorem Wp.seq {x y : Code} (h : Wp P n x (fun L w => Wp P n y N X L w) X L w) : Wp P n (.seq x y) N X L w := fun a ha =>
  wp_seq (wp_mono (h a ha) fun e a w q => by
    cases e <;> first
      | exact q
      | (obtain ⟨L, h1, h2⟩ := q; exact h2 a h1))

def Xb (i : Nat) (N : Kn) (X : Exit → Kn) : Exit → Kn
  | .exit j => match Nat.beq j i with
    | true => N
    | false => X (.exit j)
  | e => X e

theorem Wp.block {i : Nat} {c : Code} (h : Wp P n c N (Xb i N X) L w) : Wp P n (.block i c) N X L w := fun a ha =>
  wp_block (wp_mono (h a ha) fun e a w q => by
    cases e <;> simp only [Exit.inBlock] <;> first
      | exact q
      | (rename_i j
         obtain ⟨L, h1, h2⟩ := q
         by_cases hj : j = i
         · subst hj
           simp only [Xb, Nat.beq_refl] at h2
           simp only [if_true]
           exact ⟨L, h1, h2⟩
         · have hb : Nat.beq j i = false := by
             cases hb : Nat.beq j i
             · rfl
             · exact absurd (Nat.eq_of_beq_eq_true hb) hj
           simp only [Xb, hb] at h2
           simp only [hj, if_false]
           exact ⟨L, h1, h2⟩))

theorem Wp.condT {c : Operand} {x y : Code} (hc : evO L c = some (.bool true)) (h : Wp P n x N X L w) : Wp P n (.cond c x y) N X L w := fun a ha =>
  wp_cond_true (ha.eval hc) (h a ha)
theorem Wp.condF {c : Operand} {x y : Code} (hc : evO L c = some (.bool false)) (h : Wp P n y N X L w) : Wp P n (.cond c x y) N X L w := fun a ha =>
  wp_cond_false (ha.eval hc) (h a ha)
theorem Wp.cond {c : Operand} {x y : Code} {b : Bool} (hc : evO L c = some (.bool b)) (h : b = true → Wp P n x N X L w) (h' : b = false → Wp P n y N X L w) : Wp P n (.cond c x y) N X L w := fun a ha =>
  wp_cond_split (ha.eval hc) (fun e => h e a ha) (fun e => h' e a ha)

/-- a loop: the state is an index i, its slots E i -/
theorem Wp.loop {c : Code} {ι : Type} (E : ι → Env) (I : ι → World → Prop) (μ : ι → Nat) (i0 : ι) (h0 : Sub (E i0) L) (hi : I i0 w)
    (round : ∀ i w, I i w → Wp P n c (fun L' w' => ∃ j, Sub (E j) L' ∧ I j w' ∧ μ j < μ i) X (E i) w) : Wp P n (.loop c) N X L w := fun a ha => by
  refine wp_loop_ghost (fun m a w => ∃ i, μ i = m ∧ Fr n a (E i) ∧ I i w) (μ i0) ⟨i0, rfl, ha.sub h0, hi⟩ ?_
  rintro m a w ⟨i, rfl, hF, hI⟩
  refine wp_mono (round i w hI a hF) fun e a w q => ?_
  cases e <;> first
    | exact q
    | (obtain ⟨L', h1, j, h2, h3, h4⟩ := q
       exact ⟨μ j, h4, j, rfl, h1.sub h2, h3⟩)

/-! ### regions -/

def gYes (ops : Array Oper) (o : Oper) (L : Env) : Prop := match o.guard with
  | none => True
  | some (j, want) => ∃ t, (ops[j]?).bind (·.dst) = some t ∧ look L t = some (.bool want)
def gNo (ops : Array Oper) (o : Oper) (L : Env) : Prop := match o.guard with
  | none => False
  | some (j, want) => ∃ t b, (ops[j]?).bind (·.dst) = some t ∧ look L t = some (.bool b) ∧ (b == want) = false

/-- also where the guard's operation was itself passed over (its slot is undef) -/
def gOff (ops : Array Oper) (o : Oper) (L : Env) : Prop := match o.guard with
  | none => False
  | some (j, _) => ∃ t, (ops[j]?).bind (·.dst) = some t ∧ look L t = some undef

theorem yielded_of {ops : Array Oper} {a : Act} (ha : Fr n a L) {j t : Nat} {v : Value} (h1 : (ops[j]?).bind (·.dst) = some t) (h2 : look L t = some v) :
    yielded ops a.tmps j = match v with | .bool b => some b | _ => none := by
  obtain ⟨h3, h4⟩ := ha.vals t v h2
  have : a.tmps[t]? = some v := by
    rw [Array.getD_eq_getD_getElem?] at h4
    rw [Array.getElem?_eq_getElem (by rw [ha.size]; exact h3)] at h4 ⊢
    simpa using h4
  simp only [yielded, h1, Option.bind_some, this]
  cases v <;> rfl

theorem gYes.wanted {ops : Array Oper} {o : Oper} {a : Act} (h : gYes ops o L) (ha : Fr n a L) : Region.wanted o (yielded ops a.tmps) = true := by
  unfold gYes at h
  unfold Region.wanted
  split at h
  · rename_i hg; simp [hg]
  · rename_i j want hg
    obtain ⟨t, h1, h2⟩ := h
    simp [hg, yielded_of ha h1 h2]
theorem gNo.wanted {ops : Array Oper} {o : Oper} {a : Act} (h : gNo ops o L) (ha : Fr n a L) : Region.wanted o (yielded ops a.tmps) = false := by
  unfold gNo at h
  unfold Region.wanted
  split at h
  · exact h.elim
  · rename_i j want hg
    obtain ⟨t, b, h1, h2, h3⟩ := h
    have : (some b == some want) = false := by simpa using h3
    simp [hg, yielded_of ha h1 h2]
    simpa using h3
theorem gOff.wanted {ops : Array Oper} {o : Oper} {a : Act} (h : gOff ops o L) (ha : Fr n a L) : Region.wanted o (yielded ops a.tmps) = false := by
  unfold gOff at h
  unfold Region.wanted
  split at h
  · exact h.elim
  · rename_i j want hg
    obtain ⟨t, h1, h2⟩ := h
    simp [hg, yielded_of ha h1 h2, undef]

/-- a quiet operation: it yields v in every world that keeps what w has -/
def Tm (P : Program) (n : Nat) (o : Oper) (L : Env) (w : World) (v : Value) : Prop :=
  ∀ a, Fr n a L → ∀ w', Below w.heap.size w w' → (execOp a.eval o).run P w' = .ok (.value v) w'

/-- an operation that may change the world -/
def Wl (P : Program) (n : Nat) (o : Oper) (L : Env) (w : World) (R : Value → World → Prop) : Prop :=
  ∀ a, Fr n a L → ∀ (Q : Exit → Act → World → Prop) (next : Act → World → Prop), (∀ v w', R v w' → next (a.put o.dst v) w') → o.wp P a w next Q

def wildKind : Op → Bool
  | .alloc _ | .box .. | .buildSlice .. | .store .. | .insert .. => true
  | .makeMap .. | .makeSlice .. | .mapUpdate .. | .mapEntry .. | .entryStore .. => true
  | .range .. | .next .. | .entry .. | .panic .. | .defer .. | .go .. => true
  | .call { callee := .builtin .len, .. } | .call { callee := .builtin .cap, .. } | .call { callee := .builtin .min, .. } | .call { callee := .builtin .max, .. } => false
  | .call _ => true
  | _ => false

inductive Rg (P : Program) (ops : Array Oper) (n : Nat) (dr : Option (List Nat)) (K : Kn) : List Oper → Env → World → Prop
  | done {L : Env} {w : World} (h : K L w) : Rg P ops n dr K [] L w
  | skip {o : Oper} {rest : List Oper} {L : Env} {w : World} (h : gNo ops o L ∨ gOff ops o L) (hd : dOk n o.dst = true) (k : Rg P ops n dr K rest (putE o.dst undef L) w) : Rg P ops n dr K (o :: rest) L w
  | tame {o : Oper} {rest : List Oper} {L : Env} {w : World} (v : Value) (hg : gYes ops o L) (hw : wildKind o.op = false) (h : Tm P n o L w v) (hd : dOk n o.dst = true)
      (k : Rg P ops n dr K rest (putE o.dst v L) w) : Rg P ops n dr K (o :: rest) L w
  | wild {o : Oper} {rest : List Oper} {L : Env} {w : World} (R : Value → World → Prop) (hg : gYes ops o L) (h : Wl P n o L w R) (hb : ∀ bars, dr = some bars → wildKind o.op = true ∧ (bars.contains rest.length = false → ∀ v w', R v w' → Below w.heap.size w w')) (hd : dOk n o.dst = true)
      (k : ∀ v w', R v w' → Rg P ops n dr K rest (putE o.dst v L) w') : Rg P ops n dr K (o :: rest) L w

theorem Tm.wl {o : Oper} {v : Value} (h : Tm P n o L w v) : Wl P n o L w (fun u w' => u = v ∧ w' = w) := fun a ha Q next hn => by
  unfold Oper.wp
  rw [h a ha w (Below.refl _ _)]
  exact hn v w ⟨rfl, rfl⟩

theorem Rg.list {ops : Array Oper} {dr : Option (List Nat)} {K : Kn} {l : List Oper} (h : Rg P ops n dr K l L w) : ∀ a, Fr n a L → wpList P ops (Tq n K X) l a w := by
  induction h with
  | done h => exact fun a ha => ⟨_, ha, h⟩
  | skip h hd k ih =>
    intro a ha
    unfold wpList
    have : Region.wanted _ (yielded ops a.tmps) = false := h.elim (fun h => h.wanted ha) (fun h => h.wanted ha)
    rw [if_neg (by simp [this])]
    exact ih _ (ha.put hd _)
  | tame v hg hw h hd k ih =>
    intro a ha
    unfold wpList
    rw [if_pos (hg.wanted ha)]
    exact .inl (h.wl a ha _ _ fun u w' ⟨h1, h2⟩ => by subst h1; subst h2; exact ih _ (ha.put hd _))
  | wild R hg h hb hd k ih =>
    intro a ha
    unfold wpList
    rw [if_pos (hg.wanted ha)]
    exact .inl (h a ha _ _ fun u w' hr => ih u w' hr _ (ha.put hd _))

theorem Wp.region {id : Nat} {l : List Oper} (h : Rg P l.toArray n none N l L w) : Wp P n (.region id l.toArray false) N X L w := fun a ha =>
  wp_region_lit (h.list a ha)

/-! a region that draws its order, by a plan; bars: behind these operations (told by the number of those that follow in the plan) the world may have been written -/

/-- the operations that must come ahead of b (b itself among them) -/
def ancs (ops : Array Oper) : Nat → List Nat → List Nat
  | 0, acc => acc
  | j + 1, acc => ancs ops j (if acc.contains j then (match ops[j]? with | some o => (o.after.toList.filter (Region.binds .any ·)).map (·.on) ++ acc | none => acc) else acc)

inductive Anc (ops : Array Oper) (b : Nat) : Nat → Prop
  | self : Anc ops b b
  | step {j : Nat} {o : Oper} {e : Edge} (h : Anc ops b j) (ho : ops[j]? = some o) (he : e ∈ o.after) (hb : Region.binds .any e = true) : Anc ops b e.on

theorem ancs_sound {ops : Array Oper} {b : Nat} : ∀ (j : Nat) (acc : List Nat), (∀ i ∈ acc, Anc ops b i) → ∀ i ∈ ancs ops j acc, Anc ops b i
  | 0, _, h => h
  | j + 1, acc, h => by
    unfold ancs
    refine ancs_sound j _ ?_
    split
    · rename_i hj
      have hA := h j (by simpa using hj)
      split
      · rename_i o ho
        intro i hi
        rcases List.mem_append.1 hi with hi | hi
        · obtain ⟨e, he, rfl⟩ := List.mem_map.1 hi
          obtain ⟨he, hb⟩ := List.mem_filter.1 he
          exact .step hA ho (by simpa using he) hb
        · exact h i hi
      · exact h
    · exact h

def Closed (ops : Array Oper) (listed : Array Bool) : Prop := ∀ j o, listed.getD j false = true → ops[j]? = some o → ∀ e ∈ o.after, Region.binds .any e = true → listed.getD e.on false = true

theorem Closed.start (ops : Array Oper) : Closed ops (Array.replicate ops.size false) := fun j o h => by
  by_cases hj : j < ops.size <;> simp [hj] at h

theorem Closed.set {ops : Array Oper} {listed : Array Bool} (h : Closed ops listed) {i : Nat} (hi : i ∈ Region.ready .any ops listed) : Closed ops (listed.setIfInBounds i true) := fun j o hj ho e he hb => by
  by_cases hij : i = j
  · subst hij
    obtain ⟨_, o', ho', hall⟩ := mem_ready.1 hi
    rw [ho] at ho'
    injection ho' with ho'
    subst ho'
    exact getD_set_true (hall e he hb)
  · rw [getD_set_ne false hij] at hj
    exact getD_set_true (h j o hj ho e he hb)

theorem Closed.anc {ops : Array Oper} {listed : Array Bool} (h : Closed ops listed) {b : Nat} (hr : b ∈ Region.ready .any ops listed) {i : Nat} (ha : Anc ops b i) : i = b ∨ listed.getD i false = true := by
  induction ha with
  | self => exact .inl rfl
  | step hA ho he hb ih =>
    rcases ih with rfl | ih
    · obtain ⟨_, o', ho', hall⟩ := mem_ready.1 hr
      rw [ho] at ho'
      injection ho' with ho'
      subst ho'
      exact .inr (hall _ he hb)
    · exact .inr (h _ _ ih ho _ he hb)

def wpAnyB (P : Program) (ops : Array Oper) (Q : Exit → Act → World → Prop) (S : World → Prop) (b : Nat) : Nat → Array Bool → Act → World → Prop
  | 0, listed, a, w => Region.ready .any ops listed = [] ∧ Q .normal a w
  | fuel + 1, listed, a, w =>
    (Region.ready .any ops listed = [] → Q .normal a w) ∧
    ∀ i ∈ Region.ready .any ops listed, wpOp P ops Q i (fun a' w' => (i = b → wpAny P .any ops Q fuel (listed.setIfInBounds i true) a' w') ∧ (i ≠ b → S w' ∧ wpAnyB P ops Q S b fuel (listed.setIfInBounds i true) a' w')) a w

theorem wpAny_of_B {ops : Array Oper} {Q : Exit → Act → World → Prop} {S : World → Prop} {b : Nat} : ∀ (fuel : Nat) (listed : Array Bool) (a : Act) (w : World), wpAnyB P ops Q S b fuel listed a w → wpAny P .any ops Q fuel listed a w
  | 0, _, _, _, h => h
  | fuel + 1, _, _, _, h => ⟨h.1, fun i hi => wpOp_mono (fun a' w' h' => by
      by_cases hib : i = b
      · exact h'.1 hib
      · exact wpAny_of_B fuel _ a' w' (h'.2 hib).2) (h.2 i hi)⟩

theorem wpAnyB_mono {ops : Array Oper} {Q : Exit → Act → World → Prop} {S S' : World → Prop} {b : Nat} (h : ∀ w, S' w → S w) :
    ∀ (fuel : Nat) (listed : Array Bool) (a : Act) (w : World), wpAnyB P ops Q S' b fuel listed a w → wpAnyB P ops Q S b fuel listed a w
  | 0, _, _, _, k => k
  | fuel + 1, _, _, _, k => ⟨k.1, fun i hi => wpOp_mono (fun a' w' h' => ⟨h'.1, fun hib => ⟨h _ (h'.2 hib).1, wpAnyB_mono h fuel _ a' w' (h'.2 hib).2⟩⟩) (k.2 i hi)⟩

theorem wpAnyB_done {ops : Array Oper} {Q : Exit → Act → World → Prop} {S : World → Prop} {b : Nat} {listed : Array Bool} {a : Act} {w : World} (hr : Region.ready .any ops listed = []) (h : Q .normal a w) :
    ∀ fuel, wpAnyB P ops Q S b fuel listed a w
  | 0 => ⟨hr, h⟩
  | _ + 1 => ⟨fun _ => h, by rw [hr]; simp⟩

theorem wpAnyB_first {ops : Array Oper} {Q : Exit → Act → World → Prop} {S : World → Prop} {b : Nat} {i : Nat} {oi : Oper} {v : Value} (hi : ops[i]? = some oi) (hsel : ∀ (j : Nat) (o : Oper) cs b, ops[j]? = some o → o.op ≠ .select cs b)
    (hQ : ∀ c a w, Q (.panic c) (a.put oi.dst v) w → Q (.panic c) a w) (hbar : b ≠ i ∧ ∀ listed, Closed ops listed → listed.getD i false = false → b ∉ Region.ready .any ops listed) :
    ∀ (fuel : Nat) (listed : Array Bool) (a : Act) (w : World),
      (∀ j oj, ops[j]? = some oj → j ≠ i → listed.getD j true = false → (∀ e ∈ oj.after, Region.binds .any e = true → e.on ≠ i) → oi.apart ops oj = true) →
      i ∈ Region.ready .any ops listed → Closed ops listed → YieldsIf P ops S oi v a → S w →
      wpAnyB P ops Q S b fuel (listed.setIfInBounds i true) (a.put oi.dst v) w → wpAnyB P ops Q S b (fuel + 1) listed a w := by
  intro fuel
  induction fuel with
  | zero =>
    intro listed a w _ hr hcl hy hS H
    refine ⟨fun h => (by rw [h] at hr; cases hr), fun j hj => ?_⟩
    by_cases hji : j = i
    · subst hji; exact hy.wpOp hi hS ⟨fun e => absurd e.symm hbar.1, fun _ => ⟨hS, H⟩⟩
    · have := ready_mono hj hji
      rw [H.1] at this
      cases this
  | succ fuel ih =>
    intro listed a w hfree hr hcl hy hS H
    refine ⟨fun h => (by rw [h] at hr; cases hr), fun j hj => ?_⟩
    by_cases hji : j = i
    · subst hji; exact hy.wpOp hi hS ⟨fun e => absurd e.symm hbar.1, fun _ => ⟨hS, H⟩⟩
    · have hun : listed.getD i false = false := by
        have h0 := (mem_ready.1 hr).1
        rcases Nat.lt_or_ge i listed.size with h' | h'
        · simpa [h'] using h0
        · simp [Array.getElem?_eq_none h'] at h0
      have hjb : j ≠ b := fun e => hbar.2 listed hcl hun (e ▸ hj)
      have h1 := H.2 j (ready_mono hj hji)
      obtain ⟨hjun, oj, hoj, hall⟩ := mem_ready.1 hj
      have hnot : ∀ e ∈ oj.after, Region.binds .any e = true → e.on ≠ i := fun e he hb heq => by
        have h1 := hall e he hb
        rw [heq, hun] at h1
        cases h1
      have h2 := wpOp_putIf hoj (hfree j oj hoj hji hjun hnot) (fun cs b => hsel i oi cs b hi) (fun cs b => hsel j oj cs b hoj) hQ hy h1
      have hfree' : ∀ k ok, ops[k]? = some ok → k ≠ i → (listed.setIfInBounds j true).getD k true = false →
          (∀ e ∈ ok.after, Region.binds .any e = true → e.on ≠ i) → oi.apart ops ok = true := fun k ok hk hki hun hno => by
        refine hfree k ok hk hki ?_ hno
        by_cases hjk : j = k
        · subst hjk; exact hjun
        · rw [getD_set_ne true hjk] at hun; exact hun
      refine wpOp_mono (fun a' w' h3 => ⟨fun e => absurd e hjb, fun _ => ?_⟩) h2
      obtain ⟨h4, h5⟩ := h3
      have h6 := h5.2 hjb
      refine ⟨h6.1, ih (listed.setIfInBounds j true) a' w' hfree' (ready_mono hr (Ne.symm hji)) (hcl.set hj) h4 h6.1 ?_⟩
      rw [Array.setIfInBounds_comm _ _ hji]
      exact h6.2

def nextBar (ops : Array Oper) (bars : List Nat) : List Nat → Nat
  | [] => ops.size
  | i :: rest => if bars.contains rest.length then i else nextBar ops bars rest

theorem nextBar_yes {ops : Array Oper} {bars : List Nat} {i : Nat} {rest : List Nat} (h : bars.contains rest.length = true) : nextBar ops bars (i :: rest) = i := by
  rw [nextBar, if_pos h]
theorem nextBar_no {ops : Array Oper} {bars : List Nat} {i : Nat} {rest : List Nat} (h : bars.contains rest.length = false) : nextBar ops bars (i :: rest) = nextBar ops bars rest := by
  rw [nextBar, if_neg (by rw [h]; simp)]

def planOk (ops : Array Oper) (bars : List Nat) : List Nat → Array Bool → Bool
  | [], listed => (Region.ready .any ops listed).isEmpty
  | i :: rest, listed =>
    (match ops[i]? with
     | none => false
     | some o => (Region.ready .any ops listed).contains i &&
        (if wildKind o.op then Region.ready .any ops listed == [i]
         else Region.free .any ops listed i && !bars.contains rest.length && (Nat.beq (nextBar ops bars rest) ops.size || (!Nat.beq (nextBar ops bars rest) i && (ancs ops (nextBar ops bars rest + 1) [nextBar ops bars rest]).contains i)))) &&
    planOk ops bars rest (listed.setIfInBounds i true)

def planOps (ops : Array Oper) (plan : List Nat) : List Oper := plan.map fun i => ops.getD i default

theorem ready_lt {ops : Array Oper} {listed : Array Bool} {j : Nat} (h : j ∈ Region.ready .any ops listed) : j < ops.size := by
  obtain ⟨_, o, ho, _⟩ := mem_ready.1 h
  exact (Array.getElem?_eq_some_iff.1 ho).1

theorem Rg.any {ops : Array Oper} {bars : List Nat} {K : Kn} (hs : Region.noSelect ops = true) : ∀ (plan : List Nat) (L : Env) (w : World) (listed : Array Bool) (fuel : Nat),
    planOk ops bars plan listed = true → plan.length ≤ fuel → Closed ops listed → Rg P ops n (some bars) K (planOps ops plan) L w → ∀ a, Fr n a L →
    wpAnyB P ops (Tq n K X) (Below w.heap.size w) (nextBar ops bars plan) fuel listed a w := by
  intro plan
  induction plan with
  | nil =>
    intro L w listed fuel hp hf hcl h a ha
    have hr : Region.ready .any ops listed = [] := by simpa [planOk] using hp
    cases h with
    | done h => exact wpAnyB_done hr ⟨_, ha, h⟩ _
  | cons i plan ih =>
    intro L w listed fuel hp hf hcl h a ha
    obtain ⟨fuel, rfl⟩ : ∃ m, fuel = m + 1 := ⟨fuel - 1, by simp at hf; omega⟩
    have hf' : plan.length ≤ fuel := by simpa using hf
    simp only [planOk, Bool.and_eq_true] at hp
    obtain ⟨hp, hp'⟩ := hp
    cases ho : ops[i]? with
    | none => simp [ho] at hp
    | some o =>
      simp only [ho, Bool.and_eq_true] at hp
      obtain ⟨hr, hp⟩ := hp
      have hri : i ∈ Region.ready .any ops listed := by simpa using hr
      have hcl' := hcl.set hri
      have hoo : ops.getD i default = o := by simp [Array.getD_eq_getD_getElem?, ho]
      have hlen : (planOps ops plan).length = plan.length := by simp [planOps]
      have hops : planOps ops (i :: plan) = o :: planOps ops plan := by simp only [planOps, List.map_cons, hoo]
      rw [hops] at h
      have tameCase : wildKind o.op = false → ∀ v, (∀ a, Fr n a L → YieldsIf P ops (Below w.heap.size w) o v a) → Rg P ops n (some bars) K (planOps ops plan) (putE o.dst v L) w → dOk n o.dst = true →
          wpAnyB P ops (Tq n K X) (Below w.heap.size w) (nextBar ops bars (i :: plan)) (fuel + 1) listed a w := by
        intro hk v hy k hd
        rw [if_neg (by simp [hk])] at hp
        simp only [Bool.and_eq_true, Bool.not_eq_true', Bool.or_eq_true] at hp
        obtain ⟨⟨hfr, hnb⟩, hbar⟩ := hp
        have hnext : nextBar ops bars (i :: plan) = nextBar ops bars plan := nextBar_no hnb
        rw [hnext]
        refine wpAnyB_first ho (Region.noSelect_spec hs) (fun _ _ _ h => h) ?_ fuel listed a w (Region.free_spec ho hfr) hri hcl (hy a ha) (Below.refl _ _) (ih _ w _ fuel hp' hf' hcl' k _ (ha.put hd _))
        rcases hbar with hbar | ⟨hne, hanc⟩
        · have hb := Nat.eq_of_beq_eq_true hbar
          have hil := ready_lt hri
          exact ⟨by omega, fun l _ _ hm => by have := ready_lt hm; omega⟩
        · have hne' : nextBar ops bars plan ≠ i := fun e => by rw [e, Nat.beq_refl] at hne; cases hne
          refine ⟨hne', fun l hl hi hm => ?_⟩
          have hself : ∀ j ∈ [nextBar ops bars plan], Anc ops (nextBar ops bars plan) j := fun j hj => by
            have hj' : j = nextBar ops bars plan := by simpa using hj
            rw [hj']
            exact Anc.self
          have hA := ancs_sound (b := nextBar ops bars plan) (nextBar ops bars plan + 1) _ hself i (by simpa using hanc)
          rcases hl.anc hm hA with e | e
          · exact hne' e.symm
          · rw [hi] at e; cases e
      have wildCase : wildKind o.op = true → ∀ R : Value → World → Prop, Region.wanted o (yielded ops a.tmps) = true → Wl P n o L w R → (bars.contains plan.length = false → ∀ v w', R v w' → Below w.heap.size w w') → dOk n o.dst = true →
          (∀ v w', R v w' → Rg P ops n (some bars) K (planOps ops plan) (putE o.dst v L) w') → wpAnyB P ops (Tq n K X) (Below w.heap.size w) (nextBar ops bars (i :: plan)) (fuel + 1) listed a w := by
        intro hk R hg h hb hd k
        rw [if_pos hk] at hp
        have hrs : Region.ready .any ops listed = [i] := by simpa using hp
        refine ⟨fun h0 => (by rw [h0] at hrs; cases hrs), ?_⟩
        intro j hj
        obtain rfl : j = i := by rw [hrs] at hj; simpa using hj
        unfold wpOp
        simp only [ho]
        rw [if_pos hg]
        refine .inl (h a ha _ _ fun v w' hv => ?_)
        have hih := ih _ w' _ fuel hp' hf' hcl' (k v w' hv) _ (ha.put hd v)
        cases hbc : bars.contains plan.length with
        | true =>
          have hnext : nextBar ops bars (j :: plan) = j := nextBar_yes hbc
          rw [hnext]
          exact ⟨fun _ => wpAny_of_B _ _ _ _ hih, fun e => absurd rfl e⟩
        | false =>
          have hw := hb hbc v w' hv
          have hnext : nextBar ops bars (j :: plan) = nextBar ops bars plan := nextBar_no hbc
          rw [hnext]
          exact ⟨fun _ => wpAny_of_B _ _ _ _ hih, fun _ => ⟨hw, wpAnyB_mono (fun x hx => hw.trans (hx.mono hw.size)) _ _ _ _ hih⟩⟩
      cases h with
      | skip h hd k =>
        cases hk : wildKind o.op with
        | false => exact tameCase hk undef (fun a ha => .inr ⟨h.elim (fun h => h.wanted ha) (fun h => h.wanted ha), rfl⟩) k hd
        | true =>
          rw [if_pos hk] at hp
          have hrs : Region.ready .any ops listed = [i] := by simpa using hp
          refine ⟨fun h0 => (by rw [h0] at hrs; cases hrs), ?_⟩
          intro j hj
          obtain rfl : j = i := by rw [hrs] at hj; simpa using hj
          unfold wpOp
          simp only [ho]
          have hn : Region.wanted o (yielded ops a.tmps) = false := h.elim (fun h => h.wanted ha) (fun h => h.wanted ha)
          rw [if_neg (by simp [hn])]
          have hih := ih _ w _ fuel hp' hf' hcl' k _ (ha.put hd _)
          refine ⟨fun _ => wpAny_of_B _ _ _ _ hih, fun e => ⟨Below.refl _ _, ?_⟩⟩
          have hnext : nextBar ops bars (j :: plan) = nextBar ops bars plan := by
            by_cases hbc : bars.contains plan.length = true
            · exact absurd (nextBar_yes hbc).symm e
            · exact nextBar_no (by simpa using hbc)
          rw [hnext]
          exact hih
      | tame v hg hw h hd k => exact tameCase hw v (fun a ha => .inl ⟨hg.wanted ha, fun w' hw' => h a ha w' hw'⟩) k hd
      | wild R hg h hb hd k =>
        have hbb := hb bars rfl
        rw [hlen] at hbb
        exact wildCase hbb.1 R (hg.wanted ha) h hbb.2 hd k

theorem Wp.regionD {id : Nat} {ops : Array Oper} (plan : List Nat) (bars : List Nat) (hm : P.follows .mixedOrders = true) (hs : Region.noSelect ops = true)
    (hp : (planOk ops bars plan (Array.replicate ops.size false) && Nat.ble plan.length ops.size) = true)
    (h : Rg P ops n (some bars) N (planOps ops plan) L w.drew) : Wp P n (.region id ops true) N X L w := fun a ha => by
  simp only [Bool.and_eq_true] at hp
  exact wp_region_any hm (wpAny_of_B _ _ _ _ (h.any hs plan L w.drew _ ops.size hp.1 (Nat.le_of_ble_eq_true hp.2) (Closed.start ops) a ha))
end
end Go.Gx
