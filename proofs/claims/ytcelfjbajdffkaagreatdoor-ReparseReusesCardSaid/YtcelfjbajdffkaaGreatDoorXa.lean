/- The engine: a light symbolic execution of the model's code over an environment of live slots. Generic in the program. -/
import Derived.WalkKit
import Derived.KernelRfl
import Derived.OrdersHeld
import Derived.Deep.LoopGhost
import Derived.Lib.AppendStr
import Derived.Lib.Builder
import Derived.Lib.UnsafeStr
import Derived.Laws.OwnMore
import Derived.OwnWalk
import Derived.Lib.LazyBuf
import Derived.Laws.CopyRow
import Derived.Laws.IdiomStrings
import Derived.Laws.MakeOwn
import Derived.Lib.ConvBytes
import Derived.WideKeyRuns
import Derived.ChangeMaps5
set_option linter.unusedVariables false
set_option linter.unusedSimpArgs false
namespace Go.Gx
open Go.RowKit
abbrev Env := List (Nat × Value)
def look : Env → Nat → Option Value
 | [],_ => none
 | (t,v) :: L,s => match Nat.beq t s with
  | true => some v
  | false => look L s
def evO (L : Env) : Operand → Option Value
 | .tmp t => look L t
 | .const v => some v
 | .global g => some (.pointer (some ⟨g,0,none⟩))
 | .func f => some (.func (.func f) #[] #[])
structure Fr (n : Nat) (a : Act) (L : Env) : Prop where
 defers : a.defers = []
 size : a.tmps.size = n
 vals : ∀ s v,look L s = some v → s < n ∧ a.tmps.getD s undef = v
def putE (d : Option Tmp) (v : Value) (L : Env) : Env := match d with
 | some d => (d,v) :: L
 | none => L
def dOk (n : Nat) (d : Option Tmp) : Bool := match d with
 | some d => Nat.blt d n
 | none => true
theorem Fr.put {n : Nat} {a : Act} {L : Env} (h : Fr n a L) {d : Option Tmp} (hd : dOk n d = true) (v : Value) : Fr n (a.put d v) (putE d v L) := by
 cases d with
 | none => exact h
 | some d =>
  have hd' : d < n := by simpa [dOk,Nat.blt_eq] using hd
  refine ⟨h.defers,by simp [Act.put,h.size],fun s u hs => ?_⟩
  simp only [putE,look] at hs
  split at hs
  ·rename_i he
   have := Nat.eq_of_beq_eq_true he
   subst this
   injection hs with hs
   subst hs
   exact ⟨hd',by simp [Act.put,Array.getD_eq_getD_getElem?,h.size,hd']⟩
  ·rename_i he
   have hne : d ≠ s := fun e => by subst e; simp at he
   have := h.vals s u hs
   refine ⟨this.1,?_⟩
   rw [← this.2]
   simp [Act.put,Array.getElem?_setIfInBounds_ne hne]
theorem Fr.eval {n : Nat} {a : Act} {L : Env} (h : Fr n a L) {x : Operand} {v : Value} (hx : evO L x = some v) : a.eval x = v := by
 cases x with
 | tmp t => exact (h.vals t v hx).2
 | const u => simpa [evO,Act.eval] using hx
 | global g => simpa [evO,Act.eval] using hx
 | func f => simpa [evO,Act.eval] using hx
def Sub (M L : Env) : Prop := ∀ s v,look M s = some v → look L s = some v
theorem Sub.nil {L : Env} : Sub [] L := fun _ _ h => by cases h
theorem Sub.cons {s : Nat} {v : Value} {M L : Env} (h : look L s = some v) (k : Sub M L) : Sub ((s,v) :: M) L := fun t u ht => by
 simp only [look] at ht
 split at ht
 ·rename_i he
  have := Nat.eq_of_beq_eq_true he
  subst this
  injection ht with ht
  subst ht
  exact h
 ·exact k t u ht
theorem Sub.refl (L : Env) : Sub L L := fun _ _ h => h
theorem Sub.trans {A B C : Env} (h : Sub A B) (k : Sub B C) : Sub A C := fun s v hs => k s v (h s v hs)
theorem Fr.sub {n : Nat} {a : Act} {M L : Env} (h : Fr n a L) (k : Sub M L) : Fr n a M := ⟨h.defers,h.size,fun s v hs => h.vals s v (k s v hs)⟩
abbrev Kn := Env → World → Prop
def Tq (n : Nat) (N : Kn) (X : Exit → Kn) : Exit → Act → World → Prop
 | .normal,a,w => ∃ L,Fr n a L ∧ N L w
 | .panic _,_,_ => False
 | .outgrown,_,_ => False
 | e,a,w => ∃ L,Fr n a L ∧ X e L w
def Wp (P : Program) (n : Nat) (c : Code) (N : Kn) (X : Exit → Kn) (L : Env) (w : World) : Prop :=
 ∀ a,Fr n a L → c.wp P (Tq n N X) a w
section
variable {P : Program} {n : Nat} {N : Kn} {X : Exit → Kn} {L : Env} {w : World}
theorem Wp.sub {c : Code} {M : Env} (h : Sub M L) (k : Wp P n c N X M w) : Wp P n c N X L w := fun a ha => k a (ha.sub h)
theorem Wp.mono {c : Code} {N' : Kn} {X' : Exit → Kn} (h : Wp P n c N X L w) (hN : ∀ L w,N L w → N' L w) (hX : ∀ e L w,X e L w → X' e L w) : Wp P n c N' X' L w :=
 fun a ha => wp_mono (h a ha) fun e a w q => by
  cases e <;> first
   | exact q
   | (obtain ⟨L,h1,h2⟩ := q; first | exact ⟨L,h1,hN _ _ h2⟩ | exact ⟨L,h1,hX _ _ _ h2⟩)
theorem Wp.skip (h : N L w) : Wp P n .skip N X L w := fun a ha => wp_skip (Q := Tq n N X) ⟨L,ha,h⟩
theorem Wp.ret (h : X .ret L w) : Wp P n .ret N X L w := fun a ha => wp_ret (Q := Tq n N X) ⟨L,ha,h⟩
theorem Wp.exit {i : Nat} (h : X (.exit i) L w) : Wp P n (.exit i) N X L w := fun a ha => wp_exit (Q := Tq n N X) ⟨L,ha,h⟩
theorem Wp.goto {i : Nat} (h : X (.goto i) L w) : Wp P n (.goto i) N X L w := fun a ha => wp_goto (Q := Tq n N X) ⟨L,ha,h⟩
theorem Wp.seq {x y : Code} (h : Wp P n x (fun L w => Wp P n y N X L w) X L w) : Wp P n (.seq x y) N X L w := fun a ha =>
 wp_seq (wp_mono (h a ha) fun e a w q => by
  cases e <;> first
   | exact q
   | (obtain ⟨L,h1,h2⟩ := q; exact h2 a h1))
def Xb (i : Nat) (N : Kn) (X : Exit → Kn) : Exit → Kn
 | .exit j => match Nat.beq j i with
  | true => N
  | false => X (.exit j)
 | e => X e
theorem Wp.block {i : Nat} {c : Code} (h : Wp P n c N (Xb i N X) L w) : Wp P n (.block i c) N X L w := fun a ha =>
  wp_block (wp_mono (h a ha) fun e a w q => by
    cases e <;> simp only [Exit.inBlock] <;> first
      | exact q
      | (rename_i j
         obtain ⟨L, h1, h2⟩ := q
         by_cases hj : j = i
         · subst hj
           simp only [Xb, Nat.beq_refl] at h2
           simp only [if_true]
           exact ⟨L, h1, h2⟩
         · have hb : Nat.beq j i = false := by
             cases hb : Nat.beq j i
             · rfl
             · exact absurd (Nat.eq_of_beq_eq_true hb) hj
           simp only [Xb, hb] at h2
           simp only [hj, if_false]
           exact ⟨L, h1, h2⟩))
theorem Wp.condT {c : Operand} {x y : Code} (hc : evO L c = some (.bool true)) (h : Wp P n x N X L w) : Wp P n (.cond c x y) N X L w := fun a ha =>
 wp_cond_true (ha.eval hc) (h a ha)
theorem Wp.condF {c : Operand} {x y : Code} (hc : evO L c = some (.bool false)) (h : Wp P n y N X L w) : Wp P n (.cond c x y) N X L w := fun a ha =>
 wp_cond_false (ha.eval hc) (h a ha)
theorem Wp.cond {c : Operand} {x y : Code} {b : Bool} (hc : evO L c = some (.bool b)) (h : b = true → Wp P n x N X L w) (h' : b = false → Wp P n y N X L w) : Wp P n (.cond c x y) N X L w := fun a ha =>
 wp_cond_split (ha.eval hc) (fun e => h e a ha) (fun e => h' e a ha)
theorem Wp.loop {c : Code} {ι : Type} (E : ι → Env) (I : ι → World → Prop) (μ : ι → Nat) (i0 : ι) (h0 : Sub (E i0) L) (hi : I i0 w)
    (round : ∀ i w, I i w → Wp P n c (fun L' w' => ∃ j, Sub (E j) L' ∧ I j w' ∧ μ j < μ i) X (E i) w) : Wp P n (.loop c) N X L w := fun a ha => by
  refine wp_loop_ghost (fun m a w => ∃ i, μ i = m ∧ Fr n a (E i) ∧ I i w) (μ i0) ⟨i0, rfl, ha.sub h0, hi⟩ ?_
  rintro m a w ⟨i, rfl, hF, hI⟩
  refine wp_mono (round i w hI a hF) fun e a w q => ?_
  cases e <;> first
    | exact q
    | (obtain ⟨L', h1, j, h2, h3, h4⟩ := q
       exact ⟨μ j, h4, j, rfl, h1.sub h2, h3⟩)
def gYes (ops : Array Oper) (o : Oper) (L : Env) : Prop := match o.guard with
 | none => True
 | some (j,want) => ∃ t,(ops[j]?).bind (·.dst) = some t ∧ look L t = some (.bool want)
def gNo (ops : Array Oper) (o : Oper) (L : Env) : Prop := match o.guard with
 | none => False
 | some (j,want) => ∃ t b,(ops[j]?).bind (·.dst) = some t ∧ look L t = some (.bool b) ∧ (b == want) = false
def gOff (ops : Array Oper) (o : Oper) (L : Env) : Prop := match o.guard with
 | none => False
 | some (j,_) => ∃ t,(ops[j]?).bind (·.dst) = some t ∧ look L t = some undef
theorem yielded_of {ops : Array Oper} {a : Act} (ha : Fr n a L) {j t : Nat} {v : Value} (h1 : (ops[j]?).bind (·.dst) = some t) (h2 : look L t = some v) :
  yielded ops a.tmps j = match v with | .bool b => some b | _ => none := by
 obtain ⟨h3,h4⟩ := ha.vals t v h2
 have : a.tmps[t]? = some v := by
  rw [Array.getD_eq_getD_getElem?] at h4
  rw [Array.getElem?_eq_getElem (by rw [ha.size]; exact h3)] at h4 ⊢
  simpa using h4
 simp only [yielded,h1,Option.bind_some,this]
 cases v <;> rfl
theorem gYes.wanted {ops : Array Oper} {o : Oper} {a : Act} (h : gYes ops o L) (ha : Fr n a L) : Region.wanted o (yielded ops a.tmps) = true := by
 unfold gYes at h
 unfold Region.wanted
 split at h
 ·rename_i hg; simp [hg]
 ·rename_i j want hg
  obtain ⟨t,h1,h2⟩ := h
  simp [hg,yielded_of ha h1 h2]
theorem gNo.wanted {ops : Array Oper} {o : Oper} {a : Act} (h : gNo ops o L) (ha : Fr n a L) : Region.wanted o (yielded ops a.tmps) = false := by
 unfold gNo at h
 unfold Region.wanted
 split at h
 ·exact h.elim
 ·rename_i j want hg
  obtain ⟨t,b,h1,h2,h3⟩ := h
  have : (some b == some want) = false := by simpa using h3
  simp [hg,yielded_of ha h1 h2]
  simpa using h3
theorem gOff.wanted {ops : Array Oper} {o : Oper} {a : Act} (h : gOff ops o L) (ha : Fr n a L) : Region.wanted o (yielded ops a.tmps) = false := by
 unfold gOff at h
 unfold Region.wanted
 split at h
 ·exact h.elim
 ·rename_i j want hg
  obtain ⟨t,h1,h2⟩ := h
  simp [hg,yielded_of ha h1 h2,undef]
def Tm (P : Program) (n : Nat) (o : Oper) (L : Env) (w : World) (v : Value) : Prop :=
 ∀ a,Fr n a L → ∀ w',Below w.heap.size w w' → (execOp a.eval o).run P w' = .ok (.value v) w'
def Wl (P : Program) (n : Nat) (o : Oper) (L : Env) (w : World) (R : Value → World → Prop) : Prop :=
 ∀ a,Fr n a L → ∀ (Q : Exit → Act → World → Prop) (next : Act → World → Prop),(∀ v w',R v w' → next (a.put o.dst v) w') → o.wp P a w next Q
def wildKind : Op → Bool
 | .alloc _ | .box .. | .buildSlice .. | .store .. | .insert .. => true
 | .makeMap .. | .makeSlice .. | .mapUpdate .. | .mapEntry .. | .entryStore .. => true
 | .range .. | .next .. | .entry .. | .panic .. | .defer .. | .go .. => true
 | .call { callee := .builtin .len,.. } | .call { callee := .builtin .cap,.. } | .call { callee := .builtin .min,.. } | .call { callee := .builtin .max,.. } => false
 | .call _ => true
 | _ => false
inductive Rg (P : Program) (ops : Array Oper) (n : Nat) (dr : Option (List Nat)) (K : Kn) : List Oper → Env → World → Prop
 | done {L : Env} {w : World} (h : K L w) : Rg P ops n dr K [] L w
 | skip {o : Oper} {rest : List Oper} {L : Env} {w : World} (h : gNo ops o L ∨ gOff ops o L) (hd : dOk n o.dst = true) (k : Rg P ops n dr K rest (putE o.dst undef L) w) : Rg P ops n dr K (o :: rest) L w
 | tame {o : Oper} {rest : List Oper} {L : Env} {w : World} (v : Value) (hg : gYes ops o L) (hw : wildKind o.op = false) (h : Tm P n o L w v) (hd : dOk n o.dst = true)
   (k : Rg P ops n dr K rest (putE o.dst v L) w) : Rg P ops n dr K (o :: rest) L w
 | wild {o : Oper} {rest : List Oper} {L : Env} {w : World} (R : Value → World → Prop) (hg : gYes ops o L) (h : Wl P n o L w R) (hb : ∀ bars,dr = some bars → wildKind o.op = true ∧ (bars.contains rest.length = false → ∀ v w',R v w' → Below w.heap.size w w')) (hd : dOk n o.dst = true)
   (k : ∀ v w',R v w' → Rg P ops n dr K rest (putE o.dst v L) w') : Rg P ops n dr K (o :: rest) L w
theorem Tm.wl {o : Oper} {v : Value} (h : Tm P n o L w v) : Wl P n o L w (fun u w' => u = v ∧ w' = w) := fun a ha Q next hn => by
 unfold Oper.wp
 rw [h a ha w (Below.refl _ _)]
 exact hn v w ⟨rfl,rfl⟩
theorem Rg.list {ops : Array Oper} {dr : Option (List Nat)} {K : Kn} {l : List Oper} (h : Rg P ops n dr K l L w) : ∀ a,Fr n a L → wpList P ops (Tq n K X) l a w := by
 induction h with
 | done h => exact fun a ha => ⟨_,ha,h⟩
 | skip h hd k ih =>
  intro a ha
  unfold wpList
  have : Region.wanted _ (yielded ops a.tmps) = false := h.elim (fun h => h.wanted ha) (fun h => h.wanted ha)
  rw [if_neg (by simp [this])]
  exact ih _ (ha.put hd _)
 | tame v hg hw h hd k ih =>
  intro a ha
  unfold wpList
  rw [if_pos (hg.wanted ha)]
  exact .inl (h.wl a ha _ _ fun u w' ⟨h1,h2⟩ => by subst h1; subst h2; exact ih _ (ha.put hd _))
 | wild R hg h hb hd k ih =>
  intro a ha
  unfold wpList
  rw [if_pos (hg.wanted ha)]
  exact .inl (h a ha _ _ fun u w' hr => ih u w' hr _ (ha.put hd _))
theorem Wp.region {id : Nat} {l : List Oper} (h : Rg P l.toArray n none N l L w) : Wp P n (.region id l.toArray false) N X L w := fun a ha =>
 wp_region_lit (h.list a ha)
def ancs (ops : Array Oper) : Nat → List Nat → List Nat
 | 0,acc => acc
 | j + 1,acc => ancs ops j (if acc.contains j then (match ops[j]? with | some o => (o.after.toList.filter (Region.binds .any ·)).map (·.on) ++ acc | none => acc) else acc)
inductive Anc (ops : Array Oper) (b : Nat) : Nat → Prop
 | self : Anc ops b b
 | step {j : Nat} {o : Oper} {e : Edge} (h : Anc ops b j) (ho : ops[j]? = some o) (he : e ∈ o.after) (hb : Region.binds .any e = true) : Anc ops b e.on
theorem ancs_sound {ops : Array Oper} {b : Nat} : ∀ (j : Nat) (acc : List Nat),(∀ i ∈ acc,Anc ops b i) → ∀ i ∈ ancs ops j acc,Anc ops b i
 | 0,_,h => h
 | j + 1,acc,h => by
  unfold ancs
  refine ancs_sound j _ ?_
  split
  ·rename_i hj
   have hA := h j (by simpa using hj)
   split
   ·rename_i o ho
    intro i hi
    rcases List.mem_append.1 hi with hi | hi
    ·obtain ⟨e,he,rfl⟩ := List.mem_map.1 hi
     obtain ⟨he,hb⟩ := List.mem_filter.1 he
     exact .step hA ho (by simpa using he) hb
    ·exact h i hi
   ·exact h
  ·exact h
def Closed (ops : Array Oper) (listed : Array Bool) : Prop := ∀ j o,listed.getD j false = true → ops[j]? = some o → ∀ e ∈ o.after,Region.binds .any e = true → listed.getD e.on false = true
theorem Closed.start (ops : Array Oper) : Closed ops (Array.replicate ops.size false) := fun j o h => by
 by_cases hj : j < ops.size <;> simp [hj] at h
theorem Closed.set {ops : Array Oper} {listed : Array Bool} (h : Closed ops listed) {i : Nat} (hi : i ∈ Region.ready .any ops listed) : Closed ops (listed.setIfInBounds i true) := fun j o hj ho e he hb => by
 by_cases hij : i = j
 ·subst hij
  obtain ⟨_,o',ho',hall⟩ := mem_ready.1 hi
  rw [ho] at ho'
  injection ho' with ho'
  subst ho'
  exact getD_set_true (hall e he hb)
 ·rw [getD_set_ne false hij] at hj
  exact getD_set_true (h j o hj ho e he hb)
theorem Closed.anc {ops : Array Oper} {listed : Array Bool} (h : Closed ops listed) {b : Nat} (hr : b ∈ Region.ready .any ops listed) {i : Nat} (ha : Anc ops b i) : i = b ∨ listed.getD i false = true := by
 induction ha with
 | self => exact .inl rfl
 | step hA ho he hb ih =>
  rcases ih with rfl | ih
  ·obtain ⟨_,o',ho',hall⟩ := mem_ready.1 hr
   rw [ho] at ho'
   injection ho' with ho'
   subst ho'
   exact .inr (hall _ he hb)
  ·exact .inr (h _ _ ih ho _ he hb)
def wpAnyB (P : Program) (ops : Array Oper) (Q : Exit → Act → World → Prop) (S : World → Prop) (b : Nat) : Nat → Array Bool → Act → World → Prop
 | 0,listed,a,w => Region.ready .any ops listed = [] ∧ Q .normal a w
 | fuel + 1,listed,a,w =>
  (Region.ready .any ops listed = [] → Q .normal a w) ∧
  ∀ i ∈ Region.ready .any ops listed,wpOp P ops Q i (fun a' w' => (i = b → wpAny P .any ops Q fuel (listed.setIfInBounds i true) a' w') ∧ (i ≠ b → S w' ∧ wpAnyB P ops Q S b fuel (listed.setIfInBounds i true) a' w')) a w
theorem wpAny_of_B {ops : Array Oper} {Q : Exit → Act → World → Prop} {S : World → Prop} {b : Nat} : ∀ (fuel : Nat) (listed : Array Bool) (a : Act) (w : World),wpAnyB P ops Q S b fuel listed a w → wpAny P .any ops Q fuel listed a w
 | 0,_,_,_,h => h
 | fuel + 1,_,_,_,h => ⟨h.1,fun i hi => wpOp_mono (fun a' w' h' => by
   by_cases hib : i = b
   ·exact h'.1 hib
   ·exact wpAny_of_B fuel _ a' w' (h'.2 hib).2) (h.2 i hi)⟩
theorem wpAnyB_mono {ops : Array Oper} {Q : Exit → Act → World → Prop} {S S' : World → Prop} {b : Nat} (h : ∀ w,S' w → S w) :
  ∀ (fuel : Nat) (listed : Array Bool) (a : Act) (w : World),wpAnyB P ops Q S' b fuel listed a w → wpAnyB P ops Q S b fuel listed a w
 | 0,_,_,_,k => k
 | fuel + 1,_,_,_,k => ⟨k.1,fun i hi => wpOp_mono (fun a' w' h' => ⟨h'.1,fun hib => ⟨h _ (h'.2 hib).1,wpAnyB_mono h fuel _ a' w' (h'.2 hib).2⟩⟩) (k.2 i hi)⟩
theorem wpAnyB_done {ops : Array Oper} {Q : Exit → Act → World → Prop} {S : World → Prop} {b : Nat} {listed : Array Bool} {a : Act} {w : World} (hr : Region.ready .any ops listed = []) (h : Q .normal a w) :
  ∀ fuel,wpAnyB P ops Q S b fuel listed a w
 | 0 => ⟨hr,h⟩
 | _ + 1 => ⟨fun _ => h,by rw [hr]; simp⟩
theorem wpAnyB_first {ops : Array Oper} {Q : Exit → Act → World → Prop} {S : World → Prop} {b : Nat} {i : Nat} {oi : Oper} {v : Value} (hi : ops[i]? = some oi) (hsel : ∀ (j : Nat) (o : Oper) cs b,ops[j]? = some o → o.op ≠ .select cs b)
  (hQ : ∀ c a w,Q (.panic c) (a.put oi.dst v) w → Q (.panic c) a w) (hbar : b ≠ i ∧ ∀ listed,Closed ops listed → listed.getD i false = false → b ∉ Region.ready .any ops listed) :
  ∀ (fuel : Nat) (listed : Array Bool) (a : Act) (w : World),
   (∀ j oj,ops[j]? = some oj → j ≠ i → listed.getD j true = false → (∀ e ∈ oj.after,Region.binds .any e = true → e.on ≠ i) → oi.apart ops oj = true) →
   i ∈ Region.ready .any ops listed → Closed ops listed → YieldsIf P ops S oi v a → S w →
   wpAnyB P ops Q S b fuel (listed.setIfInBounds i true) (a.put oi.dst v) w → wpAnyB P ops Q S b (fuel + 1) listed a w := by
 intro fuel
 induction fuel with
 | zero =>
  intro listed a w _ hr hcl hy hS H
  refine ⟨fun h => (by rw [h] at hr; cases hr),fun j hj => ?_⟩
  by_cases hji : j = i
  ·subst hji; exact hy.wpOp hi hS ⟨fun e => absurd e.symm hbar.1,fun _ => ⟨hS,H⟩⟩
  ·have := ready_mono hj hji
   rw [H.1] at this
   cases this
 | succ fuel ih =>
  intro listed a w hfree hr hcl hy hS H
  refine ⟨fun h => (by rw [h] at hr; cases hr),fun j hj => ?_⟩
  by_cases hji : j = i
  ·subst hji; exact hy.wpOp hi hS ⟨fun e => absurd e.symm hbar.1,fun _ => ⟨hS,H⟩⟩
  ·have hun : listed.getD i false = false := by
    have h0 := (mem_ready.1 hr).1
    rcases Nat.lt_or_ge i listed.size with h' | h'
    ·simpa [h'] using h0
    ·simp [Array.getElem?_eq_none h'] at h0
   have hjb : j ≠ b := fun e => hbar.2 listed hcl hun (e ▸ hj)
   have h1 := H.2 j (ready_mono hj hji)
   obtain ⟨hjun,oj,hoj,hall⟩ := mem_ready.1 hj
   have hnot : ∀ e ∈ oj.after,Region.binds .any e = true → e.on ≠ i := fun e he hb heq => by
    have h1 := hall e he hb
    rw [heq,hun] at h1
    cases h1
   have h2 := wpOp_putIf hoj (hfree j oj hoj hji hjun hnot) (fun cs b => hsel i oi cs b hi) (fun cs b => hsel j oj cs b hoj) hQ hy h1
   have hfree' : ∀ k ok,ops[k]? = some ok → k ≠ i → (listed.setIfInBounds j true).getD k true = false →
     (∀ e ∈ ok.after,Region.binds .any e = true → e.on ≠ i) → oi.apart ops ok = true := fun k ok hk hki hun hno => by
    refine hfree k ok hk hki ?_ hno
    by_cases hjk : j = k
    ·subst hjk; exact hjun
    ·rw [getD_set_ne true hjk] at hun; exact hun
   refine wpOp_mono (fun a' w' h3 => ⟨fun e => absurd e hjb,fun _ => ?_⟩) h2
   obtain ⟨h4,h5⟩ := h3
   have h6 := h5.2 hjb
   refine ⟨h6.1,ih (listed.setIfInBounds j true) a' w' hfree' (ready_mono hr (Ne.symm hji)) (hcl.set hj) h4 h6.1 ?_⟩
   rw [Array.setIfInBounds_comm _ _ hji]
   exact h6.2
def nextBar (ops : Array Oper) (bars : List Nat) : List Nat → Nat
 | [] => ops.size
 | i :: rest => if bars.contains rest.length then i else nextBar ops bars rest
theorem nextBar_yes {ops : Array Oper} {bars : List Nat} {i : Nat} {rest : List Nat} (h : bars.contains rest.length = true) : nextBar ops bars (i :: rest) = i := by
 rw [nextBar,if_pos h]
theorem nextBar_no {ops : Array Oper} {bars : List Nat} {i : Nat} {rest : List Nat} (h : bars.contains rest.length = false) : nextBar ops bars (i :: rest) = nextBar ops bars rest := by
 rw [nextBar,if_neg (by rw [h]; simp)]
def planOk (ops : Array Oper) (bars : List Nat) : List Nat → Array Bool → Bool
  | [], listed => (Region.ready .any ops listed).isEmpty
  | i :: rest, listed =>
    (match ops[i]? with
     | none => false
     | some o => (Region.ready .any ops listed).contains i &&
        (if wildKind o.op then Region.ready .any ops listed == [i]
         else Region.free .any ops listed i && !bars.contains rest.length && (Nat.beq (nextBar ops bars rest) ops.size || (!Nat.beq (nextBar ops bars rest) i && (ancs ops (nextBar ops bars rest + 1) [nextBar ops bars rest]).contains i)))) &&
    planOk ops bars rest (listed.setIfInBounds i true)
def planOps (ops : Array Oper) (plan : List Nat) : List Oper := plan.map fun i => ops.getD i default
theorem ready_lt {ops : Array Oper} {listed : Array Bool} {j : Nat} (h : j ∈ Region.ready .any ops listed) : j < ops.size := by
 obtain ⟨_,o,ho,_⟩ := mem_ready.1 h
 exact (Array.getElem?_eq_some_iff.1 ho).1
theorem Rg.any {ops : Array Oper} {bars : List Nat} {K : Kn} (hs : Region.noSelect ops = true) : ∀ (plan : List Nat) (L : Env) (w : World) (listed : Array Bool) (fuel : Nat),
  planOk ops bars plan listed = true → plan.length ≤ fuel → Closed ops listed → Rg P ops n (some bars) K (planOps ops plan) L w → ∀ a,Fr n a L →
  wpAnyB P ops (Tq n K X) (Below w.heap.size w) (nextBar ops bars plan) fuel listed a w := by
 intro plan
 induction plan with
 | nil =>
  intro L w listed fuel hp hf hcl h a ha
  have hr : Region.ready .any ops listed = [] := by simpa [planOk] using hp
  cases h with
  | done h => exact wpAnyB_done hr ⟨_,ha,h⟩ _
 | cons i plan ih =>
  intro L w listed fuel hp hf hcl h a ha
  obtain ⟨fuel,rfl⟩ : ∃ m,fuel = m + 1 := ⟨fuel - 1,by simp at hf; omega⟩
  have hf' : plan.length ≤ fuel := by simpa using hf
  simp only [planOk,Bool.and_eq_true] at hp
  obtain ⟨hp,hp'⟩ := hp
  cases ho : ops[i]? with
  | none => simp [ho] at hp
  | some o =>
   simp only [ho,Bool.and_eq_true] at hp
   obtain ⟨hr,hp⟩ := hp
   have hri : i ∈ Region.ready .any ops listed := by simpa using hr
   have hcl' := hcl.set hri
   have hoo : ops.getD i default = o := by simp [Array.getD_eq_getD_getElem?,ho]
   have hlen : (planOps ops plan).length = plan.length := by simp [planOps]
   have hops : planOps ops (i :: plan) = o :: planOps ops plan := by simp only [planOps,List.map_cons,hoo]
   rw [hops] at h
   have tameCase : wildKind o.op = false → ∀ v,(∀ a,Fr n a L → YieldsIf P ops (Below w.heap.size w) o v a) → Rg P ops n (some bars) K (planOps ops plan) (putE o.dst v L) w → dOk n o.dst = true →
     wpAnyB P ops (Tq n K X) (Below w.heap.size w) (nextBar ops bars (i :: plan)) (fuel + 1) listed a w := by
    intro hk v hy k hd
    rw [if_neg (by simp [hk])] at hp
    simp only [Bool.and_eq_true,Bool.not_eq_true',Bool.or_eq_true] at hp
    obtain ⟨⟨hfr,hnb⟩,hbar⟩ := hp
    have hnext : nextBar ops bars (i :: plan) = nextBar ops bars plan := nextBar_no hnb
    rw [hnext]
    refine wpAnyB_first ho (Region.noSelect_spec hs) (fun _ _ _ h => h) ?_ fuel listed a w (Region.free_spec ho hfr) hri hcl (hy a ha) (Below.refl _ _) (ih _ w _ fuel hp' hf' hcl' k _ (ha.put hd _))
    rcases hbar with hbar | ⟨hne,hanc⟩
    ·have hb := Nat.eq_of_beq_eq_true hbar
     have hil := ready_lt hri
     exact ⟨by omega,fun l _ _ hm => by have := ready_lt hm; omega⟩
    ·have hne' : nextBar ops bars plan ≠ i := fun e => by rw [e,Nat.beq_refl] at hne; cases hne
     refine ⟨hne',fun l hl hi hm => ?_⟩
     have hself : ∀ j ∈ [nextBar ops bars plan],Anc ops (nextBar ops bars plan) j := fun j hj => by
      have hj' : j = nextBar ops bars plan := by simpa using hj
      rw [hj']
      exact Anc.self
     have hA := ancs_sound (b := nextBar ops bars plan) (nextBar ops bars plan + 1) _ hself i (by simpa using hanc)
     rcases hl.anc hm hA with e | e
     ·exact hne' e.symm
     ·rw [hi] at e; cases e
   have wildCase : wildKind o.op = true → ∀ R : Value → World → Prop,Region.wanted o (yielded ops a.tmps) = true → Wl P n o L w R → (bars.contains plan.length = false → ∀ v w',R v w' → Below w.heap.size w w') → dOk n o.dst = true →
     (∀ v w',R v w' → Rg P ops n (some bars) K (planOps ops plan) (putE o.dst v L) w') → wpAnyB P ops (Tq n K X) (Below w.heap.size w) (nextBar ops bars (i :: plan)) (fuel + 1) listed a w := by
    intro hk R hg h hb hd k
    rw [if_pos hk] at hp
    have hrs : Region.ready .any ops listed = [i] := by simpa using hp
    refine ⟨fun h0 => (by rw [h0] at hrs; cases hrs),?_⟩
    intro j hj
    obtain rfl : j = i := by rw [hrs] at hj; simpa using hj
    unfold wpOp
    simp only [ho]
    rw [if_pos hg]
    refine .inl (h a ha _ _ fun v w' hv => ?_)
    have hih := ih _ w' _ fuel hp' hf' hcl' (k v w' hv) _ (ha.put hd v)
    cases hbc : bars.contains plan.length with
    | true =>
     have hnext : nextBar ops bars (j :: plan) = j := nextBar_yes hbc
     rw [hnext]
     exact ⟨fun _ => wpAny_of_B _ _ _ _ hih,fun e => absurd rfl e⟩
    | false =>
     have hw := hb hbc v w' hv
     have hnext : nextBar ops bars (j :: plan) = nextBar ops bars plan := nextBar_no hbc
     rw [hnext]
     exact ⟨fun _ => wpAny_of_B _ _ _ _ hih,fun _ => ⟨hw,wpAnyB_mono (fun x hx => hw.trans (hx.mono hw.size)) _ _ _ _ hih⟩⟩
   cases h with
   | skip h hd k =>
    cases hk : wildKind o.op with
    | false => exact tameCase hk undef (fun a ha => .inr ⟨h.elim (fun h => h.wanted ha) (fun h => h.wanted ha),rfl⟩) k hd
    | true =>
     rw [if_pos hk] at hp
     have hrs : Region.ready .any ops listed = [i] := by simpa using hp
     refine ⟨fun h0 => (by rw [h0] at hrs; cases hrs),?_⟩
     intro j hj
     obtain rfl : j = i := by rw [hrs] at hj; simpa using hj
     unfold wpOp
     simp only [ho]
     have hn : Region.wanted o (yielded ops a.tmps) = false := h.elim (fun h => h.wanted ha) (fun h => h.wanted ha)
     rw [if_neg (by simp [hn])]
     have hih := ih _ w _ fuel hp' hf' hcl' k _ (ha.put hd _)
     refine ⟨fun _ => wpAny_of_B _ _ _ _ hih,fun e => ⟨Below.refl _ _,?_⟩⟩
     have hnext : nextBar ops bars (j :: plan) = nextBar ops bars plan := by
      by_cases hbc : bars.contains plan.length = true
      ·exact absurd (nextBar_yes hbc).symm e
      ·exact nextBar_no (by simpa using hbc)
     rw [hnext]
     exact hih
   | tame v hg hw h hd k => exact tameCase hw v (fun a ha => .inl ⟨hg.wanted ha,fun w' hw' => h a ha w' hw'⟩) k hd
   | wild R hg h hb hd k =>
    have hbb := hb bars rfl
    rw [hlen] at hbb
    exact wildCase hbb.1 R (hg.wanted ha) h hbb.2 hd k
theorem Wp.regionD {id : Nat} {ops : Array Oper} (plan : List Nat) (bars : List Nat) (hm : P.follows .mixedOrders = true) (hs : Region.noSelect ops = true)
  (hp : (planOk ops bars plan (Array.replicate ops.size false) && Nat.ble plan.length ops.size) = true)
  (h : Rg P ops n (some bars) N (planOps ops plan) L w.drew) : Wp P n (.region id ops true) N X L w := fun a ha => by
 simp only [Bool.and_eq_true] at hp
 exact wp_region_any hm (wpAny_of_B _ _ _ _ (h.any hs plan L w.drew _ ops.size hp.1 (Nat.le_of_ble_eq_true hp.2) (Closed.start ops) a ha))
end
end Go.Gx
namespace Go.Gx
open Go.RowKit
section
variable {P : Program} {n : Nat} {N : Kn} {X : Exit → Kn} {L : Env} {w : World} {d : Option Tmp} {ty : TypeId} {pos : String} {af : Array Edge} {g : Option (Nat × Bool)}
theorem t_move {x : Operand} {v : Value} (hx : evO L x = some v) : Tm P n ⟨d,.move x,ty,pos,af,g⟩ L w v := fun a ha w' _ => by
 simp [execOp,ha.eval hx]
theorem t_assign {x : Operand} {v : Value} (hx : evO L x = some v) : Tm P n ⟨d,.assign x,ty,pos,af,g⟩ L w v := fun a ha w' _ => by
 simp [execOp,ha.eval hx]
theorem t_pickT {c x y : Operand} {v : Value} (hc : evO L c = some (.bool true)) (hx : evO L x = some v) : Tm P n ⟨d,.pick c x y,ty,pos,af,g⟩ L w v := fun a ha w' _ => by
 simp [execOp,ha.eval hc,ha.eval hx,asBool]
theorem t_pickF {c x y : Operand} {v : Value} (hc : evO L c = some (.bool false)) (hy : evO L y = some v) : Tm P n ⟨d,.pick c x y,ty,pos,af,g⟩ L w v := fun a ha w' _ => by
 simp [execOp,ha.eval hc,ha.eval hy,asBool]
theorem t_nilCheck {x : Operand} {p : Addr} (hx : evO L x = some (.pointer (some p))) : Tm P n ⟨d,.nilCheck x,ty,pos,af,g⟩ L w (.pointer (some p)) := fun a ha w' _ => by
 simp [execOp,ha.eval hx]
theorem t_add {t t' : TypeId} {x y : Operand} {k : IntKind} {u v : Int} (hx : evO L x = some (.int k u)) (hy : evO L y = some (.int k v)) : Tm P n ⟨d,.binOp .add t x y t',ty,pos,af,g⟩ L w (.int k (k.wrap (u + v))) := fun a ha w' _ => by
 simp [execOp,eqGuard,binOp,Op.intArith,ha.eval hx,ha.eval hy]
theorem t_sub {t t' : TypeId} {x y : Operand} {k : IntKind} {u v : Int} (hx : evO L x = some (.int k u)) (hy : evO L y = some (.int k v)) : Tm P n ⟨d,.binOp .sub t x y t',ty,pos,af,g⟩ L w (.int k (k.wrap (u - v))) := fun a ha w' _ => by
 simp [execOp,eqGuard,binOp,Op.intArith,ha.eval hx,ha.eval hy]
theorem wrap_i64 {z : Int} (h : -9223372036854775808 ≤ z) (h' : z ≤ 9223372036854775807) : IntKind.i64.wrap z = z := by
 have := IntWalk.i64_in z
 first | exact this ⟨h,h'⟩ | exact this h h' | (simp [IntKind.wrap] <;> omega)
theorem t_addI {t t' : TypeId} {x y : Operand} {u v : Int} (hx : evO L x = some (.int .i64 u)) (hy : evO L y = some (.int .i64 v)) (h : -9223372036854775808 ≤ u + v ∧ u + v ≤ 9223372036854775807) :
  Tm P n ⟨d,.binOp .add t x y t',ty,pos,af,g⟩ L w (.int .i64 (u + v)) := by
 have := t_add (P := P) (n := n) (w := w) (d := d) (ty := ty) (pos := pos) (af := af) (g := g) (t := t) (t' := t') hx hy
 rwa [wrap_i64 h.1 h.2] at this
theorem t_subI {t t' : TypeId} {x y : Operand} {u v : Int} (hx : evO L x = some (.int .i64 u)) (hy : evO L y = some (.int .i64 v)) (h : -9223372036854775808 ≤ u - v ∧ u - v ≤ 9223372036854775807) :
  Tm P n ⟨d,.binOp .sub t x y t',ty,pos,af,g⟩ L w (.int .i64 (u - v)) := by
 have := t_sub (P := P) (n := n) (w := w) (d := d) (ty := ty) (pos := pos) (af := af) (g := g) (t := t) (t' := t') hx hy
 rwa [wrap_i64 h.1 h.2] at this
theorem t_lss {t t' : TypeId} {x y : Operand} {k : IntKind} {u v : Int} (hx : evO L x = some (.int k u)) (hy : evO L y = some (.int k v)) : Tm P n ⟨d,.binOp .lss t x y t',ty,pos,af,g⟩ L w (.bool (decide (u < v))) := fun a ha w' _ => by
 simp [execOp,eqGuard,binOp,Op.intCmp,ha.eval hx,ha.eval hy]
 try (first | rfl | (by_cases h : u = v <;> simp [h] <;> done) | (simp [bne]; done))
theorem t_lssT {t t' : TypeId} {x y : Operand} {k : IntKind} {u v : Int} (hx : evO L x = some (.int k u)) (hy : evO L y = some (.int k v)) (h : u < v) : Tm P n ⟨d,.binOp .lss t x y t',ty,pos,af,g⟩ L w (.bool true) := by
 have := t_lss (P := P) (n := n) (w := w) (d := d) (ty := ty) (pos := pos) (af := af) (g := g) (t := t) (t' := t') hx hy
 rwa [decide_eq_true h] at this
theorem t_lssF {t t' : TypeId} {x y : Operand} {k : IntKind} {u v : Int} (hx : evO L x = some (.int k u)) (hy : evO L y = some (.int k v)) (h : v ≤ u) : Tm P n ⟨d,.binOp .lss t x y t',ty,pos,af,g⟩ L w (.bool false) := by
 have := t_lss (P := P) (n := n) (w := w) (d := d) (ty := ty) (pos := pos) (af := af) (g := g) (t := t) (t' := t') hx hy
 rwa [decide_eq_false (by omega)] at this
theorem t_leq {t t' : TypeId} {x y : Operand} {k : IntKind} {u v : Int} (hx : evO L x = some (.int k u)) (hy : evO L y = some (.int k v)) : Tm P n ⟨d,.binOp .leq t x y t',ty,pos,af,g⟩ L w (.bool (decide (u ≤ v))) := fun a ha w' _ => by
 simp [execOp,eqGuard,binOp,Op.intCmp,ha.eval hx,ha.eval hy]
 try (first | rfl | (by_cases h : u = v <;> simp [h] <;> done) | (simp [bne]; done))
theorem t_leqT {t t' : TypeId} {x y : Operand} {k : IntKind} {u v : Int} (hx : evO L x = some (.int k u)) (hy : evO L y = some (.int k v)) (h : u ≤ v) : Tm P n ⟨d,.binOp .leq t x y t',ty,pos,af,g⟩ L w (.bool true) := by
 have := t_leq (P := P) (n := n) (w := w) (d := d) (ty := ty) (pos := pos) (af := af) (g := g) (t := t) (t' := t') hx hy
 rwa [decide_eq_true h] at this
theorem t_leqF {t t' : TypeId} {x y : Operand} {k : IntKind} {u v : Int} (hx : evO L x = some (.int k u)) (hy : evO L y = some (.int k v)) (h : v < u) : Tm P n ⟨d,.binOp .leq t x y t',ty,pos,af,g⟩ L w (.bool false) := by
 have := t_leq (P := P) (n := n) (w := w) (d := d) (ty := ty) (pos := pos) (af := af) (g := g) (t := t) (t' := t') hx hy
 rwa [decide_eq_false (by omega)] at this
theorem t_gtr {t t' : TypeId} {x y : Operand} {k : IntKind} {u v : Int} (hx : evO L x = some (.int k u)) (hy : evO L y = some (.int k v)) : Tm P n ⟨d,.binOp .gtr t x y t',ty,pos,af,g⟩ L w (.bool (decide (v < u))) := fun a ha w' _ => by
 simp [execOp,eqGuard,binOp,Op.intCmp,ha.eval hx,ha.eval hy]
 try (first | rfl | (by_cases h : u = v <;> simp [h] <;> done) | (simp [bne]; done))
theorem t_gtrT {t t' : TypeId} {x y : Operand} {k : IntKind} {u v : Int} (hx : evO L x = some (.int k u)) (hy : evO L y = some (.int k v)) (h : v < u) : Tm P n ⟨d,.binOp .gtr t x y t',ty,pos,af,g⟩ L w (.bool true) := by
 have := t_gtr (P := P) (n := n) (w := w) (d := d) (ty := ty) (pos := pos) (af := af) (g := g) (t := t) (t' := t') hx hy
 rwa [decide_eq_true h] at this
theorem t_gtrF {t t' : TypeId} {x y : Operand} {k : IntKind} {u v : Int} (hx : evO L x = some (.int k u)) (hy : evO L y = some (.int k v)) (h : u ≤ v) : Tm P n ⟨d,.binOp .gtr t x y t',ty,pos,af,g⟩ L w (.bool false) := by
 have := t_gtr (P := P) (n := n) (w := w) (d := d) (ty := ty) (pos := pos) (af := af) (g := g) (t := t) (t' := t') hx hy
 rwa [decide_eq_false (by omega)] at this
theorem t_geq {t t' : TypeId} {x y : Operand} {k : IntKind} {u v : Int} (hx : evO L x = some (.int k u)) (hy : evO L y = some (.int k v)) : Tm P n ⟨d,.binOp .geq t x y t',ty,pos,af,g⟩ L w (.bool (decide (v ≤ u))) := fun a ha w' _ => by
 simp [execOp,eqGuard,binOp,Op.intCmp,ha.eval hx,ha.eval hy]
 try (first | rfl | (by_cases h : u = v <;> simp [h] <;> done) | (simp [bne]; done))
theorem t_geqT {t t' : TypeId} {x y : Operand} {k : IntKind} {u v : Int} (hx : evO L x = some (.int k u)) (hy : evO L y = some (.int k v)) (h : v ≤ u) : Tm P n ⟨d,.binOp .geq t x y t',ty,pos,af,g⟩ L w (.bool true) := by
 have := t_geq (P := P) (n := n) (w := w) (d := d) (ty := ty) (pos := pos) (af := af) (g := g) (t := t) (t' := t') hx hy
 rwa [decide_eq_true h] at this
theorem t_geqF {t t' : TypeId} {x y : Operand} {k : IntKind} {u v : Int} (hx : evO L x = some (.int k u)) (hy : evO L y = some (.int k v)) (h : u < v) : Tm P n ⟨d,.binOp .geq t x y t',ty,pos,af,g⟩ L w (.bool false) := by
 have := t_geq (P := P) (n := n) (w := w) (d := d) (ty := ty) (pos := pos) (af := af) (g := g) (t := t) (t' := t') hx hy
 rwa [decide_eq_false (by omega)] at this
theorem t_eql {t t' : TypeId} {x y : Operand} {k : IntKind} {u v : Int} (hx : evO L x = some (.int k u)) (hy : evO L y = some (.int k v)) : Tm P n ⟨d,.binOp .eql t x y t',ty,pos,af,g⟩ L w (.bool (decide (u = v))) := fun a ha w' _ => by
 simp [execOp,eqGuard,binOp,Op.intCmp,ha.eval hx,ha.eval hy]
 try (first | rfl | (by_cases h : u = v <;> simp [h] <;> done) | (simp [bne]; done))
theorem t_eqlT {t t' : TypeId} {x y : Operand} {k : IntKind} {u v : Int} (hx : evO L x = some (.int k u)) (hy : evO L y = some (.int k v)) (h : u = v) : Tm P n ⟨d,.binOp .eql t x y t',ty,pos,af,g⟩ L w (.bool true) := by
 have := t_eql (P := P) (n := n) (w := w) (d := d) (ty := ty) (pos := pos) (af := af) (g := g) (t := t) (t' := t') hx hy
 rwa [decide_eq_true h] at this
theorem t_eqlF {t t' : TypeId} {x y : Operand} {k : IntKind} {u v : Int} (hx : evO L x = some (.int k u)) (hy : evO L y = some (.int k v)) (h : u ≠ v) : Tm P n ⟨d,.binOp .eql t x y t',ty,pos,af,g⟩ L w (.bool false) := by
 have := t_eql (P := P) (n := n) (w := w) (d := d) (ty := ty) (pos := pos) (af := af) (g := g) (t := t) (t' := t') hx hy
 rwa [decide_eq_false (by omega)] at this
theorem t_neq {t t' : TypeId} {x y : Operand} {k : IntKind} {u v : Int} (hx : evO L x = some (.int k u)) (hy : evO L y = some (.int k v)) : Tm P n ⟨d,.binOp .neq t x y t',ty,pos,af,g⟩ L w (.bool (decide (u ≠ v))) := fun a ha w' _ => by
 simp [execOp,eqGuard,binOp,Op.intCmp,ha.eval hx,ha.eval hy]
 try (first | rfl | (by_cases h : u = v <;> simp [h] <;> done) | (simp [bne]; done))
theorem t_neqT {t t' : TypeId} {x y : Operand} {k : IntKind} {u v : Int} (hx : evO L x = some (.int k u)) (hy : evO L y = some (.int k v)) (h : u ≠ v) : Tm P n ⟨d,.binOp .neq t x y t',ty,pos,af,g⟩ L w (.bool true) := by
 have := t_neq (P := P) (n := n) (w := w) (d := d) (ty := ty) (pos := pos) (af := af) (g := g) (t := t) (t' := t') hx hy
 rwa [decide_eq_true h] at this
theorem t_neqF {t t' : TypeId} {x y : Operand} {k : IntKind} {u v : Int} (hx : evO L x = some (.int k u)) (hy : evO L y = some (.int k v)) (h : u = v) : Tm P n ⟨d,.binOp .neq t x y t',ty,pos,af,g⟩ L w (.bool false) := by
 have := t_neq (P := P) (n := n) (w := w) (d := d) (ty := ty) (pos := pos) (af := af) (g := g) (t := t) (t' := t') hx hy
 rwa [decide_eq_false (by omega)] at this
theorem bytes_beq (a b : ByteArray) : (a.toList == b.toList) = decide (a = b) := by
 rw [ByteArray.toList_eq,ByteArray.toList_eq]
 by_cases h : a = b
 ·subst h; simp
 ·have h2 : ¬ a.data = b.data := fun e => h (by cases a; cases b; simp_all)
  have : ¬ a.data.toList = b.data.toList := fun e => h2 (Array.toList_inj.1 e)
  simp [h,h2]
theorem t_seql {t t' : TypeId} {x y : Operand} {u v : ByteArray} (hx : evO L x = some (.string u)) (hy : evO L y = some (.string v)) : Tm P n ⟨d,.binOp .eql t x y t',ty,pos,af,g⟩ L w (.bool (decide (u = v))) := fun a ha w' _ => by
 simp [execOp,eqGuard,binOp,Op.stringOp,ha.eval hx,ha.eval hy,bytes_beq]
theorem t_sneq {t t' : TypeId} {x y : Operand} {u v : ByteArray} (hx : evO L x = some (.string u)) (hy : evO L y = some (.string v)) : Tm P n ⟨d,.binOp .neq t x y t',ty,pos,af,g⟩ L w (.bool (!decide (u = v))) := fun a ha w' _ => by
 simp [execOp,eqGuard,binOp,Op.stringOp,ha.eval hx,ha.eval hy,bytes_beq]
theorem t_seqlT {t t' : TypeId} {x y : Operand} {u v : ByteArray} (hx : evO L x = some (.string u)) (hy : evO L y = some (.string v)) (h : u = v) : Tm P n ⟨d,.binOp .eql t x y t',ty,pos,af,g⟩ L w (.bool true) := by
 have := t_seql (P := P) (n := n) (w := w) (d := d) (ty := ty) (pos := pos) (af := af) (g := g) (t := t) (t' := t') hx hy
 rwa [decide_eq_true h] at this
theorem t_seqlF {t t' : TypeId} {x y : Operand} {u v : ByteArray} (hx : evO L x = some (.string u)) (hy : evO L y = some (.string v)) (h : u ≠ v) : Tm P n ⟨d,.binOp .eql t x y t',ty,pos,af,g⟩ L w (.bool false) := by
 have := t_seql (P := P) (n := n) (w := w) (d := d) (ty := ty) (pos := pos) (af := af) (g := g) (t := t) (t' := t') hx hy
 rwa [decide_eq_false h] at this
theorem t_sadd {t t' : TypeId} {x y : Operand} {u v : ByteArray} (hx : evO L x = some (.string u)) (hy : evO L y = some (.string v)) (h : u.size + v.size ≤ 9223372036854775807) : Tm P n ⟨d,.binOp .add t x y t',ty,pos,af,g⟩ L w (.string (u ++ v)) := fun a ha w' _ => by
 have : ¬ ((u.size + v.size : Nat) : Int) > IntKind.i64.max := by
  have e : IntKind.i64.max = 9223372036854775807 := by rfl
  rw [e]; omega
 simp only [execOp,eqGuard,binOp,Op.stringOp,ha.eval hx,ha.eval hy]
 rw [if_neg this]
 simp
theorem t_notB {t : TypeId} {x : Operand} {b : Bool} (hx : evO L x = some (.bool b)) : Tm P n ⟨d,.unOp .not t x,ty,pos,af,g⟩ L w (.bool (!b)) := fun a ha w' _ => by
 simp [execOp,Op.unary,ha.eval hx]
theorem t_peqT {t t' : TypeId} {x y : Operand} (hu : P.underlying t = some (.pointer (P.pointee t))) (hx : evO L x = some (.pointer none)) (hy : evO L y = some (.pointer none)) : Tm P n ⟨d,.binOp .eql t x y t',ty,pos,af,g⟩ L w (.bool true) := fun a ha w' _ => by
 simp [execOp,eqGuard,run_eql_pointer_nil w' t _ hu,run_neq_pointer_nil w' t _ hu,ha.eval hx,ha.eval hy]
theorem t_peqF {t t' : TypeId} {x y : Operand} {p : Addr} (hu : P.underlying t = some (.pointer (P.pointee t))) (hx : evO L x = some (.pointer (some p))) (hy : evO L y = some (.pointer none)) : Tm P n ⟨d,.binOp .eql t x y t',ty,pos,af,g⟩ L w (.bool false) := fun a ha w' _ => by
 simp [execOp,eqGuard,run_eql_pointer_nil w' t _ hu,run_neq_pointer_nil w' t _ hu,ha.eval hx,ha.eval hy]
structure Ty (P : Program) (t : TypeId) (size : Nat) (agg : Bool) : Prop where
 sz : ∀ w,(sizeOf t).run P w = .ok size w
 ag : ∀ w,(isAgg t).run P w = .ok agg w
def FA (P : Program) (s : TypeId) (f off : Nat) : Prop := ∀ (w : World) (b o : Nat),(Instr.fieldAt s (.pointer (some ⟨b,o,none⟩)) f).run P w = .ok (.pointer (some ⟨b,o + off,none⟩)) w
theorem addr_add (b o k : Nat) : (⟨b,o,none⟩ : Addr).add k = ⟨b,o + k,none⟩ := by
 unfold Addr.add
 split <;> simp_all
theorem FA.mk {s : TypeId} {f : Nat} {fs : Array Field} {fd : Field} {k : Nat} {ag : Bool} (hu : P.underlying s = some (.struct fs)) (hf : fs[f]? = some fd) (ht : Ty P fd.type (k + 1) ag) : FA P s f fd.offset := fun w b o => by
 simp [Instr.fieldAt,run_underlying hu,hf,Instr.sureAddr,fieldPlace,ht.sz,addr_add]
theorem FA.mk2 {s : TypeId} {f off t : Nat} {fs : Array Field} {fd : Field} {k : Nat} {ag : Bool} (hu : P.underlying s = some (.struct fs)) (hf : fs[f]? = some fd) (htt : fd.type = t) (ho : fd.offset = off) (ht : Ty P t (k + 1) ag) : FA P s f off := by
 subst htt; subst ho; exact FA.mk hu hf ht
theorem t_fieldAddr {s : TypeId} {x : Operand} {f off b o : Nat} (h : FA P s f off) (hx : evO L x = some (.pointer (some ⟨b,o,none⟩))) : Tm P n ⟨d,.fieldAddr s x f,ty,pos,af,g⟩ L w (.pointer (some ⟨b,o + off,none⟩)) := fun a ha w' _ => by
 simp [execOp,ha.eval hx,h w' b o]
def Cells (w : World) (b o : Nat) (vs : List Value) : Prop := ∀ i v,vs[i]? = some v → w.cell? ⟨b,o + i,none⟩ = some v
theorem Cells.get {b o : Nat} {vs : List Value} (h : Cells w b o vs) (i : Nat) {v : Value} (hv : vs[i]? = some v) : w.cell? ⟨b,o + i,none⟩ = some v := h i v hv
theorem block_lt {ad : Addr} {v : Value} (h : w.cell? ad = some v) : ad.block < w.heap.size := World.block_lt_of_cell? _ _ h
theorem below_cell {w' : World} (hb : Below w.heap.size w w') {ad : Addr} {v : Value} (h : w.cell? ad = some v) : w'.cell? ad = some v := by
 rw [hb.cell (block_lt h)]; exact h
theorem t_load {t : TypeId} {x : Operand} {ad : Addr} {v : Value} (ht : Ty P t 1 false) (hx : evO L x = some (.pointer (some ad))) (hc : w.cell? ad = some v) : Tm P n ⟨d,.load t x,ty,pos,af,g⟩ L w v := fun a ha w' hw => by
 simp [execOp,ha.eval hx,Instr.loadAt,Instr.sureAddr,loadVar,ht.ag,below_cell hw hc]
theorem t_loadA {t : TypeId} {x : Operand} {b o : Nat} {vs : List Value} (hx : evO L x = some (.pointer (some ⟨b,o,none⟩))) (hc : Cells w b o vs) (ht : Ty P t vs.length true) : Tm P n ⟨d,.load t x,ty,pos,af,g⟩ L w (.agg vs.toArray) := fun a ha w' hw => by
 have hl : (loadCells ⟨b,o,none⟩ vs.length).run P w' = .ok vs.toArray w' := run_loadCells_list (P := P) w' ⟨b,o,none⟩ vs (fun j v hv => by
  rw [addr_add]; exact below_cell hw (hc j v hv))
 simp [execOp,ha.eval hx,Instr.loadAt,Instr.sureAddr,loadVar,ht.ag,ht.sz,hl]
theorem t_len {t : TypeId} {x : Operand} {s : ByteArray} (hu : P.underlying t = some .string) (hx : evO L x = some (.string s)) : Tm P n ⟨d,.call { callee := .builtin .len,args := #[x],argTypes := #[t] },ty,pos,af,g⟩ L w (.int .i64 s.size) := fun a ha w' _ => by
 simp [execOp,resolve,invoke,builtin,Builtin.len_,ha.eval hx,run_underlying hu,goInt]
theorem t_lenS {t e : TypeId} {x : Operand} {p : Option Addr} {l c : Nat} (hu : P.underlying t = some (.slice e)) (hx : evO L x = some (.slice p l c)) : Tm P n ⟨d,.call { callee := .builtin .len,args := #[x],argTypes := #[t] },ty,pos,af,g⟩ L w (.int .i64 l) := fun a ha w' _ => by
 simp [execOp,resolve,invoke,builtin,Builtin.len_,ha.eval hx,run_underlying hu,goInt]
theorem t_extract {x : Operand} {vs : Array Value} {i : Nat} {v : Value} (hx : evO L x = some (.tuple vs)) (hv : vs[i]? = some v) : Tm P n ⟨d,.extract x i,ty,pos,af,g⟩ L w v := fun a ha w' _ => by
 simp [execOp,ha.eval hx,Instr.extract,hv]
theorem t_index {t : TypeId} {x y : Operand} {s : ByteArray} {k : IntKind} {i : Int} (hu : P.underlying t = some .string) (hx : evO L x = some (.string s)) (hy : evO L y = some (.int k i)) (h : 0 ≤ i ∧ i < s.size) :
  Tm P n ⟨d,.index t x y,ty,pos,af,g⟩ L w (.int .u8 ((s.data.toList.getD i.toNat 0).toNat : Int)) := fun a ha w' _ => by
 have hlt : i.toNat < s.size := by omega
 have hg : s[i.toNat]? = some (s.data.toList.getD i.toNat 0) := by
  rw [getElem?_pos s i.toNat hlt]
  congr 1
  have h2 : i.toNat < s.data.toList.length := by rw [Array.length_toList]; exact hlt
  rw [List.getD_eq_getElem?_getD,List.getElem?_eq_getElem h2]
  rfl
 simp only [execOp,ha.eval hx,ha.eval hy,Instr.index,asIntOf,Sem.run_bind,Sem.run_pure,Result.andThen_ok,run_underlying hu]
 rw [if_pos h.1,hg]
 rfl
theorem t_sliceS {t : TypeId} {x : Operand} {lo hi : Option Operand} {s : ByteArray} {l h : Int} (hu : P.underlying t = some .string) (hx : evO L x = some (.string s))
  (hlo : (match lo with | none => some (.int .i64 0) | some y => evO L y) = some (.int .i64 l)) (hhi : (match hi with | none => some (.int .i64 s.size) | some y => evO L y) = some (.int .i64 h)) (hb : 0 ≤ l ∧ l ≤ h ∧ h ≤ s.size) :
  Tm P n ⟨d,.slice t x lo hi none,ty,pos,af,g⟩ L w (.string (s.extract l.toNat h.toNat)) := fun a ha w' _ => by
 obtain ⟨h1,h2,h3⟩ := hb
 cases lo <;> cases hi <;> simp only [Option.some.injEq,Value.int.injEq,true_and] at hlo hhi
 ·subst hlo; subst hhi
  simp [execOp,ha.eval hx,Instr.sliceAt,Instr.slice,run_underlying hu,Instr.sliceBounds]
 ·subst hlo
  have : 0 ≤ h := by omega
  simp [execOp,ha.eval hx,ha.eval hhi,Instr.sliceAt,Instr.slice,run_underlying hu,Instr.sliceBounds,Instr.sliceBound,asIntOf,this,h3]
 ·subst hhi
  simp [execOp,ha.eval hx,ha.eval hlo,Instr.sliceAt,Instr.slice,run_underlying hu,Instr.sliceBounds,Instr.sliceBound,asIntOf,h1,h2]
 ·have : 0 ≤ h := by omega
  have h4 : l ≤ (h.toNat : Int) := by omega
  simp [execOp,ha.eval hx,ha.eval hlo,ha.eval hhi,Instr.sliceAt,Instr.slice,run_underlying hu,Instr.sliceBounds,Instr.sliceBound,asIntOf,this,h1,h3,h4]
  intro hc
  omega
theorem t_minI {t t' : TypeId} {x y : Operand} {u v : Int} (hx : evO L x = some (.int .i64 u)) (hy : evO L y = some (.int .i64 v)) : Tm P n ⟨d,.call { callee := .builtin .min,args := #[x,y],argTypes := #[t,t'] },ty,pos,af,g⟩ L w (.int .i64 (min u v)) := fun a ha w' _ => by
 simp [execOp,resolve,invoke,builtin,Builtin.min_,Builtin.min2,ha.eval hx,ha.eval hy]
 omega
theorem t_sliceL {t e : TypeId} {x : Operand} {lo hi : Option Operand} {b o len cap size : Nat} {ag : Bool} {l h : Int} (hu : P.underlying t = some (.slice e)) (ht : Ty P e size ag) (hx : evO L x = some (.slice (some ⟨b,o,none⟩) len cap))
  (hlo : (match lo with | none => some (.int .i64 0) | some y => evO L y) = some (.int .i64 l)) (hhi : (match hi with | none => some (.int .i64 len) | some y => evO L y) = some (.int .i64 h)) (hb : 0 ≤ l ∧ l ≤ h ∧ h ≤ cap) :
  Tm P n ⟨d,.slice t x lo hi none,ty,pos,af,g⟩ L w (.slice (some (if cap = l.toNat then ⟨b,o,none⟩ else ⟨b,o + l.toNat * size,none⟩)) (h.toNat - l.toNat) (cap - l.toNat)) := fun a ha w' _ => by
 obtain ⟨h1,h2,h3⟩ := hb
 have h0 : 0 ≤ h := by omega
 cases lo <;> cases hi <;> simp only [Option.some.injEq,Value.int.injEq,true_and] at hlo hhi
 ·subst hlo; subst hhi
  simp [execOp,ha.eval hx,Instr.sliceAt,Instr.slice,run_underlying hu,Instr.sliceBounds,ht.sz,addr_add,apply_ite]
 ·subst hlo
  simp [execOp,ha.eval hx,ha.eval hhi,Instr.sliceAt,Instr.slice,run_underlying hu,Instr.sliceBounds,Instr.sliceBound,asIntOf,h0,h3,ht.sz,addr_add,apply_ite]
 ·subst hhi
  simp [execOp,ha.eval hx,ha.eval hlo,Instr.sliceAt,Instr.slice,run_underlying hu,Instr.sliceBounds,Instr.sliceBound,asIntOf,h1,h2,ht.sz,addr_add,apply_ite]
 ·have h4 : l ≤ (h.toNat : Int) := by omega
  simp [execOp,ha.eval hx,ha.eval hlo,ha.eval hhi,Instr.sliceAt,Instr.slice,run_underlying hu,Instr.sliceBounds,Instr.sliceBound,asIntOf,h0,h1,h3,h4,show l ≤ max h 0 from by omega,ht.sz,addr_add,apply_ite]
theorem t_indexAddrL {t e : TypeId} {x y : Operand} {b o len cap size : Nat} {ag : Bool} {i : Int} {k : IntKind} (hu : P.underlying t = some (.slice e)) (ht : Ty P e size ag) (hx : evO L x = some (.slice (some ⟨b,o,none⟩) len cap)) (hy : evO L y = some (.int k i)) (h : 0 ≤ i ∧ i < len) :
  Tm P n ⟨d,.indexAddr t x y,ty,pos,af,g⟩ L w (.pointer (some ⟨b,o + i.toNat * size,none⟩)) := fun a ha w' _ => by
 simp [execOp,ha.eval hx,ha.eval hy,Instr.indexAt,asIntOf,run_underlying hu,h,ht.sz,addr_add]
theorem t_build {t : TypeId} {parts : Array (Nat × Operand)} {pv : List (Nat × Value)} {v : Value} (h : ∀ w,(Instr.build t pv.toArray).run P w = .ok v w) (hp : (parts.toList.map fun q => (q.1,evO L q.2)) = pv.map fun q => (q.1,some q.2)) :
  Tm P n ⟨d,.build t parts,ty,pos,af,g⟩ L w v := fun a ha w' _ => by
 have : (parts.map fun q => (q.1,a.eval q.2)) = pv.toArray := by
  apply Array.toList_inj.1
  rw [Array.toList_map]
  show _ = pv
  generalize parts.toList = ps at *
  clear h
  induction ps generalizing pv with
  | nil => cases pv <;> simp_all
  | cons p ps ih =>
   cases pv with
   | nil => simp at hp
   | cons q vs =>
    simp only [List.map_cons,List.cons.injEq,Prod.mk.injEq] at hp ⊢
    refine ⟨?_,ih hp.2⟩
    rw [hp.1.1,ha.eval hp.1.2]
 simp only [execOp]
 rw [show (parts.map fun (i,x) => (i,a.eval x)) = pv.toArray from this]
 simp [h]
theorem t_field {t : TypeId} {x : Operand} {i : Nat} {u v : Value} (hx : evO L x = some u) (h : ∀ w,(Instr.field t u i).run P w = .ok v w) : Tm P n ⟨d,.field t x i,ty,pos,af,g⟩ L w v := fun a ha w' _ => by
 simp [execOp,ha.eval hx,h]
def Rt (R : Value → World → Prop) : Ending → World → Prop := fun e w => ∃ v,e = .returned v ∧ R v w
abbrev Cl (P : Program) (f : FuncId) (args : Array Value) (w : World) (R : Value → World → Prop) : Prop := Calls P f args w (Rt R)
theorem Cl.mono {f : FuncId} {args : Array Value} {R R' : Value → World → Prop} (h : Cl P f args w R) (k : ∀ v w',R v w' → R' v w') : Cl P f args w R' :=
 Calls.mono h fun _ w' ⟨v,e,r⟩ => ⟨v,e,k v w' r⟩
theorem w_call {f : FuncId} {args : Array Operand} {at_ : Array TypeId} {vs : List Value} {R : Value → World → Prop} (hf : ∀ (args : Array Value) (w : World),(callFunc f args).run P w = .ok (.enter f args) w)
  (ha : args.toList.map (evO L) = vs.map some) (h : Cl P f vs.toArray w R) : Wl P n ⟨d,.call { callee := .value (.func f),args := args,argTypes := at_ },ty,pos,af,g⟩ L w R := fun a hF Q next hn => by
 have hargs : args.map a.eval = vs.toArray := by
  apply Array.toList_inj.1
  rw [Array.toList_map]
  show args.toList.map a.eval = vs
  generalize args.toList = ps at *
  induction ps generalizing vs with
  | nil => cases vs <;> simp_all
  | cons p ps ih =>
   cases vs with
   | nil => simp at ha
   | cons q vs =>
    simp only [List.map_cons,List.cons.injEq] at ha ⊢
    refine ⟨hF.eval ha.1,?_⟩
    have : ∀ (ps : List Operand) (vs : List Value),ps.map (evO L) = vs.map some → ps.map a.eval = vs := by
     intro ps
     induction ps with
     | nil => intro vs h; cases vs <;> simp_all
     | cons p ps ih =>
      intro vs h
      cases vs with
      | nil => simp at h
      | cons q vs =>
       simp only [List.map_cons,List.cons.injEq] at h ⊢
       exact ⟨hF.eval h.1,ih vs h.2⟩
    exact this ps vs ha.2
 have hrun : (execOp a.eval ⟨d,.call { callee := .value (.func f),args := args,argTypes := at_ },ty,pos,af,g⟩).run P w = .ok (.enter f vs.toArray) w := by
  simp [execOp,resolve,Act.eval,Deferred.ofValue,invoke,hf,hargs]
 unfold Oper.wp
 rw [hrun]
 simp only [Oper.upon]
 exact Calls.mono h fun e w' ⟨v,he,hr⟩ => by subst he; exact hn v w' hr
theorem w_alloc {t : TypeId} {z : Value} (hz : ∀ w,(zeroValue t).run P w = .ok z w) : Wl P n ⟨d,.alloc t,ty,pos,af,g⟩ L w (fun v w' => v = .pointer (some ⟨w.heap.size,0,none⟩) ∧ w' = w.alloc (.cells z.cells t)) := fun a hF Q next hn => by
 have hrun : (execOp a.eval ⟨d,.alloc t,ty,pos,af,g⟩).run P w = .ok (.value (.pointer (some ⟨w.heap.size,0,none⟩))) (w.alloc (.cells z.cells t)) := by
  simp only [execOp,Instr.alloc,Sem.run_bind,hz,newVar,newRow,run_newObj,Result.andThen_ok,Sem.run_pure]
  rfl
 unfold Oper.wp
 rw [hrun]
 exact hn _ _ ⟨rfl,rfl⟩
theorem w_box {t : TypeId} {x : Operand} {v : Value} (hx : evO L x = some v) : Wl P n ⟨d,.box t x,ty,pos,af,g⟩ L w (fun u w' => u = .pointer (some ⟨w.heap.size,0,none⟩) ∧ w' = w.alloc (.cells v.cells t)) := fun a hF Q next hn => by
 have hrun : (execOp a.eval ⟨d,.box t x,ty,pos,af,g⟩).run P w = .ok (.value (.pointer (some ⟨w.heap.size,0,none⟩))) (w.alloc (.cells v.cells t)) := by
  simp only [execOp,Instr.box,hF.eval hx,Sem.run_bind,newVar,newRow,run_newObj,Result.andThen_ok,Sem.run_pure]
  rfl
 unfold Oper.wp
 rw [hrun]
 exact hn _ _ ⟨rfl,rfl⟩
theorem w_storeB {t t0 : TypeId} {x y : Operand} {b : Nat} {v : Value} {cs : Array Value} {ag : Bool} (ht : Ty P t v.cells.size ag) (hx : evO L x = some (.pointer (some ⟨b,0,none⟩))) (hy : evO L y = some v) (hc : w.heap[b]? = some (.cells cs t0 (0,0)))
  (hs : cs.size = v.cells.size) (h1 : ∀ u ∈ v.cells.toList,u.oneCell' = true) : Wl P n ⟨none,.store t x y,ty,pos,af,g⟩ L w (fun _ w' => w' = w.setRow b v.cells) := fun a hF Q next hn => by
 have hst := run_storeCells_from (P := P) b t0 v.cells.toList 0 cs w hc (by simp [hs]) h1
 have hrun : (execOp a.eval ⟨none,.store t x y,ty,pos,af,g⟩).run P w = .ok .skip (w.setRow b v.cells) := by
  simp [execOp,Instr.storeAt,hF.eval hx,hF.eval hy,Instr.sureAddr,storeVar,ht.sz,hst]
 unfold Oper.wp
 rw [hrun]
 exact hn undef _ rfl
def argsEnv : Nat → List Value → Env
 | _,[] => []
 | i,v :: vs => (i,v) :: argsEnv (i + 1) vs
theorem look_args : ∀ (vs : List Value) (i s : Nat) (v : Value),look (argsEnv i vs) s = some v → ∃ j,s = i + j ∧ vs[j]? = some v
 | [],_,_,_,h => by cases h
 | u :: vs,i,s,v,h => by
  simp only [argsEnv,look] at h
  split at h
  ·rename_i he
   have := Nat.eq_of_beq_eq_true he
   exact ⟨0,by omega,by simpa using h⟩
  ·obtain ⟨j,h1,h2⟩ := look_args vs (i + 1) s v h
   exact ⟨j + 1,by omega,by simpa using h2⟩
theorem Fr.enter {m : Nat} (vs : List Value) (hm : vs.length ≤ m) : Fr m { tmps := vs.toArray ++ Array.replicate (m - vs.toArray.size) undef,defers := [] } (argsEnv 0 vs) := by
 refine ⟨rfl,by simp; omega,fun s v h => ?_⟩
 obtain ⟨j,h1,h2⟩ := look_args vs 0 s v h
 obtain ⟨hj,h3⟩ := List.getElem?_eq_some_iff.1 h2
 have e : s = j := by omega
 subst e
 refine ⟨by omega,?_⟩
 rw [Array.getD_eq_getD_getElem?,Array.getElem?_append_left (by simpa using hj)]
 simp [h2]
def RV (P : Program) (L : Env) (w : World) : ResultVar → Value → Prop
 | .tmp t,v => look L t = some v
 | .cell a t,v => ∃ ad,look L a = some (.pointer (some ad)) ∧ (loadVar t ad).run P w = .ok v w
def RVs (P : Program) (L : Env) (w : World) : List ResultVar → List Value → Prop
 | [],[] => True
 | r :: rs,v :: vs => RV P L w r v ∧ RVs P L w rs vs
 | _,_ => False
def tup (vs : List Value) : Value := match vs with
 | [v] => v
 | _ => .tuple vs.toArray
def RetK (P : Program) (rs : List ResultVar) (R : Value → World → Prop) : Kn := fun L w => ∃ vs,RVs P L w rs vs ∧ R (tup vs) w
def RetX (P : Program) (rs : List ResultVar) (R : Value → World → Prop) : Exit → Kn
 | .ret => RetK P rs R
 | _ => fun _ _ => False
def rvRead (tmps : Array Value) (r : ResultVar) : Sem Value := match r with
 | .tmp t => pure (tmps.getD t undef)
 | .cell p t => do loadVar t (← asAddr (tmps.getD p undef))
theorem results_rv (fn : Func) (tmps : Array Value) : results fn tmps = (do
  let vs ← fn.results.mapM (rvRead tmps)
  pure (if h : vs.size = 1 then vs[0] else .tuple vs)) := by
 unfold results
 congr 2
theorem mapM_results {a : Act} {m : Nat} (ha : Fr m a L) : ∀ (rs : List ResultVar) (vs : List Value),RVs P L w rs vs → (rs.mapM (rvRead a.tmps)).run P w = .ok vs w
 | [],[],_ => by simp
 | r :: rs,v :: vs,h => by
  obtain ⟨h1,h2⟩ := h
  have ih := mapM_results ha rs vs h2
  have h3 : (rvRead a.tmps r).run P w = .ok v w := by
   cases r with
   | tmp t =>
    have := (ha.vals t v h1).2
    simp only [rvRead,this,Sem.run_pure]
   | cell p t =>
    obtain ⟨ad,h4,h5⟩ := h1
    have := (ha.vals p _ h4).2
    simp only [rvRead,this,asAddr,Sem.run_bind,Sem.run_pure,Result.andThen_ok,h5]
  simp only [List.mapM_cons,Sem.run_bind,h3,Result.andThen_ok,ih,Sem.run_pure]
 | [],_ :: _,h => h.elim
 | _ :: _,[],h => h.elim
theorem results_run {fn : Func} {rs : List ResultVar} (hr : fn.results = rs.toArray) {a : Act} {m : Nat} (ha : Fr m a L) {vs : List Value} (h : RVs P L w rs vs) : (results fn a.tmps).run P w = .ok (tup vs) w := by
 have := mapM_results (P := P) ha rs vs h
 rw [results_rv,hr]
 simp only [List.mapM_toArray,Sem.run_bind,Sem.run_map,this,Result.andThen_ok,Sem.run_pure]
 congr 1
 match vs with
 | [] => rfl
 | [v] => rfl
 | v :: u :: vs => rw [dif_neg (by simp)]; rfl
theorem Cl.enter {f : FuncId} {fn : Func} {c : Code} {vs : List Value} {m : Nat} {rs : List ResultVar} {R : Value → World → Prop} (hf : P.funcs[f]? = some fn) (hb : fn.body = some c) (hm : fn.ntmps = m) (hr : fn.results = rs.toArray)
  (hle : Nat.ble vs.length m = true) (h : Wp P m c (RetK P rs R) (RetX P rs R) (argsEnv 0 vs) w) : Cl P f vs.toArray w R := by
 refine calls_of_wp hf hb ?_
 rw [hm]
 refine wp_mono (h _ (Fr.enter vs (Nat.le_of_ble_eq_true hle))) fun e a w q => ?_
 cases e with
 | normal =>
  obtain ⟨L',h1,vs',h2,h3⟩ := q
  exact ⟨h1.defers,_,results_run hr h1 h2,_,rfl,h3⟩
 | ret =>
  obtain ⟨L',h1,vs',h2,h3⟩ := q
  exact ⟨h1.defers,_,results_run hr h1 h2,_,rfl,h3⟩
 | panic _ => exact q.elim
 | outgrown => exact q.elim
 | exit _ => obtain ⟨_,_,q⟩ := q; exact q.elim
 | goto _ => obtain ⟨_,_,q⟩ := q; exact q.elim
section
variable {ops : Array Oper} {dr : Option (List Nat)} {K : Kn} {dd : Tmp} {op : Op} {rest : List Oper} {v : Value}
theorem Rg.tm (hg : gYes ops ⟨some dd,op,ty,pos,af,g⟩ L) (hw : wildKind op = false) (h : Tm P n ⟨some dd,op,ty,pos,af,g⟩ L w v) (hd : Nat.blt dd n = true) (k : Rg P ops n dr K rest ((dd,v) :: L) w) :
  Rg P ops n dr K (⟨some dd,op,ty,pos,af,g⟩ :: rest) L w := .tame v hg hw h hd k
theorem Rg.sk (hg : gNo ops ⟨some dd,op,ty,pos,af,g⟩ L ∨ gOff ops ⟨some dd,op,ty,pos,af,g⟩ L) (hd : Nat.blt dd n = true) (k : Rg P ops n dr K rest ((dd,undef) :: L) w) :
  Rg P ops n dr K (⟨some dd,op,ty,pos,af,g⟩ :: rest) L w := .skip hg hd k
def gSk (ops : Array Oper) (o : Oper) (L : Env) : Bool := match o.guard with
 | none => false
 | some (j,want) => match (ops[j]?).bind (·.dst) with
  | none => false
  | some t => match look L t with
   | some (.bool b) => !(b == want)
   | some (.tuple vs) => Nat.beq vs.size 0
   | _ => false
theorem gSk_or {o : Oper} (h : gSk ops o L = true) : gNo ops o L ∨ gOff ops o L := by
 unfold gSk at h
 unfold gNo gOff
 cases hg : o.guard with
 | none => simp [hg] at h
 | some jw =>
  obtain ⟨j,want⟩ := jw
  simp only [hg] at h ⊢
  cases h1 : (ops[j]?).bind (·.dst) with
  | none => simp [h1] at h
  | some t =>
   simp only [h1] at h
   cases h2 : look L t with
   | none => simp [h2] at h
   | some v =>
    simp only [h2] at h
    split at h
    ·rename_i b hb
     cases hb
     exact .inl ⟨t,b,rfl,h2,by simpa using h⟩
    ·rename_i vs hb
     cases hb
     have : vs = #[] := Array.size_eq_zero_iff.1 (Nat.eq_of_beq_eq_true h)
     subst this
     exact .inr ⟨t,rfl,h2⟩
    ·cases h
theorem Rg.so (hg : gSk ops ⟨some dd,op,ty,pos,af,g⟩ L = true) (hd : Nat.blt dd n = true) (k : Rg P ops n dr K rest ((dd,undef) :: L) w) :
  Rg P ops n dr K (⟨some dd,op,ty,pos,af,g⟩ :: rest) L w := .skip (gSk_or hg) hd k
theorem Rg.wd {R : Value → World → Prop} (hg : gYes ops ⟨some dd,op,ty,pos,af,g⟩ L) (h : Wl P n ⟨some dd,op,ty,pos,af,g⟩ L w R) (hd : Nat.blt dd n = true)
  (k : ∀ v w',R v w' → Rg P ops n none K rest ((dd,v) :: L) w') : Rg P ops n none K (⟨some dd,op,ty,pos,af,g⟩ :: rest) L w := .wild R hg h (fun _ h => nomatch h) hd k
theorem Rg.wn {R : Value → World → Prop} (hg : gYes ops ⟨none,op,ty,pos,af,g⟩ L) (h : Wl P n ⟨none,op,ty,pos,af,g⟩ L w R)
  (k : ∀ v w',R v w' → Rg P ops n none K rest L w') : Rg P ops n none K (⟨none,op,ty,pos,af,g⟩ :: rest) L w := .wild R hg h (fun _ h => nomatch h) rfl k
theorem Rg.wdB {bars : List Nat} {R : Value → World → Prop} (hg : gYes ops ⟨some dd,op,ty,pos,af,g⟩ L) (hk : wildKind op = true) (h : Wl P n ⟨some dd,op,ty,pos,af,g⟩ L w R) (hd : Nat.blt dd n = true) (hb : ∀ v w',R v w' → Below w.heap.size w w')
  (k : ∀ v w',R v w' → Rg P ops n (some bars) K rest ((dd,v) :: L) w') : Rg P ops n (some bars) K (⟨some dd,op,ty,pos,af,g⟩ :: rest) L w := .wild R hg h (fun _ _ => ⟨hk,fun _ => hb⟩) hd k
theorem Rg.wnB {bars : List Nat} {R : Value → World → Prop} (hg : gYes ops ⟨none,op,ty,pos,af,g⟩ L) (hk : wildKind op = true) (h : Wl P n ⟨none,op,ty,pos,af,g⟩ L w R) (hc : bars.contains rest.length = true)
  (k : ∀ v w',R v w' → Rg P ops n (some bars) K rest L w') : Rg P ops n (some bars) K (⟨none,op,ty,pos,af,g⟩ :: rest) L w := .wild R hg h (fun bs hbs => by
   injection hbs with hbs
   subst hbs
   exact ⟨hk,fun hf => absurd hc (by rw [hf]; simp)⟩) rfl k
end
end
def Ext (w w' : World) : Prop := Below w.heap.size w w'
theorem Ext.refl (w : World) : Ext w w := Below.refl _ _
theorem Ext.ext {a b c : World} (h : Ext a b) (k : Ext b c) : Ext a c := Below.trans h (Below.mono k h.size)
theorem Ext.below {w w' : World} (h : Ext w w') : Below w.heap.size w w' := h
theorem Ext.le {w w' : World} (h : Ext w w') : w.heap.size ≤ w'.heap.size := h.size
theorem Ext.drew (w : World) : Ext w w.drew := (Below.refl _ _).drew
theorem Ext.alloc (w : World) (o : Obj) : Ext w (w.alloc o) := (Below.refl _ _).alloc (Nat.le_refl _) o
theorem Ext.cell {w w' : World} (h : Ext w w') {ad : Addr} {v : Value} (hc : w.cell? ad = some v) : w'.cell? ad = some v := below_cell h hc
theorem Cells.ext {w w' : World} {b o : Nat} {vs : List Value} (h : Cells w b o vs) (k : Ext w w') : Cells w' b o vs := fun i v hv => k.cell (h i v hv)
theorem Cells.alloc (w : World) (vs : List Value) (t : TypeId) : Cells (w.alloc (.cells vs.toArray t)) w.heap.size 0 vs := fun i v hv => by
 rw [Nat.zero_add,World.cell?_alloc_new]; simpa using hv
theorem Cells.lt {w : World} {b o : Nat} {v : Value} {vs : List Value} (h : Cells w b o (v :: vs)) : b < w.heap.size := block_lt (h 0 v rfl)
theorem Wp.draw {P : Program} {n : Nat} {N : Kn} {X : Exit → Kn} {L : Env} {w : World} {id : Nat} {ops : Array Oper} (plan : List Nat) (bars : List Nat) (hm : P.follows .mixedOrders = true) (hs : Region.noSelect ops = true)
  (hp : (planOk ops bars plan (Array.replicate ops.size false) && Nat.ble plan.length ops.size) = true)
  (h : ∀ w1,Ext w w1 → w1.heap = w.heap → Rg P ops n (some bars) N (planOps ops plan) L w1) : Wp P n (.region id ops true) N X L w := Wp.regionD plan bars hm hs hp (h _ (Ext.drew w) rfl)
def Var (w : World) (b : Nat) (cs : List Value) (t : TypeId) : Prop := w.heap[b]? = some (.cells cs.toArray t (0,0))
theorem Var.lt {w : World} {b : Nat} {cs : List Value} {t : TypeId} (h : Var w b cs t) : b < w.heap.size := (Array.getElem?_eq_some_iff.1 h).1
theorem Var.ext {w w' : World} {b : Nat} {cs : List Value} {t : TypeId} (h : Var w b cs t) (k : Ext w w') : Var w' b cs t := by
 unfold Var; rw [k.below.block b h.lt]; exact h
theorem Var.cells {w : World} {b : Nat} {cs : List Value} {t : TypeId} (h : Var w b cs t) : Cells w b 0 cs := fun i v hv => by
 unfold Var at h
 simp only [World.cell?,h,Nat.zero_add]
 simpa using hv
structure Upd (b : Nat) (w w' : World) : Prop where
 os : w'.os = w.os
 tape : w'.tape = w.tape
 output : w'.output = w.output
 size : w'.heap.size = w.heap.size
 block : ∀ k,k ≠ b → w'.heap[k]? = w.heap[k]?
theorem Upd.setRow (w : World) (b : Nat) (cs : Array Value) : Upd b w (w.setRow b cs) := ⟨by unfold World.setRow; rfl,by unfold World.setRow; rfl,by unfold World.setRow; rfl,by unfold World.setRow; simp,fun k hk => by
 unfold World.setRow
 simp only [Array.getElem?_modify]
 rw [if_neg (Ne.symm hk)]⟩
theorem Ext.upd {w0 w w' : World} {b : Nat} (h : Ext w0 w) (k : Upd b w w') (hb : w0.heap.size ≤ b) : Ext w0 w' :=
 ⟨k.os.trans h.os,k.tape.trans h.tape,k.output.trans h.output,Nat.le_trans h.le (Nat.le_of_eq k.size.symm),fun i hi => (k.block i (by omega)).trans (h.below.block i hi)⟩
theorem Cells.upd {w w' : World} {b c o : Nat} {vs : List Value} (h : Cells w c o vs) (k : Upd b w w') (hc : c ≠ b) : Cells w' c o vs := fun i v hv => by
 rw [World.cell?_of_block (w := w) (a := ⟨c,o + i,none⟩) (k.block c hc)]; exact h i v hv
theorem Var.upd {w w' : World} {b c : Nat} {cs : List Value} {t : TypeId} (h : Var w c cs t) (k : Upd b w w') (hc : c ≠ b) : Var w' c cs t := by
 unfold Var; rw [k.block c hc]; exact h
def AllocR (w : World) (cs : List Value) (t : TypeId) (v : Value) (w' : World) : Prop := ∃ b,v = .pointer (some ⟨b,0,none⟩) ∧ b = w.heap.size ∧ Ext w w' ∧ Var w' b cs t
theorem AllocR.mk (w : World) (cs : List Value) (t : TypeId) : AllocR w cs t (.pointer (some ⟨w.heap.size,0,none⟩)) (w.alloc (.cells cs.toArray t)) :=
 ⟨_,rfl,rfl,Ext.alloc _ _,by unfold Var World.alloc; simp⟩
theorem AllocR.below {w : World} {cs : List Value} {t : TypeId} {v : Value} {w' : World} (h : AllocR w cs t v w') : Below w.heap.size w w' := by obtain ⟨_,_,_,h,_⟩ := h; exact h
section
variable {P : Program} {n : Nat} {L : Env} {w : World} {d : Option Tmp} {ty : TypeId} {pos : String} {af : Array Edge} {g : Option (Nat × Bool)}
theorem w_new {t : TypeId} {z : Value} {cs : List Value} (hz : ∀ w,(zeroValue t).run P w = .ok z w) (hc : z.cells = cs.toArray) : Wl P n ⟨d,.alloc t,ty,pos,af,g⟩ L w (AllocR w cs t) := fun a hF Q next hn =>
 w_alloc hz a hF Q next fun v w' ⟨h1,h2⟩ => hn v w' (by subst h1; subst h2; rw [hc]; exact AllocR.mk _ _ _)
theorem w_boxed {t : TypeId} {x : Operand} {v : Value} {cs : List Value} (hx : evO L x = some v) (hc : v.cells = cs.toArray) : Wl P n ⟨d,.box t x,ty,pos,af,g⟩ L w (AllocR w cs t) := fun a hF Q next hn =>
 w_box hx a hF Q next fun v w' ⟨h1,h2⟩ => hn v w' (by subst h1; subst h2; rw [hc]; exact AllocR.mk _ _ _)
def StoreR (w : World) (b : Nat) (cs : List Value) (t0 : TypeId) (_ : Value) (w' : World) : Prop := Upd b w w' ∧ Var w' b cs t0
theorem w_put {t t0 : TypeId} {x y : Operand} {b : Nat} {v : Value} {old cs : List Value} {ag : Bool} (h : Var w b old t0) (hx : evO L x = some (.pointer (some ⟨b,0,none⟩))) (hy : evO L y = some v) (hc : v.cells = cs.toArray) (ht : Ty P t cs.length ag)
  (hs : old.length = cs.length) (h1 : cs.all (·.oneCell') = true) : Wl P n ⟨none,.store t x y,ty,pos,af,g⟩ L w (StoreR w b cs t0) := fun a hF Q next hn => by
 refine w_storeB (cs := old.toArray) (v := v) (t0 := t0) (by rw [hc]; simpa using ht) hx hy h (by rw [hc]; simpa using hs) (by rw [hc]; simpa using h1) a hF Q next fun u w' hw => hn u w' ?_
 subst hw
 rw [hc]
 refine ⟨Upd.setRow _ _ _,?_⟩
 have := setRow_heap w b old.toArray cs.toArray t0 (0,0) h
 exact this
end
theorem RV.cellA {P : Program} {L : Env} {w : World} {a t b o : Nat} {vs : List Value} (ht : Ty P t vs.length true) (hl : look L a = some (.pointer (some ⟨b,o,none⟩))) (hc : Cells w b o vs) : RV P L w (.cell a t) (.agg vs.toArray) :=
 ⟨_,hl,by
  have h := run_loadCells_list (P := P) w ⟨b,o,none⟩ vs (fun j v hv => by rw [addr_add]; exact hc j v hv)
  simp [loadVar,ht.ag,ht.sz,h]⟩
section
variable {P : Program} {n : Nat} {X : Exit → Kn} {N : Kn} {L : Env} {w : World} {ops : Array Oper} {dr : Option (List Nat)} {K : Kn} {dd : Tmp} {op : Op} {rest : List Oper} {v : Value} {ty : TypeId} {pos : String} {af : Array Edge} {g : Option (Nat × Bool)}
theorem Rg.tq (h : Tm P n ⟨some dd,op,ty,pos,af,none⟩ L w v) (hd : Nat.blt dd n = true) (k : Rg P ops n dr K rest ((dd,v) :: L) w) (hw : wildKind op = false := by rfl) :
  Rg P ops n dr K (⟨some dd,op,ty,pos,af,none⟩ :: rest) L w := .tm trivial hw h hd k
theorem Rg.gd (h : Tm P n ⟨some dd,op,ty,pos,af,g⟩ L w v) (hd : Nat.blt dd n = true) (k : Rg P ops n dr K rest ((dd,v) :: L) w) (hg : gYes ops ⟨some dd,op,ty,pos,af,g⟩ L := by exact ⟨_,rfl,rfl⟩) (hw : wildKind op = false := by rfl) :
  Rg P ops n dr K (⟨some dd,op,ty,pos,af,g⟩ :: rest) L w := .tm hg hw h hd k
theorem Rg.mv {x : Operand} (hx : evO L x = some v) (hd : Nat.blt dd n = true) (k : Rg P ops n dr K rest ((dd,v) :: L) w) : Rg P ops n dr K (⟨some dd,.move x,ty,pos,af,none⟩ :: rest) L w := .tm trivial rfl (t_move hx) hd k
theorem Rg.as {x : Operand} (hx : evO L x = some v) (hd : Nat.blt dd n = true) (k : Rg P ops n dr K rest ((dd,v) :: L) w) : Rg P ops n dr K (⟨some dd,.assign x,ty,pos,af,none⟩ :: rest) L w := .tm trivial rfl (t_assign hx) hd k
theorem Wp.sr {id : Nat} {l : List Oper} {c : Code} (h : Rg P l.toArray n none (fun L w => Wp P n c N X L w) l L w) : Wp P n (.seq (.region id l.toArray false) c) N X L w := .seq (.region h)
end
end Go.Gx
namespace Go.Gx
open Go.RowKit
section
variable {P : Program} {n : Nat} {L : Env} {w : World} {d : Option Tmp} {ty : TypeId} {pos : String} {af : Array Edge} {g : Option (Nat × Bool)}
theorem w_run {o : Oper} {R : Value → World → Prop} (h : ∀ a,Fr n a L → ∃ v w',(execOp a.eval o).run P w = .ok (.value v) w' ∧ R v w') : Wl P n o L w R := fun a hF Q next hn => by
 obtain ⟨v,w',h1,h2⟩ := h a hF
 unfold Oper.wp
 rw [h1]
 exact hn v w' h2
theorem w_set {t : TypeId} {x y : Operand} {ad : Addr} {u v : Value} (ht : Ty P t 1 false) (hx : evO L x = some (.pointer (some ad))) (hy : evO L y = some v) (hc : w.cell? ad = some u) (hf : w.frozen? ad = false) (hv : v.cells = #[v]) (h1 : v.oneCell' = true) :
  Wl P n ⟨none,.store t x y,ty,pos,af,g⟩ L w (fun _ w' => w' = w.setCell ad v) := fun a hF Q next hn => by
 have had : ad.add 0 = ad := by simp [Addr.add]
 have hst := run_store P w ad v .plain h1
 rw [hc] at hst
 simp only [hf] at hst
 have hrun : (execOp a.eval ⟨none,.store t x y,ty,pos,af,g⟩).run P w = .ok .skip (w.setCell ad v) := by
  simp only [execOp,Instr.storeAt,hF.eval hx,hF.eval hy,Instr.sureAddr,storeVar,hv,Sem.run_bind,Sem.run_pure,Result.andThen_ok,ht.sz]
  simp [storeCells,had,hst]
 unfold Oper.wp
 rw [hrun]
 exact hn undef _ rfl
theorem w_extern {f : FuncId} {fn : Func} {e : Array Value → Sem Value} {args : Array Operand} {at_ : Array TypeId} {vs : List Value} {R : Value → World → Prop} (hf : P.funcs[f]? = some fn) (hname : (fn.name == "runtime.NumGoroutine") = false)
  (hb : fn.body.isNone = true) (hn' : Extern.findNext fn = none) (he : Extern.find fn = some e) (ha : args.toList.map (evO L) = vs.map some) (h : ∃ v w',(e vs.toArray).run P w = .ok v w' ∧ R v w') :
  Wl P n ⟨d,.call { callee := .value (.func f),args := args,argTypes := at_ },ty,pos,af,g⟩ L w R := w_run fun a hF => by
 have hargs : args.map a.eval = vs.toArray := by
  apply Array.toList_inj.1
  rw [Array.toList_map]
  show args.toList.map a.eval = vs
  generalize args.toList = ps at *
  clear h
  induction ps generalizing vs with
  | nil => cases vs <;> simp_all
  | cons p ps ih =>
   cases vs with
   | nil => simp at ha
   | cons q vs =>
    simp only [List.map_cons,List.cons.injEq] at ha ⊢
    exact ⟨hF.eval ha.1,ih ha.2⟩
 obtain ⟨v,w',h1,h2⟩ := h
 refine ⟨v,w',?_,h2⟩
 simp [execOp,resolve,Act.eval,Deferred.ofValue,invoke,hargs,run_callFunc_extern hf hname hb hn' he,h1]
theorem t_pneSame {t t' te : TypeId} {j : TypeInfo} {x y : Operand} {p : Addr} (hu : P.underlying t = some (.pointer te)) (hte : P.info? te = some j) (hx : evO L x = some (.pointer (some p))) (hy : evO L y = some (.pointer (some p))) : Tm P n ⟨d,.binOp .neq t x y t',ty,pos,af,g⟩ L w (.bool false) := fun a ha w' _ => by
 simp [execOp,eqGuard,Lib.run_neq_ptr_same w' p hu hte,ha.eval hx,ha.eval hy]
def OwnR (w : World) (B : Nat) (e : TypeId) (size : Nat) (v0 : Value) (n : Nat) (xs : List Value) (v' : Value) (w' : World) : Prop :=
 w'.ownsRow B e size v' n xs ∧ w.grownBy w' v0.ownBlock ∧ ∃ p l c,v' = .slice p l c
theorem OwnR.mk {B : Nat} {e : TypeId} {size : Nat} {v0 : Value} {n : Nat} {xs : List Value} {v' : Value} {w' : World} (h : w'.ownsRow B e size v' n xs) (k : w.grownBy w' v0.ownBlock) : OwnR w B e size v0 n xs v' w' :=
 ⟨h,k,by
  rcases h.2 with ⟨hv,_⟩ | ⟨g,cap,cur,hv,_⟩
  ·exact ⟨_,_,_,hv⟩
  ·exact ⟨_,_,_,hv⟩⟩
theorem w_appendStr {t u e : TypeId} {i : TypeInfo} {x y : Operand} (B : Nat) {v : Value} {m : Nat} {xs : List Value} {s : ByteArray} (ht : P.underlying t = some (.slice e)) (hu : P.underlying u = some .string) (hi : P.info? e = some i) (hz : i.zero = some (.int .u8 0)) (hs : i.size = 1) (hby : i.bytes = 1)
  (hx : evO L x = some v) (hy : evO L y = some (.string s)) (hown : w.ownsRow B e 1 v m xs) (hb : m + s.size ≤ 140737488355328) (hB : B ≤ w.heap.size) :
  Wl P n ⟨d,.call { callee := .builtin .append,args := #[x,y],argTypes := #[t,u] },ty,pos,af,g⟩ L w (OwnR w B e 1 v (m + s.size) (xs ++ Lib.strCells s)) := w_run fun a hF => by
 obtain ⟨v',w',h1,h2,h3,_⟩ := Lib.run_append_own_string (P := P) w B t u ty e i ht hu hi hz hs hby v m xs hown s (by unfold maxLen; omega) hb hB
 refine ⟨v',w',?_,OwnR.mk h2 h3⟩
 simp [execOp,resolve,invoke,builtin,hF.eval hx,hF.eval hy,h1]
theorem w_append {t e : TypeId} {i : TypeInfo} {z : Value} {x y : Operand} (B : Nat) {size bytes : Nat} {v : Value} {m k c : Nat} {xs news : List Value} {ad : Addr} (ht : P.underlying t = some (.slice e)) (hi : P.info? e = some i) (hz : i.zero = some z) (hs : i.size = size) (hby : i.bytes = bytes) (hzs : z.cells.size = size) (hpos : 0 < size)
  (hx : evO L x = some v) (hy : evO L y = some (.slice (some ad) k c)) (hown : w.ownsRow B e size v m xs) (hl : news.length = k * size) (hnews : ∀ j u,news[j]? = some u → w.cell? (ad.add j) = some u) (h1 : ∀ u ∈ news,u.oneCell' = true)
  (h63 : m + k ≤ maxLen) (hb : (m + k) * bytes ≤ 140737488355328) (hB : B ≤ w.heap.size) :
  Wl P n ⟨d,.call { callee := .builtin .append,args := #[x,y],argTypes := #[t,t] },ty,pos,af,g⟩ L w (OwnR w B e size v (m + k) (xs ++ news)) := w_run fun a hF => by
 obtain ⟨v',w',h2,h3,h4,_⟩ := run_append_own (P := P) w B t ty e i z size bytes ht hi hz hs hby hzs hpos v m xs hown ad k c news hl hnews h1 h63 hb hB
 refine ⟨v',w',?_,OwnR.mk h3 h4⟩
 simp [execOp,resolve,invoke,builtin,hF.eval hx,hF.eval hy,h2]
theorem Cl.of {f : FuncId} {args : Array Value} {v : Value} {Q : World → Prop} (h : Calls P f args w fun e w' => e = .returned v ∧ Q w') : Cl P f args w (fun u w' => u = v ∧ Q w') :=
 Calls.mono h fun _ _ ⟨h1,h2⟩ => ⟨v,h1,rfl,h2⟩
end
end Go.Gx
namespace Go.Gx
open Go.RowKit
section
variable {P : Program} {n : Nat} {L : Env} {w : World} {d : Option Tmp} {ty : TypeId} {pos : String} {af : Array Edge} {g : Option (Nat × Bool)}
theorem w_toUnsafe {src dst t e : TypeId} {j : TypeInfo} {cells : Nat} {x : Operand} {ad : Addr} (hs : P.underlying src = some (.pointer t)) (hd : P.underlying dst = some .unsafePointer) (ht : P.info? t = some j) (hj : j.size ≠ 0)
  (hsh : w.shape? ad.block = some (e,cells)) (hoff : ad.off < cells) (hx : evO L x = some (.pointer (some ad))) : Wl P n ⟨d,.convert src dst x,ty,pos,af,g⟩ L w (fun u w' => u = .pointer (some ad) ∧ w = w') := w_run fun a hF =>
 ⟨_,_,by simp [execOp,hF.eval hx,Lib.run_to_unsafe w ad hs hd ht hj hsh hoff],rfl,rfl⟩
theorem w_fromUnsafe {src dst u e : TypeId} {j : TypeInfo} {cells : Nat} {x : Operand} {ad : Addr} (hs : P.underlying src = some .unsafePointer) (hd : P.underlying dst = some (.pointer u)) (hu : P.info? u = some j)
  (hsh : w.shape? ad.block = some (e,cells)) (hlies : liesAt P P.depth e (cells / P.cellsOf e) ad.off u 1 = true) (hx : evO L x = some (.pointer (some ad))) : Wl P n ⟨d,.convert src dst x,ty,pos,af,g⟩ L w (fun v w' => v = .pointer (some ad) ∧ w = w') := w_run fun a hF =>
 ⟨_,_,by simp [execOp,hF.eval hx,Lib.run_from_unsafe w ad hs hd hu hsh hlies],rfl,rfl⟩
end
end Go.Gx
namespace Go.Gx
open Go.RowKit
def SlC (w : World) (v : Value) (size n : Nat) (cs : List Value) : Prop :=
 cs.length = n * size ∧ ∃ p cap,v = .slice p n cap ∧ n ≤ cap ∧ (cap = 0 ∨ ∃ b o,p = some ⟨b,o,none⟩ ∧ Cells w b o cs)
theorem SlC.ext {w w' : World} {v : Value} {size n : Nat} {cs : List Value} (h : SlC w v size n cs) (k : Ext w w') : SlC w' v size n cs := by
 obtain ⟨h1,p,cap,h2,h3,h4⟩ := h
 refine ⟨h1,p,cap,h2,h3,h4.imp id ?_⟩
 rintro ⟨b,o,h5,h6⟩
 exact ⟨b,o,h5,h6.ext k⟩
theorem Cells.sub {w : World} {b o : Nat} {cs : List Value} (h : Cells w b o cs) (i m : Nat) : Cells w b (o + i) ((cs.drop i).take m) := fun j v hv => by
 rw [Nat.add_assoc]
 refine h (i + j) v ?_
 rw [List.getElem?_take] at hv
 split at hv
 ·rwa [List.getElem?_drop] at hv
 ·cases hv
theorem SlC.cut {w : World} {p : Option Addr} {size n cap : Nat} {cs : List Value} (h : SlC w (.slice p n cap) size n cs) {l r : Nat} (h1 : l ≤ r) (h2 : r ≤ n) :
  SlC w (.slice (if cap = l then p else p.map (·.add (l * size))) (r - l) (cap - l)) size (r - l) ((cs.drop (l * size)).take ((r - l) * size)) := by
 obtain ⟨h3,p',cap',h4,h5,h6⟩ := h
 obtain ⟨rfl,_,rfl⟩ := Value.slice.inj h4
 have h7 : (r - l) * size ≤ n * size - l * size := by rw [← Nat.sub_mul]; exact Nat.mul_le_mul_right _ (by omega)
 refine ⟨by rw [List.length_take,List.length_drop,h3]; omega,_,_,rfl,by omega,?_⟩
 rcases h6 with rfl | ⟨b,o,rfl,hc⟩
 ·exact .inl (by omega)
 ·by_cases hcl : cap = l
  ·rw [if_pos hcl]
   refine .inr ⟨b,o,rfl,?_⟩
   have : r - l = 0 := by omega
   rw [this,Nat.zero_mul,List.take_zero]
   intro i v hv; simp at hv
  ·rw [if_neg hcl]
   exact .inr ⟨b,o + l * size,by simp [addr_add],hc.sub _ _⟩
def optV (L : Env) (d : Value) : Option Operand → Option Value
 | none => some d
 | some y => evO L y
section
variable {P : Program} {n : Nat} {L : Env} {w : World} {d : Option Tmp} {ty : TypeId} {pos : String} {af : Array Edge} {g : Option (Nat × Bool)}
variable {ops : Array Oper} {dr : Option (List Nat)} {K : Kn} {dd : Tmp} {op : Op} {rest : List Oper} {v : Value}
theorem t_sliceG {t e : TypeId} {x : Operand} {lo hi : Option Operand} {p : Option Addr} {len cap size : Nat} {ag : Bool} {l h : Int} (hu : P.underlying t = some (.slice e)) (ht : Ty P e size ag) (hx : evO L x = some (.slice p len cap))
  (hlo : optV L (.int .i64 0) lo = some (.int .i64 l)) (hhi : optV L (.int .i64 len) hi = some (.int .i64 h)) (hb : 0 ≤ l ∧ l ≤ h ∧ h ≤ cap) :
  Tm P n ⟨d,.slice t x lo hi none,ty,pos,af,g⟩ L w (.slice (if cap = l.toNat then p else p.map (·.add (l.toNat * size))) (h.toNat - l.toNat) (cap - l.toNat)) := fun a ha w' _ => by
 obtain ⟨h1,h2,h3⟩ := hb
 have h0 : 0 ≤ h := by omega
 cases lo <;> cases hi <;> simp only [optV,Option.some.injEq,Value.int.injEq,true_and] at hlo hhi
 ·subst hlo; subst hhi
  simp [execOp,ha.eval hx,Instr.sliceAt,Instr.slice,run_underlying hu,Instr.sliceBounds,ht.sz]
 ·subst hlo
  simp [execOp,ha.eval hx,ha.eval hhi,Instr.sliceAt,Instr.slice,run_underlying hu,Instr.sliceBounds,Instr.sliceBound,asIntOf,h0,h3,ht.sz]
 ·subst hhi
  simp [execOp,ha.eval hx,ha.eval hlo,Instr.sliceAt,Instr.slice,run_underlying hu,Instr.sliceBounds,Instr.sliceBound,asIntOf,h1,h2,ht.sz]
 ·have h4 : l ≤ (h.toNat : Int) := by omega
  simp [execOp,ha.eval hx,ha.eval hlo,ha.eval hhi,Instr.sliceAt,Instr.slice,run_underlying hu,Instr.sliceBounds,Instr.sliceBound,asIntOf,h0,h1,h3,h4,show l ≤ max h 0 from by omega,ht.sz]
theorem Rg.sl {wB : World} {t e : TypeId} {x : Operand} {lo hi : Option Operand} {size m : Nat} {ag : Bool} {l h : Int} {cs : List Value} (hs : SlC wB v size m cs) (hg : gYes ops ⟨some dd,.slice t x lo hi none,ty,pos,af,g⟩ L) (hx : evO L x = some v) (hu : P.underlying t = some (.slice e)) (ht : Ty P e size ag)
  (hlo : optV L (.int .i64 0) lo = some (.int .i64 l)) (hhi : optV L (.int .i64 m) hi = some (.int .i64 h)) (hb : 0 ≤ l ∧ l ≤ h ∧ h ≤ m) (hd : Nat.blt dd n = true)
  (k : ∀ v',SlC wB v' size (h.toNat - l.toNat) ((cs.drop (l.toNat * size)).take ((h.toNat - l.toNat) * size)) → Rg P ops n dr K rest ((dd,v') :: L) w) : Rg P ops n dr K (⟨some dd,.slice t x lo hi none,ty,pos,af,g⟩ :: rest) L w := by
 obtain ⟨_,p,cap,rfl,h2,_⟩ := id hs
 exact Rg.tm hg rfl (t_sliceG hu ht hx hlo hhi ⟨hb.1,hb.2.1,by omega⟩) hd (k _ (hs.cut (by omega) (by omega)))
theorem t_lenC {wB : World} {t e : TypeId} {x : Operand} {size m : Nat} {cs : List Value} (hs : SlC wB v size m cs) (hu : P.underlying t = some (.slice e)) (hx : evO L x = some v) : Tm P n ⟨d,.call { callee := .builtin .len,args := #[x],argTypes := #[t] },ty,pos,af,g⟩ L w (.int .i64 m) := by
 obtain ⟨_,p,cap,rfl,_⟩ := hs
 exact t_lenS hu hx
theorem Rg.ix {wB : World} {t e : TypeId} {x y : Operand} {size m : Nat} {ag : Bool} {i : Int} {k : IntKind} {cs : List Value} (hs : SlC wB v size m cs) (hg : gYes ops ⟨some dd,.indexAddr t x y,ty,pos,af,g⟩ L) (hx : evO L x = some v) (hy : evO L y = some (.int k i)) (hu : P.underlying t = some (.slice e)) (ht : Ty P e size ag)
  (hb : 0 ≤ i ∧ i < m) (hd : Nat.blt dd n = true) (k : ∀ b o,Cells wB b o ((cs.drop (i.toNat * size)).take size) → Rg P ops n dr K rest ((dd,.pointer (some ⟨b,o,none⟩)) :: L) w) : Rg P ops n dr K (⟨some dd,.indexAddr t x y,ty,pos,af,g⟩ :: rest) L w := by
 obtain ⟨_,p,cap,rfl,h2,h3⟩ := id hs
 rcases h3 with rfl | ⟨b,o,rfl,hc⟩
 ·omega
 ·exact Rg.tm hg rfl (t_indexAddrL hu ht hx hy hb) hd (k _ _ (hc.sub _ _))
theorem w_buildSlice {t len e : Nat} {parts : Array (Nat × Operand)} {pv : List (Nat × Value)} {cs : List Value} (h : ∀ w,(Instr.buildSlice t len pv.toArray).run P w = .ok (.slice (some ⟨w.heap.size,0,none⟩) len len) (w.alloc (.cells cs.toArray e))) (hp : (parts.toList.map fun q => (q.1,evO L q.2)) = pv.map fun q => (q.1,some q.2)) :
  Wl P n ⟨d,.buildSlice t len parts,ty,pos,af,g⟩ L w (fun u w' => ∃ b,u = .slice (some ⟨b,0,none⟩) len len ∧ b = w.heap.size ∧ Ext w w' ∧ Var w' b cs e) := w_run fun a ha => by
 have : (parts.map fun q => (q.1,a.eval q.2)) = pv.toArray := by
  apply Array.toList_inj.1
  rw [Array.toList_map]
  show _ = pv
  generalize parts.toList = ps at *
  clear h
  induction ps generalizing pv with
  | nil => cases pv <;> simp_all
  | cons p ps ih =>
   cases pv with
   | nil => simp at hp
   | cons q vs =>
    simp only [List.map_cons,List.cons.injEq,Prod.mk.injEq] at hp ⊢
    refine ⟨?_,ih hp.2⟩
    rw [hp.1.1,ha.eval hp.1.2]
 refine ⟨.slice (some ⟨w.heap.size,0,none⟩) len len,w.alloc (.cells cs.toArray e),?_,w.heap.size,rfl,rfl,Ext.alloc _ _,?_⟩
 ·simp only [execOp]
  rw [show (parts.map fun (i,x) => (i,a.eval x)) = pv.toArray from this]
  simp [h]
 ·unfold Var World.alloc; simp
end
theorem own_slice {w : World} {B e size n : Nat} {v : Value} {xs : List Value} (h : w.ownsRow B e size v n xs) : SlC w v size n xs := by
 obtain ⟨h1,h2⟩ := h
 rcases h2 with ⟨rfl,rfl⟩ | ⟨b,cap,cur,rfl,hB,hh,hn,hcap,hsz,hxs⟩
 ·exact ⟨h1,_,_,rfl,Nat.le_refl _,.inl rfl⟩
 ·refine ⟨h1,_,_,rfl,hn,.inr ⟨b,0,rfl,fun i v hv => ?_⟩⟩
  rw [Nat.zero_add]
  simp only [World.cell?,hh]
  subst hxs
  rw [List.getElem?_take] at hv
  split at hv
  ·simpa using hv
  ·cases hv
theorem own_nil (w : World) (B e size : Nat) : w.ownsRow B e size (.slice none 0 0) 0 [] := ⟨by simp,.inl ⟨rfl,rfl⟩⟩
theorem own_ext {w w' : World} {B e size n : Nat} {v : Value} {xs : List Value} (h : w.ownsRow B e size v n xs) (k : Ext w w') : w'.ownsRow B e size v n xs := by
 obtain ⟨h1,h2⟩ := h
 refine ⟨h1,h2.imp id ?_⟩
 rintro ⟨b,cap,cur,h3,hB,hh,r⟩
 exact ⟨b,cap,cur,h3,hB,by rw [k.below.block b (Array.getElem?_eq_some_iff.1 hh).1]; exact hh,r⟩
end Go.Gx
namespace Go.Gx
open Go.RowKit
section
variable {P : Program} {n : Nat} {L : Env} {w : World} {d : Option Tmp} {ty : TypeId} {pos : String} {af : Array Edge} {g : Option (Nat × Bool)}
theorem t_remI {t t' : TypeId} {x y : Operand} {u v : Int} (hx : evO L x = some (.int .i64 u)) (hy : evO L y = some (.int .i64 v)) (hv : v ≠ 0) : Tm P n ⟨d,.binOp .rem t x y t',ty,pos,af,g⟩ L w (.int .i64 (u.tmod v)) := fun a ha w' _ => by
 simp only [execOp,eqGuard,binOp,Op.intDiv,ha.eval hx,ha.eval hy]
 rw [if_neg hv]
 simp
end
end Go.Gx
namespace Go.Gx
open Go.RowKit
section
variable {P : Program} {ops : Array Oper} {n : Nat} {K : Kn} {X : Exit → Kn} {b : Nat} {listed : Array Bool} {L : Env} {w : World} {m : Nat}
def tameOk (ops : Array Oper) (b : Nat) (listed : Array Bool) (i : Nat) : Bool :=
 (Region.ready .any ops listed).contains i && Region.free .any ops listed i && (Nat.beq b ops.size || (!Nat.beq b i && (ancs ops (b + 1) [b]).contains i))
theorem wpAnyB_firstW {Q : Exit → Act → World → Prop} {S : World → Prop} {i : Nat} {oi : Oper} {v : Value} (hi : ops[i]? = some oi) (hsel : ∀ (j : Nat) (o : Oper) cs b,ops[j]? = some o → o.op ≠ .select cs b)
  (hQ : ∀ c a w,Q (.panic c) (a.put oi.dst v) w → Q (.panic c) a w) (hib : i ≠ b) :
  ∀ (fuel : Nat) (listed : Array Bool) (a : Act) (w : World),
   (∀ j oj,ops[j]? = some oj → j ≠ i → listed.getD j true = false → (∀ e ∈ oj.after,Region.binds .any e = true → e.on ≠ i) → oi.apart ops oj = true) →
   i ∈ Region.ready .any ops listed → Yields P ops oi v a → S w →
   wpAnyB P ops Q S b fuel (listed.setIfInBounds i true) (a.put oi.dst v) w → wpAnyB P ops Q S b (fuel + 1) listed a w := by
 intro fuel
 induction fuel with
 | zero =>
  intro listed a w _ hr hy hS H
  refine ⟨fun h => (by rw [h] at hr; cases hr),fun j hj => ?_⟩
  by_cases hji : j = i
  ·subst hji; exact hy.wpOp hi ⟨fun e => absurd e hib,fun _ => ⟨hS,H⟩⟩
  ·have := ready_mono hj hji
   rw [H.1] at this
   cases this
 | succ fuel ih =>
  intro listed a w hfree hr hy hS H
  refine ⟨fun h => (by rw [h] at hr; cases hr),fun j hj => ?_⟩
  by_cases hji : j = i
  ·subst hji; exact hy.wpOp hi ⟨fun e => absurd e hib,fun _ => ⟨hS,H⟩⟩
  ·have hun : listed.getD i false = false := by
    have h0 := (mem_ready.1 hr).1
    rcases Nat.lt_or_ge i listed.size with h' | h'
    ·simpa [h'] using h0
    ·simp [Array.getElem?_eq_none h'] at h0
   have h1 := H.2 j (ready_mono hj hji)
   obtain ⟨hjun,oj,hoj,hall⟩ := mem_ready.1 hj
   have hnot : ∀ e ∈ oj.after,Region.binds .any e = true → e.on ≠ i := fun e he hb heq => by
    have h1 := hall e he hb
    rw [heq,hun] at h1
    cases h1
   have h2 := wpOp_put hoj (hfree j oj hoj hji hjun hnot) (fun cs b => hsel i oi cs b hi) (fun cs b => hsel j oj cs b hoj) hQ hy h1
   have hfree' : ∀ k ok,ops[k]? = some ok → k ≠ i → (listed.setIfInBounds j true).getD k true = false →
     (∀ e ∈ ok.after,Region.binds .any e = true → e.on ≠ i) → oi.apart ops ok = true := fun k ok hk hki hun hno => by
    refine hfree k ok hk hki ?_ hno
    by_cases hjk : j = k
    ·subst hjk; exact hjun
    ·rw [getD_set_ne true hjk] at hun; exact hun
   refine wpOp_mono (fun a' w' h3 => ⟨fun e => ?_,fun hjb => ?_⟩) h2
   ·refine wpAny_first hi hsel hQ fuel (listed.setIfInBounds j true) a' w' hfree' (ready_mono hr (Ne.symm hji)) h3.1 ?_
    rw [Array.setIfInBounds_comm _ _ hji]
    exact h3.2.1 e
   ·have h6 := h3.2.2 hjb
    refine ⟨h6.1,ih (listed.setIfInBounds j true) a' w' hfree' (ready_mono hr (Ne.symm hji)) h3.1 h6.1 ?_⟩
    rw [Array.setIfInBounds_comm _ _ hji]
    exact h6.2
def TmW (P : Program) (n : Nat) (o : Oper) (L : Env) (v : Value) : Prop := ∀ a,Fr n a L → ∀ w',(execOp a.eval o).run P w' = .ok (.value v) w'
section
variable {d : Option Tmp} {ty : TypeId} {pos : String} {af : Array Edge} {g : Option (Nat × Bool)} {v : Value}
end
def tameOkW (ops : Array Oper) (b : Nat) (listed : Array Bool) (i : Nat) : Bool :=
 (Region.ready .any ops listed).contains i && Region.free .any ops listed i && !Nat.beq i b
end
end Go.Gx
namespace Go.Gx
open Go.RowKit
section
variable {P : Program} {n : Nat} {L : Env} {w : World} {d : Option Tmp} {ty : TypeId} {pos : String} {af : Array Edge} {g : Option (Nat × Bool)}
theorem map_eval {a : Act} (hF : Fr n a L) : ∀ {ps : List Operand} {vs : List Value},ps.map (evO L) = vs.map some → ps.map a.eval = vs
 | [],vs,h => by cases vs <;> simp_all
 | p :: ps,[],h => by simp at h
 | p :: ps,q :: vs,h => by
  simp only [List.map_cons,List.cons.injEq] at h ⊢
  exact ⟨hF.eval h.1,map_eval hF h.2⟩
theorem w_callV {x : Operand} {f : FuncId} {args : Array Operand} {at_ : Array TypeId} {vs : List Value} {R : Value → World → Prop} (hx : evO L x = some (.func (.func f) #[] #[])) (hf : ∀ (args : Array Value) (w : World),(callFunc f args).run P w = .ok (.enter f args) w)
  (ha : args.toList.map (evO L) = vs.map some) (h : Cl P f vs.toArray w R) : Wl P n ⟨d,.call { callee := .value x,args := args,argTypes := at_ },ty,pos,af,g⟩ L w R := fun a hF Q next hn => by
 have hargs : args.map a.eval = vs.toArray := by
  apply Array.toList_inj.1
  rw [Array.toList_map]
  exact map_eval hF ha
 have hrun : (execOp a.eval ⟨d,.call { callee := .value x,args := args,argTypes := at_ },ty,pos,af,g⟩).run P w = .ok (.enter f vs.toArray) w := by
  simp [execOp,resolve,hF.eval hx,Deferred.ofValue,invoke,hf,hargs]
 unfold Oper.wp
 rw [hrun]
 simp only [Oper.upon]
 exact Calls.mono h fun e w' ⟨v,he,hr⟩ => by subst he; exact hn v w' hr
theorem w_putF {t t0 : TypeId} {x y : Operand} {b o : Nat} {u v : Value} {old : List Value} (h : Var w b old t0) (ht : Ty P t 1 false) (hx : evO L x = some (.pointer (some ⟨b,o,none⟩))) (hy : evO L y = some v) (ho : old[o]? = some u) (hv : v.cells = #[v]) (h1 : v.oneCell' = true) :
  Wl P n ⟨none,.store t x y,ty,pos,af,g⟩ L w (StoreR w b (old.set o v) t0) := fun a hF Q next hn => by
 have hc : w.cell? ⟨b,o,none⟩ = some u := by have := h.cells o u ho; rwa [Nat.zero_add] at this
 refine w_set ht hx hy hc (Lib.frozen_of_heap h o) hv h1 a hF Q next fun z w' hw => hn z w' ?_
 subst hw
 refine ⟨⟨rfl,rfl,rfl,by simp [World.setCell],fun k hk => Below.heap_setCell _ _ _ _ (fun e => hk e)⟩,?_⟩
 unfold Var at h ⊢
 simp [World.setCell,Array.getElem?_modify,h]
theorem t_eqlAgg {t t' : TypeId} {x y : Operand} {xs ys : Array Value} {b : Bool} (hg : P.eqGuardType P.depth t = false) (he : ∀ w,(Op.equal t (.agg xs) (.agg ys)).run P w = .ok b w) (hx : evO L x = some (.agg xs)) (hy : evO L y = some (.agg ys)) : Tm P n ⟨d,.binOp .eql t x y t',ty,pos,af,g⟩ L w (.bool b) := fun a ha w' _ => by
 simp [execOp,ha.eval hx,ha.eval hy,eqGuard,hg,binOp,he]
theorem t_neqAgg {t t' : TypeId} {x y : Operand} {xs ys : Array Value} {b : Bool} (hg : P.eqGuardType P.depth t = false) (he : ∀ w,(Op.equal t (.agg xs) (.agg ys)).run P w = .ok b w) (hx : evO L x = some (.agg xs)) (hy : evO L y = some (.agg ys)) : Tm P n ⟨d,.binOp .neq t x y t',ty,pos,af,g⟩ L w (.bool (!b)) := fun a ha w' _ => by
 simp [execOp,ha.eval hx,ha.eval hy,eqGuard,hg,binOp,he]
end
theorem rg_wdC {P : Program} {n : Nat} {ops : Array Oper} {K : Kn} {L : Env} {w : World} {bars : List Nat} {R : Value → World → Prop} {dd : Tmp} {op : Op} {ty : TypeId} {pos : String} {af : Array Edge} {g : Option (Nat × Bool)} {rest : List Oper} (hg : gYes ops ⟨some dd,op,ty,pos,af,g⟩ L) (hk : wildKind op = true) (h : Wl P n ⟨some dd,op,ty,pos,af,g⟩ L w R) (hd : Nat.blt dd n = true) (hc : bars.contains rest.length = true)
  (k : ∀ v w',R v w' → Rg P ops n (some bars) K rest ((dd,v) :: L) w') : Rg P ops n (some bars) K (⟨some dd,op,ty,pos,af,g⟩ :: rest) L w := .wild R hg h (fun bs hbs => by
   injection hbs with hbs
   subst hbs
   exact ⟨hk,fun hf => absurd hc (by rw [hf]; simp)⟩) hd k
end Go.Gx
namespace Go.Gx
open Go.RowKit
theorem own_mono {w : World} {B B' e size n : Nat} {v : Value} {xs : List Value} (h : w.ownsRow B e size v n xs) (hb : B' ≤ B) : w.ownsRow B' e size v n xs :=
 ⟨h.1,h.2.imp id fun ⟨g,cap,cur,h1,h2,h3⟩ => ⟨g,cap,cur,h1,by omega,h3⟩⟩
section
variable {P : Program} {n : Nat} {L : Env} {w : World} {d : Option Tmp} {ty : TypeId} {pos : String} {af : Array Edge} {g : Option (Nat × Bool)}
theorem w_appendC {t e : TypeId} {i : TypeInfo} {z : Value} {x y : Operand} (B : Nat) {size bytes : Nat} {v u : Value} {m k : Nat} {xs news : List Value} (ht : P.underlying t = some (.slice e)) (hi : P.info? e = some i) (hz : i.zero = some z) (hs : i.size = size) (hby : i.bytes = bytes) (hzs : z.cells.size = size) (hpos : 0 < size)
  (hx : evO L x = some v) (hy : evO L y = some u) (hown : w.ownsRow B e size v m xs) (hsl : SlC w u size k news) (h1 : ∀ u ∈ news,u.oneCell' = true)
  (h63 : m + k ≤ maxLen) (hb : (m + k) * bytes ≤ 140737488355328) (hB : B ≤ w.heap.size) :
  Wl P n ⟨d,.call { callee := .builtin .append,args := #[x,y],argTypes := #[t,t] },ty,pos,af,g⟩ L w (OwnR w B e size v (m + k) (xs ++ news)) := by
 obtain ⟨hl,p,cap,rfl,hkc,hd⟩ := hsl
 cases p with
 | none =>
  have hc : cap = 0 := hd.elim id fun ⟨b,o,h,_⟩ => by cases h
  subst hc
  obtain rfl : k = 0 := by omega
  obtain rfl : news = [] := List.length_eq_zero_iff.1 (by simpa using hl)
  refine w_run fun a hF => ⟨v,w,?_,OwnR.mk (by simpa using hown) (World.grownBy.refl _ _)⟩
  have := run_append_owned_none (P := P) w B t ty e i size ht hi v m xs hown
  simp [execOp,resolve,invoke,builtin,hF.eval hx,hF.eval hy,this]
 | some ad =>
  refine w_append B ht hi hz hs hby hzs hpos hx hy hown hl (fun j u hu => ?_) h1 h63 hb hB
  rcases hd with h0 | ⟨b,o,hp,hc⟩
  ·obtain rfl : k = 0 := by omega
   obtain rfl : news = [] := List.length_eq_zero_iff.1 (by simpa using hl)
   simp at hu
  ·cases hp
   rw [addr_add]
   exact hc j u hu
end
end Go.Gx
namespace Go.Gx
open Go.RowKit
section
variable {P : Program} {n : Nat} {L : Env} {w : World} {d : Option Tmp} {ty : TypeId} {pos : String} {af : Array Edge} {g : Option (Nat × Bool)}
theorem t_slNil {t t' e : TypeId} {x y : Operand} {p : Option Addr} {l c : Nat} (hu : P.underlying t = some (.slice e)) (hx : evO L x = some (.slice p l c)) (hy : evO L y = some (.slice none 0 0)) : Tm P n ⟨d,.binOp .eql t x y t',ty,pos,af,g⟩ L w (.bool p.isNone) := fun a ha w' _ => by
 simp [execOp,ha.eval hx,ha.eval hy,eqGuard,binOp,run_equal_slice_nil w' t e p l c hu]
end
theorem own_of_varS {w : World} {B b e n size : Nat} {cs : List Value} (h : Var w b cs e) (hB : B ≤ b) (hl : cs.length = n * size) (hm : n ≤ maxLen) : w.ownsRow B e size (.slice (some ⟨b,0,none⟩) n n) n cs :=
 ⟨hl,.inr ⟨b,n,cs.toArray,rfl,hB,h,Nat.le_refl _,hm,by simpa using hl,List.take_of_length_le (by simpa using Nat.le_of_eq hl)⟩⟩
end Go.Gx
namespace Go.Gx
open Go.RowKit
structure Kp (Z : List Nat) (w w' : World) : Prop where
 base : Below 0 w w'
 block : ∀ k,k < w.heap.size → k ∉ Z → w'.heap[k]? = w.heap[k]?
theorem Kp.refl (Z : List Nat) (w : World) : Kp Z w w := ⟨Below.refl _ _,fun _ _ _ => rfl⟩
theorem Kp.trans {Z : List Nat} {a b c : World} (h : Kp Z a b) (k : Kp Z b c) : Kp Z a c :=
 ⟨Below.trans h.base k.base,fun i h1 h2 => (k.block i (Nat.lt_of_lt_of_le h1 h.base.size) h2).trans (h.block i h1 h2)⟩
theorem Ext.kp {w w' : World} (h : Ext w w') (Z : List Nat) : Kp Z w w' := ⟨⟨h.os,h.tape,h.output,h.size,fun _ hk => absurd hk (Nat.not_lt_zero _)⟩,fun k hk _ => Below.block h k hk⟩
theorem Upd.kp {b : Nat} {Z : List Nat} {w w' : World} (h : Upd b w w') (hb : b ∈ Z) : Kp Z w w' := by
 exact ⟨⟨h.os,h.tape,h.output,Nat.le_of_eq h.size.symm,fun _ hk => absurd hk (Nat.not_lt_zero _)⟩,fun k hk hz => h.block k fun e => hz (by rw [e]; exact hb)⟩
theorem Kp.ext {Z : List Nat} {w0 w w' : World} (h : Ext w0 w) (k : Kp Z w w') (hz : ∀ z ∈ Z,w0.heap.size ≤ z) : Ext w0 w' :=
 ⟨k.base.os.trans h.os,k.base.tape.trans h.tape,k.base.output.trans h.output,Nat.le_trans h.size k.base.size,fun i hi => (k.block i (Nat.lt_of_lt_of_le hi h.size) fun e => by have := hz i e; omega).trans (Below.block h i hi)⟩
theorem Kp.le {Z : List Nat} {w w' : World} (h : Kp Z w w') : w.heap.size ≤ w'.heap.size := h.base.size
theorem Var.kp {Z : List Nat} {w w' : World} {b : Nat} {cs : List Value} {t : TypeId} (h : Var w b cs t) (k : Kp Z w w') (hb : b ∉ Z) : Var w' b cs t := by
 have hlt := h.lt
 unfold Var at *
 rw [k.block b hlt hb]
 exact h
theorem var_ne {w : World} {b t t' : Nat} {cs : List Value} (h : Var w b cs t) (ht : t ≠ t') : ∀ cs',w.heap[b]? ≠ some (.cells cs' t' (0,0)) := fun cs' e => by
 unfold Var at h
 rw [h] at e
 simp only [Option.some.injEq,Obj.cells.injEq] at e
 exact ht e.2.1
theorem Var.ne {w : World} {b b' t t' : Nat} {cs cs' : List Value} (h : Var w b cs t) (h' : Var w b' cs' t') (ht : t ≠ t') : b ≠ b' := fun e => by
 subst e
 exact var_ne h ht _ h'
theorem own_block {w : World} {B e size n k : Nat} {v : Value} {xs : List Value} (h : w.ownsRow B e size v n xs) (hk : some k = v.ownBlock) : ∃ cs,w.heap[k]? = some (.cells cs e (0,0)) := by
 rcases h.2 with ⟨rfl,_⟩ | ⟨g,cap,cur,rfl,_,hg,_⟩
 ·cases hk
 ·obtain rfl : k = g := by simpa [Value.ownBlock] using hk
  exact ⟨cur,hg⟩
theorem Var.grown {w w' : World} {b t B e size n : Nat} {cs xs : List Value} {v : Value} (h : Var w b cs t) (hown : w.ownsRow B e size v n xs) (hg : w.grownBy w' v.ownBlock) (ht : t ≠ e) : Var w' b cs t := by
 have hlt := h.lt
 have hne : some b ≠ v.ownBlock := fun hk => by
  obtain ⟨cs',hc⟩ := own_block hown hk
  exact var_ne h ht cs' hc
 unfold Var at *
 rw [hg.block b hlt hne]
 exact h
section
variable {P : Program} {n : Nat} {L : Env} {w : World} {d : Option Tmp} {ty : TypeId} {pos : String} {af : Array Edge} {g : Option (Nat × Bool)}
theorem w_putAt {t t0 : TypeId} {x y : Operand} {b o : Nat} {v : Value} {old cs : List Value} {ag : Bool} (h : Var w b old t0) (hx : evO L x = some (.pointer (some ⟨b,o,none⟩))) (hy : evO L y = some v) (hc : v.cells = cs.toArray) (ht : Ty P t cs.length ag) (hl : o + cs.length ≤ old.length) (h1 : ∀ u ∈ cs,u.oneCell' = true) :
  Wl P n ⟨none,.store t x y,ty,pos,af,g⟩ L w (StoreR w b (old.take o ++ cs ++ old.drop (o + cs.length)) t0) := fun a hF Q next hn => by
 have hst := run_storeCells_at (P := P) b o t0 cs 0 old.toArray w h (by simpa using hl) h1
 simp only [Nat.add_zero,List.toList_toArray] at hst
 have hrun : (execOp a.eval ⟨none,.store t x y,ty,pos,af,g⟩).run P w = .ok .skip (w.setRow b (old.take o ++ cs ++ old.drop (o + cs.length)).toArray) := by
  simp [execOp,Instr.storeAt,hF.eval hx,hF.eval hy,Instr.sureAddr,storeVar,ht.sz,hc,hst]
 unfold Oper.wp
 rw [hrun]
 refine hn undef _ ⟨Upd.setRow w b _,?_⟩
 unfold Var at h ⊢
 exact setRow_heap w b old.toArray _ t0 _ h
end
end Go.Gx
namespace Go.Gx
open Go.RowKit
open Go.ChangeMaps (setBlock heap_setBlock_same heap_setBlock_other)
section
variable {P : Program} {k : TypeId} {Q : Value → Prop}
end
section
variable {P : Program} {n : Nat} {L : Env} {w : World} {d : Option Tmp} {ty : TypeId} {pos : String} {af : Array Edge} {g : Option (Nat × Bool)}
variable {ops : Array Oper} {dr : Option (List Nat)} {K0 : Kn} {dd : Tmp} {rest : List Oper}
end
end Go.Gx
