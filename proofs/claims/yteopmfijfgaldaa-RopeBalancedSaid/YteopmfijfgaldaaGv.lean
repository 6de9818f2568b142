/- The engine: a region that draws its order and in which several operations that turn the world may come up at once. Generic in the program. -/
import Derived.Test.YteopmfijfgaldaaGr
namespace Go.Gx
set_option linter.unusedVariables false
set_option linter.unusedSimpArgs false
open Go.RowKit

/-- from here on, whatever order is picked (m: how many operations are left; b: the next operation behind which the world may have been written) -/
def Ra (P : Program) (ops : Array Oper) (n : Nat) (K : Kn) (X : Exit → Kn) (b : Nat) (listed : Array Bool) (L : Env) (w : World) (m : Nat) : Prop :=
  ∀ a, Fr n a L → Closed ops listed → ∀ fuel, m ≤ fuel → wpAnyB P ops (Tq n K X) (Below w.heap.size w) b fuel listed a w

section
variable {P : Program} {ops : Array Oper} {n : Nat} {K : Kn} {X : Exit → Kn} {b : Nat} {listed : Array Bool} {L : Env} {w : World} {m : Nat}

theorem Ra.done (hr : Region.ready .any ops listed = []) (h : K L w) : Ra P ops n K X b listed L w m := fun a ha _ fuel _ => wpAnyB_done hr ⟨_, ha, h⟩ fuel

theorem Ra.canon {listed' : Array Bool} (h : listed = listed') (k : Ra P ops n K X b listed' L w m) : Ra P ops n K X b listed L w m := h ▸ k
theorem Ra.sub {M : Env} (h : Sub M L) (k : Ra P ops n K X b listed M w m) : Ra P ops n K X b listed L w m := fun a ha => k a (ha.sub h)

def tameOk (ops : Array Oper) (b : Nat) (listed : Array Bool) (i : Nat) : Bool :=
  (Region.ready .any ops listed).contains i && Region.free .any ops listed i && (Nat.beq b ops.size || (!Nat.beq b i && (ancs ops (b + 1) [b]).contains i))

theorem Ra.tame (hs : Region.noSelect ops = true) {o : Oper} {v : Value} (i : Nat) (ho : ops[i]? = some o) (hc : tameOk ops b listed i = true) (hg : gYes ops o L) (h : Tm P n o L w v) (hd : dOk n o.dst = true)
    (k : Ra P ops n K X b (listed.setIfInBounds i true) (putE o.dst v L) w m) : Ra P ops n K X b listed L w (m + 1) := fun a ha hcl fuel hf => by
  obtain ⟨fuel, rfl⟩ : ∃ f, fuel = f + 1 := ⟨fuel - 1, by omega⟩
  simp only [tameOk, Bool.and_eq_true, Bool.or_eq_true, Bool.not_eq_true'] at hc
  obtain ⟨⟨hr, hfr⟩, hbar⟩ := hc
  have hri : i ∈ Region.ready .any ops listed := by simpa using hr
  refine wpAnyB_first ho (Region.noSelect_spec hs) (fun _ _ _ h => h) ?_ fuel listed a w (Region.free_spec ho hfr) hri hcl (.inl ⟨hg.wanted ha, fun w' hw' => h a ha w' hw'⟩) (Below.refl _ _)
    (k _ (ha.put hd _) (hcl.set hri) fuel (by omega))
  rcases hbar with hbar | ⟨hne, hanc⟩
  · have hb := Nat.eq_of_beq_eq_true hbar
    have hil := ready_lt hri
    exact ⟨by omega, fun l _ _ hm => by have := ready_lt hm; omega⟩
  · have hne' : b ≠ i := fun e => by rw [e, Nat.beq_refl] at hne; cases hne
    refine ⟨hne', fun l hl hi hm => ?_⟩
    have hself : ∀ j ∈ [b], Anc ops b j := fun j hj => by
      have hj' : j = b := by simpa using hj
      rw [hj']
      exact Anc.self
    have hA := ancs_sound (b := b) (b + 1) _ hself i (by simpa using hanc)
    rcases hl.anc hm hA with e | e
    · exact hne' e.symm
    · rw [hi] at e; cases e

theorem wpAnyB_firstW {Q : Exit → Act → World → Prop} {S : World → Prop} {i : Nat} {oi : Oper} {v : Value} (hi : ops[i]? = some oi) (hsel : ∀ (j : Nat) (o : Oper) cs b, ops[j]? = some o → o.op ≠ .select cs b)
    (hQ : ∀ c a w, Q (.panic c) (a.put oi.dst v) w → Q (.panic c) a w) (hib : i ≠ b) :
    ∀ (fuel : Nat) (listed : Array Bool) (a : Act) (w : World),
      (∀ j oj, ops[j]? = some oj → j ≠ i → listed.getD j true = false → (∀ e ∈ oj.after, Region.binds .any e = true → e.on ≠ i) → oi.apart ops oj = true) →
      i ∈ Region.ready .any ops listed → Yields P ops oi v a → S w →
      wpAnyB P ops Q S b fuel (listed.setIfInBounds i true) (a.put oi.dst v) w → wpAnyB P ops Q S b (fuel + 1) listed a w := by
  intro fuel
  induction fuel with
  | zero =>
    intro listed a w _ hr hy hS H
    refine ⟨fun h => (by rw [h] at hr; cases hr), fun j hj => ?_⟩
    by_cases hji : j = i
    · subst hji; exact hy.wpOp hi ⟨fun e => absurd e hib, fun _ => ⟨hS, H⟩⟩
    · have := ready_mono hj hji
      rw [H.1] at this
      cases this
  | succ fuel ih =>
    intro listed a w hfree hr hy hS H
    refine ⟨fun h => (by rw [h] at hr; cases hr), fun j hj => ?_⟩
    by_cases hji : j = i
    · subst hji; exact hy.wpOp hi ⟨fun e => absurd e hib, fun _ => ⟨hS, H⟩⟩
    · have hun : listed.getD i false = false := by
        have h0 := (mem_ready.1 hr).1
        rcases Nat.lt_or_ge i listed.size with h' | h'
        · simpa [h'] using h0
        · simp [Array.getElem?_eq_none h'] at h0
      have h1 := H.2 j (ready_mono hj hji)
      obtain ⟨hjun, oj, hoj, hall⟩ := mem_ready.1 hj
      have hnot : ∀ e ∈ oj.after, Region.binds .any e = true → e.on ≠ i := fun e he hb heq => by
        have h1 := hall e he hb
        rw [heq, hun] at h1
        cases h1
      have h2 := wpOp_put hoj (hfree j oj hoj hji hjun hnot) (fun cs b => hsel i oi cs b hi) (fun cs b => hsel j oj cs b hoj) hQ hy h1
      have hfree' : ∀ k ok, ops[k]? = some ok → k ≠ i → (listed.setIfInBounds j true).getD k true = false →
          (∀ e ∈ ok.after, Region.binds .any e = true → e.on ≠ i) → oi.apart ops ok = true := fun k ok hk hki hun hno => by
        refine hfree k ok hk hki ?_ hno
        by_cases hjk : j = k
        · subst hjk; exact hjun
        · rw [getD_set_ne true hjk] at hun; exact hun
      refine wpOp_mono (fun a' w' h3 => ⟨fun e => ?_, fun hjb => ?_⟩) h2
      · refine wpAny_first hi hsel hQ fuel (listed.setIfInBounds j true) a' w' hfree' (ready_mono hr (Ne.symm hji)) h3.1 ?_
        rw [Array.setIfInBounds_comm _ _ hji]
        exact h3.2.1 e
      · have h6 := h3.2.2 hjb
        refine ⟨h6.1, ih (listed.setIfInBounds j true) a' w' hfree' (ready_mono hr (Ne.symm hji)) h3.1 h6.1 ?_⟩
        rw [Array.setIfInBounds_comm _ _ hji]
        exact h6.2

/-- it yields v whatever the world -/
def TmW (P : Program) (n : Nat) (o : Oper) (L : Env) (v : Value) : Prop := ∀ a, Fr n a L → ∀ w', (execOp a.eval o).run P w' = .ok (.value v) w'
section
variable {d : Option Tmp} {ty : TypeId} {pos : String} {af : Array Edge} {g : Option (Nat × Bool)} {v : Value}
theorem tw_move {x : Operand} (hx : evO L x = some v) : TmW P n ⟨d, .move x, ty, pos, af, g⟩ L v := fun a ha w' => by simp [execOp, ha.eval hx]
theorem tw_assign {x : Operand} (hx : evO L x = some v) : TmW P n ⟨d, .assign x, ty, pos, af, g⟩ L v := fun a ha w' => by simp [execOp, ha.eval hx]
theorem tw_extract {x : Operand} {vs : Array Value} {i : Nat} (hx : evO L x = some (.tuple vs)) (hv : vs[i]? = some v) : TmW P n ⟨d, .extract x i, ty, pos, af, g⟩ L v := fun a ha w' => by simp [execOp, ha.eval hx, Instr.extract, hv]
end
def tameOkW (ops : Array Oper) (b : Nat) (listed : Array Bool) (i : Nat) : Bool :=
  (Region.ready .any ops listed).contains i && Region.free .any ops listed i && !Nat.beq i b
theorem Ra.tameW (hs : Region.noSelect ops = true) {o : Oper} {v : Value} (i : Nat) (ho : ops[i]? = some o) (hc : tameOkW ops b listed i = true) (hg : gYes ops o L) (h : TmW P n o L v) (hd : dOk n o.dst = true)
    (k : Ra P ops n K X b (listed.setIfInBounds i true) (putE o.dst v L) w m) : Ra P ops n K X b listed L w (m + 1) := fun a ha hcl fuel hf => by
  obtain ⟨fuel, rfl⟩ : ∃ f, fuel = f + 1 := ⟨fuel - 1, by omega⟩
  simp only [tameOkW, Bool.and_eq_true, Bool.not_eq_true'] at hc
  obtain ⟨⟨hr, hfr⟩, hne⟩ := hc
  have hri : i ∈ Region.ready .any ops listed := by simpa using hr
  have hib : i ≠ b := fun e => by rw [e, Nat.beq_refl] at hne; cases hne
  exact wpAnyB_firstW ho (Region.noSelect_spec hs) (fun _ _ _ h => h) hib fuel listed a w (Region.free_spec ho hfr) hri (.inl ⟨hg.wanted ha, fun w' => h a ha w'⟩) (Below.refl _ _)
    (k _ (ha.put hd _) (hcl.set hri) fuel (by omega))

/-- one of those that may come up -/
def StepA (P : Program) (ops : Array Oper) (n : Nat) (K : Kn) (X : Exit → Kn) (b : Nat) (listed : Array Bool) (L : Env) (w : World) (m : Nat) (i : Nat) : Prop :=
  ∃ (o : Oper) (R : Value → World → Prop), ops[i]? = some o ∧ Nat.beq i b = false ∧ gYes ops o L ∧ Wl P n o L w R ∧ dOk n o.dst = true ∧ ∀ v w', R v w' → Below w.heap.size w w' ∧ Ra P ops n K X b (listed.setIfInBounds i true) (putE o.dst v L) w' m

theorem Ra.alt {is : List Nat} (hr : Region.ready .any ops listed = is) (hne : is ≠ []) (h : ∀ i ∈ is, StepA P ops n K X b listed L w m i) : Ra P ops n K X b listed L w (m + 1) := fun a ha hcl fuel hf => by
  obtain ⟨fuel, rfl⟩ : ∃ f, fuel = f + 1 := ⟨fuel - 1, by omega⟩
  refine ⟨fun h0 => absurd (hr ▸ h0) hne, fun i hi => ?_⟩
  have hi' := hi
  rw [hr] at hi
  obtain ⟨o, R, ho, hib, hg, hw, hd, k⟩ := h i hi
  have hne' : i ≠ b := fun e => by rw [e, Nat.beq_refl] at hib; cases hib
  unfold wpOp
  simp only [ho]
  rw [if_pos (hg.wanted ha)]
  refine .inl (hw a ha _ _ fun v w' hv => ⟨fun e => absurd e hne', fun _ => ?_⟩)
  obtain ⟨k1, k2⟩ := k v w' hv
  exact ⟨k1, wpAnyB_mono (fun x hx => k1.trans (hx.mono k1.size)) _ _ _ _ (k2 _ (ha.put hd v) (hcl.set hi') fuel (by omega))⟩

theorem Ra.alt1 {i : Nat} (hr : Region.ready .any ops listed = [i]) (h1 : StepA P ops n K X b listed L w m i) : Ra P ops n K X b listed L w (m + 1) := Ra.alt hr (by simp) fun k hk => by
  obtain rfl : k = i := by simpa using hk
  exact h1
theorem Ra.alt2 {i j : Nat} (hr : Region.ready .any ops listed = [i, j]) (h1 : StepA P ops n K X b listed L w m i) (h2 : StepA P ops n K X b listed L w m j) : Ra P ops n K X b listed L w (m + 1) := Ra.alt hr (by simp) fun k hk => by
  rcases List.mem_cons.1 hk with rfl | hk
  · exact h1
  · obtain rfl : k = j := by simpa using hk
    exact h2
theorem Ra.alt3 {i j l : Nat} (hr : Region.ready .any ops listed = [i, j, l]) (h1 : StepA P ops n K X b listed L w m i) (h2 : StepA P ops n K X b listed L w m j) (h3 : StepA P ops n K X b listed L w m l) : Ra P ops n K X b listed L w (m + 1) := Ra.alt hr (by simp) fun k hk => by
  rcases List.mem_cons.1 hk with rfl | hk
  · exact h1
  · rcases List.mem_cons.1 hk with rfl | hk
    · exact h2
    · obtain rfl : k = l := by simpa using hk
      exact h3
theorem Ra.cutAt {ι : Type} (E : ι → Env) (I : ι → World → Prop) (b' : Nat) (listed' : Array Bool) (m' : Nat) (fin : ∀ i w, I i w → Ra P ops n K X b' listed' (E i) w m') (go : (∀ i w, I i w → Ra P ops n K X b' listed' (E i) w m') → Ra P ops n K X b listed L w m) : Ra P ops n K X b listed L w m := go fin

/-- the operation behind which the world may have been written -/
theorem Ra.bar {o : Oper} {R : Value → World → Prop} (i b' : Nat) (hib : i = b) (hr : Region.ready .any ops listed = [i]) (ho : ops[i]? = some o) (hg : gYes ops o L) (hw : Wl P n o L w R) (hd : dOk n o.dst = true)
    (k : ∀ v w', R v w' → Ra P ops n K X b' (listed.setIfInBounds i true) (putE o.dst v L) w' m) : Ra P ops n K X b listed L w (m + 1) := fun a ha hcl fuel hf => by
  obtain ⟨fuel, rfl⟩ : ∃ f, fuel = f + 1 := ⟨fuel - 1, by omega⟩
  refine ⟨fun h0 => (by rw [h0] at hr; cases hr), fun j hj => ?_⟩
  have hj' := hj
  rw [hr] at hj
  obtain rfl : j = i := by simpa using hj
  unfold wpOp
  simp only [ho]
  rw [if_pos (hg.wanted ha)]
  exact .inl (hw a ha _ _ fun v w' hv => ⟨fun _ => wpAny_of_B _ _ _ _ (k v w' hv _ (ha.put hd v) (hcl.set hj') fuel (by omega)), fun e => absurd hib e⟩)

theorem Wp.drawA {id : Nat} (b : Nat) (hm : P.follows .mixedOrders = true) (h : ∀ w1, Ext w w1 → w1.heap = w.heap → Ra P ops n K X b (Array.replicate ops.size false) L w1 ops.size) : Wp P n (.region id ops true) K X L w := fun a ha =>
  wp_region_any hm (wpAny_of_B _ _ _ _ (h _ (Ext.drew w) rfl a ha (Closed.start ops) _ (Nat.le_refl _)))
end
end Go.Gx
