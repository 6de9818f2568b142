/- Composed edits as plain data: traced bytes, the canonical edits, and that they give what the two lists give. No program. -/
import Derived.Test.YtbnkncemfadfjaaGreatDoorRq
import Derived.Test.YtbnkncemfadfjaaGreatDoorBa
namespace Go.Proofs.YtbnkncemfadfjaaGreatDoor
set_option linter.unusedVariables false
set_option linter.unusedSimpArgs false

/-- a byte and where it came from: -1 if it was inserted -/
abbrev TB := UInt8 × Int
def applyT (bs : List TB) : Int → List TE → List TB
  | off, [] => bs.drop off.toNat
  | off, e :: es => (bs.drop off.toNat).take (e.a.toNat - off.toNat) ++ e.s.data.toList.map (fun b => (b, -1)) ++ applyT bs e.b es
def outL (l : List UInt8) : Int → List TE → List UInt8
  | off, [] => l.drop off.toNat
  | off, e :: es => (l.drop off.toNat).take (e.a.toNat - off.toNat) ++ e.s.data.toList ++ outL l e.b es
theorem outL_eq (s : ByteArray) : ∀ (es : List TE) (off : Int), outL s.data.toList off es = (appE s off es ++ s.extract (lastE off es).toNat s.size).data.toList
  | [], off => by
    simp only [outL, appE, lastE, list_app, list_tail]
    rfl
  | e :: es, off => by
    simp only [outL, appE, lastE, outL_eq s es, list_app, list_cut, List.append_assoc]
theorem applyT_map (bs : List TB) : ∀ (es : List TE) (off : Int), (applyT bs off es).map Prod.fst = outL (bs.map Prod.fst) off es
  | [], off => by simp only [applyT, outL, List.map_drop]
  | e :: es, off => by
    simp only [applyT, outL, List.map_append, applyT_map bs es, List.map_take, List.map_drop, List.map_map]
    congr 2
    induction e.s.data.toList with
    | nil => rfl
    | cons a l ih => simp only [List.map_cons, ih]; rfl
/-- the bytes that were there -/
def ret (bs : List TB) : List TB := bs.filter fun x => x.2 != -1
theorem ret_append (a b : List TB) : ret (a ++ b) = ret a ++ ret b := List.filter_append ..
theorem ret_ins (l : List UInt8) : ret (l.map fun b => (b, -1)) = [] := by
  induction l with
  | nil => rfl
  | cons a l ih => simp [ret]
theorem applyT_ret (bs : List TB) (n : Int) : ∀ (es : List TE) (p off : Int), 0 ≤ off → off ≤ p + 1 → (∀ e l, es = e :: l → off ≤ e.a) → okE n p es → List.Sublist (ret (applyT bs off es)) (ret (bs.drop off.toNat))
  | [], p, off, h0, h1, _, h => by simp only [applyT]; exact List.Sublist.refl _
  | e :: es, p, off, h0, h1, h2, h => by
    obtain ⟨h3, h4, h5, h6⟩ := h
    have ha := h2 e es rfl
    have ih := applyT_ret bs n es e.b e.b (by omega) (by omega) (fun d l hd => by subst hd; have := h6.1; omega) h6
    simp only [applyT, ret_append, ret_ins, List.append_nil]
    have hs : bs.drop off.toNat = (bs.drop off.toNat).take (e.a.toNat - off.toNat) ++ bs.drop e.a.toNat := by
      have := List.take_append_drop (e.a.toNat - off.toNat) (bs.drop off.toNat)
      rw [List.drop_drop, show off.toNat + (e.a.toNat - off.toNat) = e.a.toNat from by omega] at this
      exact this.symm
    conv => rhs; rw [hs]
    rw [ret_append]
    refine List.Sublist.append (List.Sublist.refl _) (ih.trans ?_)
    have : bs.drop e.b.toNat = (bs.drop e.a.toNat).drop (e.b.toNat - e.a.toNat) := by
      rw [List.drop_drop, show e.a.toNat + (e.b.toNat - e.a.toNat) = e.b.toNat from by omega]
    rw [this]
    exact (List.drop_sublist _ _).filter _
/-- the bytes that were there stand in order, as the source has them -/
def fits (s : ByteArray) (st : Int) (bs : List TB) : Prop :=
  (ret bs).Pairwise (fun x y => x.2 < y.2) ∧ ∀ x ∈ ret bs, st ≤ x.2 ∧ x.2 < s.size ∧ s.data.toList[x.2.toNat]? = some x.1
theorem fits_sub {s : ByteArray} {st : Int} {a b : List TB} (h : fits s st b) (k : List.Sublist (ret a) (ret b)) : fits s st a := ⟨h.1.sublist k, fun x hx => h.2 x (k.subset hx)⟩
def traceOf (s : ByteArray) : List TB := (List.range s.size).map fun i => (s.data.toList.getD i 0, (i : Int))
theorem trace_length (s : ByteArray) : (traceOf s).length = s.size := by simp [traceOf]
theorem trace_fst (s : ByteArray) : (traceOf s).map Prod.fst = s.data.toList := by
  apply List.ext_getElem?
  intro i
  simp only [traceOf, List.map_map, List.getElem?_map]
  by_cases h : i < s.size
  · rw [List.getElem?_range h]
    have h2 : i < s.data.toList.length := by rw [list_len]; exact h
    rw [List.getElem?_eq_getElem h2]
    show some (s.data.toList.getD i 0) = some _
    rw [List.getD_eq_getElem?_getD, List.getElem?_eq_getElem h2]
    rfl
  · rw [List.getElem?_eq_none (by simpa using h), List.getElem?_eq_none (by rw [list_len]; omega)]
    rfl
theorem trace_ret (s : ByteArray) : ret (traceOf s) = traceOf s := by
  unfold ret
  rw [List.filter_eq_self]
  intro x hx
  simp only [traceOf, List.mem_map, List.mem_range] at hx
  obtain ⟨i, _, rfl⟩ := hx
  simp only [bne_iff_ne, ne_eq]
  omega
theorem trace_fits (s : ByteArray) : fits s 0 (traceOf s) := by
  unfold fits
  rw [trace_ret]
  refine ⟨?_, fun x hx => ?_⟩
  · unfold traceOf
    rw [List.pairwise_map]
    exact List.pairwise_lt_range.imp fun h => by simp only; omega
  · simp only [traceOf, List.mem_map, List.mem_range] at hx
    obtain ⟨i, hi, rfl⟩ := hx
    refine ⟨by simp only; omega, by simp only; omega, ?_⟩
    have h2 : i < s.data.toList.length := by rw [list_len]; exact hi
    simp only [Int.toNat_natCast]
    rw [List.getD_eq_getElem?_getD, List.getElem?_eq_getElem h2]
    rfl

def flushE (st en : Int) (pend : List UInt8) : List TE := if st < en ∨ pend ≠ [] then [⟨st, en, ⟨pend.toArray⟩⟩] else []
/-- the edits that lead from a text of the length to the traced bytes -/
def canon (len : Int) : Int → List UInt8 → List TB → List TE
  | st, pend, [] => flushE st len pend
  | st, pend, (v, o) :: r => if o = -1 then canon len st (pend ++ [v]) r else flushE st o pend ++ canon len (o + 1) [] r
theorem ret_cons_in (v : UInt8) (r : List TB) : ret ((v, -1) :: r) = ret r := by simp [ret]
theorem ret_cons_at {v : UInt8} {o : Int} (h : o ≠ -1) (r : List TB) : ret ((v, o) :: r) = (v, o) :: ret r := by simp [ret, h]
theorem fits_tail {s : ByteArray} {st : Int} {v : UInt8} {o : Int} {r : List TB} (h : o ≠ -1) (hf : fits s st ((v, o) :: r)) : st ≤ o ∧ o < s.size ∧ s.data.toList[o.toNat]? = some v ∧ fits s (o + 1) r := by
  unfold fits at hf
  rw [ret_cons_at h] at hf
  obtain ⟨h1, h2⟩ := hf
  obtain ⟨a1, a2, a3⟩ := h2 _ List.mem_cons_self
  rw [List.pairwise_cons] at h1
  refine ⟨a1, a2, a3, h1.2, fun x hx => ?_⟩
  obtain ⟨_, b2, b3⟩ := h2 x (List.mem_cons_of_mem _ hx)
  have := h1.1 x hx
  simp only at this
  exact ⟨by omega, b2, b3⟩
theorem canon_ok {s : ByteArray} : ∀ (bs : List TB) (st : Int) (pend : List UInt8) (p : Int), fits s st bs → 0 ≤ st → st ≤ s.size → p < st → okE s.size p (canon s.size st pend bs)
  | [], st, pend, p, hf, h0, h1, h2 => by
    unfold canon flushE
    split
    · exact ⟨h2, h1, Int.le_refl _, trivial⟩
    · trivial
  | (v, o) :: r, st, pend, p, hf, h0, h1, h2 => by
    unfold canon
    by_cases h : o = -1
    · subst h
      rw [if_pos rfl]
      exact canon_ok r st _ p (by unfold fits at hf ⊢; rw [ret_cons_in] at hf; exact hf) h0 h1 h2
    · rw [if_neg h]
      obtain ⟨a1, a2, a3, a4⟩ := fits_tail h hf
      unfold flushE
      split
      · exact ⟨h2, a1, by show o ≤ _; omega, canon_ok r (o + 1) [] o a4 (by omega) (by omega) (by omega)⟩
      · exact canon_ok r (o + 1) [] p a4 (by omega) (by omega) (by omega)
theorem canon_first {s : ByteArray} (bs : List TB) (st : Int) (pend : List UInt8) (hf : fits s st bs) (h0 : 0 ≤ st) (h1 : st ≤ s.size) : ∀ e l, canon s.size st pend bs = e :: l → st ≤ e.a := fun e l h => by
  have := canon_ok bs st pend (st - 1) hf h0 h1 (by omega)
  rw [h] at this
  have := this.1
  omega
theorem outL_step {l : List UInt8} {o : Int} (h0 : 0 ≤ o) {v : UInt8} (hv : l[o.toNat]? = some v) : ∀ es : List TE, (∀ e r, es = e :: r → o + 1 ≤ e.a) → outL l o es = v :: outL l (o + 1) es
  | [], _ => by
    obtain ⟨hlt, hg⟩ := List.getElem?_eq_some_iff.1 hv
    simp only [outL]
    rw [List.drop_eq_getElem_cons hlt, hg, show (o + 1).toNat = o.toNat + 1 from by omega]
  | e :: es, h => by
    obtain ⟨hlt, hg⟩ := List.getElem?_eq_some_iff.1 hv
    have ha := h e es rfl
    simp only [outL]
    rw [List.drop_eq_getElem_cons hlt, hg, show (o + 1).toNat = o.toNat + 1 from by omega, show e.a.toNat - o.toNat = (e.a.toNat - (o.toNat + 1)) + 1 from by omega, List.take_succ_cons]
    rfl
theorem canon_out {s : ByteArray} : ∀ (bs : List TB) (st : Int) (pend : List UInt8), fits s st bs → 0 ≤ st → st ≤ s.size → outL s.data.toList st (canon s.size st pend bs) = pend ++ bs.map Prod.fst
  | [], st, pend, hf, h0, h1 => by
    unfold canon flushE
    split
    · simp only [outL, Nat.sub_self, List.take_zero, List.nil_append, List.map_nil, List.append_nil]
      rw [List.drop_of_length_le (by rw [list_len]; omega), List.append_nil]
    · rename_i h
      have h2 : pend = [] := Classical.byContradiction fun hp => h (.inr hp)
      have h3 : ¬ st < s.size := fun hl => h (.inl hl)
      subst h2
      simp only [outL, List.map_nil, List.append_nil]
      rw [List.drop_of_length_le (by rw [list_len]; omega)]
  | (v, o) :: r, st, pend, hf, h0, h1 => by
    unfold canon
    by_cases h : o = -1
    · subst h
      rw [if_pos rfl, canon_out r st _ (by unfold fits at hf ⊢; rw [ret_cons_in] at hf; exact hf) h0 h1]
      simp
    · rw [if_neg h]
      obtain ⟨a1, a2, a3, a4⟩ := fits_tail h hf
      have ih := canon_out r (o + 1) [] a4 (by omega) (by omega)
      have hst := outL_step (l := s.data.toList) (o := o) (by omega) a3 _ (canon_first r (o + 1) [] a4 (by omega) (by omega))
      unfold flushE
      split
      · simp only [List.cons_append, List.nil_append, outL, Nat.sub_self, List.take_zero, hst, ih, List.map_cons]
      · rename_i hh
        have h2 : pend = [] := Classical.byContradiction fun hp => hh (.inr hp)
        have h3 : ¬ st < o := fun hl => hh (.inl hl)
        obtain rfl : st = o := by omega
        subst h2
        rw [List.nil_append, hst, ih]
        rfl
/-- what the law wants of Compose -/
theorem compose_plain {s : ByteArray} {a b : List TE} (ha : codeE s.size a = 0) (hb : codeE (outE s a).size b = 0) {both : List TE} (hc : both = canon s.size 0 [] (applyT (applyT (traceOf s) 0 a) 0 b)) (hl : both.length ≤ 50) :
    codeE s.size both = 0 ∧ outE s both = outE (outE s a) b := by
  obtain ⟨a1, a2, a3, a4⟩ := codeE_zero ha
  obtain ⟨b1, b2, b3, b4⟩ := codeE_zero hb
  have f0 : ∀ {n : Int} {es : List TE}, okE n (-1) es → ∀ e l, es = e :: l → 0 ≤ e.a := fun h e l he => by
    subst he
    have := h.1
    omega
  have f1 : fits s 0 (applyT (traceOf s) 0 a) := fits_sub (trace_fits s) (applyT_ret (traceOf s) s.size a (-1) 0 (by omega) (by omega) (f0 a3) a3)
  have e1 : (applyT (traceOf s) 0 a).map Prod.fst = (outE s a).data.toList := by
    rw [applyT_map, trace_fst, outL_eq]
    rfl
  have f2 : fits s 0 (applyT (applyT (traceOf s) 0 a) 0 b) := fits_sub f1 (applyT_ret _ (outE s a).size b (-1) 0 (by omega) (by omega) (f0 b3) b3)
  have e2 : (applyT (applyT (traceOf s) 0 a) 0 b).map Prod.fst = (outE (outE s a) b).data.toList := by
    rw [applyT_map, e1, outL_eq]
    rfl
  have ho := canon_out _ 0 [] f2 (by omega) (by omega)
  have hk := canon_ok _ 0 [] (-1) f2 (by omega) (by omega) (by omega)
  rw [← hc] at ho hk
  have eo : outE s both = outE (outE s a) b := by
    apply by_list
    rw [← e2]
    rw [outL_eq] at ho
    exact ho
  refine ⟨?_, eo⟩
  have hz := outE_size hk
  have hzb := outE_size b3
  unfold codeE
  rw [if_neg (by omega), if_neg (fun h => h hk), if_neg]
  have := congrArg ByteArray.size eo
  omega
end Go.Proofs.YtbnkncemfadfjaaGreatDoor
