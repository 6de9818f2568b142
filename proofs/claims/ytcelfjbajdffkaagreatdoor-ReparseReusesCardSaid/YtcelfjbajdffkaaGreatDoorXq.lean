/- The parser as plain data: what a command reads (two significant tokens behind its end), and that it goes by its tokens alone. -/
import Derived.Test.YtcelfjbajdffkaaGreatDoorXe
import Derived.Test.YtcelfjbajdffkaaGreatDoorXj
import Derived.Test.YtcelfjbajdffkaaGreatDoorXk
set_option linter.unusedVariables false
set_option linter.unusedSimpArgs false
namespace Go.Proofs.YtcelfjbajdffkaaGreatDoor.Par
def nsig : List Tok → Nat
 | [] => 0
 | t :: l => if isTriv t.1 then nsig l else nsig l + 1
theorem nsig_app (a b : List Tok) : nsig (a ++ b) = nsig a + nsig b := by
 induction a with
 | nil => simp [nsig]
 | cons t a ih => simp only [List.cons_append,nsig]; split <;> omega
theorem sig1_app {q z : List Tok} (h : 1 ≤ nsig q) : sig1 (q ++ z) = sig1 q := by
 induction q with
 | nil => simp [nsig] at h
 | cons t q ih =>
  simp only [List.cons_append,sig1,nsig] at h ⊢
  split
  ·rename_i ht; rw [if_pos ht] at h; exact ih h
  ·rfl
theorem left_app {q z : List Tok} (h : 1 ≤ nsig q) : left (q ++ z) = left q ++ z := by
 induction q with
 | nil => simp [nsig] at h
 | cons t q ih =>
  simp only [List.cons_append,left,nsig] at h ⊢
  split
  ·rename_i ht; rw [if_pos ht] at h; exact ih h
  ·rfl
theorem taken_app {q z : List Tok} (h : 1 ≤ nsig q) : taken (q ++ z) = taken q := by
 induction q with
 | nil => simp [nsig] at h
 | cons t q ih =>
  simp only [List.cons_append,taken,nsig] at h ⊢
  split
  ·rename_i ht; rw [if_pos ht] at h; rw [ih h]
  ·rfl
theorem nsig_left {q : List Tok} (h : 1 ≤ nsig q) : nsig (left q) + 1 = nsig q := by
 induction q with
 | nil => simp [nsig] at h
 | cons t q ih =>
  simp only [left,nsig] at h ⊢
  split
  ·rename_i ht; rw [if_pos ht] at h; exact ih h
  ·rfl
theorem nsig_taken {q : List Tok} (h : 1 ≤ nsig q) : nsig (taken q) = 1 := by
 have := congrArg nsig (taken_left q)
 rw [nsig_app] at this
 have := nsig_left h
 omega
theorem left_nil {q : List Tok} (h : nsig q = 0) : left q = [] := by
 induction q with
 | nil => rfl
 | cons t q ih =>
  simp only [left,nsig] at h ⊢
  split at h
  ·rename_i ht; rw [if_pos ht]; exact ih h
  ·omega
theorem nsig_pos {q : List Tok} (h : left q ≠ []) : 1 ≤ nsig q := by
 rcases Nat.eq_zero_or_pos (nsig q) with c | c
 ·exact absurd (left_nil c) h
 ·exact c
theorem rc_suf {body : Nm → Cmd} {rec : Cmd → S → Option S} (hr : ∀ c s r,rec c s = some r → ∃ u,s.rem = u ++ r.rem) : ∀ c s r,runC body rec c s = some r → ∃ u,s.rem = u ++ r.rem := by
 intro c
 induction c with
 | skip => intro s r h; obtain rfl := Option.some.inj h; exact ⟨[],rfl⟩
 | bump => intro s r h; obtain rfl := Option.some.inj h; exact ⟨taken s.rem,(taken_left _).symm⟩
 | drop => intro s r h; obtain rfl := Option.some.inj h; exact ⟨[],rfl⟩
 | flag b => intro s r h; obtain rfl := Option.some.inj h; exact ⟨[],rfl⟩
 | leaf k => intro s r h; obtain rfl := Option.some.inj h; exact ⟨[],rfl⟩
 | before =>
  intro s r h
  simp only [runC] at h
  split at h
  ·obtain rfl := Option.some.inj h; exact ⟨[],rfl⟩
  ·cases h
 | seq a b iha ihb =>
  intro s r h
  simp only [runC,Option.bind_eq_some_iff] at h
  obtain ⟨x,h1,h2⟩ := h
  obtain ⟨u,e1⟩ := iha _ _ h1
  obtain ⟨v,e2⟩ := ihb _ _ h2
  exact ⟨u ++ v,by rw [e1,e2,List.append_assoc]⟩
 | node k c ih =>
  intro s r h
  simp only [runC,Option.map_eq_some_iff] at h
  obtain ⟨x,h1,rfl⟩ := h
  obtain ⟨u,e⟩ := ih _ _ h1
  exact ⟨u,e⟩
 | wrap k c ih =>
  intro s r h
  simp only [runC] at h
  split at h
  ·simp only [Option.map_eq_some_iff] at h
   obtain ⟨x,h1,rfl⟩ := h
   obtain ⟨u,e⟩ := ih _ _ h1
   exact ⟨u,e⟩
  ·cases h
 | cond t a b iha ihb =>
  intro s r h
  simp only [runC] at h
  split at h
  ·exact iha _ _ h
  ·exact ihb _ _ h
 | loop t c ih =>
  intro s r h
  simp only [runC] at h
  split at h
  ·simp only [Option.bind_eq_some_iff] at h
   obtain ⟨x,h1,h2⟩ := h
   obtain ⟨u,e1⟩ := ih _ _ h1
   obtain ⟨v,e2⟩ := hr _ _ _ h2
   exact ⟨u ++ v,by rw [e1,e2,List.append_assoc]⟩
  ·obtain rfl := Option.some.inj h; exact ⟨[],rfl⟩
 | prog c a b ihc iha ihb =>
  intro s r h
  simp only [runC,Option.bind_eq_some_iff] at h
  obtain ⟨x,h1,h2⟩ := h
  obtain ⟨u,e1⟩ := ihc _ _ h1
  split at h2
  ·obtain ⟨v,e2⟩ := iha _ _ h2
   exact ⟨u ++ v,by rw [e1,e2,List.append_assoc]⟩
  ·obtain ⟨v,e2⟩ := ihb _ _ h2
   exact ⟨u ++ v,by rw [e1,e2,List.append_assoc]⟩
 | call x => intro s r h; exact hr _ _ _ h
 | sel f c ih => intro s r h; exact ih _ _ _ h
theorem run_suf : ∀ n c s r,run body n c s = some r → ∃ u,s.rem = u ++ r.rem
 | 0 => rc_suf (by intro _ _ _ h; cases h)
 | n + 1 => rc_suf (run_suf n)
def Two (t : Test) : Prop := ∀ x y z z' f,t x y z f = t x y z' f
def eats : Cmd → Bool
 | .bump => true
 | .seq a _ => eats a
 | .node _ c => eats c
 | .wrap _ c => eats c
 | _ => false
def Loc : Cmd → Prop
 | .seq a b => Loc a ∧ Loc b
 | .node _ c => Loc c
 | .wrap _ c => Loc c
 | .cond t a b => (Two t ∨ (eats a = true ∧ eats b = true)) ∧ Loc a ∧ Loc b
 | .loop t c => Two t ∧ Loc c
 | .prog c a b => Loc c ∧ Loc a ∧ Loc b
 | .sel _ c => ∀ k,Loc (c k)
 | _ => True
theorem Loc.list {cl : ByteArray} {el : Cmd} (h : Loc el) : Loc (Cmd.list cl el) :=
 ⟨⟨fun _ _ _ _ _ => rfl,h,trivial,.inl fun _ _ _ _ _ => rfl,trivial,.inl fun _ _ _ _ _ => rfl,trivial,trivial⟩,.inl fun _ _ _ _ _ => rfl,trivial,trivial⟩
theorem Loc.seg (b : Bool) : Loc (seg b) := by
 cases b
 ·exact ⟨⟨.inl fun _ _ _ _ _ => rfl,trivial,trivial⟩,trivial⟩
 ·exact ⟨⟨.inl fun _ _ _ _ _ => rfl,trivial,trivial⟩,.inl fun _ _ _ _ _ => rfl,⟨trivial,Loc.list trivial⟩,trivial⟩
theorem Loc.tail (b : Bool) : Loc (stmtTail b) := by
 cases b <;> (unfold stmtTail; repeat' (first | apply And.intro | exact trivial | exact Or.inl fun _ _ _ _ _ => rfl))
theorem loc_body : ∀ x,Loc (body x) := by
 intro x
 cases x
 case itemBody k =>
  show Loc (if _ then _ else _)
  split
  ·trivial
  split
  ·trivial
  split
  ·trivial
  split
  ·exact ⟨⟨.inl fun _ _ _ _ _ => rfl,trivial,trivial⟩,trivial⟩
  split
  ·trivial
  split
  ·repeat' (first | apply And.intro | exact trivial | exact Or.inl fun _ _ _ _ _ => rfl)
  split
  ·repeat' (first | apply And.intro | exact trivial | exact Or.inl fun _ _ _ _ _ => rfl)
  ·trivial
 case binary n =>
  show Loc (if _ then _ else _)
  split
  ·trivial
  ·refine ⟨trivial,?_⟩
   split
   ·exact ⟨.inl fun _ _ _ _ _ => rfl,⟨trivial,trivial⟩,trivial⟩
   ·exact ⟨fun _ _ _ _ _ => rfl,trivial,trivial⟩
 case function b =>
  refine ⟨⟨.inl fun _ _ _ _ _ => rfl,trivial,trivial⟩,trivial,⟨.inl fun _ _ _ _ _ => rfl,trivial,trivial⟩,trivial,⟨.inl fun _ _ _ _ _ => rfl,⟨trivial,trivial⟩,trivial⟩,?_⟩
  cases b
  ·exact ⟨.inl fun _ _ _ _ _ => rfl,⟨trivial,trivial⟩,trivial⟩
  ·trivial
 case dataType k =>
  refine ⟨⟨.inl fun _ _ _ _ _ => rfl,trivial,trivial⟩,trivial,⟨.inl fun _ _ _ _ _ => rfl,trivial,trivial⟩,Loc.list ⟨.inl fun _ _ _ _ _ => rfl,?_,trivial⟩⟩
  split
  ·exact ⟨trivial,⟨.inl fun _ _ _ _ _ => rfl,trivial,trivial⟩,trivial⟩
  ·exact ⟨trivial,.inl fun _ _ _ _ _ => rfl,⟨trivial,Loc.list trivial⟩,trivial⟩
 case item =>
  intro k
  show Loc (if _ then _ else _)
  split
  ·trivial
  ·exact ⟨⟨.inl fun _ _ _ _ _ => rfl,trivial,trivial⟩,trivial,trivial⟩
 case statement =>
  refine ⟨.inl fun _ _ _ _ _ => rfl,⟨trivial,trivial⟩,.inl fun _ _ _ _ _ => rfl,⟨⟨trivial,trivial,trivial⟩,trivial⟩,.inl fun _ _ _ _ _ => rfl,⟨trivial,trivial⟩,.inl fun _ _ _ _ _ => rfl,⟨trivial,⟨trivial,trivial,trivial⟩,Loc.tail true⟩,trivial,⟨trivial,trivial,trivial⟩,Loc.tail false⟩
 case path b => exact ⟨Loc.seg b,fun _ _ _ _ _ => rfl,trivial,Loc.seg b⟩
 all_goals (repeat' (first | apply And.intro | exact trivial | exact Or.inl fun _ _ _ _ _ => rfl | exact Or.inr ⟨rfl,rfl⟩ | exact fun _ _ _ _ _ => rfl | exact Loc.list trivial | (refine Loc.list ?_)))
theorem rc_eats {rec : Cmd → S → Option S} (hr : ∀ c s r,rec c s = some r → ∃ u,s.rem = u ++ r.rem) : ∀ c s r,eats c = true → runC body rec c s = some r → r.rem ≠ [] → ∃ u,s.rem = u ++ r.rem ∧ 1 ≤ nsig u := by
 intro c
 induction c with
 | bump =>
  intro s r _ h hne
  obtain rfl := Option.some.inj h
  refine ⟨taken s.rem,(taken_left _).symm,?_⟩
  rw [nsig_taken (nsig_pos hne)]
  exact Nat.le_refl 1
 | seq a b iha ihb =>
  intro s r he h hne
  simp only [runC,Option.bind_eq_some_iff] at h
  obtain ⟨x,h1,h2⟩ := h
  obtain ⟨v,e2⟩ := rc_suf hr _ _ _ h2
  obtain ⟨u,e1,h3⟩ := iha _ _ he h1 (by rw [e2]; simp [hne])
  exact ⟨u ++ v,by rw [e1,e2,List.append_assoc],by rw [nsig_app]; omega⟩
 | node k c ih =>
  intro s r he h hne
  simp only [runC,Option.map_eq_some_iff] at h
  obtain ⟨x,h1,rfl⟩ := h
  obtain ⟨u,e,hn⟩ := ih _ _ he h1 hne
  exact ⟨u,e,hn⟩
 | wrap k c ih =>
  intro s r he h hne
  simp only [runC] at h
  split at h
  ·simp only [Option.map_eq_some_iff] at h
   obtain ⟨x,h1,rfl⟩ := h
   obtain ⟨u,e,hn⟩ := ih _ _ he h1 hne
   exact ⟨u,e,hn⟩
  ·cases h
 | _ => intro s r he; cases he
def S.at (s : S) (l : List Tok) : S := { s with rem := l }
theorem test_app {t : Test} {s : S} {q z z' : List Tok} (h : s.rem = q ++ z) (hq : 2 ≤ nsig q) (ht : Two t ∨ 3 ≤ nsig q) : (s.at (q ++ z')).test t = s.test t := by
 have h1 := nsig_left (q := q) (by omega)
 have h2 := nsig_left (q := left q) (by omega)
 have k : ∀ y : List Tok,sig1 (q ++ y) = sig1 q ∧ sig1 (left (q ++ y)) = sig1 (left q) ∧ left (left (q ++ y)) = left (left q) ++ y := fun y => by
  have e2 : left (q ++ y) = left q ++ y := left_app (by omega)
  rw [e2]
  exact ⟨sig1_app (by omega),sig1_app (by omega),left_app (by omega)⟩
 obtain ⟨a1,a2,a3⟩ := k z
 obtain ⟨b1,b2,b3⟩ := k z'
 unfold S.test
 rw [h]
 simp only [S.at]
 rw [a1,a2,a3,b1,b2,b3]
 rcases ht with ht | ht
 ·exact ht _ _ _ _ _
 ·rw [sig1_app (q := left (left q)) (z := z) (by omega),sig1_app (q := left (left q)) (z := z') (by omega)]
def LocR (rec : Cmd → S → Option S) : Prop := ∀ c s r q p z z',Loc c → rec c s = some r → s.rem = q ++ z → r.rem = p ++ z → 2 ≤ nsig p → rec c (s.at (q ++ z')) = some (r.at (p ++ z'))
theorem suf_len {q u p z : List Tok} (h : q ++ z = u ++ (p ++ z)) : q = u ++ p := by
 rw [← List.append_assoc] at h
 exact List.append_cancel_right h
theorem rc_loc {rec : Cmd → S → Option S} (hs : ∀ c s r,rec c s = some r → ∃ u,s.rem = u ++ r.rem) (hr : LocR rec) : LocR (runC body rec) := by
 intro c
 induction c with
 | skip =>
  intro s r q p z z' _ h e1 e2 hp
  obtain rfl := Option.some.inj h
  obtain rfl := List.append_cancel_right (e1.symm.trans e2)
  rfl
 | drop =>
  intro s r q p z z' _ h e1 e2 hp
  obtain rfl := Option.some.inj h
  obtain rfl := List.append_cancel_right (e1.symm.trans e2)
  rfl
 | flag b =>
  intro s r q p z z' _ h e1 e2 hp
  obtain rfl := Option.some.inj h
  obtain rfl := List.append_cancel_right (e1.symm.trans e2)
  rfl
 | leaf k =>
  intro s r q p z z' _ h e1 e2 hp
  obtain rfl := Option.some.inj h
  obtain rfl := List.append_cancel_right (e1.symm.trans e2)
  rfl
 | before =>
  intro s r q p z z' _ h e1 e2 hp
  simp only [runC] at h
  split at h
  ·rename_i t ht
   obtain rfl := Option.some.inj h
   obtain rfl := List.append_cancel_right (e1.symm.trans e2)
   have ht : (s.at (q ++ z')).kids.getLast? = some t := ht
   simp only [runC,ht]
   rfl
  ·cases h
 | bump =>
  intro s r q p z z' _ h e1 e2 hp
  obtain rfl := Option.some.inj h
  have e3 : left s.rem = p ++ z := e2
  have e4 := suf_len (q := q) (u := taken s.rem) (p := p) (z := z) (by rw [← e1,← e3,taken_left])
  have hq : 1 ≤ nsig q := by rw [e4,nsig_app]; omega
  rw [e1,left_app hq] at e3
  obtain rfl := List.append_cancel_right e3
  show some _ = some _
  simp only [S.bump,S.at,e1,left_app hq,taken_app hq]
 | seq a b iha ihb =>
  intro s r q p z z' hl h e1 e2 hp
  simp only [runC,Option.bind_eq_some_iff] at h ⊢
  obtain ⟨x,h1,h2⟩ := h
  obtain ⟨u,e3⟩ := rc_suf hs _ _ _ h2
  rw [e2,← List.append_assoc] at e3
  exact ⟨_,iha _ _ _ _ _ _ hl.1 h1 e1 e3 (by rw [nsig_app]; omega),ihb _ _ _ _ _ _ hl.2 h2 e3 e2 hp⟩
 | node k c ih =>
  intro s r q p z z' hl h e1 e2 hp
  simp only [runC,Option.map_eq_some_iff] at h ⊢
  obtain ⟨x,h1,rfl⟩ := h
  have h3 := ih _ x q p z z' hl h1 e1 e2 hp
  exact ⟨_,h3,rfl⟩
 | wrap k c ih =>
  intro s r q p z z' hl h e1 e2 hp
  simp only [runC] at h
  split at h
  ·rename_i t ht
   simp only [Option.map_eq_some_iff] at h
   obtain ⟨x,h1,rfl⟩ := h
   have ht : (s.at (q ++ z')).kids.getLast? = some t := ht
   simp only [runC,ht,Option.map_eq_some_iff]
   have h3 := ih _ x q p z z' hl h1 e1 e2 hp
   exact ⟨_,h3,rfl⟩
  ·cases h
 | cond t a b iha ihb =>
  intro s r q p z z' hl h e1 e2 hp
  obtain ⟨h1,h2,h3⟩ := hl
  have hsuf := rc_suf (body := body) hs _ _ _ h
  obtain ⟨u,e3⟩ := hsuf
  have e4 := suf_len (q := q) (u := u) (p := p) (z := z) (by rw [← e1,← e2]; exact e3)
  have hq : 2 ≤ nsig q := by rw [e4,nsig_app]; omega
  have hne : r.rem ≠ [] := by
   rw [e2]
   intro he
   have := congrArg nsig he
   rw [nsig_app] at this
   simp only [nsig] at this
   omega
  simp only [runC] at h ⊢
  have htt : Two t ∨ 3 ≤ nsig q := by
   refine h1.imp id fun ⟨ea,eb⟩ => ?_
   have : ∃ u,s.rem = u ++ r.rem ∧ 1 ≤ nsig u := by
    split at h
    ·exact rc_eats hs _ _ _ ea h hne
    ·exact rc_eats hs _ _ _ eb h hne
   obtain ⟨u2,e5,h6⟩ := this
   have e6 := suf_len (q := q) (u := u2) (p := p) (z := z) (by rw [← e1,← e2]; exact e5)
   rw [e6,nsig_app]
   omega
  rw [test_app e1 hq htt]
  split
  ·rename_i ht
   rw [if_pos ht] at h
   exact iha _ _ _ _ _ _ h2 h e1 e2 hp
  ·rename_i ht
   rw [if_neg ht] at h
   exact ihb _ _ _ _ _ _ h3 h e1 e2 hp
 | loop t c ih =>
  intro s r q p z z' hl h e1 e2 hp
  obtain ⟨h1,h2⟩ := hl
  have hsuf := rc_suf (body := body) hs _ _ _ h
  obtain ⟨u,e3⟩ := hsuf
  have e4 := suf_len (q := q) (u := u) (p := p) (z := z) (by rw [← e1,← e2]; exact e3)
  have hq : 2 ≤ nsig q := by rw [e4,nsig_app]; omega
  simp only [runC] at h ⊢
  rw [test_app e1 hq (.inl h1)]
  split
  ·rename_i ht
   rw [if_pos ht] at h
   simp only [Option.bind_eq_some_iff] at h ⊢
   obtain ⟨x,h3,h4⟩ := h
   obtain ⟨v,e5⟩ := hs _ _ _ h4
   rw [e2,← List.append_assoc] at e5
   exact ⟨_,ih _ _ _ _ _ _ h2 h3 e1 e5 (by rw [nsig_app]; omega),hr _ _ _ _ _ _ _ (show Loc (.loop t c) from ⟨h1,h2⟩) h4 e5 e2 hp⟩
  ·rename_i ht
   rw [if_neg ht] at h
   obtain rfl := Option.some.inj h
   obtain rfl := List.append_cancel_right (e1.symm.trans e2)
   rfl
 | prog c a b ihc iha ihb =>
  intro s r q p z z' hl h e1 e2 hp
  obtain ⟨l1,l2,l3⟩ := hl
  simp only [runC,Option.bind_eq_some_iff] at h ⊢
  obtain ⟨x,h1,h2⟩ := h
  have : ∃ u,x.rem = u ++ r.rem := by
   split at h2
   ·exact rc_suf hs _ _ _ h2
   ·exact rc_suf hs _ _ _ h2
  obtain ⟨u,e3⟩ := this
  rw [e2,← List.append_assoc] at e3
  refine ⟨_,ihc _ _ _ _ _ _ l1 h1 e1 e3 (by rw [nsig_app]; omega),?_⟩
  have hlen : ((x.at (u ++ p ++ z')).rem.length = (s.at (q ++ z')).rem.length) = (x.rem.length = s.rem.length) := by
   simp only [S.at,e1,e3,List.length_append]
   apply propext
   omega
  simp only [hlen]
  split
  ·rename_i hc
   rw [if_pos hc] at h2
   exact iha _ _ _ _ _ _ l2 h2 e3 e2 hp
  ·rename_i hc
   rw [if_neg hc] at h2
   exact ihb _ _ _ _ _ _ l3 h2 e3 e2 hp
 | call x => intro s r q p z z' _ h e1 e2 hp; exact hr _ _ _ _ _ _ _ (loc_body x) h e1 e2 hp
 | sel f c ih =>
  intro s r q p z z' hl h e1 e2 hp
  have hsuf := rc_suf (body := body) hs _ _ _ h
  obtain ⟨u,e3⟩ := hsuf
  have e4 := suf_len (q := q) (u := u) (p := p) (z := z) (by rw [← e1,← e2]; exact e3)
  have hq : 2 ≤ nsig q := by rw [e4,nsig_app]; omega
  have k1 := nsig_left (q := q) (by omega)
  simp only [runC] at h ⊢
  have e5 : f (sig1 (s.at (q ++ z')).rem) (sig1 (left (s.at (q ++ z')).rem)) = f (sig1 s.rem) (sig1 (left s.rem)) := by
   simp only [S.at,e1]
   rw [sig1_app (by omega),sig1_app (by omega),left_app (by omega),left_app (by omega),sig1_app (by omega),sig1_app (by omega)]
  rw [e5]
  exact ih _ _ _ _ _ _ _ (hl _) h e1 e2 hp
theorem run_loc : ∀ n,LocR (run body n)
 | 0 => rc_loc (by intro _ _ _ h; cases h) (by intro _ _ _ _ _ _ _ _ h; cases h)
 | n + 1 => rc_loc (run_suf n) (run_loc n)
def Sim (s t : S) : Prop := s.rem = t.rem ∧ s.kids = t.kids
def NoFlag (t : Test) : Prop := ∀ x y z f f',t x y z f = t x y z f'
def Fin : Cmd → Prop
 | .seq a b => (∃ k,a = .flag k) ∨ (Fin a ∧ Fin b)
 | .node _ c => Fin c
 | .wrap _ c => Fin c
 | .cond t a b => NoFlag t ∧ Fin a ∧ Fin b
 | .loop t c => NoFlag t ∧ Fin c
 | .prog c a b => Fin c ∧ Fin a ∧ Fin b
 | .sel _ c => ∀ k,Fin (c k)
 | _ => True
theorem Fin.list {cl : ByteArray} {el : Cmd} (h : Fin el) : Fin (Cmd.list cl el) :=
 .inr ⟨⟨fun _ _ _ _ _ => rfl,h,trivial,fun _ _ _ _ _ => rfl,trivial,fun _ _ _ _ _ => rfl,trivial,trivial⟩,fun _ _ _ _ _ => rfl,trivial,trivial⟩
theorem Fin.seg (b : Bool) : Fin (seg b) := by
 cases b
 ·exact .inr ⟨⟨fun _ _ _ _ _ => rfl,trivial,trivial⟩,trivial⟩
 ·exact .inr ⟨⟨fun _ _ _ _ _ => rfl,trivial,trivial⟩,fun _ _ _ _ _ => rfl,.inr ⟨trivial,Fin.list trivial⟩,trivial⟩
theorem Fin.tail (b : Bool) : Fin (stmtTail b) := by
 cases b <;> (unfold stmtTail; repeat' (first | exact trivial | apply And.intro | exact fun _ _ _ _ _ => rfl | (refine Or.inr ⟨?_,?_⟩)))
theorem fin_body : ∀ x,Fin (body x) := by
 intro x
 cases x
 case block => exact .inr ⟨⟨fun _ _ _ _ _ => rfl,trivial,trivial⟩,.inl ⟨_,rfl⟩⟩
 case itemBody k =>
  show Fin (if _ then _ else _)
  split
  ·trivial
  split
  ·trivial
  split
  ·trivial
  split
  ·exact .inr ⟨⟨fun _ _ _ _ _ => rfl,trivial,trivial⟩,trivial⟩
  split
  ·trivial
  split
  ·repeat' (first | exact trivial | apply And.intro | exact fun _ _ _ _ _ => rfl | (refine Or.inr ⟨?_,?_⟩))
  split
  ·repeat' (first | exact trivial | apply And.intro | exact fun _ _ _ _ _ => rfl | (refine Or.inr ⟨?_,?_⟩))
  ·trivial
 case binary n =>
  show Fin (if _ then _ else _)
  split
  ·trivial
  ·refine .inr ⟨trivial,?_⟩
   split
   ·exact ⟨fun _ _ _ _ _ => rfl,.inr ⟨trivial,trivial⟩,trivial⟩
   ·exact ⟨fun _ _ _ _ _ => rfl,.inr ⟨trivial,trivial⟩⟩
 case function b =>
  refine .inr ⟨⟨fun _ _ _ _ _ => rfl,trivial,trivial⟩,.inr ⟨trivial,.inr ⟨⟨fun _ _ _ _ _ => rfl,trivial,trivial⟩,.inr ⟨trivial,.inr ⟨⟨fun _ _ _ _ _ => rfl,.inr ⟨trivial,trivial⟩,trivial⟩,?_⟩⟩⟩⟩⟩
  cases b
  ·exact ⟨fun _ _ _ _ _ => rfl,.inr ⟨trivial,trivial⟩,trivial⟩
  ·trivial
 case dataType k =>
  refine .inr ⟨⟨fun _ _ _ _ _ => rfl,trivial,trivial⟩,.inr ⟨trivial,.inr ⟨⟨fun _ _ _ _ _ => rfl,trivial,trivial⟩,Fin.list ⟨fun _ _ _ _ _ => rfl,?_,trivial⟩⟩⟩⟩
  split
  ·exact .inr ⟨trivial,.inr ⟨⟨fun _ _ _ _ _ => rfl,trivial,trivial⟩,trivial⟩⟩
  ·exact .inr ⟨trivial,fun _ _ _ _ _ => rfl,.inr ⟨trivial,Fin.list trivial⟩,trivial⟩
 case item =>
  intro k
  show Fin (if _ then _ else _)
  split
  ·trivial
  ·exact .inr ⟨⟨fun _ _ _ _ _ => rfl,trivial,trivial⟩,.inr ⟨trivial,trivial⟩⟩
 case statement =>
  exact ⟨fun _ _ _ _ _ => rfl,.inr ⟨trivial,trivial⟩,fun _ _ _ _ _ => rfl,.inr ⟨.inr ⟨trivial,.inr ⟨trivial,trivial⟩⟩,trivial⟩,fun _ _ _ _ _ => rfl,.inr ⟨trivial,trivial⟩,fun _ _ _ _ _ => rfl,⟨trivial,.inr ⟨trivial,.inr ⟨trivial,trivial⟩⟩,Fin.tail true⟩,trivial,.inr ⟨trivial,.inr ⟨trivial,trivial⟩⟩,Fin.tail false⟩
 case path b => exact .inr ⟨Fin.seg b,fun _ _ _ _ _ => rfl,.inr ⟨trivial,Fin.seg b⟩⟩
 all_goals (repeat' (first | exact trivial | apply And.intro | exact fun _ _ _ _ _ => rfl | exact Fin.list trivial | (refine Fin.list ?_) | (refine Or.inr ⟨?_,?_⟩)))
theorem rc_adds {rec : Cmd → S → Option S} (hr : ∀ c s r a,rec c s = some r → ∃ b,rec c { s with adds := a } = some { r with adds := b }) : ∀ c s r a,runC body rec c s = some r → ∃ b,runC body rec c { s with adds := a } = some { r with adds := b } := by
 intro c
 induction c with
 | skip => intro s r a h; obtain rfl := Option.some.inj h; exact ⟨_,rfl⟩
 | bump => intro s r a h; obtain rfl := Option.some.inj h; exact ⟨_,rfl⟩
 | drop => intro s r a h; obtain rfl := Option.some.inj h; exact ⟨_,rfl⟩
 | flag b => intro s r a h; obtain rfl := Option.some.inj h; exact ⟨_,rfl⟩
 | leaf k => intro s r a h; obtain rfl := Option.some.inj h; exact ⟨_,rfl⟩
 | before =>
  intro s r a h
  simp only [runC] at h ⊢
  split at h
  ·obtain rfl := Option.some.inj h; exact ⟨_,rfl⟩
  ·cases h
 | seq x y ihx ihy =>
  intro s r a h
  simp only [runC,Option.bind_eq_some_iff] at h ⊢
  obtain ⟨q,h1,h2⟩ := h
  obtain ⟨b,e1⟩ := ihx _ _ a h1
  obtain ⟨b2,e2⟩ := ihy _ _ b h2
  exact ⟨b2,_,e1,e2⟩
 | node k c ih =>
  intro s r a h
  simp only [runC,Option.map_eq_some_iff] at h ⊢
  obtain ⟨q,h1,rfl⟩ := h
  obtain ⟨b,e1⟩ := ih _ _ (a + 1) h1
  exact ⟨b,_,e1,rfl⟩
 | wrap k c ih =>
  intro s r a h
  simp only [runC] at h ⊢
  split at h
  ·simp only [Option.map_eq_some_iff] at h ⊢
   obtain ⟨q,h1,rfl⟩ := h
   obtain ⟨b,e1⟩ := ih _ _ (a + 1) h1
   exact ⟨b,_,e1,rfl⟩
  ·cases h
 | cond t x y ihx ihy =>
  intro s r a h
  simp only [runC] at h ⊢
  have ht : ({ s with adds := a } : S).test t = s.test t := rfl
  rw [ht]
  split at h
  ·rename_i hc; rw [if_pos hc]; exact ihx _ _ a h
  ·rename_i hc; rw [if_neg hc]; exact ihy _ _ a h
 | loop t c ih =>
  intro s r a h
  simp only [runC] at h ⊢
  have ht : ({ s with adds := a } : S).test t = s.test t := rfl
  rw [ht]
  split at h
  ·rename_i hc
   rw [if_pos hc]
   simp only [Option.bind_eq_some_iff] at h ⊢
   obtain ⟨q,h1,h2⟩ := h
   obtain ⟨b,e1⟩ := ih _ _ a h1
   obtain ⟨b2,e2⟩ := hr _ _ _ b h2
   exact ⟨b2,_,e1,e2⟩
  ·rename_i hc
   rw [if_neg hc]
   obtain rfl := Option.some.inj h; exact ⟨_,rfl⟩
 | prog c x y ihc ihx ihy =>
  intro s r a h
  simp only [runC,Option.bind_eq_some_iff] at h ⊢
  obtain ⟨q,h1,h2⟩ := h
  obtain ⟨b,e1⟩ := ihc _ _ a h1
  split at h2
  ·rename_i hc
   obtain ⟨b2,e2⟩ := ihx _ _ b h2
   exact ⟨b2,_,e1,by rw [if_pos (by exact hc)]; exact e2⟩
  ·rename_i hc
   obtain ⟨b2,e2⟩ := ihy _ _ b h2
   exact ⟨b2,_,e1,by rw [if_neg (by exact hc)]; exact e2⟩
 | call x => intro s r a h; exact hr _ _ _ a h
 | sel f c ih => intro s r a h; exact ih _ _ _ a h
theorem run_adds' : ∀ n c s r a,run body n c s = some r → ∃ b,run body n c { s with adds := a } = some { r with adds := b }
 | 0 => rc_adds (by intro _ _ _ _ h; cases h)
 | n + 1 => rc_adds (run_adds' n)
def SimR (rec : Cmd → S → Option S) : Prop := ∀ c s s' r,Fin c → Sim s s' → rec c s = some r → ∃ r',rec c s' = some r' ∧ Sim r r'
theorem rc_sim {rec : Cmd → S → Option S} (ha : ∀ c s r a,rec c s = some r → ∃ b,rec c { s with adds := a } = some { r with adds := b }) (hr : SimR rec) : SimR (runC body rec) := by
 intro c
 induction c with
 | skip => intro s s' r _ hs h; obtain rfl := Option.some.inj h; exact ⟨_,rfl,hs⟩
 | bump => intro s s' r _ hs h; obtain rfl := Option.some.inj h; exact ⟨_,rfl,by simp only [S.bump,hs.1],by simp only [S.bump,hs.1,hs.2]⟩
 | drop => intro s s' r _ hs h; obtain rfl := Option.some.inj h; exact ⟨_,rfl,hs.1,by simp only [hs.2]⟩
 | flag b => intro s s' r _ hs h; obtain rfl := Option.some.inj h; exact ⟨_,rfl,hs⟩
 | leaf k => intro s s' r _ hs h; obtain rfl := Option.some.inj h; exact ⟨_,rfl,hs.1,by simp only [S.add,hs.2]⟩
 | before =>
  intro s s' r _ hs h
  simp only [runC] at h ⊢
  rw [← hs.2]
  split at h
  ·obtain rfl := Option.some.inj h; exact ⟨_,rfl,hs.1,rfl⟩
  ·cases h
 | seq x y ihx ihy =>
  intro s s' r hf hs h
  simp only [runC,Option.bind_eq_some_iff] at h
  obtain ⟨q,h1,h2⟩ := h
  rcases hf with ⟨k,rfl⟩ | ⟨f1,f2⟩
  ·obtain rfl := Option.some.inj h1
   obtain ⟨b,e⟩ := rc_adds ha _ _ _ s'.adds h2
   refine ⟨{ r with adds := b },?_,rfl,rfl⟩
   simp only [runC,Option.bind_some]
   rw [← e,hs.1,hs.2]
  ·obtain ⟨q',e1,s1⟩ := ihx _ _ _ f1 hs h1
   obtain ⟨r',e2,s2⟩ := ihy _ _ _ f2 s1 h2
   exact ⟨r',by simp only [runC,Option.bind_eq_some_iff]; exact ⟨_,e1,e2⟩,s2⟩
 | node k c ih =>
  intro s s' r hf hs h
  simp only [runC,Option.map_eq_some_iff] at h ⊢
  obtain ⟨q,h1,rfl⟩ := h
  obtain ⟨q',e1,s1⟩ := ih { s with kids := [],adds := s.adds + 1 } { s' with kids := [],adds := s'.adds + 1 } _ hf ⟨hs.1,rfl⟩ h1
  exact ⟨_,⟨_,e1,rfl⟩,s1.1,by simp only [hs.2,s1.2]⟩
 | wrap k c ih =>
  intro s s' r hf hs h
  simp only [runC] at h ⊢
  rw [← hs.2]
  split at h
  ·rename_i t ht
   simp only [Option.map_eq_some_iff] at h ⊢
   obtain ⟨q,h1,rfl⟩ := h
   obtain ⟨q',e1,s1⟩ := ih { s with kids := [t],adds := s.adds + 1 } { s' with kids := [t],adds := s'.adds + 1 } _ hf ⟨hs.1,rfl⟩ h1
   exact ⟨_,⟨_,e1,rfl⟩,s1.1,by simp only [s1.2]⟩
  ·cases h
 | cond t x y ihx ihy =>
  intro s s' r hf hs h
  simp only [runC] at h ⊢
  have ht : s'.test t = s.test t := by unfold S.test; rw [← hs.1]; exact hf.1 _ _ _ _ _
  rw [ht]
  split at h
  ·rename_i hc; rw [if_pos hc]; exact ihx _ _ _ hf.2.1 hs h
  ·rename_i hc; rw [if_neg hc]; exact ihy _ _ _ hf.2.2 hs h
 | loop t c ih =>
  intro s s' r hf hs h
  simp only [runC] at h ⊢
  have ht : s'.test t = s.test t := by unfold S.test; rw [← hs.1]; exact hf.1 _ _ _ _ _
  rw [ht]
  split at h
  ·rename_i hc
   rw [if_pos hc]
   simp only [Option.bind_eq_some_iff] at h
   obtain ⟨q,h1,h2⟩ := h
   obtain ⟨q',e1,s1⟩ := ih _ _ _ hf.2 hs h1
   obtain ⟨r',e2,s2⟩ := hr _ _ _ _ (show Fin (.loop t c) from hf) s1 h2
   exact ⟨r',by simp only [Option.bind_eq_some_iff]; exact ⟨_,e1,e2⟩,s2⟩
  ·rename_i hc
   rw [if_neg hc]
   obtain rfl := Option.some.inj h; exact ⟨_,rfl,hs⟩
 | prog c x y ihc ihx ihy =>
  intro s s' r hf hs h
  simp only [runC,Option.bind_eq_some_iff] at h
  obtain ⟨q,h1,h2⟩ := h
  obtain ⟨q',e1,s1⟩ := ihc _ _ _ hf.1 hs h1
  have he : (q'.rem.length = s'.rem.length) = (q.rem.length = s.rem.length) := by rw [hs.1,s1.1]
  have : ∃ r',(if q'.rem.length = s'.rem.length then runC body rec x q' else runC body rec y q') = some r' ∧ Sim r r' := by
   simp only [he]
   split at h2
   ·rename_i hc; rw [if_pos hc]; exact ihx _ _ _ hf.2.1 s1 h2
   ·rename_i hc; rw [if_neg hc]; exact ihy _ _ _ hf.2.2 s1 h2
  obtain ⟨r',e2,s2⟩ := this
  exact ⟨r',by simp only [runC,Option.bind_eq_some_iff]; exact ⟨_,e1,e2⟩,s2⟩
 | call x => intro s s' r _ hs h; exact hr _ _ _ _ (fin_body x) hs h
 | sel f c ih =>
  intro s s' r hf hs h
  simp only [runC] at h ⊢
  rw [← hs.1]
  exact ih _ _ _ _ (hf _) hs h
theorem run_sim : ∀ n,SimR (run body n)
 | 0 => rc_sim (by intro _ _ _ _ h; cases h) (by intro _ _ _ _ _ _ h; cases h)
 | n + 1 => rc_sim (run_adds' n) (run_sim n)
end Go.Proofs.YtcelfjbajdffkaaGreatDoor.Par
namespace Go.Proofs.YtcelfjbajdffkaaGreatDoor.Par
open Cmd
open Lexi (toks off spl spl_size front_keep back_keep)
theorem body_item (n : Nat) (s : S) : run body (n + 1) (.call .item) s = run body n (if itemKind (sig1 s.rem) (sig1 (left s.rem)) = 0 then .call .skipTo else .node (itemKind (sig1 s.rem) (sig1 (left s.rem))) (seqs [acc ⟨#[112,117,98]⟩,.bump,.call (.itemBody (itemKind (sig1 s.rem) (sig1 (left s.rem))))])) s := by
 show run body n (body .item) s = _
 cases n <;> rfl
theorem item_any {n : Nat} {s r : S} (h : run body n (.call .item) s = some r) : ∃ t,r.kids = s.kids ++ [t] ∧ ∀ s',s'.rem = s.rem → ∃ r',run body n (.call .item) s' = some r' ∧ r'.rem = r.rem ∧ r'.kids = s'.kids ++ [t] := by
 have key : ∀ {m : Nat} {k : Int} {c : Cmd} {s r : S},Fin c → run body m (.node k c) s = some r → ∃ t,r.kids = s.kids ++ [t] ∧ ∀ s',s'.rem = s.rem → ∃ r',run body m (.node k c) s' = some r' ∧ r'.rem = r.rem ∧ r'.kids = s'.kids ++ [t] := by
  intro m k c s r hf h
  obtain ⟨q,h1,rfl⟩ := run_node' h
  refine ⟨.mk k nob q.kids,rfl,fun s' hs => ?_⟩
  obtain ⟨q',e1,s1⟩ := run_sim m c { s with kids := [],adds := s.adds + 1 } { s' with kids := [],adds := s'.adds + 1 } _ hf ⟨hs.symm,rfl⟩ h1
  refine ⟨{ q' with kids := s'.kids ++ [.mk k nob q'.kids] },?_,s1.1.symm,by simp only [s1.2]⟩
  cases m <;> simp only [run,runC] at e1 ⊢ <;> rw [e1] <;> rfl
 match n,h with
 | 0,h => cases h
 | n + 1,h =>
  rw [body_item] at h
  by_cases hk : itemKind (sig1 s.rem) (sig1 (left s.rem)) = 0
  ·rw [if_pos hk] at h
   match n,h with
   | 0,h => cases h
   | n + 1,h =>
    have h : run body n (body .skipTo) s = some r := h
    obtain ⟨t,h1,h2⟩ := key (m := n) (k := 46) (c := .seq .bump (.loop (fun t _ _ _ => t.1 != 100 && !isAt items t) .bump)) (Or.inr ⟨trivial,fun _ _ _ _ _ => rfl,trivial⟩) h
    refine ⟨t,h1,fun s' hs => ?_⟩
    obtain ⟨r',h3,h4,h5⟩ := h2 s' hs
    refine ⟨r',?_,h4,h5⟩
    rw [body_item,hs,if_pos hk]
    exact h3
  ·rw [if_neg hk] at h
   obtain ⟨t,h1,h2⟩ := key (show Fin (seqs [acc ⟨#[112,117,98]⟩,.bump,.call (.itemBody _)]) from Or.inr ⟨⟨fun _ _ _ _ _ => rfl,trivial,trivial⟩,Or.inr ⟨trivial,trivial⟩⟩) h
   refine ⟨t,h1,fun s' hs => ?_⟩
   obtain ⟨r',h3,h4,h5⟩ := h2 s' hs
   refine ⟨r',?_,h4,h5⟩
   rw [body_item,hs,if_neg hk]
   exact h3
def Item (l : List Tok) (t : Tr) (v : List Tok) : Prop := (sig1 l).1 ≠ 100 ∧ ∃ n r,run body n (.call .item) ⟨l,[],false,0⟩ = some r ∧ r.kids = [t] ∧ r.rem = v
inductive FileK : List Tok → List Tr → Prop
 | done {l : List Tok} (h : (sig1 l).1 = 100) : FileK l (l.map .tok)
 | item {l v : List Tok} {t : Tr} {ks : List Tr} (h : Item l t v) (k : FileK v ks) : FileK l (t :: ks)
theorem Item.unique {l v v' : List Tok} {t t' : Tr} (h : Item l t v) (h' : Item l t' v') : t = t' ∧ v = v' := by
 obtain ⟨_,n,r,h1,h2,rfl⟩ := h
 obtain ⟨_,m,q,h3,h4,rfl⟩ := h'
 obtain rfl := run_unique h1 h3
 rw [h2] at h4
 injection h4 with h4
 exact ⟨h4,rfl⟩
theorem FileK.unique {l : List Tok} {a b : List Tr} (h : FileK l a) (h' : FileK l b) : a = b := by
 induction h generalizing b with
 | done h =>
  cases h' with
  | done _ => rfl
  | item h2 _ => exact absurd h h2.1
 | item h k ih =>
  cases h' with
  | done h2 => exact absurd h2 h.1
  | item h2 k2 =>
   obtain ⟨rfl,rfl⟩ := h.unique h2
   rw [ih k2]
theorem Item.take {l v : List Tok} {t : Tr} (hv : V l) (h : Item l t v) : ∃ u,l = u ++ v ∧ t.txt = tt u ∧ u ≠ [] ∧ t.wf := by
 obtain ⟨hs,n,r,h1,h2,rfl⟩ := h
 have hj : J (.call .item) ⟨l,[],false,0⟩ ⟨1,0,10,7⟩ := (ends .item ⟨l,[],false,0⟩ hv hs).j
 obtain ⟨m,x,h3,new,g⟩ := hj
 obtain rfl := run_unique h1 h3
 have e : new = [t] := by have := g.kids; rw [h2] at this; simpa using this.symm
 obtain ⟨u,e1,e2⟩ := g.suf
 have hc := g.con
 refine ⟨u,e1,by rw [← e2,e]; simp [txtL],fun hu => ?_,by have := g.wf; rw [e] at this; exact this.1⟩
 subst hu
 simp only at e1 hc
 rw [e1] at hc
 simp only [List.nil_append] at hc
 omega
theorem Item.node {l v : List Tok} {t : Tr} (h : Item l t v) : ∃ k ks,t = .mk k nob ks ∧ k < 100 := by
 obtain ⟨hs,n,r,h1,h2,rfl⟩ := h
 match n,h1 with
 | 0,h1 => cases h1
 | n + 1,h1 =>
  rw [body_item] at h1
  have hr := kind_range (sig1 l) (sig1 (left l))
  by_cases hk : itemKind (sig1 l) (sig1 (left l)) = 0
  ·simp only [hk] at h1
   simp only [if_true] at h1
   match n,h1 with
   | 0,h1 => cases h1
   | n + 1,h1 =>
    have h1 : run body n (.node 46 (.seq .bump (.loop (fun t _ _ _ => t.1 != 100 && !isAt items t) .bump))) ⟨l,[],false,0⟩ = some r := h1
    obtain ⟨q,_,rfl⟩ := run_node' h1
    simp only [List.nil_append,List.cons.injEq,and_true] at h2
    exact ⟨_,_,h2.symm,by decide⟩
  ·simp only [hk,if_false] at h1
   obtain ⟨q,_,rfl⟩ := run_node' h1
   simp only [List.nil_append,List.cons.injEq,and_true] at h2
   exact ⟨_,_,h2.symm,hr.2⟩
theorem loop_fileK : ∀ (m : Nat) (s x : S),V s.rem → run body m (.loop (fun t _ _ _ => t.1 != 100) (.call .item)) s = some x → ∃ ks,x.kids = s.kids ++ ks ∧ (sig1 x.rem).1 = 100 ∧ V x.rem ∧ ∀ l,FileK x.rem l → FileK s.rem (ks ++ l)
 | m,s,x,hv,h => by
  by_cases he : (sig1 s.rem).1 = 100
  ·obtain rfl := run_loopF h (show S.test _ s = false by simp only [S.test,bne,he]; rfl)
   exact ⟨[],by simp,he,hv,fun l hl => hl⟩
  ·obtain ⟨m1,s1,rfl,h1,h2⟩ := run_loopT h (show S.test _ s = true by simp only [S.test,bne_iff_ne]; exact he)
   obtain ⟨t,e1,e2⟩ := item_any h1
   obtain ⟨r0,h3,h4,h5⟩ := e2 ⟨s.rem,[],false,0⟩ rfl
   have hi : Item s.rem t s1.rem := ⟨he,_,r0,h3,h5,h4⟩
   obtain ⟨u,e3,_,_,_⟩ := hi.take hv
   obtain ⟨ks,e4,e5,e6,e7⟩ := loop_fileK m1 s1 x (V_app (e3 ▸ hv)).2 h2
   exact ⟨t :: ks,by rw [e4,e1]; simp,e5,e6,fun l hl => .item hi (e7 l hl)⟩
theorem taken_eof {l : List Tok} (hv : V l) (h : (sig1 l).1 = 100) : taken l = l := by
 have := taken_left l
 rw [(sig1_eof hv h).1] at this
 simpa using this
theorem Parsed.fileK {s : ByteArray} {t : Tr} (h : Parsed s t) : ∃ ks,t = .mk 1 nob ks ∧ FileK (toks s) ks := by
 obtain ⟨n,r,h1,rfl⟩ := h
 obtain ⟨s1,h2,h3⟩ := run_seq' h1
 obtain rfl := run_bump' h3
 obtain ⟨ks,e1,e2,e3,e4⟩ := loop_fileK n _ s1 (toks_V s) h2
 refine ⟨_,rfl,?_⟩
 have := e4 _ (.done e2)
 simp only [S.bump,e1,List.nil_append]
 rw [taken_eof e3 e2]
 exact this
theorem Parsed.of {s : ByteArray} {ks : List Tr} (h : FileK (toks s) ks) : Parsed s (.mk 1 nob ks) := by
 obtain ⟨r,h1,_⟩ := parsed s
 obtain ⟨ks2,e,h2⟩ := h1.fileK
 rw [h.unique h2,← e]
 exact h1
theorem FileK.cut {l : List Tok} {ks : List Tr} (hv : V l) (h : FileK l ks) : ∀ i,i ≤ ks.length → ∃ u v,l = u ++ v ∧ tt u = txtL (ks.take i) ∧ FileK v (ks.drop i) := by
 induction h with
 | done h =>
  rename_i l
  intro i hi
  rw [List.length_map] at hi
  refine ⟨l.take i,l.drop i,(List.take_append_drop i l).symm,?_,?_⟩
  ·rw [← List.map_take,txt_toks]
  ·rw [← List.map_drop]
   refine .done ?_
   obtain ⟨_,ht⟩ := sig1_eof hv h
   have : ∀ l : List Tok,(∀ t ∈ l,isTriv t.1 = true) → (sig1 l).1 = 100 := by
    intro l
    induction l with
    | nil => intro _; rfl
    | cons t l ih => intro ht; simp only [sig1,ht t List.mem_cons_self,if_true]; exact ih fun u hu => ht u (List.mem_cons_of_mem _ hu)
   exact this _ fun t hm => ht t (List.mem_of_mem_drop hm)
 | item h k ih =>
  intro i hi
  obtain ⟨u,e1,e2,_,_⟩ := h.take hv
  cases i with
  | zero => exact ⟨[],_,rfl,rfl,.item h k⟩
  | succ i =>
   obtain ⟨u2,v2,e3,e4,e5⟩ := ih (V_app (e1 ▸ hv)).2 i (by simpa using hi)
   exact ⟨u ++ u2,v2,by rw [e1,e3,List.append_assoc],by rw [List.take_succ_cons,txtL,tt_app,e2,e4],e5⟩
theorem Item.move {q p z z' : List Tok} {t : Tr} (h : Item (q ++ z) t (p ++ z)) (hp : 2 ≤ nsig p) (hq : 1 ≤ nsig q) : Item (q ++ z') t (p ++ z') := by
 obtain ⟨hs,n,r,h1,h2,h3⟩ := h
 refine ⟨by rw [sig1_app hq] at hs ⊢; exact hs,n,_,run_loc n (.call .item) _ _ q p z z' trivial h1 rfl h3 hp,h2,rfl⟩
end Go.Proofs.YtcelfjbajdffkaaGreatDoor.Par
namespace Go.Proofs.YtcelfjbajdffkaaGreatDoor.Par
open Lexi (toks off spl spl_size front_keep back_keep catT toks_drop off_split)
def Tr.kd : Tr → Int
 | .mk k _ _ => k
theorem catT_size (l : List Tok) : (catT l).size = B l := by
 rw [B_tt,← catT_data]; simp
theorem off_B (s : ByteArray) (k : Nat) : off s k = B ((toks s).take k) := catT_size _
theorem toks_at {s : ByteArray} {u v : List Tok} (h : toks s = u ++ v) : toks (s.extract (B u) s.size) = v := by
 have e : (toks s).take u.length = u := by rw [h,List.take_left' rfl]
 have e2 : (toks s).drop u.length = v := by rw [h,List.drop_left' rfl]
 have := off_split s u.length
 rw [off_B,e,e2] at this
 rw [← this]
 have := toks_drop u.length s
 rw [e2] at this
 exact this
def sw (s : ByteArray) (o : Nat) : Nat := o + B (taken (toks (s.extract o s.size)))
theorem sw_at {s : ByteArray} {u v : List Tok} (h : toks s = u ++ v) : sw s (B u) = B (u ++ taken v) := by
 unfold sw
 rw [toks_at h,B_app]
structure Ch where
 tree : Tr
 start : Nat
 fin : Nat
 look : Nat
def ch (s : ByteArray) (o : Nat) (t : Tr) : Ch := ⟨t,o,o + t.txt.length,sw s (sw s (o + t.txt.length))⟩
def chs (s : ByteArray) : Nat → List Tr → List Ch
 | _,[] => []
 | o,t :: ks => ch s o t :: chs s (o + t.txt.length) ks
theorem chs_length (s : ByteArray) : ∀ (ks : List Tr) (o : Nat),(chs s o ks).length = ks.length
 | [],_ => rfl
 | t :: ks,o => by simp [chs,chs_length s ks]
theorem chs_at (s : ByteArray) : ∀ (ks : List Tr) (o i : Nat) (h : i < ks.length),(chs s o ks)[i]? = some (ch s (o + (txtL (ks.take i)).length) ks[i])
 | t :: ks,o,0,h => by simp [chs,txtL]
 | t :: ks,o,i + 1,h => by
  simp only [chs,List.getElem?_cons_succ,List.take_succ_cons,txtL,List.length_append,List.getElem_cons_succ]
  rw [chs_at s ks _ i (by simpa using h),Nat.add_assoc]
def Ch.keep (a : Int) (c : Ch) : Bool := decide ((c.look : Int) < a) && decide (c.tree.kd < 100)
def kept (a : Int) (l : List Ch) : Nat := (l.takeWhile (Ch.keep a)).length
theorem kept_le (a : Int) (l : List Ch) : kept a l ≤ l.length := by
 unfold kept
 exact (List.takeWhile_sublist _).length_le
theorem pre_eq {a b c d : List Tok} (hv : V (a ++ b)) (h : a ++ b = c ++ d) (hb : B a = B c) : a = c := by
 induction a generalizing c with
 | nil =>
  cases c with
  | nil => rfl
  | cons t c =>
   rw [h] at hv
   have := (hv t (by simp)).1
   simp only [B,List.map_nil,List.sum_nil,List.map_cons,List.sum_cons] at hb
   omega
 | cons x a ih =>
  cases c with
  | nil =>
   have := (hv x (by simp)).1
   simp only [B,List.map_nil,List.sum_nil,List.map_cons,List.sum_cons] at hb
   omega
  | cons t c =>
   simp only [List.cons_append,List.cons.injEq] at h
   obtain ⟨rfl,h⟩ := h
   simp only [B,List.map_cons,List.sum_cons] at hb
   rw [ih (fun t ht => hv t (List.mem_cons_of_mem _ ht)) h (by simp only [B]; omega)]
section
variable {s t : ByteArray} {a b : Nat}
theorem keep_item (h1 : a ≤ b) (h2 : b ≤ s.size) {u v v' : List Tok} {c : Tr} {ks : List Tr} (hT : toks s = u ++ v) (hN : toks (spl s a b t) = u ++ v') (hf : FileK v (c :: ks)) (hk : (ch s (B u) c).keep a = true) :
  ∃ u1 v1 v1',v = u1 ++ v1 ∧ v' = u1 ++ v1' ∧ Item v' c v1' ∧ FileK v1 ks ∧ tt u1 = c.txt := by
 simp only [Ch.keep,Bool.and_eq_true,decide_eq_true_eq] at hk
 obtain ⟨hlook,hkd⟩ := hk
 have hVT := toks_V s
 have hVv : V v := (V_app (hT ▸ hVT)).2
 generalize hl : c :: ks = l at hf
 cases hf with
 | done he =>
  rcases v with _ | ⟨x,v⟩
  ·cases hl
  ·simp only [List.map_cons,List.cons.injEq] at hl
   have hkd : c.kd < 100 := hkd
   rw [hl.1] at hkd
   have hkd : x.1 < 100 := hkd
   have := (hVv x (by simp)).2
   omega
 | item hi hf =>
  injection hl with e1 e2
  subst e1 e2
  rename_i v1
  obtain ⟨u1,e3,e4,hne,_⟩ := hi.take hVv
  subst e3
  have hB : B u + c.txt.length = B (u ++ u1) := by rw [B_app,e4,B_tt u1]
  have hlook2 : (ch s (B u) c).look = B (u ++ u1 ++ taken v1 ++ taken (left v1)) := by
   show sw s (sw s (B u + c.txt.length)) = _
   rw [hB,sw_at (u := u ++ u1) (v := v1) (by rw [hT,List.append_assoc]),sw_at (u := u ++ u1 ++ taken v1) (v := left v1) (by rw [hT,List.append_assoc _ _ (left v1),taken_left,List.append_assoc])]
  rw [hlook2] at hlook
  have hT2 : toks s = (u ++ u1 ++ taken v1 ++ taken (left v1)) ++ left (left v1) := by
   rw [List.append_assoc,taken_left,List.append_assoc,taken_left,hT,List.append_assoc]
  have hne2 : left (left v1) ≠ [] := fun he => by
   have := B_toks s
   rw [hT2,he,List.append_nil] at this
   omega
  have n2 := nsig_pos hne2
  have n1 : 1 ≤ nsig v1 := nsig_pos fun he => by rw [he] at n2; simp [nsig] at n2
  have hp : nsig (taken v1 ++ taken (left v1)) = 2 := by rw [nsig_app,nsig_taken n1,nsig_taken n2]
  have hfk := front_keep (s := s) (t := t) h1 h2 (r := (u ++ u1 ++ taken v1 ++ taken (left v1)).length) (by rw [hT2]; simp) (.inr (by
   rw [off_B,hT2,List.take_left' rfl]
   omega))
  have htk : (toks s).take (u ++ u1 ++ taken v1 ++ taken (left v1)).length = u ++ u1 ++ taken v1 ++ taken (left v1) := (congrArg (List.take _) hT2).trans (List.take_left' rfl)
  rw [htk] at hfk
  generalize toks ((spl s a b t).extract (off s (u ++ u1 ++ taken v1 ++ taken (left v1)).length) (spl s a b t).size) = z' at hfk
  have hz' : toks (spl s a b t) = u ++ (u1 ++ (taken v1 ++ taken (left v1)) ++ z') := by rw [hfk]; simp only [List.append_assoc]
  rw [hz'] at hN
  have e5 := List.append_cancel_left hN
  have e6 : u1 ++ v1 = (u1 ++ (taken v1 ++ taken (left v1))) ++ left (left v1) := by
   simp only [List.append_assoc,taken_left]
  have e7 : v1 = (taken v1 ++ taken (left v1)) ++ left (left v1) := by simp only [List.append_assoc,taken_left]
  refine ⟨u1,v1,(taken v1 ++ taken (left v1)) ++ z',rfl,by rw [← e5,List.append_assoc],?_,hf,e4.symm⟩
  rw [← e5]
  refine Item.move (z := left (left v1)) ?_ (by rw [hp]; exact Nat.le_refl 2) (by rw [nsig_app,hp]; omega)
  rw [← e6,← e7]
  exact hi
theorem keep_items (h1 : a ≤ b) (h2 : b ≤ s.size) : ∀ (m : Nat) (u v v' : List Tok) (ks : List Tr),toks s = u ++ v → toks (spl s a b t) = u ++ v' → FileK v ks → m ≤ kept a (chs s (B u) ks) →
  ∃ u1 v1 v1',v = u1 ++ v1 ∧ v' = u1 ++ v1' ∧ FileK v1 (ks.drop m) ∧ tt u1 = txtL (ks.take m) ∧ ∀ l,FileK v1' l → FileK v' (ks.take m ++ l)
 | 0,u,v,v',ks,hT,hN,hf,hm => ⟨[],v,v',rfl,rfl,hf,rfl,fun l hl => hl⟩
 | m + 1,u,v,v',[],hT,hN,hf,hm => by simp [kept,chs] at hm
 | m + 1,u,v,v',c :: ks,hT,hN,hf,hm => by
  have hk : (ch s (B u) c).keep a = true := by
   cases h : (ch s (B u) c).keep a with
   | true => rfl
   | false => simp [kept,chs,h] at hm
  have hm : m ≤ kept a (chs s (B u + c.txt.length) ks) := by
   simp only [kept,chs,List.takeWhile_cons,hk,if_true,List.length_cons] at hm ⊢
   omega
  obtain ⟨u1,v1,v1',e1,e2,hi,hf1,e3⟩ := keep_item h1 h2 hT hN hf hk
  have hB : B u + c.txt.length = B (u ++ u1) := by rw [B_app,← e3,B_tt u1]
  rw [hB] at hm
  obtain ⟨u2,v2,v2',e4,e5,hf2,e6,h⟩ := keep_items h1 h2 m (u ++ u1) v1 v1' ks (by rw [hT,e1,List.append_assoc]) (by rw [hN,e2,List.append_assoc]) hf1 hm
  exact ⟨u1 ++ u2,v2,v2',by rw [e1,e4,List.append_assoc],by rw [e2,e5,List.append_assoc],by simpa using hf2,by rw [tt_app,e3,e6,List.take_succ_cons,txtL],fun l hl => by rw [List.take_succ_cons]; exact .item hi (h l hl)⟩
theorem keep_rest {T N x x' z w l : List Tok} {ks : List Tr} {i : Nat} (hV : V T) (hT : T = x ++ z) (hN : N = x' ++ z) (hl : N = w ++ l) (hle : l.length ≤ z.length) (hf : FileK T ks) (hi : i ≤ ks.length)
  (hs : ((txtL (ks.take i)).length : Int) = B w - ((B N : Int) - B T)) : FileK l (ks.drop i) := by
 obtain ⟨u,v,e1,e2,hc⟩ := hf.cut hV i hi
 obtain ⟨y,hy⟩ : ∃ y,z = y ++ l := by
  refine ⟨z.take (z.length - l.length),?_⟩
  have e3 : x' ++ z = w ++ l := hN.symm.trans hl
  have e4 : (x' ++ z).drop (x'.length + (z.length - l.length)) = l := by
   rw [e3]
   refine List.drop_left' ?_
   have := congrArg List.length e3
   simp only [List.length_append] at this
   omega
  rw [List.drop_append] at e4
  rw [show List.drop (x'.length + (z.length - l.length)) x' = [] from List.drop_eq_nil_of_le (by omega),List.nil_append,show x'.length + (z.length - l.length) - x'.length = z.length - l.length from by omega] at e4
  conv => lhs; rw [← List.take_append_drop (z.length - l.length) z,e4]
 have hBN := congrArg B hl
 rw [B_app] at hBN
 have hT2 : T = (x ++ y) ++ l := by rw [hT,hy,List.append_assoc]
 have hBT := congrArg B hT2
 rw [B_app] at hBT
 have hBu : B u = (txtL (ks.take i)).length := by rw [← e2,B_tt]
 have : u = x ++ y := pre_eq (b := v) (d := l) (by rw [← e1]; exact hV) (by rw [← e1,hT2]) (by omega)
 subst this
 have : v = l := List.append_cancel_left (e1.symm.trans hT2)
 rw [← this]
 exact hc
end
end Go.Proofs.YtcelfjbajdffkaaGreatDoor.Par
namespace Go.Proofs.YtcelfjbajdffkaaGreatDoor.Par
open Lexi (toks off off_lt off_step)
theorem nsig_two {l : List Tok} {i j : Nat} (hij : i < j) (hj : j < l.length) (h1 : isTriv (l[i]'(by omega)).1 = false) (h2 : isTriv l[j].1 = false) : 2 ≤ nsig l := by
 have one : ∀ (l : List Tok) (i : Nat) (h : i < l.length),isTriv l[i].1 = false → 1 ≤ nsig l := by
  intro l i h ht
  have e := congrArg nsig (List.take_append_drop i l)
  rw [nsig_app,List.drop_eq_getElem_cons h] at e
  simp only [nsig,ht] at e
  simp at e
  omega
 have e := congrArg nsig (List.take_append_drop j l)
 rw [nsig_app,List.drop_eq_getElem_cons hj] at e
 simp only [nsig,h2] at e
 simp at e
 have := one (l.take j) i (by rw [List.length_take]; omega) (by rw [List.getElem_take]; exact h1)
 omega
theorem look_of {s : ByteArray} {u v : List Tok} {a : Int} {i j : Nat} (hT : toks s = u ++ v) (hij : i < j) (hj : j < (toks s).length) (he : B u ≤ off s i) (ha : (off s (j + 1) : Int) < a) (h1 : isTriv ((toks s)[i]'(by omega)).1 = false) (h2 : isTriv (toks s)[j].1 = false) :
  (sw s (sw s (B u)) : Int) < a := by
 have hu : u.length ≤ i := by
  have e : off s u.length = B u := by rw [off_B,hT,List.take_left' rfl]
  exact off_lt (by rw [hT]; simp) (by omega) (by omega)
 have hjv : j - u.length < v.length := by rw [hT,List.length_append] at hj; omega
 have g : ∀ k (h : k < (toks s).length) (hk : u.length ≤ k),(toks s)[k] = v[k - u.length]'(by rw [hT,List.length_append] at h; omega) := fun k h hk => by
  simp only [hT]
  rw [List.getElem_append_right hk]
 have hq : 2 ≤ nsig (v.take (j + 1 - u.length)) := by
  refine nsig_two (i := i - u.length) (j := j - u.length) (by omega) (by rw [List.length_take]; omega) ?_ ?_
  ·rw [List.getElem_take,← g i (by omega) hu]; exact h1
  ·rw [List.getElem_take,← g j hj (by omega)]; exact h2
 obtain ⟨q,hqe⟩ : ∃ q,v.take (j + 1 - u.length) = q := ⟨_,rfl⟩
 obtain ⟨z,hze⟩ : ∃ z,v.drop (j + 1 - u.length) = z := ⟨_,rfl⟩
 have hv : v = q ++ z := by rw [← hqe,← hze,List.take_append_drop]
 rw [hqe] at hq
 have n1 := nsig_left (q := q) (by omega)
 have hl : left v = left q ++ z := by rw [hv]; exact left_app (by omega)
 have ht1 : taken v = taken q := by rw [hv]; exact taken_app (by omega)
 have ht2 : taken (left v) = taken (left q) := by rw [hl]; exact taken_app (by omega)
 have hT2 : toks s = (u ++ taken v) ++ left v := by rw [List.append_assoc,taken_left]; exact hT
 rw [sw_at hT,sw_at hT2,ht1,ht2]
 have hoff : off s (j + 1) = B (u ++ q) := by
  rw [off_B,hT,List.take_append,List.take_of_length_le (by omega),hqe]
 have e1 := congrArg B (taken_left q)
 have e2 := congrArg B (taken_left (left q))
 rw [B_app] at e1 e2
 rw [hoff,B_app] at ha
 rw [B_app,B_app]
 omega
def aft (s : ByteArray) (e a : Int) (i : Nat) : Bool := match (toks s)[i]? with
 | some t => decide (e ≤ off s i) && (decide ((off s i : Int) + t.2.size < a) && !isTriv t.1)
 | none => false
def aftN (s : ByteArray) (e a : Int) : Nat → Nat
 | 0 => 0
 | k + 1 => aftN s e a k + (if aft s e a k then 1 else 0)
theorem aftN_le (s : ByteArray) (e a : Int) : ∀ k,aftN s e a k ≤ k
 | 0 => Nat.le_refl 0
 | k + 1 => by have := aftN_le s e a k; unfold aftN; split <;> omega
theorem aft_two {s : ByteArray} {e a : Int} : ∀ k,2 ≤ aftN s e a k → ∃ i j,i < j ∧ j < k ∧ aft s e a i = true ∧ aft s e a j = true
 | 0,h => by simp [aftN] at h
 | k + 1,h => by
  have one : ∀ k,1 ≤ aftN s e a k → ∃ i,i < k ∧ aft s e a i = true := by
   intro k
   induction k with
   | zero => intro h; simp [aftN] at h
   | succ k ih =>
    intro h
    unfold aftN at h
    by_cases hk : aft s e a k = true
    ·exact ⟨k,by omega,hk⟩
    ·rw [if_neg hk] at h
     obtain ⟨i,hi,ha⟩ := ih (by omega)
     exact ⟨i,by omega,ha⟩
  unfold aftN at h
  by_cases hk : aft s e a k = true
  ·rw [if_pos hk] at h
   obtain ⟨i,hi,ha⟩ := one k (by omega)
   exact ⟨i,k,hi,by omega,ha,hk⟩
  ·rw [if_neg hk] at h
   obtain ⟨i,j,h1,h2,h3⟩ := aft_two k (by omega)
   exact ⟨i,j,h1,by omega,h3⟩
theorem aft_in {s : ByteArray} {e a : Int} {i : Nat} (h : aft s e a i = true) : ∃ hi : i < (toks s).length,e ≤ off s i ∧ (off s (i + 1) : Int) < a ∧ isTriv (toks s)[i].1 = false := by
 unfold aft at h
 split at h
 ·rename_i t ht
  obtain ⟨hi,rfl⟩ := List.getElem?_eq_some_iff.1 ht
  simp only [Bool.and_eq_true,decide_eq_true_eq,Bool.not_eq_true'] at h
  have := (off_step hi).1
  exact ⟨hi,h.1,by omega,h.2.2⟩
 ·cases h
theorem kept_ge {a : Int} {l : List Ch} : ∀ (j : Nat),j ≤ l.length → (∀ i (h : i < l.length),i < j → l[i].keep a = true) → j ≤ kept a l := by
 induction l with
 | nil => intro j hj _; simp at hj; omega
 | cons c l ih =>
  intro j hj h
  cases j with
  | zero => exact Nat.zero_le _
  | succ j =>
   have h0 := h 0 (by simp) (by omega)
   simp only [List.getElem_cons_zero] at h0
   have := ih j (by simpa using hj) fun i hi hij => by have := h (i + 1) (by simpa using hi) (by omega); simpa using this
   simp only [kept,List.takeWhile_cons,h0,if_true,List.length_cons] at this ⊢
   omega
theorem must_keep {s : ByteArray} {ks : List Tr} {a : Int} {j k : Nat} (hf : FileK (toks s) ks) (hj : j < ks.length) (hkd : ∀ i (h : i < ks.length),i ≤ j → ks[i].kd < 100) (h2 : 2 ≤ aftN s ((txtL (ks.take (j + 1))).length : Nat) a k) : j + 1 ≤ kept a (chs s 0 ks) := by
 obtain ⟨i1,i2,h12,_,a1,a2⟩ := aft_two k h2
 obtain ⟨l1,b1,_,t1⟩ := aft_in a1
 obtain ⟨l2,b2,c2,t2⟩ := aft_in a2
 refine kept_ge (j + 1) (by rw [chs_length]; omega) fun i hi hij => ?_
 rw [chs_length] at hi
 have hat := chs_at s ks 0 i hi
 have hgi : (chs s 0 ks)[i]'(by rw [chs_length]; exact hi) = ch s (0 + (txtL (ks.take i)).length) ks[i] := by
  rw [List.getElem?_eq_getElem (by rw [chs_length]; exact hi)] at hat
  exact Option.some.inj hat
 rw [hgi]
 obtain ⟨u,v,e1,e2,_⟩ := hf.cut (toks_V s) (i + 1) (by omega)
 have hB : B u = (txtL (ks.take (i + 1))).length := by rw [← e2,B_tt]
 have hle : (txtL (ks.take (i + 1))).length ≤ (txtL (ks.take (j + 1))).length := by
  have e : ks.take (j + 1) = ks.take (i + 1) ++ (ks.take (j + 1)).drop (i + 1) := by
   conv => lhs; rw [← List.take_append_drop (i + 1) (ks.take (j + 1))]
   rw [List.take_take,Nat.min_eq_left (by omega)]
  rw [e,txtL_app,List.length_append]
  omega
 have hl := look_of e1 h12 l2 (by omega) c2 t1 t2
 have hfin : 0 + (txtL (ks.take i)).length + ks[i].txt.length = B u := by
  rw [hB,List.take_succ_eq_append_getElem hi,txtL_app]
  simp [txtL]
 simp only [Ch.keep,ch,hfin,Bool.and_eq_true,decide_eq_true_eq]
 exact ⟨hl,hkd i hi (by omega)⟩
end Go.Proofs.YtcelfjbajdffkaaGreatDoor.Par
