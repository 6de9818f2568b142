/- The parser as plain data: commands that read tokens and add children to the current node, and how they run. -/
import Derived.Shelf.Strings.Fields
import Derived.Shelf.Slices.Turned
import Derived.Lib.SlicesS
import Derived.KernelRfl
set_option linter.unusedVariables false
set_option linter.unusedSimpArgs false
namespace Go.Proofs.YtcelfjbajdffkaaGreatDoor.Par
abbrev Tok := Int × ByteArray
inductive Tr where
 | mk (kind : Int) (text : ByteArray) (kids : List Tr)
def nob : ByteArray := ⟨#[]⟩
def isTriv (k : Int) : Bool := k == 101 || k == 102
def Tr.tok (t : Tok) : Tr := .mk t.1 t.2 []
def Tr.leaf (k : Int) : Tr := .mk k nob []
structure S where
 rem : List Tok
 kids : List Tr
 flag : Bool
 adds : Nat
def sig1 : List Tok → Tok
 | [] => (100,nob)
 | t :: l => if isTriv t.1 then sig1 l else t
def taken : List Tok → List Tok
 | [] => []
 | t :: l => if isTriv t.1 then t :: taken l else [t]
def left : List Tok → List Tok
 | [] => []
 | t :: l => if isTriv t.1 then left l else l
abbrev Test := Tok → Tok → Tok → Bool → Bool
inductive Nm where
 | block | statement | letS | returnS | binary (level : Nat) | unary | arguments | postE | primary | ifExpr | matchE | structLit | lambda | pattern
 | item | skipTo | itemBody (kind : Int) | use | typeParams | typeParam | params (closing : ByteArray) | function (needsBody : Bool) | dataType (kind : Int) | members | impl | path (inType : Bool) | typeExpr
inductive Cmd where
 | skip | bump | drop | before
 | flag (b : Bool)
 | leaf (k : Int)
 | seq (a b : Cmd)
 | node (k : Int) (c : Cmd)
 | wrap (k : Int) (c : Cmd)
 | cond (t : Test) (a b : Cmd)
 | loop (t : Test) (c : Cmd)
 | prog (c a b : Cmd)
 | call (x : Nm)
 | sel (f : Tok → Tok → Int) (c : Int → Cmd)
def S.bump (s : S) : S := { s with rem := left s.rem,kids := s.kids ++ (taken s.rem).map .tok,adds := s.adds + (taken s.rem).length }
def S.test (t : Test) (s : S) : Bool := t (sig1 s.rem) (sig1 (left s.rem)) (sig1 (left (left s.rem))) s.flag
def S.add (s : S) (t : Tr) : S := { s with kids := s.kids ++ [t],adds := s.adds + 1 }
section
variable (body : Nm → Cmd) (rec : Cmd → S → Option S)
def runC : Cmd → S → Option S
 | .skip,s => some s
 | .bump,s => some s.bump
 | .drop,s => some { s with kids := s.kids.dropLast }
 | .before,s => match s.kids.getLast? with
  | some t => some { s with kids := s.kids.dropLast ++ [.leaf 0,t],adds := s.adds + 1 }
  | none => none
 | .flag b,s => some { s with flag := b }
 | .leaf k,s => some (s.add (.leaf k))
 | .seq a b,s => (runC a s).bind (runC b)
 | .node k c,s => (runC c { s with kids := [],adds := s.adds + 1 }).map fun r => { r with kids := s.kids ++ [.mk k nob r.kids] }
 | .wrap k c,s => match s.kids.getLast? with
  | some t => (runC c { s with kids := [t],adds := s.adds + 1 }).map fun r => { r with kids := s.kids.dropLast ++ [.mk k nob r.kids] }
  | none => none
 | .cond t a b,s => if s.test t then runC a s else runC b s
 | .loop t c,s => if s.test t then (runC c s).bind (rec (.loop t c)) else some s
 | .prog c a b,s => (runC c s).bind fun r => if r.rem.length = s.rem.length then runC a r else runC b r
 | .call x,s => rec (body x) s
 | .sel f c,s => runC (c (f (sig1 s.rem) (sig1 (left s.rem)))) s
def run : Nat → Cmd → S → Option S
 | 0 => runC body fun _ _ => none
 | n + 1 => runC body (run n)
end
def itemsText : ByteArray := ⟨#[117,115,101,32,112,117,98,32,102,110,32,115,116,114,117,99,116,32,101,110,117,109,32,116,114,97,105,116,32,105,109,112,108,32,99,111,110,115,116,32,109,97,99,114,111]⟩
def kindsText : ByteArray := ⟨#[117,115,101,32,102,110,32,115,116,114,117,99,116,32,101,110,117,109,32,116,114,97,105,116,32,105,109,112,108,32,99,111,110,115,116,32,109,97,99,114,111]⟩
def isAt (l : List ByteArray) (t : Tok) : Bool := (t.1 == 104 || t.1 == 107) && Lib.containsS l t.2
def at1 (l : List ByteArray) : Test := fun t _ _ _ => isAt l t
def items : List ByteArray := (Lib.fields (itemsText).data.toList).map fun l => ⟨l.toArray⟩
def kinds : List ByteArray := (Lib.fields (kindsText).data.toList).map fun l => ⟨l.toArray⟩
def atItem (t : Tok) : Bool := isAt items t && !isAt [⟨#[102,110]⟩] t
def ident : Test := fun t _ _ _ => t.1 == 103
namespace Cmd
def missing : Cmd := .leaf 108
def missingN : Cmd := .leaf 46
def absent : Cmd := .leaf 0
def acc (x : ByteArray) : Cmd := .cond (at1 [x]) .bump .skip
def exp (x : ByteArray) : Cmd := .cond (at1 [x]) .bump missing
def expIdent : Cmd := .cond ident .bump missing
def opt (x : ByteArray) (c : Cmd) : Cmd := .cond (at1 [x]) (.seq .bump c) absent
def unexpected : Cmd := .node 46 .bump
def seqs : List Cmd → Cmd
 | [] => .skip
 | [c] => c
 | c :: l => .seq c (seqs l)
def list (cl : ByteArray) (el : Cmd) : Cmd :=
 .seq (.loop (fun t _ _ _ => !isAt [cl] t && t.1 != 100 && !atItem t) (.prog el unexpected (.cond (at1 [cl]) .skip (exp ⟨#[44]⟩)))) (exp cl)
def expr : Cmd := .call (.binary 0)
end Cmd
open Cmd
def ops : Nat → List ByteArray
 | 0 => [⟨#[124,124]⟩]
 | 1 => [⟨#[38,38]⟩]
 | 2 => [⟨#[61,61]⟩,⟨#[60]⟩]
 | 3 => [⟨#[43]⟩,⟨#[45]⟩]
 | _ => [⟨#[42]⟩,⟨#[47]⟩]
def kindNo (x : ByteArray) : Int := let i := Lib.idxOfS kinds x; if i < 0 then 0 else 2 + i
def itemKind (t u : Tok) : Int := let x := if isAt [⟨#[112,117,98]⟩] t then u else t; if kindNo x.2 == 0 || x.1 != 104 then 0 else kindNo x.2
def stmtTail (blk : Bool) : Cmd :=
 .cond (at1 [⟨#[125]⟩]) (.flag true) (.seq (.cond (at1 [⟨#[61]⟩]) (.wrap 23 (seqs [.bump,expr,exp ⟨#[59]⟩])) (.wrap 26 (.cond (at1 [⟨#[59]⟩]) .bump (if blk then .skip else missing)))) (.flag false))
def stmtFix : Cmd := seqs [.drop,unexpected,.flag false]
def atPattern (t : Tok) : Bool := t.1 == 103 || t.1 == 105 || isAt [⟨#[116,114,117,101]⟩,⟨#[102,97,108,115,101]⟩,⟨#[109,117,116]⟩] t
def seg (inType : Bool) : Cmd := .node 18 (.seq expIdent (if inType then .cond (at1 [⟨#[60]⟩]) (.seq .bump (list ⟨#[62]⟩ (.call .typeExpr))) .skip else .skip))
def body : Nm → Cmd
 | .block => .node 21 (seqs [exp ⟨#[123]⟩,.flag false,.loop (fun t _ _ f => !f && !isAt [⟨#[125]⟩] t && t.1 != 100 && !isAt items t) (.call .statement),.cond (fun _ _ _ f => f) .skip absent,exp ⟨#[125]⟩])
 | .statement => .cond (at1 [⟨#[108,101,116]⟩]) (.seq (.node 22 (.call .letS)) (.flag false)) (.cond (at1 [⟨#[119,104,105,108,101]⟩]) (.seq (.node 24 (seqs [.bump,expr,.call .block])) (.flag false)) (.cond (at1 [⟨#[114,101,116,117,114,110]⟩]) (.seq (.node 25 (.call .returnS)) (.flag false))
   (.cond (at1 [⟨#[105,102]⟩,⟨#[109,97,116,99,104]⟩,⟨#[123]⟩]) (.prog (.call .primary) stmtFix (stmtTail true)) (.prog expr stmtFix (stmtTail false)))))
 | .letS => seqs [.bump,.call .pattern,opt ⟨#[58]⟩ (.call .typeExpr),exp ⟨#[61]⟩,expr,exp ⟨#[59]⟩]
 | .returnS => seqs [.bump,.cond (at1 [⟨#[59]⟩]) absent expr,exp ⟨#[59]⟩]
 | .binary n => if n = 5 then .call .unary else .seq (.call (.binary (n + 1))) (if n = 2 then .cond (at1 (ops n)) (.wrap 39 (.seq .bump (.call (.binary (n + 1))))) .skip else .loop (at1 (ops n)) (.wrap 39 (.seq .bump (.call (.binary (n + 1))))))
 | .unary => .cond (at1 [⟨#[45]⟩,⟨#[33]⟩,⟨#[42]⟩]) (.node 40 (.seq .bump (.call .unary))) (.cond (at1 [⟨#[38]⟩]) (.node 41 (seqs [.bump,acc ⟨#[109,117,116]⟩,.call .unary])) (.seq (.call .primary) (.call .postE)))
 | .arguments => .seq .bump (list ⟨#[41]⟩ expr)
 | .postE => .loop (at1 [⟨#[40]⟩,⟨#[46]⟩]) (.cond (at1 [⟨#[40]⟩]) (.wrap 30 (.call .arguments)) (.cond (fun _ t u _ => t.1 == 103 && isAt [⟨#[40]⟩] u) (.wrap 31 (seqs [.bump,.bump,.call .arguments])) (.wrap 32 (.seq .bump expIdent))))
 | .primary => .cond (fun t _ _ _ => t.1 == 105) (.node 27 .bump) (.cond (fun t _ _ _ => t.1 == 106) (.node 29 .bump) (.cond (at1 [⟨#[116,114,117,101]⟩,⟨#[102,97,108,115,101]⟩]) (.node 28 .bump) (.cond ident (.seq (.call (.path false)) (.cond (fun t u _ _ => isAt [⟨#[33]⟩] t && isAt [⟨#[40]⟩] u) (.wrap 42 (.seq .bump (.call .arguments))) .skip))
   (.cond (at1 [⟨#[40]⟩]) (.node 60 (seqs [.bump,expr,exp ⟨#[41]⟩])) (.cond (at1 [⟨#[123]⟩]) (.call .block) (.cond (at1 [⟨#[105,102]⟩]) (.call .ifExpr) (.cond (at1 [⟨#[109,97,116,99,104]⟩]) (.node 35 (.call .matchE)) (.cond (at1 [⟨#[110,101,119]⟩]) (.node 33 (.call .structLit)) (.cond (at1 [⟨#[124]⟩,⟨#[124,124]⟩]) (.node 38 (.call .lambda)) missingN)))))))))
 | .ifExpr => .node 37 (seqs [.bump,expr,.call .block,opt ⟨#[101,108,115,101]⟩ (.cond (at1 [⟨#[105,102]⟩]) (.call .ifExpr) (.call .block))])
 | .matchE => seqs [.bump,expr,exp ⟨#[123]⟩,list ⟨#[125]⟩ (.cond (fun t _ _ _ => atPattern t) (.node 36 (seqs [.call .pattern,exp ⟨#[61,62]⟩,expr])) .skip)]
 | .structLit => seqs [.bump,.call (.path false),exp ⟨#[123]⟩,list ⟨#[125]⟩ (.cond ident (.node 34 (seqs [.bump,exp ⟨#[58]⟩,expr])) .skip)]
 | .lambda => .seq (.cond (at1 [⟨#[124,124]⟩]) (.seq .bump (.node 12 .skip)) (.seq .bump (.call (.params ⟨#[124]⟩)))) expr
 | .pattern => .cond (at1 [⟨#[109,117,116]⟩]) (.node 44 (.seq .bump expIdent)) (.cond (fun t _ _ _ => t.1 == 103 && decide (t.2 = ⟨#[95]⟩)) (.node 43 .bump) (.cond (fun t u _ _ => t.1 == 103 && !isAt [⟨#[40]⟩,⟨#[58,58]⟩] u) (.node 44 .bump)
   (.cond ident (.node 45 (.seq (.call (.path false)) (.cond (at1 [⟨#[40]⟩]) (.seq .bump (list ⟨#[41]⟩ (.call .pattern))) .skip))) (.cond (fun t _ _ _ => t.1 == 105) (.node 27 .bump) (.cond (at1 [⟨#[116,114,117,101]⟩,⟨#[102,97,108,115,101]⟩]) (.node 28 .bump) missingN)))))
 | .item => .sel itemKind fun k => if k = 0 then .call .skipTo else .node k (seqs [acc ⟨#[112,117,98]⟩,.bump,.call (.itemBody k)])
 | .skipTo => .node 46 (.seq .bump (.loop (fun t _ _ _ => t.1 != 100 && !isAt items t) .bump))
 | .itemBody k => if k = 2 then .call .use else if k = 3 then .call (.function true) else if k = 4 ∨ k = 5 then .call (.dataType k) else if k = 6 then .seq expIdent (.call .members) else if k = 7 then .call .impl
   else if k = 8 then seqs [expIdent,exp ⟨#[58]⟩,.call .typeExpr,exp ⟨#[61]⟩,expr,exp ⟨#[59]⟩] else if k = 9 then seqs [expIdent,exp ⟨#[40]⟩,.call (.params ⟨#[41]⟩),exp ⟨#[61]⟩,expr,exp ⟨#[59]⟩] else .skip
 | .use => seqs [.node 17 (.seq (.node 18 expIdent) (.loop (fun t u _ _ => isAt [⟨#[58,58]⟩] t && !isAt [⟨#[42]⟩] u) (.seq .bump (.node 18 expIdent)))),.cond (at1 [⟨#[58,58]⟩]) (.seq .bump .bump) (.cond (at1 [⟨#[97,115]⟩]) (.seq .bump expIdent) .skip),exp ⟨#[59]⟩]
 | .typeParams => .node 10 (.cond (at1 [⟨#[60]⟩]) (.seq .bump (list ⟨#[62]⟩ (.call .typeParam))) .skip)
 | .typeParam => .cond ident (.node 11 (.seq .bump (.cond (at1 [⟨#[58]⟩]) (seqs [.bump,.call (.path true),.loop (at1 [⟨#[43]⟩]) (.seq .bump (.call (.path true)))]) .skip))) .skip
 | .params cl => .node 12 (list cl (.cond ident (.node 13 (.seq .bump (opt ⟨#[58]⟩ (.call .typeExpr)))) .skip))
 | .function b => seqs [expIdent,.call .typeParams,exp ⟨#[40]⟩,.call (.params ⟨#[41]⟩),opt ⟨#[45,62]⟩ (.call .typeExpr),if b then .call .block else .cond (at1 [⟨#[59]⟩]) (.seq .bump absent) (.call .block)]
 | .dataType k => seqs [expIdent,.call .typeParams,exp ⟨#[123]⟩,list ⟨#[125]⟩ (.cond ident (if k = 4 then .node 14 (seqs [.bump,exp ⟨#[58]⟩,.call .typeExpr]) else .node 15 (.seq .bump (.cond (at1 [⟨#[40]⟩]) (.seq .bump (list ⟨#[41]⟩ (.call .typeExpr))) .skip))) .skip)]
 | .members => seqs [exp ⟨#[123]⟩,.loop (at1 [⟨#[116,121,112,101]⟩,⟨#[102,110]⟩]) (.cond (at1 [⟨#[102,110]⟩]) (.node 3 (.seq .bump (.call (.function false)))) (.node 16 (seqs [.bump,expIdent,opt ⟨#[61]⟩ (.call .typeExpr),exp ⟨#[59]⟩]))),exp ⟨#[125]⟩]
 | .impl => seqs [.call .typeParams,.call .typeExpr,.cond (at1 [⟨#[102,111,114]⟩]) (.seq .bump (.call .typeExpr)) .before,.call .members]
 | .path b => .node 17 (.seq (seg b) (.loop (at1 [⟨#[58,58]⟩]) (.seq .bump (seg b))))
 | .typeExpr => .cond (at1 [⟨#[38]⟩]) (.node 19 (seqs [.bump,acc ⟨#[109,117,116]⟩,.call .typeExpr])) (.cond (at1 [⟨#[102,110]⟩]) (.node 20 (seqs [.bump,exp ⟨#[40]⟩,list ⟨#[41]⟩ (.call .typeExpr),opt ⟨#[45,62]⟩ (.call .typeExpr)])) (.cond ident (.call (.path true)) missingN))
def file : Cmd := .seq (.loop (fun t _ _ _ => t.1 != 100) (.call .item)) .bump
end Go.Proofs.YtcelfjbajdffkaaGreatDoor.Par
namespace Go.Proofs.YtcelfjbajdffkaaGreatDoor.Par
theorem runC_mono {body : Nm → Cmd} {r1 r2 : Cmd → S → Option S} (h : ∀ c s x,r1 c s = some x → r2 c s = some x) : ∀ c s x,runC body r1 c s = some x → runC body r2 c s = some x := by
 intro c
 induction c with
 | skip | bump | drop | flag b | leaf k => intro s x hx; simpa only [runC] using hx
 | before => intro s x hx; simpa only [runC] using hx
 | seq a b iha ihb =>
  intro s x hx
  simp only [runC,Option.bind_eq_some_iff] at hx ⊢
  obtain ⟨r,h1,h2⟩ := hx
  exact ⟨r,iha _ _ h1,ihb _ _ h2⟩
 | node k c ih =>
  intro s x hx
  simp only [runC,Option.map_eq_some_iff] at hx ⊢
  obtain ⟨r,h1,h2⟩ := hx
  exact ⟨r,ih _ _ h1,h2⟩
 | wrap k c ih =>
  intro s x hx
  simp only [runC] at hx ⊢
  split at hx
  ·simp only [Option.map_eq_some_iff] at hx ⊢
   obtain ⟨r,h1,h2⟩ := hx
   exact ⟨r,ih _ _ h1,h2⟩
  ·cases hx
 | cond t a b iha ihb =>
  intro s x hx
  simp only [runC] at hx ⊢
  split at hx
  ·rename_i h; rw [if_pos h]; exact iha _ _ hx
  ·rename_i h; rw [if_neg h]; exact ihb _ _ hx
 | loop t c ih =>
  intro s x hx
  simp only [runC] at hx ⊢
  split at hx
  ·rename_i h1; rw [if_pos h1]
   simp only [Option.bind_eq_some_iff] at hx ⊢
   obtain ⟨r,h2,h3⟩ := hx
   exact ⟨r,ih _ _ h2,h _ _ _ h3⟩
  ·rename_i h1; rw [if_neg h1]; exact hx
 | prog c a b ihc iha ihb =>
  intro s x hx
  simp only [runC,Option.bind_eq_some_iff] at hx ⊢
  obtain ⟨r,h1,h2⟩ := hx
  refine ⟨r,ihc _ _ h1,?_⟩
  split at h2
  ·rename_i h; rw [if_pos h]; exact iha _ _ h2
  ·rename_i h; rw [if_neg h]; exact ihb _ _ h2
 | call x => intro s x hx; exact h _ _ _ hx
 | sel f c ih => intro s x hx; exact ih _ _ _ hx
theorem run_succ {c : Cmd} {s x : S} : ∀ {n},run body n c s = some x → run body (n + 1) c s = some x
 | 0,h => runC_mono (by intro _ _ _ h; cases h) c s x h
 | n + 1,h => runC_mono (fun c s x h => run_succ (n := n) h) c s x h
theorem run_le {c : Cmd} {s x : S} {n m : Nat} (h : n ≤ m) (hr : run body n c s = some x) : run body m c s = some x := by
 induction h with
 | refl => exact hr
 | step _ ih => exact run_succ ih
theorem run_unique {c : Cmd} {s x y : S} {n m : Nat} (h : run body n c s = some x) (h' : run body m c s = some y) : x = y := by
 have h1 := run_le (Nat.le_max_left n m) h
 have h2 := run_le (Nat.le_max_right n m) h'
 exact Option.some.inj (h1.symm.trans h2)
def T (c : Cmd) (s : S) (Q : S → Prop) : Prop := ∃ n r,run body n c s = some r ∧ Q r
theorem T.mono {c : Cmd} {s : S} {Q R : S → Prop} (h : T c s Q) (hq : ∀ r,Q r → R r) : T c s R := by
 obtain ⟨n,r,h1,h2⟩ := h
 exact ⟨n,r,h1,hq r h2⟩
theorem T.skip {s : S} {Q : S → Prop} (h : Q s) : T .skip s Q := ⟨0,s,rfl,h⟩
theorem T.bump {s : S} {Q : S → Prop} (h : Q s.bump) : T .bump s Q := ⟨0,_,rfl,h⟩
theorem T.drop {s : S} {Q : S → Prop} (h : Q { s with kids := s.kids.dropLast }) : T .drop s Q := ⟨0,_,rfl,h⟩
theorem T.flag {s : S} {b : Bool} {Q : S → Prop} (h : Q { s with flag := b }) : T (.flag b) s Q := ⟨0,_,rfl,h⟩
theorem T.leaf {s : S} {k : Int} {Q : S → Prop} (h : Q (s.add (.leaf k))) : T (.leaf k) s Q := ⟨0,_,rfl,h⟩
theorem T.before {s : S} {t : Tr} {l : List Tr} {Q : S → Prop} (hk : s.kids = l ++ [t]) (h : Q { s with kids := l ++ [.leaf 0,t],adds := s.adds + 1 }) : T .before s Q :=
 ⟨0,_,by simp [run,runC,hk],h⟩
theorem run_seq {a b : Cmd} {s r x : S} {n m : Nat} (h1 : run body n a s = some r) (h2 : run body m b r = some x) : run body (max n m) (.seq a b) s = some x := by
 have h1 := run_le (Nat.le_max_left n m) h1
 have h2 := run_le (Nat.le_max_right n m) h2
 cases hk : max n m <;> rw [hk] at h1 h2 <;> simp only [run,runC] at h1 h2 ⊢ <;> rw [h1] <;> exact h2
theorem T.seq {a b : Cmd} {s : S} {Q : S → Prop} (h : T a s fun r => T b r Q) : T (.seq a b) s Q := by
 obtain ⟨n,r,h1,m,x,h2,h3⟩ := h
 exact ⟨_,x,run_seq h1 h2,h3⟩
theorem T.node {k : Int} {c : Cmd} {s : S} {Q : S → Prop} (h : T c { s with kids := [],adds := s.adds + 1 } fun r => Q { r with kids := s.kids ++ [.mk k nob r.kids] }) : T (.node k c) s Q := by
 obtain ⟨n,r,h1,h2⟩ := h
 refine ⟨n,_,?_,h2⟩
 cases n <;> simp only [run,runC] at h1 ⊢ <;> rw [h1] <;> rfl
theorem T.wrap {k : Int} {c : Cmd} {s : S} {t : Tr} {l : List Tr} {Q : S → Prop} (hk : s.kids = l ++ [t]) (h : T c { s with kids := [t],adds := s.adds + 1 } fun r => Q { r with kids := l ++ [.mk k nob r.kids] }) : T (.wrap k c) s Q := by
 obtain ⟨n,r,h1,h2⟩ := h
 refine ⟨n,_,?_,h2⟩
 have e1 : s.kids.getLast? = some t := by rw [hk]; simp
 have e2 : s.kids.dropLast = l := by rw [hk]; simp
 cases n <;> simp only [run,runC,e1,e2] at h1 ⊢ <;> rw [h1] <;> rfl
theorem T.cond {t : Test} {a b : Cmd} {s : S} {Q : S → Prop} (h1 : s.test t = true → T a s Q) (h2 : s.test t = false → T b s Q) : T (.cond t a b) s Q := by
 cases ht : s.test t
 ·obtain ⟨n,r,e,q⟩ := h2 ht
  exact ⟨n,r,by cases n <;> simp only [run,runC,ht] at e ⊢ <;> simpa using e,q⟩
 ·obtain ⟨n,r,e,q⟩ := h1 ht
  exact ⟨n,r,by cases n <;> simp only [run,runC,ht] at e ⊢ <;> simpa using e,q⟩
theorem T.prog {c a b : Cmd} {s : S} {Q : S → Prop} (h : T c s fun r => (r.rem.length = s.rem.length → T a r Q) ∧ (r.rem.length ≠ s.rem.length → T b r Q)) : T (.prog c a b) s Q := by
 obtain ⟨n,r,h1,h2,h3⟩ := h
 by_cases he : r.rem.length = s.rem.length
 ·obtain ⟨m,x,h4,h5⟩ := h2 he
  refine ⟨max n m,x,?_,h5⟩
  have h1 := run_le (Nat.le_max_left n m) h1
  have h4 := run_le (Nat.le_max_right n m) h4
  cases hk : max n m <;> rw [hk] at h1 h4 <;> simp only [run,runC] at h1 h4 ⊢ <;> rw [h1] <;> simpa [he] using h4
 ·obtain ⟨m,x,h4,h5⟩ := h3 he
  refine ⟨max n m,x,?_,h5⟩
  have h1 := run_le (Nat.le_max_left n m) h1
  have h4 := run_le (Nat.le_max_right n m) h4
  cases hk : max n m <;> rw [hk] at h1 h4 <;> simp only [run,runC] at h1 h4 ⊢ <;> rw [h1] <;> simpa [he] using h4
theorem T.call {x : Nm} {s : S} {Q : S → Prop} (h : T (body x) s Q) : T (.call x) s Q := by
 obtain ⟨n,r,h1,h2⟩ := h
 exact ⟨n + 1,r,h1,h2⟩
theorem T.sel {f : Tok → Tok → Int} {c : Int → Cmd} {s : S} {Q : S → Prop} (h : T (c (f (sig1 s.rem) (sig1 (left s.rem)))) s Q) : T (.sel f c) s Q := by
 obtain ⟨n,r,h1,h2⟩ := h
 exact ⟨n,r,by cases n <;> exact h1,h2⟩
theorem T.loopF {t : Test} {c : Cmd} {s : S} {Q : S → Prop} (h : s.test t = false) (hq : Q s) : T (.loop t c) s Q := ⟨0,s,by simp [run,runC,h],hq⟩
theorem T.loopT {t : Test} {c : Cmd} {s : S} {Q : S → Prop} (h : s.test t = true) (hc : T c s fun r => T (.loop t c) r Q) : T (.loop t c) s Q := by
 obtain ⟨n,r,h1,m,x,h2,h3⟩ := hc
 refine ⟨max n m + 1,x,?_,h3⟩
 have h1 := run_le (Nat.le_succ_of_le (Nat.le_max_left n m)) h1
 have h2 := run_le (Nat.le_max_right n m) h2
 simp only [run,runC] at h1 ⊢
 simp [h,h1,h2]
theorem T.loop {t : Test} {c : Cmd} {I : S → Prop} (hc : ∀ s,I s → s.test t = true → T c s fun r => I r ∧ r.rem.length < s.rem.length) : ∀ (k : Nat) (s : S),s.rem.length ≤ k → I s → T (.loop t c) s fun r => I r ∧ r.test t = false
 | k,s,hk,hi => by
  cases ht : s.test t
  ·exact T.loopF ht ⟨hi,ht⟩
  ·refine T.loopT ht ((hc s hi ht).mono fun r ⟨h1,h2⟩ => ?_)
   match k with
   | 0 => omega
   | k + 1 => exact T.loop hc k r (by omega) h1
end Go.Proofs.YtcelfjbajdffkaaGreatDoor.Par
namespace Go.Proofs.YtcelfjbajdffkaaGreatDoor.Par
mutual
def Tr.txt : Tr → List UInt8
 | .mk _ t ks => t.data.toList ++ txtL ks
def txtL : List Tr → List UInt8
 | [] => []
 | t :: l => t.txt ++ txtL l
end
mutual
def Tr.cnt : Tr → Nat
 | .mk _ _ ks => cntL ks + 1
def cntL : List Tr → Nat
 | [] => 0
 | t :: l => t.cnt + cntL l
end
mutual
def Tr.dep : Tr → Nat
 | .mk _ _ ks => depL ks + 1
def depL : List Tr → Nat
 | [] => 0
 | t :: l => max t.dep (depL l)
end
mutual
def Tr.wf : Tr → Prop
 | .mk k t ks => (100 < k ∧ ks = []) ∨ (0 ≤ k ∧ k < 100 ∧ t = nob ∧ wfL ks)
def wfL : List Tr → Prop
 | [] => True
 | t :: l => t.wf ∧ wfL l
end
theorem txtL_app (a b : List Tr) : txtL (a ++ b) = txtL a ++ txtL b := by
 induction a with
 | nil => simp [txtL]
 | cons t a ih => simp [txtL,ih]
theorem cntL_app (a b : List Tr) : cntL (a ++ b) = cntL a + cntL b := by
 induction a with
 | nil => simp [cntL]
 | cons t a ih => simp [cntL,ih]; omega
theorem depL_app (a b : List Tr) : depL (a ++ b) = max (depL a) (depL b) := by
 induction a with
 | nil => simp [depL]
 | cons t a ih => simp [depL,ih,Nat.max_assoc]
theorem wfL_app {a b : List Tr} : wfL (a ++ b) ↔ wfL a ∧ wfL b := by
 induction a with
 | nil => simp [wfL]
 | cons t a ih => simp [wfL,ih,and_assoc]
def B (l : List Tok) : Nat := (l.map fun t => t.2.size).sum
def tt (l : List Tok) : List UInt8 := l.flatMap fun t => t.2.data.toList
def V (l : List Tok) : Prop := ∀ t ∈ l,0 < t.2.size ∧ 100 < t.1
theorem B_app (a b : List Tok) : B (a ++ b) = B a + B b := by simp [B]
theorem tt_app (a b : List Tok) : tt (a ++ b) = tt a ++ tt b := by simp [tt]
theorem V_app {a b : List Tok} (h : V (a ++ b)) : V a ∧ V b := ⟨fun t ht => h t (List.mem_append_left _ ht),fun t ht => h t (List.mem_append_right _ ht)⟩
theorem taken_left : ∀ l : List Tok,taken l ++ left l = l
 | [] => rfl
 | t :: l => by
  simp only [taken,left]
  split
  ·simp [taken_left l]
  ·simp
theorem txt_toks (l : List Tok) : txtL (l.map .tok) = tt l := by
 induction l with
 | nil => rfl
 | cons t l ih => simp [txtL,Tr.tok,Tr.txt,tt,ih]
theorem cnt_toks (l : List Tok) : cntL (l.map .tok) = l.length := by
 induction l with
 | nil => rfl
 | cons t l ih => simp [cntL,Tr.tok,Tr.cnt,ih]; omega
theorem dep_toks (l : List Tok) : depL (l.map .tok) ≤ 1 := by
 induction l with
 | nil => simp [depL]
 | cons t l ih => simp [depL,Tr.tok,Tr.dep,ih]
theorem wf_toks {l : List Tok} (h : V l) : wfL (l.map .tok) := by
 induction l with
 | nil => trivial
 | cons t l ih => exact ⟨.inl ⟨(h t List.mem_cons_self).2,rfl⟩,ih fun u hu => h u (List.mem_cons_of_mem _ hu)⟩
theorem len_B {l : List Tok} (h : V l) : l.length ≤ B l := by
 induction l with
 | nil => simp [B]
 | cons t l ih =>
  have h1 := (h t List.mem_cons_self).1
  have h2 := ih fun u hu => h u (List.mem_cons_of_mem _ hu)
  simp [B] at h2 ⊢
  omega
theorem sig1_taken {l : List Tok} (h : (sig1 l).1 ≠ 100) : sig1 l ∈ taken l := by
 induction l with
 | nil => exact absurd rfl h
 | cons t l ih =>
  simp only [sig1,taken] at h ⊢
  split <;> rename_i ht
  ·rw [if_pos ht] at h; exact List.mem_cons_of_mem _ (ih h)
  ·exact List.mem_cons_self
theorem size_B {l : List Tok} {t : Tok} (h : t ∈ l) : t.2.size ≤ B l := by
 induction l with
 | nil => cases h
 | cons u l ih =>
  simp only [B,List.map_cons,List.sum_cons]
  rcases List.mem_cons.1 h with rfl | h
  ·omega
  ·have := ih h
   simp only [B] at this
   omega
structure Pr where
 k : Int
 d : Int
 s : Int
 e : Int
structure G (p : Pr) (s r : S) (new : List Tr) : Prop where
 kids : r.kids = s.kids ++ new
 suf : ∃ u,s.rem = u ++ r.rem ∧ txtL new = tt u
 con : (B r.rem : Int) + p.k ≤ B s.rem
 c0 : B r.rem = B s.rem → (r.adds : Int) ≤ s.adds + p.d
 c1 : B r.rem < B s.rem → (r.adds : Int) + 24 * B r.rem + p.s ≤ s.adds + 24 * B s.rem
 cn : cntL new + s.adds ≤ r.adds
 dep : (depL new : Int) + 2 * B r.rem ≤ 2 * B s.rem + p.e
 wf : wfL new
theorem G.le {p : Pr} {s r : S} {new : List Tr} (h : G p s r new) : B r.rem ≤ B s.rem := by
 obtain ⟨u,h1,_⟩ := h.suf
 rw [h1,B_app]; omega
theorem G.val {p : Pr} {s r : S} {new : List Tr} (h : G p s r new) (hv : V s.rem) : V r.rem := by
 obtain ⟨u,h1,_⟩ := h.suf
 rw [h1] at hv
 exact (V_app hv).2
def Pr.seq (a b : Pr) : Pr := ⟨a.k + b.k,(if 1 ≤ a.k + b.k then 0 else a.d + b.d),min (a.s + b.s) (min (if b.k ≤ 0 then a.s - b.d else a.s + b.s) (if a.k ≤ 0 then b.s - a.d else a.s + b.s)),max a.e (b.e - 2 * a.k)⟩
theorem G.seq {p q : Pr} {s r x : S} {l m : List Tr} (h : G p s r l) (h' : G q r x m) : G (p.seq q) s x (l ++ m) := by
 have l1 := h.le
 have l2 := h'.le
 have a1 := h.con
 have a2 := h'.con
 refine ⟨by rw [h'.kids,h.kids,List.append_assoc],?_,?_,?_,?_,by rw [cntL_app]; have := h.cn; have := h'.cn; omega,?_,wfL_app.2 ⟨h.wf,h'.wf⟩⟩
 ·obtain ⟨u,h1,h2⟩ := h.suf
  obtain ⟨v,h3,h4⟩ := h'.suf
  exact ⟨u ++ v,by rw [h1,h3,List.append_assoc],by rw [txtL_app,tt_app,h2,h4]⟩
 ·simp only [Pr.seq]; omega
 ·intro he
  have := h.c0 (by omega)
  have := h'.c0 (by omega)
  simp only [Pr.seq]
  rw [if_neg (by omega)]
  omega
 ·intro he
  simp only [Pr.seq]
  rcases Nat.lt_or_ge (B r.rem) (B s.rem) with c | c <;> rcases Nat.lt_or_ge (B x.rem) (B r.rem) with c' | c'
  ·have := h.c1 c
   have := h'.c1 c'
   omega
  ·have := h.c1 c
   have := h'.c0 (by omega)
   have : q.k ≤ 0 := by omega
   rw [if_pos this]
   omega
  ·have := h.c0 (by omega)
   have := h'.c1 c'
   have : p.k ≤ 0 := by omega
   rw [if_pos this]
   omega
  ·omega
 ·have := h.dep
  have := h'.dep
  rw [depL_app]
  simp only [Pr.seq]
  omega
def Pr.le (p q : Pr) : Prop := q.k ≤ p.k ∧ (1 ≤ p.k ∨ p.d ≤ q.d) ∧ q.s ≤ p.s ∧ p.e ≤ q.e
instance (p q : Pr) : Decidable (p.le q) := by unfold Pr.le; infer_instance
theorem G.weak {p q : Pr} {s r : S} {l : List Tr} (h : G p s r l) (hq : p.le q) : G q s r l := by
 obtain ⟨h1,h2,h3,h4⟩ := hq
 refine ⟨h.kids,h.suf,?_,fun c => ?_,fun c => ?_,h.cn,?_,h.wf⟩
 ·have := h.con; omega
 ·have := h.c0 c; have := h.con; omega
 ·have := h.c1 c; omega
 ·have := h.dep; omega
theorem G.refl (s : S) (b : Bool) : G ⟨0,0,1000,0⟩ s { s with flag := b } [] := ⟨by simp,⟨[],rfl,rfl⟩,by simp,by simp,by simp,by simp [cntL],by simp [depL],trivial⟩
def J (c : Cmd) (s : S) (p : Pr) : Prop := T c s fun r => ∃ new,G p s r new
def J1 (c : Cmd) (s : S) (p : Pr) : Prop := T c s fun r => ∃ t,G p s r [t]
theorem J1.j {c : Cmd} {s : S} {p : Pr} (h : J1 c s p) : J c s p := T.mono h fun r ⟨t,h⟩ => ⟨_,h⟩
theorem J.weak {c : Cmd} {s : S} {p q : Pr} (h : J c s p) (hq : p.le q) : J c s q := T.mono h fun r ⟨t,h⟩ => ⟨t,h.weak hq⟩
theorem J1.weak {c : Cmd} {s : S} {p q : Pr} (h : J1 c s p) (hq : p.le q) : J1 c s q := T.mono h fun r ⟨t,h⟩ => ⟨t,h.weak hq⟩
theorem J.seq {a b : Cmd} {s : S} {p q : Pr} (hv : V s.rem) (h : J a s p) (h' : ∀ r,V r.rem → (B r.rem : Int) + p.k ≤ B s.rem → B r.rem ≤ B s.rem → J b r q) : J (.seq a b) s (p.seq q) :=
 T.seq (T.mono h fun r ⟨l,g⟩ => T.mono (h' r (g.val hv) g.con g.le) fun x ⟨m,g'⟩ => ⟨l ++ m,g.seq g'⟩)
theorem J.skip {s : S} : J .skip s ⟨0,0,1000,0⟩ := T.skip ⟨[],G.refl s s.flag⟩
theorem J.flag {s : S} {b : Bool} : J (.flag b) s ⟨0,0,1000,0⟩ := T.flag ⟨[],G.refl s b⟩
theorem J1.leaf {s : S} {k : Int} (hk : 0 ≤ k ∧ k ≠ 100) : J1 (.leaf k) s ⟨0,1,1000,1⟩ := T.leaf ⟨.leaf k,rfl,⟨[],rfl,rfl⟩,by simp [S.add],by simp [S.add],by simp [S.add],by simp [S.add,cntL,Tr.leaf,Tr.cnt]; omega,by simp [depL,Tr.leaf,Tr.dep,S.add]; omega,by
 by_cases h : 100 < k
 ·exact ⟨.inl ⟨h,rfl⟩,trivial⟩
 ·exact ⟨.inr ⟨hk.1,by omega,rfl,trivial⟩,trivial⟩⟩
theorem J.bump {s : S} (hv : V s.rem) : J .bump s ⟨0,0,23,1⟩ := by
 refine T.bump ⟨(taken s.rem).map .tok,rfl,⟨taken s.rem,(taken_left _).symm,txt_toks _⟩,?_,?_,?_,?_,?_,?_⟩
 all_goals
  have h0 := taken_left s.rem
  have h1 := congrArg B h0
  rw [B_app] at h1
  have h2 := h0 ▸ hv
  have h3 := len_B (V_app h2).1
  have h4 := dep_toks (taken s.rem)
  have h5 := cnt_toks (taken s.rem)
 ·simp [S.bump]; omega
 ·intro h; simp [S.bump] at h ⊢; omega
 ·intro h; simp [S.bump] at h ⊢; omega
 ·simp [S.bump]; omega
 ·simp [S.bump]; omega
 ·exact wf_toks (V_app h2).1
theorem J.bumpK {s : S} (hv : V s.rem) {k : Nat} (h : (sig1 s.rem).1 ≠ 100) (hk : k ≤ (sig1 s.rem).2.size) : J .bump s ⟨k,0,23 * k,1 - 2 * k⟩ := by
 have h0 := taken_left s.rem
 have h1 := congrArg B h0
 rw [B_app] at h1
 have h2 := h0 ▸ hv
 have h3 := len_B (V_app h2).1
 have h4 := dep_toks (taken s.rem)
 have h5 := cnt_toks (taken s.rem)
 have h6 := size_B (sig1_taken h)
 have h7 := ((V_app h2).1 _ (sig1_taken h)).1
 refine T.bump ⟨(taken s.rem).map .tok,rfl,⟨taken s.rem,(taken_left _).symm,txt_toks _⟩,?_,?_,?_,by simp [S.bump]; omega,?_,wf_toks (V_app h2).1⟩
 ·simp [S.bump]; omega
 ·intro h; simp [S.bump] at h ⊢; omega
 ·intro h; simp [S.bump] at h ⊢; omega
 ·simp [S.bump]; omega
theorem J.bump1 {s : S} (hv : V s.rem) (h : (sig1 s.rem).1 ≠ 100) : J .bump s ⟨1,0,23,-1⟩ := by
 have h0 := taken_left s.rem
 have h2 := h0 ▸ hv
 exact J.bumpK (k := 1) hv h ((V_app h2).1 _ (sig1_taken h)).1
def Pr.node (p : Pr) : Pr := ⟨p.k,p.d + 1,p.s - 1,p.e + 1⟩
theorem J1.node {k : Int} {c : Cmd} {s : S} {p : Pr} (hk : 0 ≤ k ∧ k < 100) (h : J c { s with kids := [],adds := s.adds + 1 } p) : J1 (.node k c) s p.node := by
 refine T.node (T.mono h fun r ⟨l,g⟩ => ⟨.mk k nob r.kids,rfl,?_,g.con,?_,?_,?_,?_,?_⟩)
 all_goals
  have e : r.kids = l := by have := g.kids; simpa using this
  rw [e]
 ·obtain ⟨u,h1,h2⟩ := g.suf
  exact ⟨u,h1,by simp [txtL,Tr.txt,nob,h2]⟩
 ·intro c; have := g.c0 c; simp [Pr.node] at this ⊢; omega
 ·intro c; have := g.c1 c; simp [Pr.node] at this ⊢; omega
 ·have := g.cn; simp [cntL,Tr.cnt] at this ⊢; omega
 ·have := g.dep; simp [depL,Tr.dep,Pr.node] at this ⊢; omega
 ·exact ⟨.inr ⟨hk.1,hk.2,rfl,g.wf⟩,trivial⟩
def Pr.dd (p : Pr) : Int := if 1 ≤ p.k then 0 else p.d
def Pr.alt (p q : Pr) : Pr := ⟨min p.k q.k,max p.dd q.dd,min p.s q.s,max p.e q.e⟩
theorem Pr.dd_le (p : Pr) : 1 ≤ p.k ∨ p.d ≤ p.dd := by
 unfold Pr.dd
 split <;> omega
theorem Pr.alt_l (p q : Pr) : p.le (p.alt q) := by
 have := p.dd_le
 exact ⟨Int.min_le_left _ _,this.imp id fun h => Int.le_trans h (Int.le_max_left _ _),Int.min_le_left _ _,Int.le_max_left _ _⟩
theorem Pr.alt_r (p q : Pr) : q.le (p.alt q) := by
 have := q.dd_le
 exact ⟨Int.min_le_right _ _,this.imp id fun h => Int.le_trans h (Int.le_max_right _ _),Int.min_le_right _ _,Int.le_max_right _ _⟩
theorem J.cond {t : Test} {a b : Cmd} {s : S} {p q : Pr} (h1 : s.test t = true → J a s p) (h2 : s.test t = false → J b s q) : J (.cond t a b) s (p.alt q) :=
 T.cond (fun h => (h1 h).weak (Pr.alt_l p q)) (fun h => (h2 h).weak (Pr.alt_r p q))
theorem J1.cond {t : Test} {a b : Cmd} {s : S} {p q : Pr} (h1 : s.test t = true → J1 a s p) (h2 : s.test t = false → J1 b s q) : J1 (.cond t a b) s (p.alt q) :=
 T.cond (fun h => (h1 h).weak (Pr.alt_l p q)) (fun h => (h2 h).weak (Pr.alt_r p q))
theorem isAt_not {l : List ByteArray} {t : Tok} (h : isAt l t = true) : t.1 ≠ 100 := by
 simp only [isAt,Bool.and_eq_true,Bool.or_eq_true,beq_iff_eq] at h
 omega
theorem at_not {l : List ByteArray} {s : S} (h : s.test (at1 l) = true) : (sig1 s.rem).1 ≠ 100 := isAt_not h
theorem ident_not {s : S} (h : s.test ident = true) : (sig1 s.rem).1 ≠ 100 := by
 simp only [S.test,ident,beq_iff_eq] at h
 omega
theorem J.exp {s : S} {x : ByteArray} (hv : V s.rem) : J (Cmd.exp x) s ⟨0,1,23,1⟩ :=
 (J.cond (fun h => J.bump1 hv (at_not h)) (fun _ => (J1.leaf (by decide)).j)).weak (by decide)
theorem J.acc {s : S} {x : ByteArray} (hv : V s.rem) : J (Cmd.acc x) s ⟨0,0,23,1⟩ :=
 (J.cond (fun h => J.bump1 hv (at_not h)) (fun _ => J.skip)).weak (by decide)
theorem J.expIdent {s : S} (hv : V s.rem) : J Cmd.expIdent s ⟨0,1,23,1⟩ :=
 (J.cond (fun h => J.bump1 hv (ident_not h)) (fun _ => (J1.leaf (by decide)).j)).weak (by decide)
theorem J1.unexpected {s : S} (hv : V s.rem) (h : (sig1 s.rem).1 ≠ 100) : J1 Cmd.unexpected s ⟨1,0,22,0⟩ := (J1.node (by decide) (J.bump1 hv h)).weak (by decide)
theorem suf_eq {u l : List Tok} (hv : V (u ++ l)) (h : B l = B (u ++ l)) : u = [] := by
 cases u with
 | nil => rfl
 | cons t u =>
  have := (hv t (by simp)).1
  rw [B_app] at h
  simp only [B,List.map_cons,List.sum_cons] at h
  omega
theorem J.prog {c a b : Cmd} {s : S} {p q q' : Pr} (hv : V s.rem) (h : J c s p) (ha : ∀ r,V r.rem → r.rem = s.rem → J a r q) (hb : ∀ r,V r.rem → B r.rem < B s.rem → J b r q') :
  J (.prog c a b) s ((Pr.seq ⟨0,p.d,1000,p.e⟩ q).alt (Pr.seq ⟨1,p.d,p.s,p.e⟩ q')) := by
 refine T.prog (T.mono h fun r ⟨l,g⟩ => ?_)
 obtain ⟨u,hu,_⟩ := g.suf
 have hl := g.le
 by_cases he : B r.rem = B s.rem
 ·obtain rfl := suf_eq (u := u) (l := r.rem) (by rw [← hu]; exact hv) (by rw [← hu]; exact he)
  have hr : r.rem = s.rem := hu.symm
  have g2 : G ⟨0,p.d,1000,p.e⟩ s r l := ⟨g.kids,g.suf,by simp only; omega,g.c0,fun h => by omega,g.cn,g.dep,g.wf⟩
  exact ⟨fun _ => T.mono (ha r (g.val hv) hr) fun x ⟨m,g'⟩ => ⟨_,(g2.seq g').weak (Pr.alt_l _ _)⟩,fun hn => absurd (congrArg List.length hr) hn⟩
 ·have g2 : G ⟨1,p.d,p.s,p.e⟩ s r l := ⟨g.kids,g.suf,by simp only; omega,g.c0,g.c1,g.cn,g.dep,g.wf⟩
  refine ⟨fun hn => ?_,fun _ => T.mono (hb r (g.val hv) (by omega)) fun x ⟨m,g'⟩ => ⟨_,(g2.seq g').weak (Pr.alt_r _ _)⟩⟩
  rw [hu,List.length_append] at hn
  obtain rfl : u = [] := List.length_eq_zero_iff.1 (by omega)
  exact absurd (congrArg B hu).symm he
theorem T.loopB {t : Test} {c : Cmd} {I : S → Prop} (hc : ∀ s,I s → s.test t = true → T c s fun r => I r ∧ B r.rem < B s.rem) : ∀ (k : Nat) (s : S),B s.rem ≤ k → I s → T (.loop t c) s fun r => I r ∧ r.test t = false
 | k,s,hk,hi => by
  cases ht : s.test t
  ·exact T.loopF ht ⟨hi,ht⟩
  ·refine T.loopT ht ((hc s hi ht).mono fun r ⟨h1,h2⟩ => ?_)
   match k with
   | 0 => omega
   | k + 1 => exact T.loopB hc k r (by omega) h1
theorem J.loop {t : Test} {c : Cmd} {s : S} {p : Pr} (hv : V s.rem) (hp : Pr.le p ⟨1,0,0,p.e⟩) (he : 0 ≤ p.e) (hc : ∀ r,V r.rem → B r.rem ≤ B s.rem → r.test t = true → J c r p) : J (.loop t c) s ⟨0,0,p.s,p.e⟩ := by
 obtain ⟨p1,p2,p3,p4⟩ := hp
 simp only at p1 p3 p4
 refine T.mono (T.loopB (I := fun r => V r.rem ∧ ∃ l,G ⟨0,0,p.s,p.e⟩ s r l) (fun r ⟨v,l,g⟩ ht => ?_) _ s (Nat.le_refl _) ⟨hv,[],by simp,⟨[],rfl,rfl⟩,by simp,by simp,fun h => absurd h (Nat.lt_irrefl _),by simp [cntL],by simp only [depL]; omega,trivial⟩) fun r ⟨⟨v,l,g⟩,_⟩ => ⟨l,g⟩
 refine T.mono (hc r v g.le ht) fun x ⟨m,g'⟩ => ⟨⟨g'.val v,_,(g.seq g').weak ?_⟩,?_⟩
 ·simp only [Pr.le,Pr.seq]
  refine ⟨by omega,.inl (by omega),?_,by omega⟩
  rw [if_neg (by omega),if_pos (by omega)]
  omega
 ·have := g'.con; omega
def Pr.list (p : Pr) : Pr := ⟨0,1,min (21 - p.d) (p.s - 2),max p.e 1⟩
theorem J.list {cl : ByteArray} {el : Cmd} {s : S} {p : Pr} (hv : V s.rem) (h1 : 0 ≤ p.d ∧ p.d ≤ 15 ∧ 2 ≤ p.s ∧ p.s ≤ 1000 ∧ 0 ≤ p.e) (h : ∀ r,V r.rem → B r.rem ≤ B s.rem → J el r p) : J (Cmd.list cl el) s p.list := by
 obtain ⟨a1,a2,a3,a4,a5⟩ := h1
 refine (J.seq hv (J.loop (p := ⟨1,0,min (22 - p.d) (p.s - 1),max p.e 1⟩) hv ?_ ?_ fun r v hb ht => ?_) fun r v _ hb => J.exp v).weak ?_
 ·simp only [Pr.le]; omega
 ·simp only; omega
 ·refine (J.prog v (h r v hb) (fun x vx hx => (J1.unexpected vx ?_).j) (fun x vx hx => J.cond (fun _ => J.skip) (fun _ => J.exp vx))).weak ?_
  ·simp only [S.test,Bool.and_eq_true,bne_iff_ne] at ht
   rw [hx]
   exact ht.1.2
  ·simp only [Pr.le,Pr.seq,Pr.alt,Pr.dd]
   simp
   omega
 ·simp only [Pr.le,Pr.seq,Pr.list]
  simp
  omega
def Pr.wrap (p q : Pr) : Pr := ⟨p.k + q.k,p.d + q.d + 1,(p.seq q).s - 1,max (p.e + 1 - 2 * q.k) (q.e + 1 - 2 * p.k)⟩
theorem J1.wrap {k : Int} {c : Cmd} {s r : S} {t : Tr} {p q : Pr} (hk : 0 ≤ k ∧ k < 100) (g : G p s r [t]) (h : J c { r with kids := [t],adds := r.adds + 1 } q) : T (.wrap k c) r fun x => (∃ t',G (p.wrap q) s x [t']) ∧ (B x.rem : Int) + q.k ≤ B r.rem := by
 refine T.wrap g.kids (T.mono h fun x ⟨m,g'⟩ => ⟨⟨.mk k nob x.kids,rfl,?_,?_,?_,?_,?_,?_,?_⟩,g'.con⟩)
 all_goals
  have e : x.kids = [t] ++ m := g'.kids
  rw [e]
  have l1 := g.le
  have l2 : B x.rem ≤ B r.rem := g'.le
  have a1 := g.con
  have a2 : (B x.rem : Int) + q.k ≤ B r.rem := g'.con
 ·obtain ⟨u,h1,h2⟩ := g.suf
  obtain ⟨v,h3,h4⟩ := g'.suf
  refine ⟨u ++ v,by rw [h1,List.append_assoc]; exact congrArg _ h3,?_⟩
  rw [tt_app,← h2,← h4]
  simp [txtL,Tr.txt,nob]
 ·simp only [Pr.wrap]; omega
 ·intro he
  have c1 := g.c0 (by simp only at he; omega)
  have c2 := g'.c0 (by simp only at he ⊢; omega)
  simp only [Pr.wrap]
  simp at c1 c2 ⊢
  omega
 ·intro he
  have he : B x.rem < B s.rem := he
  have c0 := g'.c0
  have c1 := g'.c1
  have hcn := g'.cn
  simp only at c0 c1 hcn
  have hs := (g.seq (⟨by simp,g'.suf,g'.con,fun h => by have := c0 h; simp only; omega,fun h => by have := c1 h; simp only; omega,by simp only; omega,g'.dep,g'.wf⟩ : G q r { x with kids := r.kids ++ m,adds := x.adds - 1 } m)).c1 he
  simp only [Pr.wrap]
  simp at hs ⊢
  omega
 ·have n1 := g.cn
  have n2 : cntL m + (r.adds + 1) ≤ x.adds := g'.cn
  simp [cntL,Tr.cnt] at n1 ⊢
  omega
 ·have d1 := g.dep
  have d2 : (depL m : Int) + 2 * B x.rem ≤ 2 * B r.rem + q.e := g'.dep
  simp only [Pr.wrap]
  simp [depL,Tr.dep] at d1 ⊢
  omega
 ·refine ⟨.inr ⟨hk.1,hk.2,rfl,?_⟩,trivial⟩
  exact ⟨g.wf.1,g'.wf⟩
theorem J1.loop {t : Test} {c : Cmd} {s : S} {p : Pr} (hv : V s.rem) (hc : ∀ r u,V r.rem → r.test t = true → G p s r [u] → T c r fun x => (∃ u',G p s x [u']) ∧ B x.rem < B r.rem) {r : S} {u : Tr} (g : G p s r [u]) : T (.loop t c) r fun x => ∃ u',G p s x [u'] :=
 T.mono (T.loopB (I := fun r => ∃ u,G p s r [u]) (fun r ⟨u,g⟩ ht => hc r u (g.val hv) ht g) _ r (Nat.le_refl _) ⟨u,g⟩) fun _ h => h.1
end Go.Proofs.YtcelfjbajdffkaaGreatDoor.Par
namespace Go.Proofs.YtcelfjbajdffkaaGreatDoor.Par
open Cmd
def brace : ByteArray := ⟨#[123]⟩
def single : Nm → Bool
 | .binary _ | .unary | .primary | .block | .ifExpr | .pattern | .typeExpr | .path _ | .item | .skipTo | .params _ | .typeParams => true
 | _ => false
def Pre : Nm → S → Prop
 | .arguments,s | .matchE,s | .structLit,s | .lambda,s | .letS,s | .returnS,s | .statement,s | .item,s | .skipTo,s => (sig1 s.rem).1 ≠ 100
 | .ifExpr,s => isAt [⟨#[105,102]⟩] (sig1 s.rem) = true
 | .binary n,s => n ≤ 5
 | .postE,s => False
 | .itemBody k,s => True
 | _,_ => True
def sp : Nm → S → Pr
 | .binary _,_ | .unary,_ | .primary,_ | .typeExpr,_ => ⟨0,1,15,3⟩
 | .ifExpr,_ => ⟨1,0,15,3⟩
 | .pattern,_ => ⟨0,1,15,2⟩
 | .block,s => if isAt [brace] (sig1 s.rem) then ⟨1,0,15,3⟩ else ⟨0,4,8,5⟩
 | .path _,s => if (sig1 s.rem).1 = 103 then ⟨1,0,18,1⟩ else ⟨0,3,14,3⟩
 | .statement,_ => ⟨1,0,12,4⟩
 | .arguments,_ => ⟨1,0,18,1⟩
 | .letS,_ => ⟨1,0,18,3⟩
 | .returnS,_ => ⟨1,0,18,1⟩
 | .matchE,_ => ⟨1,0,18,2⟩
 | .structLit,_ => ⟨1,0,18,1⟩
 | .lambda,_ => ⟨1,0,18,1⟩
 | .typeParam,_ => ⟨0,0,15,2⟩
 | .typeParams,_ => ⟨0,1,14,2⟩
 | .params _,_ => ⟨0,2,14,2⟩
 | .function _,_ => ⟨0,10,1,5⟩
 | .dataType _,_ => ⟨0,4,1,5⟩
 | .members,_ => ⟨0,2,8,5⟩
 | .impl,_ => ⟨0,6,0,5⟩
 | .use,_ => ⟨0,5,1,4⟩
 | .skipTo,_ => ⟨1,0,18,0⟩
 | .itemBody _,_ => ⟨0,12,0,6⟩
 | .item,_ => ⟨1,0,10,7⟩
 | .postE,_ => ⟨0,0,0,0⟩
def rank : Nm → S → Nat
 | .block,s => if isAt [brace] (sig1 s.rem) then 0 else 60
 | .binary n,_ => 20 - n
 | .unary,_ => 14
 | .primary,_ => 10
 | .typeExpr,_ | .pattern,_ => 5
 | .statement,_ => 50
 | .typeParams,_ | .params _,_ => 5
 | .function _,_ | .dataType _,_ => 70
 | .members,_ => 75
 | .impl,_ => 80
 | .itemBody _,_ => 90
 | .item,_ => 100
 | _,_ => 1
def Js (x : Nm) (s : S) : Prop := if single x then J1 (.call x) s (sp x s) else J (.call x) s (sp x s)
theorem Js.j {x : Nm} {s : S} (h : Js x s) : J (.call x) s (sp x s) := by
 unfold Js at h
 split at h
 ·exact h.j
 ·exact h
theorem Js.one {x : Nm} {s : S} (h : Js x s) (ho : single x = true) : J1 (.call x) s (sp x s) := by
 unfold Js at h
 rwa [if_pos ho] at h
theorem J.call {x : Nm} {s : S} {p : Pr} (h : J (body x) s p) : J (.call x) s p := T.call h
theorem J1.call {x : Nm} {s : S} {p : Pr} (h : J1 (body x) s p) : J1 (.call x) s p := T.call h
theorem Js.mk {x : Nm} {s : S} {p : Pr} (ho : single x = false) (h : J (body x) s p) (hp : p.le (sp x s)) : Js x s := by
 unfold Js
 rw [ho]
 exact (J.call h).weak hp
theorem Js.mk1 {x : Nm} {s : S} {p : Pr} (ho : single x = true) (h : J1 (body x) s p) (hp : p.le (sp x s)) : Js x s := by
 unfold Js
 rw [ho]
 exact (J1.call h).weak hp
structure Ih (N R : Nat) : Prop where
 lt : ∀ x r,V r.rem → B r.rem < N → Pre x r → Js x r
 eq : ∀ x r,V r.rem → B r.rem ≤ N → rank x r < R → Pre x r → Js x r
theorem G.flag {p : Pr} {s r : S} {l : List Tr} {b : Bool} (g : G p s r l) : G p s { r with flag := b } l := ⟨g.kids,g.suf,g.con,g.c0,g.c1,g.cn,g.dep,g.wf⟩
theorem at_sig {l : List ByteArray} {s : S} (h : s.test (at1 l) = true) : isAt l (sig1 s.rem) = true := h
theorem at_text {x : ByteArray} {t : Tok} (h : isAt [x] t = true) : t.2 = x := by
 simp only [isAt,Bool.and_eq_true] at h
 have := h.2
 simp only [Lib.containsS,Lib.idxOfS,Lib.idxFromS] at this
 split at this
 ·rename_i he; exact (by simpa using he : x = t.2).symm
 ·simp at this
variable {N R : Nat}
theorem Ih.expr (ih : Ih N R) {r : S} (hv : V r.rem) (h : B r.rem < N) : J1 Cmd.expr r ⟨0,1,15,3⟩ := (ih.lt (.binary 0) r hv h (by simp [Pre])).one rfl
theorem Ih.exprR (ih : Ih N R) {r : S} (hR : 20 < R) (hv : V r.rem) (h : B r.rem ≤ N) : J1 Cmd.expr r ⟨0,1,15,3⟩ := (ih.eq (.binary 0) r hv h hR (by simp [Pre])).one rfl
theorem Ih.typ (ih : Ih N R) {r : S} (hv : V r.rem) (h : B r.rem < N) : J1 (.call .typeExpr) r ⟨0,1,15,3⟩ := (ih.lt .typeExpr r hv h trivial).one rfl
theorem Ih.path (ih : Ih N R) {b : Bool} {r : S} (hv : V r.rem) (h : B r.rem < N) : J1 (.call (.path b)) r ⟨0,3,14,3⟩ := by
 refine ((ih.lt (.path b) r hv h trivial).one rfl).weak ?_
 simp only [sp]
 split <;> decide
theorem Ih.blk (ih : Ih N R) {r : S} (hv : V r.rem) (h : B r.rem < N) : J1 (.call .block) r ⟨0,4,8,5⟩ := by
 refine ((ih.lt .block r hv h trivial).one rfl).weak ?_
 simp only [sp]
 split <;> decide
theorem J.opt {x : ByteArray} {c : Cmd} {s : S} {p : Pr} (hv : V s.rem) (h : ∀ r,V r.rem → B r.rem < B s.rem → J c r p) : J (Cmd.opt x c) s ((Pr.seq ⟨1,0,23,-1⟩ p).alt ⟨0,1,1000,1⟩) :=
 J.cond (fun ht => J.seq hv (J.bump1 hv (at_not ht)) fun r v (c : (B r.rem : Int) + 1 ≤ B s.rem) _ => h r v (by omega)) (fun _ => (J1.leaf (by decide)).j)
theorem J.bseq {c : Cmd} {s : S} {p : Pr} (hv : V s.rem) (ht : (sig1 s.rem).1 ≠ 100) (h : ∀ r,V r.rem → B r.rem < B s.rem → J c r p) : J (.seq .bump c) s (Pr.seq ⟨1,0,23,-1⟩ p) :=
 J.seq hv (J.bump1 hv ht) fun r v (c : (B r.rem : Int) + 1 ≤ B s.rem) _ => h r v (by omega)
theorem J.then {a b : Cmd} {s : S} {p q : Pr} (hv : V s.rem) (hn : B s.rem < N) (h : J a s p) (h' : ∀ r,V r.rem → B r.rem < N → J b r q) : J (.seq a b) s (p.seq q) :=
 J.seq hv h fun r v _ hb => h' r v (by omega)
theorem J.thenL {a b : Cmd} {s : S} {p q : Pr} (hv : V s.rem) (hn : B s.rem ≤ N) (h : J a s p) (h' : ∀ r,V r.rem → B r.rem ≤ N → J b r q) : J (.seq a b) s (p.seq q) :=
 J.seq hv h fun r v _ hb => h' r v (by omega)
theorem run_bump (n : Nat) (s : S) : run body n .bump s = some s.bump := by cases n <;> rfl
theorem T.of_bump {s : S} {Q : S → Prop} (h : T .bump s Q) : Q s.bump := by
 obtain ⟨n,r,h1,h2⟩ := h
 rw [run_bump] at h1
 cases h1
 exact h2
theorem J.bseqE {c : Cmd} {s : S} {p : Pr} (hv : V s.rem) (ht : (sig1 s.rem).1 ≠ 100) (h : ∀ r,r.rem = left s.rem → V r.rem → B r.rem < B s.rem → J c r p) : J (.seq .bump c) s (Pr.seq ⟨1,0,23,-1⟩ p) := by
 obtain ⟨l,g⟩ := T.of_bump (J.bump1 hv ht)
 have hc : (B s.bump.rem : Int) + 1 ≤ B s.rem := g.con
 exact T.seq (T.bump (T.mono (h s.bump rfl (g.val hv) (by omega)) fun x ⟨m,g'⟩ => ⟨l ++ m,g.seq g'⟩))
theorem J1.nodeH {k : Int} {c : Cmd} {s : S} {p : Pr} (hk : 0 ≤ k ∧ k < 100) (hv : V s.rem) (h : ∀ y : S,y.rem = s.rem → V y.rem → J c y p) : J1 (.node k c) s p.node := J1.node hk (h _ rfl hv)
theorem j_arm (ih : Ih N R) {x : S} (vx : V x.rem) (hx : B x.rem < N) : J (.cond (fun t _ _ _ => atPattern t) (.node 36 (seqs [.call .pattern,exp ⟨#[61,62]⟩,Cmd.expr])) .skip) x ⟨0,4,11,4⟩ := by
 refine (J.cond (fun ht => (J1.nodeH (by decide) vx fun y ey vy => J.then vy (by rw [ey]; exact hx) ((ih.lt .pattern y vy (by rw [ey]; exact hx) trivial).one rfl).j fun r v h => J.then v h (J.exp v) fun r v h => (ih.expr v h).j).j) fun _ => J.skip).weak ?_
 first | (simp only [sp]; decide) | decide
theorem j_stmts (ih : Ih N R) {s : S} (hv : V s.rem) (hs : B s.rem ≤ N) (hR : (B s.rem < N ∨ 50 < R)) : J (.loop (fun t _ _ f => !f && !isAt [⟨#[125]⟩] t && t.1 != 100 && !isAt items t) (.call .statement)) s ⟨0,0,12,4⟩ := by
 refine J.loop (p := ⟨1,0,12,4⟩) hv (by decide) (by decide) fun r v hb ht => ?_
 have hp : Pre .statement r := by
  simp only [S.test,Bool.and_eq_true,bne_iff_ne] at ht
  exact ht.1.2
 rcases hR with h | h
 ·exact (ih.lt .statement r v (by omega) hp).j
 ·exact (ih.eq .statement r v (by omega) h hp).j
theorem j_tail {b : Bool} {s r : S} {u : Tr} {p : Pr} (hk : 1 ≤ p.k) (he : p.e ≤ 3) (hs : 15 ≤ p.s) (g : G p s r [u]) (hv : V r.rem) (ih : ∀ x,V x.rem → B x.rem < B r.rem → J1 Cmd.expr x ⟨0,1,15,3⟩) : T (stmtTail b) r fun x => ∃ l,G ⟨1,0,12,4⟩ s x l := by
 refine T.cond (fun _ => T.flag ⟨[u],(g.weak ?_).flag⟩) fun _ => T.seq (T.mono (?_ : T _ r fun x => ∃ t',G ⟨1,0,12,4⟩ s x [t']) fun x ⟨t',h⟩ => T.flag ⟨[t'],h.flag⟩)
 ·exact ⟨hk,.inl hk,by show (12 : Int) ≤ p.s; omega,by show p.e ≤ 4; omega⟩
 ·refine T.cond (fun ht => ?_) fun _ => ?_
  ·refine T.mono (J1.wrap (by decide) g (q := Pr.seq ⟨1,0,23,-1⟩ (Pr.seq ⟨0,1,15,3⟩ ⟨0,1,23,1⟩)) (J.bseq (s := { r with kids := [u],adds := r.adds + 1 }) hv (at_not ht) fun y v c => J.then (N := B r.rem) v c (ih y v c).j fun y v c => J.exp v)) fun x ⟨⟨t',h⟩,_⟩ => ⟨t',h.weak ?_⟩
   simp only [Pr.le,Pr.wrap,Pr.seq]
   simp
   omega
  ·refine T.mono (J1.wrap (by decide) g (q := ⟨0,1,23,1⟩) ((J.cond (s := { r with kids := [u],adds := r.adds + 1 }) (fun ht => J.bump1 hv (at_not ht)) fun _ => (?_ : J _ _ ⟨0,1,1000,1⟩)).weak (by decide))) fun x ⟨⟨t',h⟩,_⟩ => ⟨t',h.weak ?_⟩
   ·cases b
    ·exact (J1.leaf (by decide)).j
    ·exact J.skip.weak (by decide)
   ·simp only [Pr.le,Pr.wrap,Pr.seq]
    simp
    omega
theorem s_use {N : Nat} {s : S} (hv : V s.rem) (hN : B s.rem = N) : Js .use s := by
 have sg : ∀ x,V x.rem → J1 (.node 18 expIdent) x ⟨0,2,22,2⟩ := fun x vx => (J1.nodeH (by decide) vx fun y ey vy => J.expIdent vy).weak (by decide)
 exact .mk rfl (J.thenL (N := N) hv (by omega) (J1.nodeH (by decide) hv fun y ey vy => J.thenL (N := N) vy (by rw [ey]; omega) (sg y vy).j fun r v h => J.loop (p := ⟨1,0,18,2⟩) v (by decide) (by decide) fun x vx cx ht => (J.bseq vx (by simp only [S.test,Bool.and_eq_true] at ht; exact isAt_not ht.1) fun a va ca => (sg a va).j).weak (by decide)).j
  fun r v h => J.thenL v h (J.cond (fun ht => J.bseq v (at_not ht) fun x vx cx => J.bump vx) fun _ => J.cond (fun ht => J.bseq v (at_not ht) fun x vx cx => J.expIdent vx) fun _ => J.skip) fun r v h => J.exp v) (by first | (simp only [sp]; decide) | decide)
theorem s_skipTo {s : S} (hv : V s.rem) (hp : Pre .skipTo s) : Js .skipTo s :=
 .mk1 rfl (J1.nodeH (by decide) hv fun y ey vy => J.bseq vy (by rw [ey]; exact hp) fun r v c => J.loop (p := ⟨1,0,23,0⟩) v (by decide) (by decide) fun x vx cx ht => (J.bump1 vx (by simp only [S.test,Bool.and_eq_true,bne_iff_ne] at ht; exact ht.1)).weak (by decide)) (by first | (simp only [sp]; decide) | decide)
theorem idxFrom_lt : ∀ (zs : List ByteArray) (x : ByteArray) (k : Nat),Lib.idxFromS zs x k < (k : Int) + zs.length ∨ Lib.idxFromS zs x k = -1
 | [],x,k => .inr rfl
 | z :: zs,x,k => by
  simp only [Lib.idxFromS]
  split
  ·exact .inl (by rw [List.length_cons]; omega)
  ·rcases idxFrom_lt zs x (k + 1) with h | h
   ·exact .inl (by rw [List.length_cons]; omega)
   ·exact .inr h
theorem kinds_len : kinds.length = 8 := by kernel_rfl
theorem kindNo_range (x : ByteArray) : 0 ≤ kindNo x ∧ kindNo x < 100 := by
 unfold kindNo Lib.idxOfS
 have := idxFrom_lt kinds x 0
 rw [kinds_len] at this
 simp only
 split <;> omega
theorem kind_range (t u : Tok) : 0 ≤ itemKind t u ∧ itemKind t u < 100 := by
 have key : ∀ y : Tok,0 ≤ (if kindNo y.2 == 0 || y.1 != 104 then 0 else kindNo y.2) ∧ (if kindNo y.2 == 0 || y.1 != 104 then 0 else kindNo y.2) < 100 := fun y => by
  cases (kindNo y.2 == 0 || y.1 != 104)
  ·exact kindNo_range _
  ·simp
 exact key _
section
variable (ih : Ih N R) {s : S} (hv : V s.rem) (hN : B s.rem = N)
include ih hv hN
theorem s_arguments (hp : Pre .arguments s) : Js .arguments s :=
 .mk rfl (J.bseq hv hp fun r v c => J.list v (p := ⟨0,1,15,3⟩) (by decide) fun x vx cx => (ih.expr vx (by omega)).j) (by first | (simp only [sp]; decide) | decide)
theorem s_letS (hp : Pre .letS s) : Js .letS s :=
 .mk rfl (J.bseq hv hp fun r v c => J.then v (by omega) ((ih.lt .pattern r v (by omega) trivial).one rfl).j fun r v h => J.then v h (J.opt v fun x vx cx => (ih.typ vx (by omega)).j) fun r v h => J.then v h (J.exp v) fun r v h => J.then v h (ih.expr v h).j fun r v h => J.exp v) (by first | (simp only [sp]; decide) | decide)
theorem s_returnS (hp : Pre .returnS s) : Js .returnS s :=
 .mk rfl (J.bseq hv hp fun r v c => J.then v (by omega) (J.cond (fun _ => (J1.leaf (by decide)).j) fun _ => (ih.expr v (by omega)).j) fun r v h => J.exp v) (by first | (simp only [sp]; decide) | decide)
theorem s_matchE (hp : Pre .matchE s) : Js .matchE s :=
 .mk rfl (J.bseq hv hp fun r v c => J.then v (by omega) (ih.expr v (by omega)).j fun r v h => J.then v h (J.exp v) fun r v h => J.list v (p := ⟨0,4,11,4⟩) (by decide) fun x vx cx => j_arm ih vx (by omega)) (by first | (simp only [sp]; decide) | decide)
theorem s_structLit (hp : Pre .structLit s) : Js .structLit s :=
 .mk rfl (J.bseq hv hp fun r v c => J.then v (by omega) (ih.path v (by omega)).j fun r v h => J.then v h (J.exp v) fun r v h => J.list v (p := ⟨0,0,15,3⟩) (by decide) fun x vx cx =>
  (J.cond (fun ht => (J1.nodeH (by decide) vx fun y ey vy => J.bseq vy (by rw [ey]; exact ident_not ht) fun r v c => J.then (N := N) v (by rw [ey] at c; omega) (J.exp v) fun r v h => (ih.expr v h).j).j) fun _ => J.skip).weak (by decide)) (by first | (simp only [sp]; decide) | decide)
theorem s_lambda (hp : Pre .lambda s) : Js .lambda s :=
 .mk rfl (J.seq hv (p := ⟨1,0,19,1⟩) ((J.cond (fun ht => J.bseq hv (at_not ht) fun r v c => (J1.nodeH (by decide) v fun y ey vy => J.skip).j)
  (fun ht => J.bseq hv hp fun r v c => ((ih.lt (.params ⟨#[124]⟩) r v (by omega) trivial).one rfl).j)).weak (by first | (simp only [sp]; decide) | decide)) fun r v (c : (B r.rem : Int) + 1 ≤ B s.rem) _ => (ih.expr v (by omega)).j) (by first | (simp only [sp]; decide) | decide)
theorem s_ifExpr (hp : Pre .ifExpr s) : Js .ifExpr s := by
 have h2 : (sig1 s.rem).2.size = 2 := by rw [at_text hp]; rfl
 refine .mk1 (p := Pr.node (Pr.seq ⟨2,0,46,-3⟩ (Pr.seq ⟨0,1,15,3⟩ (Pr.seq ⟨0,4,8,5⟩ ⟨0,4,8,5⟩)))) rfl (J1.nodeH (by decide) hv fun y ey vy => J.seq vy ((J.bumpK (k := 2) vy (by rw [ey]; exact isAt_not hp) (by rw [ey]; omega)).weak (by decide)) fun r v c _ => ?_) (by first | (simp only [sp]; decide) | decide)
 have c : (B r.rem : Int) + 2 ≤ B y.rem := c
 rw [ey] at c
 refine J.then (N := N) v (by omega) (ih.expr v (by omega)).j fun r v h => J.then v h (ih.blk v h).j fun r v h => ?_
 refine (J.opt v (p := ⟨0,4,8,5⟩) fun x vx cx => (J.cond (fun ht => ((ih.lt .ifExpr x vx (by omega) (at_sig ht)).one rfl).j) fun _ => (ih.blk vx (by omega)).j).weak (by first | (simp only [sp]; decide) | decide)).weak (by decide)
theorem s_block (hR : rank .block s = R) : Js .block s := by
 by_cases hb : isAt [brace] (sig1 s.rem) = true
 ·have hsp : sp .block s = ⟨1,0,15,3⟩ := if_pos hb
  refine .mk1 (p := ⟨1,0,15,3⟩) rfl ((J1.nodeH (by decide) hv fun y ey vy => J.seq vy (p := ⟨1,0,23,-1⟩) ?_ fun r v (c : (B r.rem : Int) + 1 ≤ B y.rem) _ => ?_).weak (p := Pr.node (Pr.seq ⟨1,0,23,-1⟩ (Pr.seq ⟨0,0,1000,0⟩ (Pr.seq ⟨0,0,12,4⟩ (Pr.seq ⟨0,1,1000,1⟩ ⟨0,1,23,1⟩))))) (by decide)) (by rw [hsp]; decide)
  ·exact T.cond (fun _ => J.bump1 vy (by rw [ey]; exact isAt_not hb)) fun h => by
    have : isAt [brace] (sig1 y.rem) = false := h
    rw [ey,hb] at this
    cases this
  ·rw [ey] at c
   exact J.then (N := N) v (by omega) J.flag fun r v h => J.then v h (j_stmts ih v (by omega) (.inl h)) fun r v h => J.then v h ((J.cond (fun _ => J.skip) fun _ => (J1.leaf (by decide)).j).weak (by decide)) fun r v h => J.exp v
 ·have hsp : sp .block s = ⟨0,4,8,5⟩ := if_neg hb
  have hr : rank .block s = 60 := if_neg hb
  refine .mk1 (p := ⟨0,4,8,5⟩) rfl ((J1.nodeH (by decide) hv fun y ey vy => J.thenL (N := N) vy (by rw [ey]; omega) (J.exp vy) fun r v h => ?_).weak (p := Pr.node (Pr.seq ⟨0,1,23,1⟩ (Pr.seq ⟨0,0,1000,0⟩ (Pr.seq ⟨0,0,12,4⟩ (Pr.seq ⟨0,1,1000,1⟩ ⟨0,1,23,1⟩))))) (by decide)) (by rw [hsp]; decide)
  exact J.thenL v h J.flag fun r v h => J.thenL v h (j_stmts ih v h (.inr (by omega))) fun r v h => J.thenL v h ((J.cond (fun _ => J.skip) fun _ => (J1.leaf (by decide)).j).weak (by decide)) fun r v h => J.exp v
theorem s_statement (hR : rank .statement s = R) (hp : Pre .statement s) : Js .statement s := by
 have hR : R = 50 := hR.symm
 have fix : ∀ (c : Cmd) (b : Bool),J1 c s ⟨0,1,15,3⟩ → T (.prog c stmtFix (stmtTail b)) s fun x => ∃ l,G ⟨1,0,12,4⟩ s x l := fun c b hc => T.prog (T.mono hc fun r ⟨u,g⟩ => ⟨fun he => ?_,fun hn => ?_⟩)
 ·refine .mk (p := ⟨1,0,12,4⟩) rfl (T.cond (fun ht => ?_) fun _ => T.cond (fun ht => ?_) fun _ => T.cond (fun ht => ?_) fun _ => T.cond (fun ht => ?_) fun _ => ?_) (by first | (simp only [sp]; decide) | decide)
  ·exact (J.seq hv (J1.nodeH (by decide) hv fun y ey vy => (ih.eq .letS y vy (by rw [ey]; omega) (by rw [hR]; exact Nat.lt_of_sub_eq_succ rfl) (by show (sig1 y.rem).1 ≠ 100; rw [ey]; exact hp)).j).j fun r v _ _ => J.flag).weak (by first | (simp only [sp]; decide) | decide)
  ·exact (J.seq hv (J1.nodeH (by decide) hv fun y ey vy => J.bseq vy (by rw [ey]; exact hp) fun r v c => J.then (N := N) v (by rw [ey] at c; omega) (ih.expr v (by rw [ey] at c; omega)).j fun r v h => (ih.blk v h).j).j fun r v _ _ => J.flag).weak (by first | (simp only [sp]; decide) | decide)
  ·exact (J.seq hv (J1.nodeH (by decide) hv fun y ey vy => (ih.eq .returnS y vy (by rw [ey]; omega) (by rw [hR]; exact Nat.lt_of_sub_eq_succ rfl) (by show (sig1 y.rem).1 ≠ 100; rw [ey]; exact hp)).j).j fun r v _ _ => J.flag).weak (by first | (simp only [sp]; decide) | decide)
  ·exact fix _ _ ((ih.eq .primary s hv (by omega) (by rw [hR]; exact Nat.lt_of_sub_eq_succ rfl) trivial).one rfl)
  ·exact fix _ _ (ih.exprR (by omega) hv (by omega))
 ·obtain ⟨w,hw,_⟩ := g.suf
  have hw0 : w = [] := by
   rw [hw,List.length_append] at he
   exact List.length_eq_zero_iff.1 (by omega)
  rw [hw0] at hw
  have hr : r.rem = s.rem := hw.symm
  refine T.seq (T.drop (T.seq (T.mono (J1.unexpected (s := { r with kids := r.kids.dropLast }) (g.val hv) (by rw [show ({ r with kids := r.kids.dropLast } : S).rem = s.rem from hr]; exact hp)) fun x ⟨t',g'⟩ => T.flag ⟨[t'],?_⟩)))
  have hk : r.kids.dropLast = s.kids := by rw [g.kids]; simp
  have a1 := g.c0 (by rw [hr])
  have a2 := g.cn
  have a3 := g'.cn
  have a4 := g'.c1
  have a5 := g'.con
  have a6 := g'.dep
  simp only [hr] at a1 a2 a3 a4 a5 a6
  exact ⟨by have := g'.kids; simp only [hk] at this; exact this,by have := g'.suf; simp only [hr] at this; exact this,by simp only; omega,fun h => by simp only at h; omega,fun h => by have := a4 h; simp only; omega,by simp only; omega,by simp only; omega,g'.wf⟩
 ·have hl := g.le
  have hlt : B r.rem < B s.rem := by
   rcases Nat.lt_or_ge (B r.rem) (B s.rem) with h | h
   ·exact h
   ·obtain ⟨w,hw,_⟩ := g.suf
    have := suf_eq (u := w) (l := r.rem) (by rw [← hw]; exact hv) (by rw [← hw]; omega)
    rw [this] at hw
    exact absurd (congrArg List.length hw.symm) hn
  refine j_tail (p := ⟨1,0,15,3⟩) (by decide) (by decide) (by decide) ⟨g.kids,g.suf,by simp only; omega,fun h => by omega,g.c1,g.cn,g.dep,g.wf⟩ (g.val hv) fun x vx hx => ih.expr vx (by omega)
theorem s_binary {n : Nat} (hR : rank (.binary n) s = R) (hp : Pre (.binary n) s) : Js (.binary n) s := by
 have hp : n ≤ 5 := hp
 have hR : R = 20 - n := hR.symm
 refine .mk1 (p := ⟨0,1,15,3⟩) rfl ?_ (by first | (simp only [sp]; decide) | decide)
 have hb : body (.binary n) = if n = 5 then .call .unary else .seq (.call (.binary (n + 1))) (if n = 2 then .cond (at1 (ops n)) (.wrap 39 (.seq .bump (.call (.binary (n + 1))))) .skip else .loop (at1 (ops n)) (.wrap 39 (.seq .bump (.call (.binary (n + 1)))))) := rfl
 rw [hb]
 split
 ·exact (ih.eq .unary s hv (by omega) (by rw [hR]; subst n; exact Nat.lt_of_sub_eq_succ rfl) trivial).one rfl
 ·rename_i h5
  have turn : ∀ r u,V r.rem → (sig1 r.rem).1 ≠ 100 → G ⟨0,1,15,3⟩ s r [u] → T (.wrap 39 (.seq .bump (.call (.binary (n + 1))))) r fun x => (∃ u',G ⟨0,1,15,3⟩ s x [u']) ∧ B x.rem < B r.rem := fun r u v ht g => by
   have h1 := J1.wrap (k := 39) (by decide) g (q := Pr.seq ⟨1,0,23,-1⟩ ⟨0,1,15,3⟩) (J.bseq (s := { r with kids := [u],adds := r.adds + 1 }) v ht fun y vy c => ((ih.lt (.binary (n + 1)) y vy (by have := g.le; simp only at c; omega) (by show n + 1 ≤ 5; omega)).one rfl).j)
   exact T.mono h1 fun x ⟨⟨u',g'⟩,(hk : (B x.rem : Int) + 1 ≤ B r.rem)⟩ => ⟨⟨u',g'.weak (by decide)⟩,by omega⟩
  refine T.seq (T.mono ((ih.eq (.binary (n + 1)) s hv (by omega) (by rw [hR]; show 20 - (n + 1) < 20 - n; omega) (by show n + 1 ≤ 5; omega)).one rfl) fun r ⟨u,g⟩ => ?_)
  split
  ·exact T.cond (fun ht => T.mono (turn r u (g.val hv) (at_not ht) g) fun x h => h.1) fun _ => T.skip ⟨u,g⟩
  ·exact J1.loop hv (fun r u v ht g => turn r u v (at_not ht) g) g
theorem s_postfix (hR1 : 1 < R) {r : S} {u : Tr} (g : G ⟨0,1,15,3⟩ s r [u]) : T (.call .postE) r fun x => ∃ u',G ⟨0,1,15,3⟩ s x [u'] := by
 refine T.call (J1.loop hv (fun r u v ht g => ?_) g)
 have hl := g.le
 refine T.cond (fun ht => ?_) fun hf => T.cond (fun hi => ?_) fun hf2 => ?_
 ·refine T.mono (J1.wrap (by decide) g (q := ⟨1,0,18,1⟩) ((ih.eq .arguments { r with kids := [u],adds := r.adds + 1 } v (by show B r.rem ≤ N; omega) ?_ (at_not ht)).j)) fun x ⟨⟨t',h⟩,(hk : (B x.rem : Int) + 1 ≤ B r.rem)⟩ => ⟨⟨t',h.weak (by decide)⟩,by omega⟩
  exact hR1
 ·have hi : ((sig1 (left r.rem)).1 == 103 && isAt [⟨#[40]⟩] (sig1 (left (left r.rem)))) = true := hi
  simp only [Bool.and_eq_true,beq_iff_eq] at hi
  refine T.mono (J1.wrap (by decide) g (q := Pr.seq ⟨1,0,23,-1⟩ (Pr.seq ⟨1,0,23,-1⟩ ⟨1,0,18,1⟩)) (J.bseqE (s := { r with kids := [u],adds := r.adds + 1 }) v (at_not ht) fun y ey vy c => J.bseqE vy (by rw [ey,hi.1]; decide) fun z ez vz c' => (ih.lt .arguments z vz (by simp only at c; omega) (by show (sig1 z.rem).1 ≠ 100; rw [ez,ey]; exact isAt_not hi.2)).j)) fun x ⟨⟨t',h⟩,(hk : (B x.rem : Int) + (1 + (1 + 1)) ≤ B r.rem)⟩ => ⟨⟨t',h.weak (by decide)⟩,by omega⟩
 ·refine T.mono (J1.wrap (by decide) g (q := Pr.seq ⟨1,0,23,-1⟩ ⟨0,1,23,1⟩) (J.bseq (s := { r with kids := [u],adds := r.adds + 1 }) v (at_not ht) fun y vy c => J.expIdent vy)) fun x ⟨⟨t',h⟩,(hk : (B x.rem : Int) + (1 + 0) ≤ B r.rem)⟩ => ⟨⟨t',h.weak (by decide)⟩,by omega⟩
theorem s_unary (hR : rank .unary s = R) : Js .unary s := by
 have hR : R = 14 := hR.symm
 refine .mk1 (p := ⟨0,1,15,3⟩) rfl (T.cond (fun ht => ?_) fun _ => T.cond (fun ht => ?_) fun _ => ?_) (by first | (simp only [sp]; decide) | decide)
 ·exact (J1.nodeH (by decide) hv fun y ey vy => J.bseq vy (by rw [ey]; exact at_not ht) fun r v c => ((ih.lt .unary r v (by rw [ey] at c; omega) trivial).one rfl).j).weak (by first | (simp only [sp]; decide) | decide)
 ·exact (J1.nodeH (by decide) hv fun y ey vy => J.bseq vy (by rw [ey]; exact at_not ht) fun r v c => J.then (N := N) v (by rw [ey] at c; omega) (J.acc v) fun r v h => ((ih.lt .unary r v h trivial).one rfl).j).weak (by first | (simp only [sp]; decide) | decide)
 ·exact T.seq (T.mono ((ih.eq .primary s hv (by omega) (by rw [hR]; exact Nat.lt_of_sub_eq_succ rfl) trivial).one rfl) fun r ⟨u,g⟩ => s_postfix ih hv hN (by omega) g)
theorem s_typeExpr (hR : rank .typeExpr s = R) : Js .typeExpr s := by
 have hR : R = 5 := hR.symm
 refine .mk1 (p := ⟨0,1,15,3⟩) rfl (T.cond (fun ht => ?_) fun _ => T.cond (fun ht => ?_) fun _ => T.cond (fun ht => ?_) fun _ => ?_) (by first | (simp only [sp]; decide) | decide)
 ·exact (J1.nodeH (by decide) hv fun y ey vy => J.bseq vy (by rw [ey]; exact at_not ht) fun r v c => J.then (N := N) v (by rw [ey] at c; omega) (J.acc v) fun r v h => (ih.typ v h).j).weak (by first | (simp only [sp]; decide) | decide)
 ·exact (J1.nodeH (by decide) hv fun y ey vy => J.bseq vy (by rw [ey]; exact at_not ht) fun r v c => J.then (N := N) v (by rw [ey] at c; omega) (J.exp v) fun r v h => J.then v h (J.list v (p := ⟨0,1,15,3⟩) (by decide) fun x vx cx => (ih.typ vx (by omega)).j) fun r v h => J.opt v fun x vx cx => (ih.typ vx (by omega)).j).weak (by first | (simp only [sp]; decide) | decide)
 ·have hi : (sig1 s.rem).1 = 103 := by simpa [S.test,ident] using ht
  have := (ih.eq (.path true) s hv (by omega) (by rw [hR]; exact Nat.lt_of_sub_eq_succ rfl) trivial).one rfl
  rw [show sp (.path true) s = ⟨1,0,18,1⟩ from if_pos hi] at this
  exact this.weak (by decide)
 ·exact (J1.leaf (by decide)).weak (by decide)
end
section
variable (ih : Ih N R) {s : S} (hv : V s.rem)
include ih hv
theorem j_targs {b : Bool} (hN : B s.rem ≤ N) : J (if b then .cond (at1 [⟨#[60]⟩]) (.seq .bump (list ⟨#[62]⟩ (.call .typeExpr))) .skip else .skip) s ⟨0,0,20,1⟩ := by
 cases b
 ·exact J.skip.weak (by decide)
 ·exact (J.cond (fun ht => J.bseq hv (at_not ht) fun r v c => J.list v (p := ⟨0,1,15,3⟩) (by decide) fun x vx cx => (ih.typ vx (by omega)).j) fun _ => J.skip).weak (by decide)
theorem j_seg {b : Bool} (hN : B s.rem ≤ N) : J1 (seg b) s ⟨0,2,18,2⟩ :=
 (J1.nodeH (by decide) hv fun y ey vy => J.thenL (N := N) vy (by rw [ey]; exact hN) (J.expIdent vy) fun r v h => j_targs ih v h).weak (by decide)
theorem s_path {b : Bool} (hN : B s.rem = N) : Js (.path b) s := by
 have lp : ∀ r,V r.rem → B r.rem ≤ N → J (.loop (at1 [⟨#[58,58]⟩]) (.seq .bump (seg b))) r ⟨0,0,18,0⟩ := fun r v h =>
  (J.loop (p := ⟨1,0,20,0⟩) v (by decide) (by decide) fun x vx cx ht => (J.bseq vx (at_not ht) fun y vy cy => (j_seg ih vy (by omega)).j).weak (by decide)).weak (by decide)
 by_cases hi : (sig1 s.rem).1 = 103
 ·have hsp : sp (.path b) s = ⟨1,0,18,1⟩ := if_pos hi
  refine .mk1 (p := Pr.node (Pr.seq (Pr.node (Pr.seq ⟨1,0,23,-1⟩ ⟨0,0,20,1⟩)) ⟨0,0,18,0⟩)) rfl (J1.nodeH (by decide) hv fun y ey vy => J.seq vy (J1.nodeH (by decide) vy fun z ez vz => J.seq vz (T.cond (fun ht => J.bump1 vz (ident_not ht)) fun hf => ?_) fun r v c _ => j_targs ih v ?_).j fun r v c _ => lp r v ?_) (by rw [hsp]; decide)
  ·simp only [S.test,ident,ez,ey,hi] at hf
   cases hf
  ·have c : (B r.rem : Int) + 1 ≤ B z.rem := c
   rw [ez,ey] at c; omega
  ·have c : (B r.rem : Int) + (1 + 0) ≤ B y.rem := c
   rw [ey] at c; omega
 ·have hsp : sp (.path b) s = ⟨0,3,14,3⟩ := if_neg hi
  exact .mk1 (p := Pr.node (Pr.seq ⟨0,2,18,2⟩ ⟨0,0,18,0⟩)) rfl (J1.nodeH (by decide) hv fun y ey vy => J.thenL (N := N) vy (by rw [ey]; omega) (j_seg ih vy (by rw [ey]; omega)).j fun r v h => lp r v h) (by rw [hsp]; decide)
theorem s_pattern (hN : B s.rem = N) (hR : rank .pattern s = R) : Js .pattern s := by
 have hR : R = 5 := hR.symm
 refine .mk1 (p := ⟨0,1,15,2⟩) rfl (T.cond (fun ht => ?_) fun _ => T.cond (fun ht => ?_) fun _ => T.cond (fun ht => ?_) fun _ => T.cond (fun ht => ?_) fun _ => T.cond (fun ht => ?_) fun _ => T.cond (fun ht => ?_) fun _ => ?_) (by first | (simp only [sp]; decide) | decide)
 ·exact (J1.nodeH (by decide) hv fun y ey vy => J.bseq vy (by rw [ey]; exact at_not ht) fun r v c => J.expIdent v).weak (by first | (simp only [sp]; decide) | decide)
 ·have hi : (sig1 s.rem).1 ≠ 100 := by simp [S.test] at ht; omega
  exact (J1.nodeH (by decide) hv fun y ey vy => J.bump1 vy (by rw [ey]; exact hi)).weak (by first | (simp only [sp]; decide) | decide)
 ·have hi : (sig1 s.rem).1 ≠ 100 := by simp [S.test] at ht; omega
  exact (J1.nodeH (by decide) hv fun y ey vy => J.bump1 vy (by rw [ey]; exact hi)).weak (by first | (simp only [sp]; decide) | decide)
 ·have hi : (sig1 s.rem).1 = 103 := by simpa [S.test,ident] using ht
  refine (J1.nodeH (by decide) hv fun y ey vy => J.seq vy (p := ⟨1,0,18,1⟩) ?_ fun r v (c : (B r.rem : Int) + 1 ≤ B y.rem) _ => J.cond (fun ht => J.bseq v (at_not ht) fun x vx cx => J.list vx (p := ⟨0,1,15,2⟩) (by decide) fun z vz cz => ((ih.lt .pattern z vz (by rw [ey] at c; omega) trivial).one rfl).j) fun _ => J.skip).weak (by first | (simp only [sp]; decide) | decide)
  have := (ih.eq (.path false) y vy (by rw [ey]; omega) (by rw [hR]; exact Nat.lt_of_sub_eq_succ rfl) trivial).one rfl
  rw [show sp (.path false) y = ⟨1,0,18,1⟩ from if_pos (by rw [ey]; exact hi)] at this
  exact this.j
 ·have hi : (sig1 s.rem).1 ≠ 100 := by simp [S.test] at ht; omega
  exact (J1.nodeH (by decide) hv fun y ey vy => J.bump1 vy (by rw [ey]; exact hi)).weak (by first | (simp only [sp]; decide) | decide)
 ·exact (J1.nodeH (by decide) hv fun y ey vy => J.bump1 vy (by rw [ey]; exact at_not ht)).weak (by first | (simp only [sp]; decide) | decide)
 ·exact (J1.leaf (by decide)).weak (by decide)
theorem s_typeParam (hN : B s.rem = N) : Js .typeParam s :=
 .mk rfl (J.cond (fun ht => (J1.nodeH (by decide) hv fun y ey vy => J.bseq vy (by rw [ey]; exact ident_not ht) fun r v c => (J.cond (fun ht => J.bseq v (at_not ht) fun x vx cx => J.then (N := N) vx (by rw [ey] at c; omega) (ih.path vx (by rw [ey] at c; omega)).j fun x vx hx =>
  J.loop (p := ⟨1,0,19,1⟩) vx (by decide) (by decide) fun z vz cz ht => (J.bseq vz (at_not ht) fun a va ca => (ih.path va (by omega)).j).weak (by decide)) fun _ => J.skip)).j) fun _ => J.skip) (by first | (simp only [sp]; decide) | decide)
theorem s_typeParams (hN : B s.rem = N) : Js .typeParams s :=
 .mk1 rfl (J1.nodeH (by decide) hv fun y ey vy => J.cond (fun ht => J.bseq vy (at_not ht) fun r v c => J.list v (p := ⟨0,0,15,2⟩) (by decide) fun x vx cx => (ih.lt .typeParam x vx (by rw [ey] at c; omega) trivial).j) fun _ => J.skip) (by first | (simp only [sp]; decide) | decide)
theorem s_params {cl : ByteArray} (hN : B s.rem = N) : Js (.params cl) s :=
 .mk1 rfl (J1.nodeH (by decide) hv fun y ey vy => J.list vy (p := ⟨0,0,18,1⟩) (by decide) fun x vx cx => (J.cond (fun ht => (J1.nodeH (by decide) vx fun z ez vz => J.bseq vz (by rw [ez]; exact ident_not ht) fun r v c => J.opt v fun a va ca => (ih.typ va (by rw [ez] at c; rw [ey] at cx; omega)).j).j) fun _ => J.skip).weak (by decide)) (by first | (simp only [sp]; decide) | decide)
theorem s_function {b : Bool} (hN : B s.rem = N) (hR : rank (.function b) s = R) : Js (.function b) s := by
 have hR : R = 70 := hR.symm
 have blk : ∀ r,V r.rem → B r.rem ≤ N → J (.call .block) r ⟨0,4,8,5⟩ := fun r v h => by
  refine ((ih.eq .block r v h ?_ trivial).one rfl).j.weak ?_
  ·rw [hR]; simp only [rank]; split <;> decide
  ·simp only [sp]; split <;> decide
 refine .mk rfl (J.thenL (N := N) hv (by omega) (J.expIdent hv) fun r v h => J.thenL v h ((ih.eq .typeParams r v h (by rw [hR]; exact Nat.lt_of_sub_eq_succ rfl) trivial).one rfl).j fun r v h => J.thenL v h (J.exp v) fun r v h => J.thenL v h ((ih.eq (.params ⟨#[41]⟩) r v h (by rw [hR]; exact Nat.lt_of_sub_eq_succ rfl) trivial).one rfl).j fun r v h =>
  J.thenL v h (J.opt v fun x vx cx => (ih.typ vx (by omega)).j) fun r v h => (?_ : J _ r ⟨0,4,8,5⟩)) (by first | (simp only [sp]; decide) | decide)
 cases b
 ·exact (J.cond (fun ht => J.bseq v (at_not ht) fun x vx cx => (J1.leaf (by decide)).j) fun _ => blk r v h).weak (by decide)
 ·exact blk r v h
theorem j_variant {k : Int} (hN : B s.rem ≤ N) : J (.cond ident (if k = 4 then .node 14 (seqs [.bump,exp ⟨#[58]⟩,.call .typeExpr]) else .node 15 (.seq .bump (.cond (at1 [⟨#[40]⟩]) (.seq .bump (list ⟨#[41]⟩ (.call .typeExpr))) .skip))) .skip) s ⟨0,0,18,3⟩ := by
 refine (J.cond (p := ⟨1,0,18,3⟩) (fun ht => ?_) fun _ => J.skip).weak (by decide)
 split
 ·exact (J1.nodeH (by decide) hv fun y ey vy => J.bseq vy (by rw [ey]; exact ident_not ht) fun r v c => J.then (N := N) v (by rw [ey] at c; omega) (J.exp v) fun r v h => (ih.typ v h).j).j.weak (by decide)
 ·exact (J1.nodeH (by decide) hv fun y ey vy => J.bseq vy (by rw [ey]; exact ident_not ht) fun r v c => J.cond (fun ht => J.bseq v (at_not ht) fun r v c => J.list v (p := ⟨0,1,15,3⟩) (by decide) fun x vx cx => (ih.typ vx (by rw [ey] at *; omega)).j) fun _ => J.skip).j.weak (by decide)
theorem s_dataType {k : Int} (hN : B s.rem = N) (hR : rank (.dataType k) s = R) : Js (.dataType k) s := by
 have hR : R = 70 := hR.symm
 exact .mk rfl (J.thenL (N := N) hv (by omega) (J.expIdent hv) fun r v h => J.thenL v h ((ih.eq .typeParams r v h (by rw [hR]; exact Nat.lt_of_sub_eq_succ rfl) trivial).one rfl).j fun r v h => J.thenL v h (J.exp v) fun r v h => J.list v (p := ⟨0,0,18,3⟩) (by decide) fun x vx cx => j_variant ih vx (by omega)) (by first | (simp only [sp]; decide) | decide)
theorem s_members (hN : B s.rem = N) : Js .members s :=
 .mk rfl (J.thenL (N := N) hv (by omega) (J.exp hv) fun r v h => J.thenL v h (J.loop (p := ⟨1,0,11,5⟩) v (by decide) (by decide) fun x vx cx ht => (J.cond (fun h2 => (J1.nodeH (by decide) vx fun y ey vy => J.bseq vy (by rw [ey]; exact at_not h2) fun r v c => (ih.lt (.function false) r v (by rw [ey] at c; omega) trivial).j).j)
  fun _ => (J1.nodeH (by decide) vx fun y ey vy => J.bseq vy (by rw [ey]; exact at_not ht) fun r v c => J.then (N := N) v (by rw [ey] at c; omega) (J.expIdent v) fun r v h => J.then v h (J.opt v fun x vx cx => (ih.typ vx (by omega)).j) fun r v h => J.exp v).j).weak (by first | (simp only [sp]; decide) | decide)) fun r v h => J.exp v) (by first | (simp only [sp]; decide) | decide)
theorem j_for {r : S} {t : Tr} (hN : B s.rem ≤ N) (g : G ⟨0,1,15,3⟩ s r [t]) : T (.cond (at1 [⟨#[102,111,114]⟩]) (.seq .bump (.call .typeExpr)) .before) r fun x => ∃ l,G ⟨0,2,13,3⟩ s x l := by
 have hl := g.le
 have v := g.val hv
 refine T.cond (fun ht => ?_) fun _ => ?_
 ·exact T.mono (J.bseq v (at_not ht) fun x vx cx => (ih.typ vx (by omega)).j) fun x ⟨m,g'⟩ => ⟨_,(g.seq g').weak (by decide)⟩
 ·refine T.before g.kids ⟨[.leaf 0,t],rfl,?_,g.con,fun h => ?_,fun h => ?_,?_,?_,⟨.inr ⟨by decide,by decide,rfl,trivial⟩,g.wf⟩⟩
  ·obtain ⟨u,h1,h2⟩ := g.suf
   exact ⟨u,h1,by rw [← h2]; simp [txtL,Tr.leaf,Tr.txt,nob]⟩
  ·have := g.c0 h
   simp at this ⊢
   omega
  ·have := g.c1 h
   simp at this ⊢
   omega
  ·have := g.cn
   simp [cntL,Tr.leaf,Tr.cnt] at this ⊢
   omega
  ·have := g.dep
   simp [depL,Tr.leaf,Tr.dep] at this ⊢
   omega
theorem s_impl (hN : B s.rem = N) (hR : rank .impl s = R) : Js .impl s := by
 have hR : R = 80 := hR.symm
 exact .mk (p := Pr.seq ⟨0,1,14,2⟩ (Pr.seq ⟨0,2,13,3⟩ ⟨0,2,8,5⟩)) rfl (J.thenL (N := N) hv (by omega) ((ih.eq .typeParams s hv (by omega) (by rw [hR]; exact Nat.lt_of_sub_eq_succ rfl) trivial).one rfl).j fun r v h =>
  T.seq (T.mono ((ih.eq .typeExpr r v h (by rw [hR]; exact Nat.lt_of_sub_eq_succ rfl) trivial).one rfl) fun x ⟨t,g⟩ => T.seq (T.mono (j_for ih v h g) fun y ⟨l,g'⟩ => T.mono ((ih.eq .members y (g'.val v) (by have := g'.le; omega) (by rw [hR]; exact Nat.lt_of_sub_eq_succ rfl) trivial).j) fun z ⟨m,g''⟩ => ⟨_,g'.seq g''⟩))) (by first | (simp only [sp]; decide) | decide)
theorem s_itemBody {k : Int} (hN : B s.rem = N) (hR : rank (.itemBody k) s = R) : Js (.itemBody k) s := by
 have hR : R = 90 := hR.symm
 have up : ∀ x r,V r.rem → B r.rem ≤ N → rank x r < 90 → Pre x r → J (.call x) r (sp x r) := fun x r v h hk hp => (ih.eq x r v h (by omega) hp).j
 refine .mk (p := ⟨0,12,0,6⟩) rfl ?_ (by first | (simp only [sp]; decide) | decide)
 simp only [body]
 split
 ·exact (up .use s hv (by omega) (by exact Nat.lt_of_sub_eq_succ rfl) trivial).weak (by first | (simp only [sp]; decide) | decide)
 split
 ·exact (up (.function true) s hv (by omega) (by exact Nat.lt_of_sub_eq_succ rfl) trivial).weak (by first | (simp only [sp]; decide) | decide)
 split
 ·exact (up (.dataType k) s hv (by omega) (by exact Nat.lt_of_sub_eq_succ rfl) trivial).weak (by first | (simp only [sp]; decide) | decide)
 split
 ·exact (J.thenL (N := N) hv (by omega) (J.expIdent hv) fun r v h => up .members r v h (by exact Nat.lt_of_sub_eq_succ rfl) trivial).weak (by first | (simp only [sp]; decide) | decide)
 split
 ·exact (up .impl s hv (by omega) (by exact Nat.lt_of_sub_eq_succ rfl) trivial).weak (by first | (simp only [sp]; decide) | decide)
 split
 ·exact (J.thenL (N := N) hv (by omega) (J.expIdent hv) fun r v h => J.thenL v h (J.exp v) fun r v h => J.thenL v h (up .typeExpr r v h (by exact Nat.lt_of_sub_eq_succ rfl) trivial) fun r v h => J.thenL v h (J.exp v) fun r v h => J.thenL v h (ih.exprR (by omega) v h).j fun r v h => J.exp v).weak (by first | (simp only [sp]; decide) | decide)
 split
 ·exact (J.thenL (N := N) hv (by omega) (J.expIdent hv) fun r v h => J.thenL v h (J.exp v) fun r v h => J.thenL v h (up (.params ⟨#[41]⟩) r v h (by exact Nat.lt_of_sub_eq_succ rfl) trivial) fun r v h => J.thenL v h (J.exp v) fun r v h => J.thenL v h (ih.exprR (by omega) v h).j fun r v h => J.exp v).weak (by first | (simp only [sp]; decide) | decide)
 ·exact J.skip.weak (by first | (simp only [sp]; decide) | decide)
theorem s_primary (hN : B s.rem = N) (hR : rank .primary s = R) : Js .primary s := by
 have hR : R = 10 := hR.symm
 have up : ∀ x r,V r.rem → B r.rem ≤ N → rank x r < 10 → Pre x r → J (.call x) r (sp x r) := fun x r v h hk hp => (ih.eq x r v h (by omega) hp).j
 have hb : body .primary = .cond (fun t _ _ _ => t.1 == 105) (.node 27 .bump) (.cond (fun t _ _ _ => t.1 == 106) (.node 29 .bump) (.cond (at1 [⟨#[116,114,117,101]⟩,⟨#[102,97,108,115,101]⟩]) (.node 28 .bump) (.cond ident (.seq (.call (.path false)) (.cond (fun t u _ _ => isAt [⟨#[33]⟩] t && isAt [⟨#[40]⟩] u) (.wrap 42 (.seq .bump (.call .arguments))) .skip))
   (.cond (at1 [⟨#[40]⟩]) (.node 60 (seqs [.bump,Cmd.expr,exp ⟨#[41]⟩])) (.cond (at1 [brace]) (.call .block) (.cond (at1 [⟨#[105,102]⟩]) (.call .ifExpr) (.cond (at1 [⟨#[109,97,116,99,104]⟩]) (.node 35 (.call .matchE)) (.cond (at1 [⟨#[110,101,119]⟩]) (.node 33 (.call .structLit)) (.cond (at1 [⟨#[124]⟩,⟨#[124,124]⟩]) (.node 38 (.call .lambda)) missingN))))))))) := rfl
 refine .mk1 (p := ⟨0,1,15,3⟩) rfl ?_ (by first | (simp only [sp]; decide) | decide)
 rw [hb]
 refine T.cond (fun ht => ?_) fun _ => T.cond (fun ht => ?_) fun _ => T.cond (fun ht => ?_) fun _ => T.cond (fun ht => ?_) fun _ => T.cond (fun ht => ?_) fun _ => T.cond (fun ht => ?_) fun _ => T.cond (fun ht => ?_) fun _ => T.cond (fun ht => ?_) fun _ => T.cond (fun ht => ?_) fun _ => T.cond (fun ht => ?_) fun _ => ?_
 ·have hi : (sig1 s.rem).1 ≠ 100 := by simp [S.test] at ht; omega
  exact (J1.nodeH (by decide) hv fun y ey vy => J.bump1 vy (by rw [ey]; exact hi)).weak (by first | (simp only [sp]; decide) | decide)
 ·have hi : (sig1 s.rem).1 ≠ 100 := by simp [S.test] at ht; omega
  exact (J1.nodeH (by decide) hv fun y ey vy => J.bump1 vy (by rw [ey]; exact hi)).weak (by first | (simp only [sp]; decide) | decide)
 ·exact (J1.nodeH (by decide) hv fun y ey vy => J.bump1 vy (by rw [ey]; exact at_not ht)).weak (by first | (simp only [sp]; decide) | decide)
 ·have hi : (sig1 s.rem).1 = 103 := by simpa [S.test,ident] using ht
  have h1 := (ih.eq (.path false) s hv (by omega) (by rw [hR]; exact Nat.lt_of_sub_eq_succ rfl) trivial).one rfl
  rw [show sp (.path false) s = ⟨1,0,18,1⟩ from if_pos hi] at h1
  refine T.seq (T.mono h1 fun r ⟨u,g⟩ => T.cond (fun h2 => ?_) fun _ => T.skip ⟨u,g.weak (by decide)⟩)
  have hc : (B r.rem : Int) + 1 ≤ B s.rem := g.con
  have h2 : (isAt [⟨#[33]⟩] (sig1 r.rem) && isAt [⟨#[40]⟩] (sig1 (left r.rem))) = true := h2
  simp only [Bool.and_eq_true] at h2
  exact T.mono (J1.wrap (by decide) g (q := Pr.seq ⟨1,0,23,-1⟩ ⟨1,0,18,1⟩) (J.bseqE (s := { r with kids := [u],adds := r.adds + 1 }) (g.val hv) (isAt_not h2.1) fun y ey vy c => (ih.lt .arguments y vy (by simp only at c; omega) (by show (sig1 y.rem).1 ≠ 100; rw [ey]; exact isAt_not h2.2)).j)) fun x ⟨⟨t',h⟩,_⟩ => ⟨t',h.weak (by decide)⟩
 ·exact (J1.nodeH (by decide) hv fun y ey vy => J.bseq vy (by rw [ey]; exact at_not ht) fun r v c => J.then (N := N) v (by rw [ey] at c; omega) (ih.expr v (by rw [ey] at c; omega)).j fun r v h => J.exp v).weak (by first | (simp only [sp]; decide) | decide)
 ·have hb : isAt [brace] (sig1 s.rem) = true := ht
  have h1 := (ih.eq .block s hv (by omega) (by rw [hR,show rank .block s = 0 from if_pos hb]; decide) trivial).one rfl
  rw [show sp .block s = ⟨1,0,15,3⟩ from if_pos hb] at h1
  exact h1.weak (by decide)
 ·exact ((ih.eq .ifExpr s hv (by omega) (by rw [hR]; exact Nat.lt_of_sub_eq_succ rfl) (at_sig ht)).one rfl).weak (by first | (simp only [sp]; decide) | decide)
 ·exact (J1.nodeH (by decide) hv fun y ey vy => up .matchE y vy (by rw [ey]; omega) (by exact Nat.lt_of_sub_eq_succ rfl) (by show (sig1 y.rem).1 ≠ 100; rw [ey]; exact at_not ht)).weak (by first | (simp only [sp]; decide) | decide)
 ·exact (J1.nodeH (by decide) hv fun y ey vy => up .structLit y vy (by rw [ey]; omega) (by exact Nat.lt_of_sub_eq_succ rfl) (by show (sig1 y.rem).1 ≠ 100; rw [ey]; exact at_not ht)).weak (by first | (simp only [sp]; decide) | decide)
 ·exact (J1.nodeH (by decide) hv fun y ey vy => up .lambda y vy (by rw [ey]; omega) (by exact Nat.lt_of_sub_eq_succ rfl) (by show (sig1 y.rem).1 ≠ 100; rw [ey]; exact at_not ht)).weak (by first | (simp only [sp]; decide) | decide)
 ·exact (J1.leaf (by decide)).weak (by decide)
theorem j_item {k : Int} (hN : B s.rem = N) (hk : itemKind (sig1 s.rem) (sig1 (left s.rem)) = k) (h0 : k ≠ 0) (h1 : 0 ≤ k ∧ k < 100) : J1 (.node k (seqs [acc ⟨#[112,117,98]⟩,.bump,.call (.itemBody k)])) s ⟨1,0,10,7⟩ := by
 refine (J1.nodeH (p := ⟨1,0,11,4⟩) h1 hv fun y ey vy => ?_).weak (by decide)
 by_cases hp : isAt [⟨#[112,117,98]⟩] (sig1 s.rem) = true
 ·refine (T.seq (T.cond (fun _ => ?_) fun h => ?_) : T _ _ _)
  ·obtain ⟨l,g⟩ := T.of_bump (J.bump1 vy (by rw [ey]; exact isAt_not hp))
   have hc : (B y.bump.rem : Int) + 1 ≤ B y.rem := g.con
   have ebr : y.bump.rem = left s.rem := by show left y.rem = _; rw [ey]
   refine T.bump (T.mono (J.bseq (g.val vy) ?_ fun r v c => ((ih.lt (.itemBody k) r v (by rw [ey] at hc; omega) trivial).j).weak (q := ⟨0,12,0,6⟩) (by first | (simp only [sp]; decide) | decide)) fun x ⟨m,g'⟩ => ⟨_,(g.seq g').weak (by decide)⟩)
   rw [ebr]
   intro he
   unfold itemKind at hk
   rw [if_pos hp] at hk
   simp only [he] at hk
   simp at hk
   exact h0 hk.symm
  ·have h : isAt [⟨#[112,117,98]⟩] (sig1 y.rem) = false := h
   rw [ey,hp] at h
   cases h
 ·refine (T.seq (T.cond (fun h => ?_) fun _ => T.skip ?_) : T _ _ _)
  ·have h : isAt [⟨#[112,117,98]⟩] (sig1 y.rem) = true := h
   rw [ey] at h
   exact absurd h hp
  ·refine T.mono (J.bseq vy ?_ fun r v c => ((ih.lt (.itemBody k) r v (by rw [ey] at c; omega) trivial).j).weak (q := ⟨0,12,0,6⟩) (by first | (simp only [sp]; decide) | decide)) fun x ⟨m,g'⟩ => ⟨m,g'.weak (by decide)⟩
   rw [ey]
   intro he
   unfold itemKind at hk
   rw [if_neg hp] at hk
   simp only [he] at hk
   simp at hk
   exact h0 hk.symm
theorem s_item (hN : B s.rem = N) (hR : rank .item s = R) (hp : Pre .item s) : Js .item s := by
 have hR : R = 100 := hR.symm
 refine .mk1 (p := ⟨1,0,10,7⟩) rfl (T.sel ?_) (by first | (simp only [sp]; decide) | decide)
 by_cases h0 : itemKind (sig1 s.rem) (sig1 (left s.rem)) = 0
 ·simp only [h0]
  exact ((ih.eq .skipTo s hv (by omega) (by rw [hR]; exact Nat.lt_of_sub_eq_succ rfl) hp).one rfl).weak (by first | (simp only [sp]; decide) | decide)
 ·simp only [if_neg h0]
  exact j_item ih hv hN rfl h0 (kind_range _ _)
end
theorem step (ih : Ih N R) {x : Nm} {s : S} (hv : V s.rem) (hN : B s.rem = N) (hR : rank x s = R) (hp : Pre x s) : Js x s := by
 cases x with
 | block => exact s_block ih hv hN hR
 | statement => exact s_statement ih hv hN hR hp
 | letS => exact s_letS ih hv hN hp
 | returnS => exact s_returnS ih hv hN hp
 | binary n => exact s_binary ih hv hN hR hp
 | unary => exact s_unary ih hv hN hR
 | arguments => exact s_arguments ih hv hN hp
 | postE => exact hp.elim
 | primary => exact s_primary ih hv hN hR
 | ifExpr => exact s_ifExpr ih hv hN hp
 | matchE => exact s_matchE ih hv hN hp
 | structLit => exact s_structLit ih hv hN hp
 | lambda => exact s_lambda ih hv hN hp
 | pattern => exact s_pattern ih hv hN hR
 | item => exact s_item ih hv hN hR hp
 | skipTo => exact s_skipTo hv hp
 | itemBody k => exact s_itemBody ih hv hN hR
 | use => exact s_use hv hN
 | typeParams => exact s_typeParams ih hv hN
 | typeParam => exact s_typeParam ih hv hN
 | params cl => exact s_params ih hv hN
 | function b => exact s_function ih hv hN hR
 | dataType k => exact s_dataType ih hv hN hR
 | members => exact s_members ih hv hN
 | impl => exact s_impl ih hv hN hR
 | path b => exact s_path ih hv hN
 | typeExpr => exact s_typeExpr ih hv hN hR
theorem all (N : Nat) : ∀ R x s,V s.rem → B s.rem = N → rank x s = R → Pre x s → Js x s := by
 induction N using Nat.strongRecOn with
 | _ N ihN =>
  intro R
  induction R using Nat.strongRecOn with
  | _ R ihR =>
   intro x s hv hN hR hp
   refine step (N := N) (R := R) ⟨fun y r v h p => ihN _ h _ y r v rfl rfl p,fun y r v h hk p => ?_⟩ hv hN hR hp
   rcases Nat.lt_or_ge (B r.rem) N with c | c
   ·exact ihN _ c _ y r v rfl rfl p
   ·exact ihR _ hk y r v (by omega) rfl p
theorem ends (x : Nm) (s : S) (hv : V s.rem) (hp : Pre x s) : Js x s := all _ _ x s hv rfl rfl hp
theorem sig1_eof {l : List Tok} (hv : V l) (h : (sig1 l).1 = 100) : left l = [] ∧ ∀ t ∈ l,isTriv t.1 = true := by
 induction l with
 | nil => exact ⟨rfl,fun t ht => by cases ht⟩
 | cons t l ih =>
  simp only [sig1,left] at h ⊢
  split at h
  ·rename_i ht
   rw [if_pos ht]
   obtain ⟨h1,h2⟩ := ih (fun u hu => hv u (List.mem_cons_of_mem _ hu)) h
   exact ⟨h1,fun u hu => by
    rcases List.mem_cons.1 hu with rfl | hu
    ·exact ht
    ·exact h2 u hu⟩
  ·have := (hv t List.mem_cons_self).2
   omega
theorem file_ends (l : List Tok) (hv : V l) : T file ⟨l,[],false,0⟩ fun r => r.rem = [] ∧ txtL r.kids = tt l ∧ wfL r.kids ∧ r.adds ≤ 24 * B l ∧ cntL r.kids ≤ r.adds ∧ depL r.kids ≤ 2 * B l + 7 := by
 refine T.seq (T.mono (T.loopB (I := fun r => V r.rem ∧ ∃ m,G ⟨0,0,0,7⟩ ⟨l,[],false,0⟩ r m) (fun r ⟨v,m,g⟩ ht => ?_) _ ⟨l,[],false,0⟩ (Nat.le_refl _) ⟨hv,[],rfl,⟨[],rfl,rfl⟩,by simp,by simp,fun h => absurd h (Nat.lt_irrefl _),by simp [cntL],by simp [depL]; omega,trivial⟩) fun r ⟨⟨v,m,g⟩,ht⟩ => ?_)
 ·have hp : Pre .item r := by
   show ¬ (sig1 r.rem).1 = 100
   simpa [S.test] using ht
  refine T.mono ((ends .item r v hp).j) fun x ⟨m',g'⟩ => ⟨⟨g'.val v,_,(g.seq g').weak (by simp only [sp]; decide)⟩,?_⟩
  have : (B x.rem : Int) + 1 ≤ B r.rem := g'.con
  omega
 ·have he : (sig1 r.rem).1 = 100 := by simpa [S.test] using ht
  obtain ⟨m',g'⟩ := T.of_bump (J.bump v)
  have h1 := (sig1_eof v he).1
  have h2 : r.bump.rem = [] := h1
  have g2 := (g.seq g').weak (q := ⟨0,0,0,7⟩) (by decide)
  have hk : r.bump.kids = m ++ m' := by have := g2.kids; simpa using this
  refine T.bump ⟨h2,?_,?_,?_,?_,?_⟩ <;> (try rw [hk])
  ·obtain ⟨u,e1,e2⟩ := g2.suf
   rw [h2,List.append_nil] at e1
   rw [e2]
   exact congrArg tt e1.symm
  ·exact g2.wf
  ·rcases Nat.lt_or_ge (B r.bump.rem) (B l) with c | c
   ·have := g2.c1 c
    rw [h2] at this
    simp [B] at this ⊢
    omega
   ·have := g2.c0 (by have := g2.le; simp only at this ⊢; omega)
    simp only at this
    omega
  ·have := g2.cn
   simpa using this
  ·have := g2.dep
   rw [h2] at this
   simp [B] at this ⊢
   omega
end Go.Proofs.YtcelfjbajdffkaaGreatDoor.Par
