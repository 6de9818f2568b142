/- The parser as plain data: commands that read tokens and add children to the current node, and how they run. -/
import Derived.Shelf.Strings.Fields
import Derived.Shelf.Slices.Turned
import Derived.Lib.SlicesS
import Derived.KernelRfl
import Derived.WalkKit
import Derived.OrdersHeld
import Derived.Deep.LoopGhost
import Derived.Lib.AppendStr
import Derived.Lib.Builder
import Derived.Lib.UnsafeStr
import Derived.Laws.OwnMore
import Derived.OwnWalk
import Derived.Lib.LazyBuf
import Derived.Laws.CopyRow
import Derived.Laws.IdiomStrings
import Derived.Laws.MakeOwn
import Derived.Lib.ConvBytes
import Derived.WideKeyRuns
import Derived.ChangeMaps5
import Derived.Deep.AppendSrc
import Derived.Lib.AppendZerosOnto
import Derived.Laws.IdiomRangeMap
import Derived.Recover
set_option linter.unusedVariables false
set_option linter.unusedSimpArgs false
namespace Go.Proofs.YtlndmiegodcfjaaGreatDoor.Par
abbrev Tok := Int × ByteArray
inductive Tr where
 | mk (kind : Int) (text : ByteArray) (kids : List Tr)
def fS : ByteArray := ⟨#[]⟩
def gG (k : Int) : Bool := k == 101 || k == 102
def Tr.tok (t : Tok) : Tr := .mk t.1 t.2 []
def Tr.leaf (k : Int) : Tr := .mk k fS []
structure S where
 rem : List Tok
 kids : List Tr
 flag : Bool
 adds : Nat
def aO : List Tok → Tok
 | [] => (100,fS)
 | t :: l => if gG t.1 then aO l else t
def fE : List Tok → List Tok
 | [] => []
 | t :: l => if gG t.1 then t :: fE l else [t]
def left : List Tok → List Tok
 | [] => []
 | t :: l => if gG t.1 then left l else l
abbrev Test := Tok → Tok → Tok → Bool → Bool
inductive Nm where
 | block | statement | letS | returnS | binary (level : Nat) | unary | arguments | postE | primary | ifExpr | matchE | structLit | lambda | pattern
 | item | skipTo | itemBody (kind : Int) | use | typeParams | typeParam | params (closing : ByteArray) | function (needsBody : Bool) | dataType (kind : Int) | members | impl | path (inType : Bool) | typeExpr
inductive Cmd where
 | skip | bump | drop | before
 | flag (b : Bool)
 | leaf (k : Int)
 | seq (a b : Cmd)
 | node (k : Int) (c : Cmd)
 | wrap (k : Int) (c : Cmd)
 | cond (t : Test) (a b : Cmd)
 | loop (t : Test) (c : Cmd)
 | prog (c a b : Cmd)
 | call (x : Nm)
 | sel (f : Tok → Tok → Int) (c : Int → Cmd)
def S.bump (s : S) : S := { s with rem := left s.rem,kids := s.kids ++ (fE s.rem).map .tok,adds := s.adds + (fE s.rem).length }
def S.test (t : Test) (s : S) : Bool := t (aO s.rem) (aO (left s.rem)) (aO (left (left s.rem))) s.flag
def S.add (s : S) (t : Tr) : S := { s with kids := s.kids ++ [t],adds := s.adds + 1 }
section
variable (body : Nm → Cmd) (rec : Cmd → S → Option S)
def bW : Cmd → S → Option S
 | .skip,s => some s
 | .bump,s => some s.bump
 | .drop,s => some { s with kids := s.kids.dropLast }
 | .before,s => match s.kids.getLast? with
  | some t => some { s with kids := s.kids.dropLast ++ [.leaf 0,t],adds := s.adds + 1 }
  | none => none
 | .flag b,s => some { s with flag := b }
 | .leaf k,s => some (s.add (.leaf k))
 | .seq a b,s => (bW a s).bind (bW b)
 | .node k c,s => (bW c { s with kids := [],adds := s.adds + 1 }).map fun r => { r with kids := s.kids ++ [.mk k fS r.kids] }
 | .wrap k c,s => match s.kids.getLast? with
  | some t => (bW c { s with kids := [t],adds := s.adds + 1 }).map fun r => { r with kids := s.kids.dropLast ++ [.mk k fS r.kids] }
  | none => none
 | .cond t a b,s => if s.test t then bW a s else bW b s
 | .loop t c,s => if s.test t then (bW c s).bind (rec (.loop t c)) else some s
 | .prog c a b,s => (bW c s).bind fun r => if r.rem.length = s.rem.length then bW a r else bW b r
 | .call x,s => rec (body x) s
 | .sel f c,s => bW (c (f (aO s.rem) (aO (left s.rem)))) s
def run : Nat → Cmd → S → Option S
 | 0 => bW body fun _ _ => none
 | n + 1 => bW body (run n)
end
def nQ : ByteArray := ⟨#[117,115,101,32,112,117,98,32,102,110,32,115,116,114,117,99,116,32,101,110,117,109,32,116,114,97,105,116,32,105,109,112,108,32,99,111,110,115,116,32,109,97,99,114,111]⟩
def jL : ByteArray := ⟨#[117,115,101,32,102,110,32,115,116,114,117,99,116,32,101,110,117,109,32,116,114,97,105,116,32,105,109,112,108,32,99,111,110,115,116,32,109,97,99,114,111]⟩
def aV (l : List ByteArray) (t : Tok) : Bool := (t.1 == 104 || t.1 == 107) && Lib.containsS l t.2
def cE (l : List ByteArray) : Test := fun t _ _ _ => aV l t
def eR : List ByteArray := (Lib.fields (nQ).data.toList).map fun l => ⟨l.toArray⟩
def fX : List ByteArray := (Lib.fields (jL).data.toList).map fun l => ⟨l.toArray⟩
def kX (t : Tok) : Bool := aV eR t && !aV [⟨#[102,110]⟩] t
def cB : Test := fun t _ _ _ => t.1 == 103
namespace Cmd
def sH : Cmd := .leaf 108
def mS : Cmd := .leaf 46
def sI : Cmd := .leaf 0
def acc (x : ByteArray) : Cmd := .cond (cE [x]) .bump .skip
def exp (x : ByteArray) : Cmd := .cond (cE [x]) .bump sH
def expIdent : Cmd := .cond cB .bump sH
def opt (x : ByteArray) (c : Cmd) : Cmd := .cond (cE [x]) (.seq .bump c) sI
def unexpected : Cmd := .node 46 .bump
def fJ : List Cmd → Cmd
 | [] => .skip
 | [c] => c
 | c :: l => .seq c (fJ l)
def list (cl : ByteArray) (el : Cmd) : Cmd :=
 .seq (.loop (fun t _ _ _ => !aV [cl] t && t.1 != 100 && !kX t) (.prog el unexpected (.cond (cE [cl]) .skip (exp ⟨#[44]⟩)))) (exp cl)
def expr : Cmd := .call (.binary 0)
end Cmd
open Cmd
def aY : Nat → List ByteArray
 | 0 => [⟨#[124,124]⟩]
 | 1 => [⟨#[38,38]⟩]
 | 2 => [⟨#[61,61]⟩,⟨#[60]⟩]
 | 3 => [⟨#[43]⟩,⟨#[45]⟩]
 | _ => [⟨#[42]⟩,⟨#[47]⟩]
def eF (x : ByteArray) : Int := let i := Lib.idxOfS fX x; if i < 0 then 0 else 2 + i
def cY (t u : Tok) : Int := let x := if aV [⟨#[112,117,98]⟩] t then u else t; if eF x.2 == 0 || x.1 != 104 then 0 else eF x.2
def jM (blk : Bool) : Cmd :=
 .cond (cE [⟨#[125]⟩]) (.flag true) (.seq (.cond (cE [⟨#[61]⟩]) (.wrap 23 (fJ [.bump,expr,exp ⟨#[59]⟩])) (.wrap 26 (.cond (cE [⟨#[59]⟩]) .bump (if blk then .skip else sH)))) (.flag false))
def sJ : Cmd := fJ [.drop,unexpected,.flag false]
def fT (t : Tok) : Bool := t.1 == 103 || t.1 == 105 || aV [⟨#[116,114,117,101]⟩,⟨#[102,97,108,115,101]⟩,⟨#[109,117,116]⟩] t
def seg (inType : Bool) : Cmd := .node 18 (.seq expIdent (if inType then .cond (cE [⟨#[60]⟩]) (.seq .bump (list ⟨#[62]⟩ (.call .typeExpr))) .skip else .skip))
def body : Nm → Cmd
 | .block => .node 21 (fJ [exp ⟨#[123]⟩,.flag false,.loop (fun t _ _ f => !f && !aV [⟨#[125]⟩] t && t.1 != 100 && !aV eR t) (.call .statement),.cond (fun _ _ _ f => f) .skip sI,exp ⟨#[125]⟩])
 | .statement => .cond (cE [⟨#[108,101,116]⟩]) (.seq (.node 22 (.call .letS)) (.flag false)) (.cond (cE [⟨#[119,104,105,108,101]⟩]) (.seq (.node 24 (fJ [.bump,expr,.call .block])) (.flag false)) (.cond (cE [⟨#[114,101,116,117,114,110]⟩]) (.seq (.node 25 (.call .returnS)) (.flag false))
   (.cond (cE [⟨#[105,102]⟩,⟨#[109,97,116,99,104]⟩,⟨#[123]⟩]) (.prog (.call .primary) sJ (jM true)) (.prog expr sJ (jM false)))))
 | .letS => fJ [.bump,.call .pattern,opt ⟨#[58]⟩ (.call .typeExpr),exp ⟨#[61]⟩,expr,exp ⟨#[59]⟩]
 | .returnS => fJ [.bump,.cond (cE [⟨#[59]⟩]) sI expr,exp ⟨#[59]⟩]
 | .binary n => if n = 5 then .call .unary else .seq (.call (.binary (n + 1))) (if n = 2 then .cond (cE (aY n)) (.wrap 39 (.seq .bump (.call (.binary (n + 1))))) .skip else .loop (cE (aY n)) (.wrap 39 (.seq .bump (.call (.binary (n + 1))))))
 | .unary => .cond (cE [⟨#[45]⟩,⟨#[33]⟩,⟨#[42]⟩]) (.node 40 (.seq .bump (.call .unary))) (.cond (cE [⟨#[38]⟩]) (.node 41 (fJ [.bump,acc ⟨#[109,117,116]⟩,.call .unary])) (.seq (.call .primary) (.call .postE)))
 | .arguments => .seq .bump (list ⟨#[41]⟩ expr)
 | .postE => .loop (cE [⟨#[40]⟩,⟨#[46]⟩]) (.cond (cE [⟨#[40]⟩]) (.wrap 30 (.call .arguments)) (.cond (fun _ t u _ => t.1 == 103 && aV [⟨#[40]⟩] u) (.wrap 31 (fJ [.bump,.bump,.call .arguments])) (.wrap 32 (.seq .bump expIdent))))
 | .primary => .cond (fun t _ _ _ => t.1 == 105) (.node 27 .bump) (.cond (fun t _ _ _ => t.1 == 106) (.node 29 .bump) (.cond (cE [⟨#[116,114,117,101]⟩,⟨#[102,97,108,115,101]⟩]) (.node 28 .bump) (.cond cB (.seq (.call (.path false)) (.cond (fun t u _ _ => aV [⟨#[33]⟩] t && aV [⟨#[40]⟩] u) (.wrap 42 (.seq .bump (.call .arguments))) .skip))
   (.cond (cE [⟨#[40]⟩]) (.node 60 (fJ [.bump,expr,exp ⟨#[41]⟩])) (.cond (cE [⟨#[123]⟩]) (.call .block) (.cond (cE [⟨#[105,102]⟩]) (.call .ifExpr) (.cond (cE [⟨#[109,97,116,99,104]⟩]) (.node 35 (.call .matchE)) (.cond (cE [⟨#[110,101,119]⟩]) (.node 33 (.call .structLit)) (.cond (cE [⟨#[124]⟩,⟨#[124,124]⟩]) (.node 38 (.call .lambda)) mS)))))))))
 | .ifExpr => .node 37 (fJ [.bump,expr,.call .block,opt ⟨#[101,108,115,101]⟩ (.cond (cE [⟨#[105,102]⟩]) (.call .ifExpr) (.call .block))])
 | .matchE => fJ [.bump,expr,exp ⟨#[123]⟩,list ⟨#[125]⟩ (.cond (fun t _ _ _ => fT t) (.node 36 (fJ [.call .pattern,exp ⟨#[61,62]⟩,expr])) .skip)]
 | .structLit => fJ [.bump,.call (.path false),exp ⟨#[123]⟩,list ⟨#[125]⟩ (.cond cB (.node 34 (fJ [.bump,exp ⟨#[58]⟩,expr])) .skip)]
 | .lambda => .seq (.cond (cE [⟨#[124,124]⟩]) (.seq .bump (.node 12 .skip)) (.seq .bump (.call (.params ⟨#[124]⟩)))) expr
 | .pattern => .cond (cE [⟨#[109,117,116]⟩]) (.node 44 (.seq .bump expIdent)) (.cond (fun t _ _ _ => t.1 == 103 && decide (t.2 = ⟨#[95]⟩)) (.node 43 .bump) (.cond (fun t u _ _ => t.1 == 103 && !aV [⟨#[40]⟩,⟨#[58,58]⟩] u) (.node 44 .bump)
   (.cond cB (.node 45 (.seq (.call (.path false)) (.cond (cE [⟨#[40]⟩]) (.seq .bump (list ⟨#[41]⟩ (.call .pattern))) .skip))) (.cond (fun t _ _ _ => t.1 == 105) (.node 27 .bump) (.cond (cE [⟨#[116,114,117,101]⟩,⟨#[102,97,108,115,101]⟩]) (.node 28 .bump) mS)))))
 | .item => .sel cY fun k => if k = 0 then .call .skipTo else .node k (fJ [acc ⟨#[112,117,98]⟩,.bump,.call (.itemBody k)])
 | .skipTo => .node 46 (.seq .bump (.loop (fun t _ _ _ => t.1 != 100 && !aV eR t) .bump))
 | .itemBody k => if k = 2 then .call .use else if k = 3 then .call (.function true) else if k = 4 ∨ k = 5 then .call (.dataType k) else if k = 6 then .seq expIdent (.call .members) else if k = 7 then .call .impl
   else if k = 8 then fJ [expIdent,exp ⟨#[58]⟩,.call .typeExpr,exp ⟨#[61]⟩,expr,exp ⟨#[59]⟩] else if k = 9 then fJ [expIdent,exp ⟨#[40]⟩,.call (.params ⟨#[41]⟩),exp ⟨#[61]⟩,expr,exp ⟨#[59]⟩] else .skip
 | .use => fJ [.node 17 (.seq (.node 18 expIdent) (.loop (fun t u _ _ => aV [⟨#[58,58]⟩] t && !aV [⟨#[42]⟩] u) (.seq .bump (.node 18 expIdent)))),.cond (cE [⟨#[58,58]⟩]) (.seq .bump .bump) (.cond (cE [⟨#[97,115]⟩]) (.seq .bump expIdent) .skip),exp ⟨#[59]⟩]
 | .typeParams => .node 10 (.cond (cE [⟨#[60]⟩]) (.seq .bump (list ⟨#[62]⟩ (.call .typeParam))) .skip)
 | .typeParam => .cond cB (.node 11 (.seq .bump (.cond (cE [⟨#[58]⟩]) (fJ [.bump,.call (.path true),.loop (cE [⟨#[43]⟩]) (.seq .bump (.call (.path true)))]) .skip))) .skip
 | .params cl => .node 12 (list cl (.cond cB (.node 13 (.seq .bump (opt ⟨#[58]⟩ (.call .typeExpr)))) .skip))
 | .function b => fJ [expIdent,.call .typeParams,exp ⟨#[40]⟩,.call (.params ⟨#[41]⟩),opt ⟨#[45,62]⟩ (.call .typeExpr),if b then .call .block else .cond (cE [⟨#[59]⟩]) (.seq .bump sI) (.call .block)]
 | .dataType k => fJ [expIdent,.call .typeParams,exp ⟨#[123]⟩,list ⟨#[125]⟩ (.cond cB (if k = 4 then .node 14 (fJ [.bump,exp ⟨#[58]⟩,.call .typeExpr]) else .node 15 (.seq .bump (.cond (cE [⟨#[40]⟩]) (.seq .bump (list ⟨#[41]⟩ (.call .typeExpr))) .skip))) .skip)]
 | .members => fJ [exp ⟨#[123]⟩,.loop (cE [⟨#[116,121,112,101]⟩,⟨#[102,110]⟩]) (.cond (cE [⟨#[102,110]⟩]) (.node 3 (.seq .bump (.call (.function false)))) (.node 16 (fJ [.bump,expIdent,opt ⟨#[61]⟩ (.call .typeExpr),exp ⟨#[59]⟩]))),exp ⟨#[125]⟩]
 | .impl => fJ [.call .typeParams,.call .typeExpr,.cond (cE [⟨#[102,111,114]⟩]) (.seq .bump (.call .typeExpr)) .before,.call .members]
 | .path b => .node 17 (.seq (seg b) (.loop (cE [⟨#[58,58]⟩]) (.seq .bump (seg b))))
 | .typeExpr => .cond (cE [⟨#[38]⟩]) (.node 19 (fJ [.bump,acc ⟨#[109,117,116]⟩,.call .typeExpr])) (.cond (cE [⟨#[102,110]⟩]) (.node 20 (fJ [.bump,exp ⟨#[40]⟩,list ⟨#[41]⟩ (.call .typeExpr),opt ⟨#[45,62]⟩ (.call .typeExpr)])) (.cond cB (.call (.path true)) mS))
def uE : Cmd := .seq (.loop (fun t _ _ _ => t.1 != 100) (.call .item)) .bump
end Go.Proofs.YtlndmiegodcfjaaGreatDoor.Par
namespace Go.Proofs.YtlndmiegodcfjaaGreatDoor.Par
theorem rF {body : Nm → Cmd} {r1 r2 : Cmd → S → Option S} (h : ∀ c s x,r1 c s = some x → r2 c s = some x) : ∀ c s x,bW body r1 c s = some x → bW body r2 c s = some x := by
 intro c
 induction c with
 | skip | bump | drop | flag b | leaf k => intro s x hx; simpa only [bW] using hx
 | before => intro s x hx; simpa only [bW] using hx
 | seq a b iha ihb =>
  intro s x hx;simp only [bW,Option.bind_eq_some_iff] at hx ⊢;obtain ⟨r,h1,h2⟩ := hx;exact ⟨r,iha _ _ h1,ihb _ _ h2⟩
 | node k c ih =>
  intro s x hx;simp only [bW,Option.map_eq_some_iff] at hx ⊢;obtain ⟨r,h1,h2⟩ := hx;exact ⟨r,ih _ _ h1,h2⟩
 | wrap k c ih =>
  intro s x hx;simp only [bW] at hx ⊢
  split at hx
  ·simp only [Option.map_eq_some_iff] at hx ⊢
   obtain ⟨r,h1,h2⟩ := hx;exact ⟨r,ih _ _ h1,h2⟩
  ·cases hx
 | cond t a b iha ihb =>
  intro s x hx;simp only [bW] at hx ⊢
  split at hx
  ·rename_i h; rw [if_pos h]; exact iha _ _ hx
  ·rename_i h; rw [if_neg h]; exact ihb _ _ hx
 | loop t c ih =>
  intro s x hx;simp only [bW] at hx ⊢
  split at hx
  ·rename_i h1; rw [if_pos h1]
   simp only [Option.bind_eq_some_iff] at hx ⊢;obtain ⟨r,h2,h3⟩ := hx;exact ⟨r,ih _ _ h2,h _ _ _ h3⟩
  ·rename_i h1; rw [if_neg h1]; exact hx
 | prog c a b ihc iha ihb =>
  intro s x hx;simp only [bW,Option.bind_eq_some_iff] at hx ⊢;obtain ⟨r,h1,h2⟩ := hx;refine ⟨r,ihc _ _ h1,?_⟩
  split at h2
  ·rename_i h; rw [if_pos h]; exact iha _ _ h2
  ·rename_i h; rw [if_neg h]; exact ihb _ _ h2
 | call x => intro s x hx; exact h _ _ _ hx
 | sel f c ih => intro s x hx; exact ih _ _ _ hx
theorem uF {c : Cmd} {s x : S} : ∀ {n},run body n c s = some x → run body (n + 1) c s = some x
 | 0,h => rF (by intro _ _ _ h; cases h) c s x h
 | n + 1,h => rF (fun c s x h => uF (n := n) h) c s x h
theorem dT {c : Cmd} {s x : S} {n m : Nat} (h : n ≤ m) (hr : run body n c s = some x) : run body m c s = some x := by
 induction h with
 | refl => exact hr
 | step _ ih => exact uF ih
theorem pD {c : Cmd} {s x y : S} {n m : Nat} (h : run body n c s = some x) (h' : run body m c s = some y) : x = y := by
 have h1 := dT (Nat.le_max_left n m) h;have h2 := dT (Nat.le_max_right n m) h';exact Option.some.inj (h1.symm.trans h2)
def T (c : Cmd) (s : S) (Q : S → Prop) : Prop := ∃ n r,run body n c s = some r ∧ Q r
theorem T.mono {c : Cmd} {s : S} {Q R : S → Prop} (h : T c s Q) (hq : ∀ r,Q r → R r) : T c s R := by
 obtain ⟨n,r,h1,h2⟩ := h;exact ⟨n,r,h1,hq r h2⟩
theorem T.skip {s : S} {Q : S → Prop} (h : Q s) : T .skip s Q := ⟨0,s,rfl,h⟩
theorem T.bump {s : S} {Q : S → Prop} (h : Q s.bump) : T .bump s Q := ⟨0,_,rfl,h⟩
theorem T.drop {s : S} {Q : S → Prop} (h : Q { s with kids := s.kids.dropLast }) : T .drop s Q := ⟨0,_,rfl,h⟩
theorem T.flag {s : S} {b : Bool} {Q : S → Prop} (h : Q { s with flag := b }) : T (.flag b) s Q := ⟨0,_,rfl,h⟩
theorem T.leaf {s : S} {k : Int} {Q : S → Prop} (h : Q (s.add (.leaf k))) : T (.leaf k) s Q := ⟨0,_,rfl,h⟩
theorem T.before {s : S} {t : Tr} {l : List Tr} {Q : S → Prop} (hk : s.kids = l ++ [t]) (h : Q { s with kids := l ++ [.leaf 0,t],adds := s.adds + 1 }) : T .before s Q :=
 ⟨0,_,by simp [run,bW,hk],h⟩
theorem Es {a b : Cmd} {s r x : S} {n m : Nat} (h1 : run body n a s = some r) (h2 : run body m b r = some x) : run body (max n m) (.seq a b) s = some x := by
 have h1 := dT (Nat.le_max_left n m) h1;have h2 := dT (Nat.le_max_right n m) h2
 cases hk : max n m <;> rw [hk] at h1 h2 <;> simp only [run,bW] at h1 h2 ⊢ <;> rw [h1] <;> exact h2
theorem T.seq {a b : Cmd} {s : S} {Q : S → Prop} (h : T a s fun r => T b r Q) : T (.seq a b) s Q := by
 obtain ⟨n,r,h1,m,x,h2,h3⟩ := h;exact ⟨_,x,Es h1 h2,h3⟩
theorem T.node {k : Int} {c : Cmd} {s : S} {Q : S → Prop} (h : T c { s with kids := [],adds := s.adds + 1 } fun r => Q { r with kids := s.kids ++ [.mk k fS r.kids] }) : T (.node k c) s Q := by
 obtain ⟨n,r,h1,h2⟩ := h;refine ⟨n,_,?_,h2⟩
 cases n <;> simp only [run,bW] at h1 ⊢ <;> rw [h1] <;> rfl
theorem T.wrap {k : Int} {c : Cmd} {s : S} {t : Tr} {l : List Tr} {Q : S → Prop} (hk : s.kids = l ++ [t]) (h : T c { s with kids := [t],adds := s.adds + 1 } fun r => Q { r with kids := l ++ [.mk k fS r.kids] }) : T (.wrap k c) s Q := by
 obtain ⟨n,r,h1,h2⟩ := h;refine ⟨n,_,?_,h2⟩;have e1 : s.kids.getLast? = some t := by rw [hk]; simp
 have e2 : s.kids.dropLast = l := by rw [hk]; simp
 cases n <;> simp only [run,bW,e1,e2] at h1 ⊢ <;> rw [h1] <;> rfl
theorem T.cond {t : Test} {a b : Cmd} {s : S} {Q : S → Prop} (h1 : s.test t = true → T a s Q) (h2 : s.test t = false → T b s Q) : T (.cond t a b) s Q := by
 cases ht : s.test t
 ·obtain ⟨n,r,e,q⟩ := h2 ht
  exact ⟨n,r,by cases n <;> simp only [run,bW,ht] at e ⊢ <;> simpa using e,q⟩
 ·obtain ⟨n,r,e,q⟩ := h1 ht
  exact ⟨n,r,by cases n <;> simp only [run,bW,ht] at e ⊢ <;> simpa using e,q⟩
theorem T.prog {c a b : Cmd} {s : S} {Q : S → Prop} (h : T c s fun r => (r.rem.length = s.rem.length → T a r Q) ∧ (r.rem.length ≠ s.rem.length → T b r Q)) : T (.prog c a b) s Q := by
 obtain ⟨n,r,h1,h2,h3⟩ := h
 by_cases he : r.rem.length = s.rem.length
 ·obtain ⟨m,x,h4,h5⟩ := h2 he
  refine ⟨max n m,x,?_,h5⟩;have h1 := dT (Nat.le_max_left n m) h1;have h4 := dT (Nat.le_max_right n m) h4
  cases hk : max n m <;> rw [hk] at h1 h4 <;> simp only [run,bW] at h1 h4 ⊢ <;> rw [h1] <;> simpa [he] using h4
 ·obtain ⟨m,x,h4,h5⟩ := h3 he
  refine ⟨max n m,x,?_,h5⟩;have h1 := dT (Nat.le_max_left n m) h1;have h4 := dT (Nat.le_max_right n m) h4
  cases hk : max n m <;> rw [hk] at h1 h4 <;> simp only [run,bW] at h1 h4 ⊢ <;> rw [h1] <;> simpa [he] using h4
theorem T.call {x : Nm} {s : S} {Q : S → Prop} (h : T (body x) s Q) : T (.call x) s Q := by
 obtain ⟨n,r,h1,h2⟩ := h;exact ⟨n + 1,r,h1,h2⟩
theorem T.sel {f : Tok → Tok → Int} {c : Int → Cmd} {s : S} {Q : S → Prop} (h : T (c (f (aO s.rem) (aO (left s.rem)))) s Q) : T (.sel f c) s Q := by
 obtain ⟨n,r,h1,h2⟩ := h;exact ⟨n,r,by cases n <;> exact h1,h2⟩
theorem T.loopF {t : Test} {c : Cmd} {s : S} {Q : S → Prop} (h : s.test t = false) (hq : Q s) : T (.loop t c) s Q := ⟨0,s,by simp [run,bW,h],hq⟩
theorem T.loopT {t : Test} {c : Cmd} {s : S} {Q : S → Prop} (h : s.test t = true) (hc : T c s fun r => T (.loop t c) r Q) : T (.loop t c) s Q := by
 obtain ⟨n,r,h1,m,x,h2,h3⟩ := hc;refine ⟨max n m + 1,x,?_,h3⟩;have h1 := dT (Nat.le_succ_of_le (Nat.le_max_left n m)) h1;have h2 := dT (Nat.le_max_right n m) h2;simp only [run,bW] at h1 ⊢;simp [h,h1,h2]
mutual
def Tr.txt : Tr → List UInt8
 | .mk _ t ks => t.data.toList ++ gK ks
def gK : List Tr → List UInt8
 | [] => []
 | t :: l => t.txt ++ gK l
end
mutual
def Tr.cnt : Tr → Nat
 | .mk _ _ ks => fN ks + 1
def fN : List Tr → Nat
 | [] => 0
 | t :: l => t.cnt + fN l
end
mutual
def Tr.dep : Tr → Nat
 | .mk _ _ ks => jG ks + 1
def jG : List Tr → Nat
 | [] => 0
 | t :: l => max t.dep (jG l)
end
mutual
def Tr.wf : Tr → Prop
 | .mk k t ks => (100 < k ∧ ks = []) ∨ (0 ≤ k ∧ k < 100 ∧ t = fS ∧ qQ ks)
def qQ : List Tr → Prop
 | [] => True
 | t :: l => t.wf ∧ qQ l
end
theorem Bo (a b : List Tr) : gK (a ++ b) = gK a ++ gK b := by
 induction a with
 | nil => simp [gK]
 | cons t a ih => simp [gK,ih]
theorem Bp (a b : List Tr) : fN (a ++ b) = fN a + fN b := by
 induction a with
 | nil => simp [fN]
 | cons t a ih => simp [fN,ih]; omega
theorem Bq (a b : List Tr) : jG (a ++ b) = max (jG a) (jG b) := by
 induction a with
 | nil => simp [jG]
 | cons t a ih => simp [jG,ih,Nat.max_assoc]
theorem Et {a b : List Tr} : qQ (a ++ b) ↔ qQ a ∧ qQ b := by
 induction a with
 | nil => simp [qQ]
 | cons t a ih => simp [qQ,ih,and_assoc]
def B (l : List Tok) : Nat := (l.map fun t => t.2.size).sum
def tt (l : List Tok) : List UInt8 := l.flatMap fun t => t.2.data.toList
def V (l : List Tok) : Prop := ∀ t ∈ l,0 < t.2.size ∧ 100 < t.1
theorem yM (a b : List Tok) : B (a ++ b) = B a + B b := by simp [B]
theorem Br (a b : List Tok) : tt (a ++ b) = tt a ++ tt b := by simp [tt]
theorem pE {a b : List Tok} (h : V (a ++ b)) : V a ∧ V b := ⟨fun t ht => h t (List.mem_append_left _ ht),fun t ht => h t (List.mem_append_right _ ht)⟩
theorem eY : ∀ l : List Tok,fE l ++ left l = l
 | [] => rfl
 | t :: l => by
  simp only [fE,left]
  split
  ·simp [eY l]
  ·simp
theorem uG (l : List Tok) : gK (l.map .tok) = tt l := by
 induction l with
 | nil => rfl
 | cons t l ih => simp [gK,Tr.tok,Tr.txt,tt,ih]
theorem uH (l : List Tok) : fN (l.map .tok) = l.length := by
 induction l with
 | nil => rfl
 | cons t l ih => simp [fN,Tr.tok,Tr.cnt,ih]; omega
theorem uI (l : List Tok) : jG (l.map .tok) ≤ 1 := by
 induction l with
 | nil => simp [jG]
 | cons t l ih => simp [jG,Tr.tok,Tr.dep,ih]
theorem yN {l : List Tok} (h : V l) : qQ (l.map .tok) := by
 induction l with
 | nil => trivial
 | cons t l ih => exact ⟨.inl ⟨(h t List.mem_cons_self).2,rfl⟩,ih fun u hu => h u (List.mem_cons_of_mem _ hu)⟩
theorem G5 {l : List Tok} (h : V l) : l.length ≤ B l := by
 induction l with
 | nil => simp [B]
 | cons t l ih =>
  have h1 := (h t List.mem_cons_self).1;have h2 := ih fun u hu => h u (List.mem_cons_of_mem _ hu);simp [B] at h2 ⊢;omega
theorem mD {l : List Tok} (h : (aO l).1 ≠ 100) : aO l ∈ fE l := by
 induction l with
 | nil => exact absurd rfl h
 | cons t l ih =>
  simp only [aO,fE] at h ⊢
  split <;> rename_i ht
  ·rw [if_pos ht] at h; exact List.mem_cons_of_mem _ (ih h)
  ·exact List.mem_cons_self
theorem Hn {l : List Tok} {t : Tok} (h : t ∈ l) : t.2.size ≤ B l := by
 induction l with
 | nil => cases h
 | cons u l ih =>
  simp only [B,List.map_cons,List.sum_cons]
  rcases List.mem_cons.1 h with rfl | h
  ·omega
  ·have := ih h
   simp only [B] at this;omega
structure Pr where
 k : Int
 d : Int
 s : Int
 e : Int
structure G (p : Pr) (s r : S) (new : List Tr) : Prop where
 kids : r.kids = s.kids ++ new
 suf : ∃ u,s.rem = u ++ r.rem ∧ gK new = tt u
 con : (B r.rem : Int) + p.k ≤ B s.rem
 c0 : B r.rem = B s.rem → (r.adds : Int) ≤ s.adds + p.d
 c1 : B r.rem < B s.rem → (r.adds : Int) + 24 * B r.rem + p.s ≤ s.adds + 24 * B s.rem
 cn : fN new + s.adds ≤ r.adds
 dep : (jG new : Int) + 2 * B r.rem ≤ 2 * B s.rem + p.e
 wf : qQ new
theorem G.le {p : Pr} {s r : S} {new : List Tr} (h : G p s r new) : B r.rem ≤ B s.rem := by
 obtain ⟨u,h1,_⟩ := h.suf;rw [h1,yM]; omega
theorem G.val {p : Pr} {s r : S} {new : List Tr} (h : G p s r new) (hv : V s.rem) : V r.rem := by
 obtain ⟨u,h1,_⟩ := h.suf;rw [h1] at hv;exact (pE hv).2
def Pr.seq (a b : Pr) : Pr := ⟨a.k + b.k,(if 1 ≤ a.k + b.k then 0 else a.d + b.d),min (a.s + b.s) (min (if b.k ≤ 0 then a.s - b.d else a.s + b.s) (if a.k ≤ 0 then b.s - a.d else a.s + b.s)),max a.e (b.e - 2 * a.k)⟩
theorem G.seq {p q : Pr} {s r x : S} {l m : List Tr} (h : G p s r l) (h' : G q r x m) : G (p.seq q) s x (l ++ m) := by
 have l1 := h.le;have l2 := h'.le;have a1 := h.con;have a2 := h'.con;refine ⟨by rw [h'.kids,h.kids,List.append_assoc],?_,?_,?_,?_,by rw [Bp]; have := h.cn; have := h'.cn; omega,?_,Et.2 ⟨h.wf,h'.wf⟩⟩
 ·obtain ⟨u,h1,h2⟩ := h.suf
  obtain ⟨v,h3,h4⟩ := h'.suf;exact ⟨u ++ v,by rw [h1,h3,List.append_assoc],by rw [Bo,Br,h2,h4]⟩
 ·simp only [Pr.seq]; omega
 ·intro he
  have := h.c0 (by omega);have := h'.c0 (by omega);simp only [Pr.seq];rw [if_neg (by omega)];omega
 ·intro he
  simp only [Pr.seq]
  rcases Nat.lt_or_ge (B r.rem) (B s.rem) with c | c <;> rcases Nat.lt_or_ge (B x.rem) (B r.rem) with c' | c'
  ·have := h.c1 c
   have := h'.c1 c';omega
  ·have := h.c1 c
   have := h'.c0 (by omega);have : q.k ≤ 0 := by omega
   rw [if_pos this];omega
  ·have := h.c0 (by omega)
   have := h'.c1 c';have : p.k ≤ 0 := by omega
   rw [if_pos this];omega
  ·omega
 ·have := h.dep
  have := h'.dep;rw [Bq];simp only [Pr.seq];omega
def Pr.le (p q : Pr) : Prop := q.k ≤ p.k ∧ (1 ≤ p.k ∨ p.d ≤ q.d) ∧ q.s ≤ p.s ∧ p.e ≤ q.e
instance (p q : Pr) : Decidable (p.le q) := by unfold Pr.le; infer_instance
theorem G.weak {p q : Pr} {s r : S} {l : List Tr} (h : G p s r l) (hq : p.le q) : G q s r l := by
 obtain ⟨h1,h2,h3,h4⟩ := hq;refine ⟨h.kids,h.suf,?_,fun c => ?_,fun c => ?_,h.cn,?_,h.wf⟩
 ·have := h.con; omega
 ·have := h.c0 c; have := h.con; omega
 ·have := h.c1 c; omega
 ·have := h.dep; omega
theorem G.refl (s : S) (b : Bool) : G ⟨0,0,1000,0⟩ s { s with flag := b } [] := ⟨by simp,⟨[],rfl,rfl⟩,by simp,by simp,by simp,by simp [fN],by simp [jG],trivial⟩
def J (c : Cmd) (s : S) (p : Pr) : Prop := T c s fun r => ∃ new,G p s r new
def J1 (c : Cmd) (s : S) (p : Pr) : Prop := T c s fun r => ∃ t,G p s r [t]
theorem J1.j {c : Cmd} {s : S} {p : Pr} (h : J1 c s p) : J c s p := T.mono h fun r ⟨t,h⟩ => ⟨_,h⟩
theorem J.weak {c : Cmd} {s : S} {p q : Pr} (h : J c s p) (hq : p.le q) : J c s q := T.mono h fun r ⟨t,h⟩ => ⟨t,h.weak hq⟩
theorem J1.weak {c : Cmd} {s : S} {p q : Pr} (h : J1 c s p) (hq : p.le q) : J1 c s q := T.mono h fun r ⟨t,h⟩ => ⟨t,h.weak hq⟩
theorem J.seq {a b : Cmd} {s : S} {p q : Pr} (hv : V s.rem) (h : J a s p) (h' : ∀ r,V r.rem → (B r.rem : Int) + p.k ≤ B s.rem → B r.rem ≤ B s.rem → J b r q) : J (.seq a b) s (p.seq q) :=
 T.seq (T.mono h fun r ⟨l,g⟩ => T.mono (h' r (g.val hv) g.con g.le) fun x ⟨m,g'⟩ => ⟨l ++ m,g.seq g'⟩)
theorem J.skip {s : S} : J .skip s ⟨0,0,1000,0⟩ := T.skip ⟨[],G.refl s s.flag⟩
theorem J.flag {s : S} {b : Bool} : J (.flag b) s ⟨0,0,1000,0⟩ := T.flag ⟨[],G.refl s b⟩
theorem J1.leaf {s : S} {k : Int} (hk : 0 ≤ k ∧ k ≠ 100) : J1 (.leaf k) s ⟨0,1,1000,1⟩ := T.leaf ⟨.leaf k,rfl,⟨[],rfl,rfl⟩,by simp [S.add],by simp [S.add],by simp [S.add],by simp [S.add,fN,Tr.leaf,Tr.cnt]; omega,by simp [jG,Tr.leaf,Tr.dep,S.add]; omega,by
 by_cases h : 100 < k
 ·exact ⟨.inl ⟨h,rfl⟩,trivial⟩
 ·exact ⟨.inr ⟨hk.1,by omega,rfl,trivial⟩,trivial⟩⟩
theorem J.bump {s : S} (hv : V s.rem) : J .bump s ⟨0,0,23,1⟩ := by
 refine T.bump ⟨(fE s.rem).map .tok,rfl,⟨fE s.rem,(eY _).symm,uG _⟩,?_,?_,?_,?_,?_,?_⟩
 all_goals
  have h0 := eY s.rem;have h1 := congrArg B h0;rw [yM] at h1;have h2 := h0 ▸ hv;have h3 := G5 (pE h2).1;have h4 := uI (fE s.rem);have h5 := uH (fE s.rem)
 ·simp [S.bump]; omega
 ·intro h; simp [S.bump] at h ⊢; omega
 ·intro h; simp [S.bump] at h ⊢; omega
 ·simp [S.bump]; omega
 ·simp [S.bump]; omega
 ·exact yN (pE h2).1
theorem J.bumpK {s : S} (hv : V s.rem) {k : Nat} (h : (aO s.rem).1 ≠ 100) (hk : k ≤ (aO s.rem).2.size) : J .bump s ⟨k,0,23 * k,1 - 2 * k⟩ := by
 have h0 := eY s.rem;have h1 := congrArg B h0;rw [yM] at h1;have h2 := h0 ▸ hv;have h3 := G5 (pE h2).1;have h4 := uI (fE s.rem);have h5 := uH (fE s.rem);have h6 := Hn (mD h);have h7 := ((pE h2).1 _ (mD h)).1;refine T.bump ⟨(fE s.rem).map .tok,rfl,⟨fE s.rem,(eY _).symm,uG _⟩,?_,?_,?_,by simp [S.bump]; omega,?_,yN (pE h2).1⟩
 ·simp [S.bump]; omega
 ·intro h; simp [S.bump] at h ⊢; omega
 ·intro h; simp [S.bump] at h ⊢; omega
 ·simp [S.bump]; omega
theorem J.bump1 {s : S} (hv : V s.rem) (h : (aO s.rem).1 ≠ 100) : J .bump s ⟨1,0,23,-1⟩ := by
 have h0 := eY s.rem;have h2 := h0 ▸ hv;exact J.bumpK (k := 1) hv h ((pE h2).1 _ (mD h)).1
def Pr.node (p : Pr) : Pr := ⟨p.k,p.d + 1,p.s - 1,p.e + 1⟩
theorem J1.node {k : Int} {c : Cmd} {s : S} {p : Pr} (hk : 0 ≤ k ∧ k < 100) (h : J c { s with kids := [],adds := s.adds + 1 } p) : J1 (.node k c) s p.node := by
 refine T.node (T.mono h fun r ⟨l,g⟩ => ⟨.mk k fS r.kids,rfl,?_,g.con,?_,?_,?_,?_,?_⟩)
 all_goals
  have e : r.kids = l := by have := g.kids; simpa using this
  rw [e]
 ·obtain ⟨u,h1,h2⟩ := g.suf
  exact ⟨u,h1,by simp [gK,Tr.txt,fS,h2]⟩
 ·intro c; have := g.c0 c; simp [Pr.node] at this ⊢; omega
 ·intro c; have := g.c1 c; simp [Pr.node] at this ⊢; omega
 ·have := g.cn; simp [fN,Tr.cnt] at this ⊢; omega
 ·have := g.dep; simp [jG,Tr.dep,Pr.node] at this ⊢; omega
 ·exact ⟨.inr ⟨hk.1,hk.2,rfl,g.wf⟩,trivial⟩
def Pr.dd (p : Pr) : Int := if 1 ≤ p.k then 0 else p.d
def Pr.alt (p q : Pr) : Pr := ⟨min p.k q.k,max p.dd q.dd,min p.s q.s,max p.e q.e⟩
theorem Pr.dd_le (p : Pr) : 1 ≤ p.k ∨ p.d ≤ p.dd := by
 unfold Pr.dd
 split <;> omega
theorem Pr.alt_l (p q : Pr) : p.le (p.alt q) := by
 have := p.dd_le;exact ⟨Int.min_le_left _ _,this.imp id fun h => Int.le_trans h (Int.le_max_left _ _),Int.min_le_left _ _,Int.le_max_left _ _⟩
theorem Pr.alt_r (p q : Pr) : q.le (p.alt q) := by
 have := q.dd_le;exact ⟨Int.min_le_right _ _,this.imp id fun h => Int.le_trans h (Int.le_max_right _ _),Int.min_le_right _ _,Int.le_max_right _ _⟩
theorem J.cond {t : Test} {a b : Cmd} {s : S} {p q : Pr} (h1 : s.test t = true → J a s p) (h2 : s.test t = false → J b s q) : J (.cond t a b) s (p.alt q) :=
 T.cond (fun h => (h1 h).weak (Pr.alt_l p q)) (fun h => (h2 h).weak (Pr.alt_r p q))
theorem iB {l : List ByteArray} {t : Tok} (h : aV l t = true) : t.1 ≠ 100 := by
 simp only [aV,Bool.and_eq_true,Bool.or_eq_true,beq_iff_eq] at h;omega
theorem cO {l : List ByteArray} {s : S} (h : s.test (cE l) = true) : (aO s.rem).1 ≠ 100 := iB h
theorem gW {s : S} (h : s.test cB = true) : (aO s.rem).1 ≠ 100 := by
 simp only [S.test,cB,beq_iff_eq] at h;omega
theorem J.exp {s : S} {x : ByteArray} (hv : V s.rem) : J (Cmd.exp x) s ⟨0,1,23,1⟩ :=
 (J.cond (fun h => J.bump1 hv (cO h)) (fun _ => (J1.leaf (by decide)).j)).weak (by decide)
theorem J.acc {s : S} {x : ByteArray} (hv : V s.rem) : J (Cmd.acc x) s ⟨0,0,23,1⟩ :=
 (J.cond (fun h => J.bump1 hv (cO h)) (fun _ => J.skip)).weak (by decide)
theorem J.expIdent {s : S} (hv : V s.rem) : J Cmd.expIdent s ⟨0,1,23,1⟩ :=
 (J.cond (fun h => J.bump1 hv (gW h)) (fun _ => (J1.leaf (by decide)).j)).weak (by decide)
theorem J1.unexpected {s : S} (hv : V s.rem) (h : (aO s.rem).1 ≠ 100) : J1 Cmd.unexpected s ⟨1,0,22,0⟩ := (J1.node (by decide) (J.bump1 hv h)).weak (by decide)
theorem Bs {u l : List Tok} (hv : V (u ++ l)) (h : B l = B (u ++ l)) : u = [] := by
 cases u with
 | nil => rfl
 | cons t u =>
  have := (hv t (by simp)).1;rw [yM] at h;simp only [B,List.map_cons,List.sum_cons] at h;omega
theorem J.prog {c a b : Cmd} {s : S} {p q q' : Pr} (hv : V s.rem) (h : J c s p) (ha : ∀ r,V r.rem → r.rem = s.rem → J a r q) (hb : ∀ r,V r.rem → B r.rem < B s.rem → J b r q') :
  J (.prog c a b) s ((Pr.seq ⟨0,p.d,1000,p.e⟩ q).alt (Pr.seq ⟨1,p.d,p.s,p.e⟩ q')) := by
 refine T.prog (T.mono h fun r ⟨l,g⟩ => ?_);obtain ⟨u,hu,_⟩ := g.suf;have hl := g.le
 by_cases he : B r.rem = B s.rem
 ·obtain rfl := Bs (u := u) (l := r.rem) (by rw [← hu]; exact hv) (by rw [← hu]; exact he)
  have hr : r.rem = s.rem := hu.symm;have g2 : G ⟨0,p.d,1000,p.e⟩ s r l := ⟨g.kids,g.suf,by simp only; omega,g.c0,fun h => by omega,g.cn,g.dep,g.wf⟩;exact ⟨fun _ => T.mono (ha r (g.val hv) hr) fun x ⟨m,g'⟩ => ⟨_,(g2.seq g').weak (Pr.alt_l _ _)⟩,fun hn => absurd (congrArg List.length hr) hn⟩
 ·have g2 : G ⟨1,p.d,p.s,p.e⟩ s r l := ⟨g.kids,g.suf,by simp only; omega,g.c0,g.c1,g.cn,g.dep,g.wf⟩
  refine ⟨fun hn => ?_,fun _ => T.mono (hb r (g.val hv) (by omega)) fun x ⟨m,g'⟩ => ⟨_,(g2.seq g').weak (Pr.alt_r _ _)⟩⟩;rw [hu,List.length_append] at hn;obtain rfl : u = [] := List.length_eq_zero_iff.1 (by omega);exact absurd (congrArg B hu).symm he
theorem T.loopB {t : Test} {c : Cmd} {I : S → Prop} (hc : ∀ s,I s → s.test t = true → T c s fun r => I r ∧ B r.rem < B s.rem) : ∀ (k : Nat) (s : S),B s.rem ≤ k → I s → T (.loop t c) s fun r => I r ∧ r.test t = false
 | k,s,hk,hi => by
  cases ht : s.test t
  ·exact T.loopF ht ⟨hi,ht⟩
  ·refine T.loopT ht ((hc s hi ht).mono fun r ⟨h1,h2⟩ => ?_)
   match k with
   | 0 => omega
   | k + 1 => exact T.loopB hc k r (by omega) h1
theorem J.loop {t : Test} {c : Cmd} {s : S} {p : Pr} (hv : V s.rem) (hp : Pr.le p ⟨1,0,0,p.e⟩) (he : 0 ≤ p.e) (hc : ∀ r,V r.rem → B r.rem ≤ B s.rem → r.test t = true → J c r p) : J (.loop t c) s ⟨0,0,p.s,p.e⟩ := by
 obtain ⟨p1,p2,p3,p4⟩ := hp;simp only at p1 p3 p4;refine T.mono (T.loopB (I := fun r => V r.rem ∧ ∃ l,G ⟨0,0,p.s,p.e⟩ s r l) (fun r ⟨v,l,g⟩ ht => ?_) _ s (Nat.le_refl _) ⟨hv,[],by simp,⟨[],rfl,rfl⟩,by simp,by simp,fun h => absurd h (Nat.lt_irrefl _),by simp [fN],by simp only [jG]; omega,trivial⟩) fun r ⟨⟨v,l,g⟩,_⟩ => ⟨l,g⟩;refine T.mono (hc r v g.le ht) fun x ⟨m,g'⟩ => ⟨⟨g'.val v,_,(g.seq g').weak ?_⟩,?_⟩
 ·simp only [Pr.le,Pr.seq]
  refine ⟨by omega,.inl (by omega),?_,by omega⟩;rw [if_neg (by omega),if_pos (by omega)];omega
 ·have := g'.con; omega
def Pr.list (p : Pr) : Pr := ⟨0,1,min (21 - p.d) (p.s - 2),max p.e 1⟩
theorem J.list {cl : ByteArray} {el : Cmd} {s : S} {p : Pr} (hv : V s.rem) (h1 : 0 ≤ p.d ∧ p.d ≤ 15 ∧ 2 ≤ p.s ∧ p.s ≤ 1000 ∧ 0 ≤ p.e) (h : ∀ r,V r.rem → B r.rem ≤ B s.rem → J el r p) : J (Cmd.list cl el) s p.list := by
 obtain ⟨a1,a2,a3,a4,a5⟩ := h1;refine (J.seq hv (J.loop (p := ⟨1,0,min (22 - p.d) (p.s - 1),max p.e 1⟩) hv ?_ ?_ fun r v hb ht => ?_) fun r v _ hb => J.exp v).weak ?_
 ·simp only [Pr.le]; omega
 ·simp only; omega
 ·refine (J.prog v (h r v hb) (fun x vx hx => (J1.unexpected vx ?_).j) (fun x vx hx => J.cond (fun _ => J.skip) (fun _ => J.exp vx))).weak ?_
  ·simp only [S.test,Bool.and_eq_true,bne_iff_ne] at ht
   rw [hx];exact ht.1.2
  ·simp only [Pr.le,Pr.seq,Pr.alt,Pr.dd]
   simp;omega
 ·simp only [Pr.le,Pr.seq,Pr.list]
  simp;omega
def Pr.wrap (p q : Pr) : Pr := ⟨p.k + q.k,p.d + q.d + 1,(p.seq q).s - 1,max (p.e + 1 - 2 * q.k) (q.e + 1 - 2 * p.k)⟩
theorem J1.wrap {k : Int} {c : Cmd} {s r : S} {t : Tr} {p q : Pr} (hk : 0 ≤ k ∧ k < 100) (g : G p s r [t]) (h : J c { r with kids := [t],adds := r.adds + 1 } q) : T (.wrap k c) r fun x => (∃ t',G (p.wrap q) s x [t']) ∧ (B x.rem : Int) + q.k ≤ B r.rem := by
 refine T.wrap g.kids (T.mono h fun x ⟨m,g'⟩ => ⟨⟨.mk k fS x.kids,rfl,?_,?_,?_,?_,?_,?_,?_⟩,g'.con⟩)
 all_goals
  have e : x.kids = [t] ++ m := g'.kids;rw [e];have l1 := g.le;have l2 : B x.rem ≤ B r.rem := g'.le;have a1 := g.con;have a2 : (B x.rem : Int) + q.k ≤ B r.rem := g'.con
 ·obtain ⟨u,h1,h2⟩ := g.suf
  obtain ⟨v,h3,h4⟩ := g'.suf;refine ⟨u ++ v,by rw [h1,List.append_assoc]; exact congrArg _ h3,?_⟩;rw [Br,← h2,← h4];simp [gK,Tr.txt,fS]
 ·simp only [Pr.wrap]; omega
 ·intro he
  have c1 := g.c0 (by simp only at he; omega);have c2 := g'.c0 (by simp only at he ⊢; omega);simp only [Pr.wrap];simp at c1 c2 ⊢;omega
 ·intro he
  have he : B x.rem < B s.rem := he;have c0 := g'.c0;have c1 := g'.c1;have hcn := g'.cn;simp only at c0 c1 hcn;have hs := (g.seq (⟨by simp,g'.suf,g'.con,fun h => by have := c0 h; simp only; omega,fun h => by have := c1 h; simp only; omega,by simp only; omega,g'.dep,g'.wf⟩ : G q r { x with kids := r.kids ++ m,adds := x.adds - 1 } m)).c1 he;simp only [Pr.wrap];simp at hs ⊢;omega
 ·have n1 := g.cn
  have n2 : fN m + (r.adds + 1) ≤ x.adds := g'.cn;simp [fN,Tr.cnt] at n1 ⊢;omega
 ·have d1 := g.dep
  have d2 : (jG m : Int) + 2 * B x.rem ≤ 2 * B r.rem + q.e := g'.dep;simp only [Pr.wrap];simp [jG,Tr.dep] at d1 ⊢;omega
 ·refine ⟨.inr ⟨hk.1,hk.2,rfl,?_⟩,trivial⟩
  exact ⟨g.wf.1,g'.wf⟩
theorem J1.loop {t : Test} {c : Cmd} {s : S} {p : Pr} (hv : V s.rem) (hc : ∀ r u,V r.rem → r.test t = true → G p s r [u] → T c r fun x => (∃ u',G p s x [u']) ∧ B x.rem < B r.rem) {r : S} {u : Tr} (g : G p s r [u]) : T (.loop t c) r fun x => ∃ u',G p s x [u'] :=
 T.mono (T.loopB (I := fun r => ∃ u,G p s r [u]) (fun r ⟨u,g⟩ ht => hc r u (g.val hv) ht g) _ r (Nat.le_refl _) ⟨u,g⟩) fun _ h => h.1
end Go.Proofs.YtlndmiegodcfjaaGreatDoor.Par
namespace Go.Proofs.YtlndmiegodcfjaaGreatDoor.Par
open Cmd
def rG : ByteArray := ⟨#[123]⟩
def pF : Nm → Bool
 | .binary _ | .unary | .primary | .block | .ifExpr | .pattern | .typeExpr | .path _ | .item | .skipTo | .params _ | .typeParams => true
 | _ => false
def Pre : Nm → S → Prop
 | .arguments,s | .matchE,s | .structLit,s | .lambda,s | .letS,s | .returnS,s | .statement,s | .item,s | .skipTo,s => (aO s.rem).1 ≠ 100
 | .ifExpr,s => aV [⟨#[105,102]⟩] (aO s.rem) = true
 | .binary n,s => n ≤ 5
 | .postE,s => False
 | .itemBody k,s => True
 | _,_ => True
def sp : Nm → S → Pr
 | .binary _,_ | .unary,_ | .primary,_ | .typeExpr,_ => ⟨0,1,15,3⟩
 | .ifExpr,_ => ⟨1,0,15,3⟩
 | .pattern,_ => ⟨0,1,15,2⟩
 | .block,s => if aV [rG] (aO s.rem) then ⟨1,0,15,3⟩ else ⟨0,4,8,5⟩
 | .path _,s => if (aO s.rem).1 = 103 then ⟨1,0,18,1⟩ else ⟨0,3,14,3⟩
 | .statement,_ => ⟨1,0,12,4⟩
 | .arguments,_ => ⟨1,0,18,1⟩
 | .letS,_ => ⟨1,0,18,3⟩
 | .returnS,_ => ⟨1,0,18,1⟩
 | .matchE,_ => ⟨1,0,18,2⟩
 | .structLit,_ => ⟨1,0,18,1⟩
 | .lambda,_ => ⟨1,0,18,1⟩
 | .typeParam,_ => ⟨0,0,15,2⟩
 | .typeParams,_ => ⟨0,1,14,2⟩
 | .params _,_ => ⟨0,2,14,2⟩
 | .function _,_ => ⟨0,10,1,5⟩
 | .dataType _,_ => ⟨0,4,1,5⟩
 | .members,_ => ⟨0,2,8,5⟩
 | .impl,_ => ⟨0,6,0,5⟩
 | .use,_ => ⟨0,5,1,4⟩
 | .skipTo,_ => ⟨1,0,18,0⟩
 | .itemBody _,_ => ⟨0,12,0,6⟩
 | .item,_ => ⟨1,0,10,7⟩
 | .postE,_ => ⟨0,0,0,0⟩
def jN : Nm → S → Nat
 | .block,s => if aV [rG] (aO s.rem) then 0 else 60
 | .binary n,_ => 20 - n
 | .unary,_ => 14
 | .primary,_ => 10
 | .typeExpr,_ | .pattern,_ => 5
 | .statement,_ => 50
 | .typeParams,_ | .params _,_ => 5
 | .function _,_ | .dataType _,_ => 70
 | .members,_ => 75
 | .impl,_ => 80
 | .itemBody _,_ => 90
 | .item,_ => 100
 | _,_ => 1
def Js (x : Nm) (s : S) : Prop := if pF x then J1 (.call x) s (sp x s) else J (.call x) s (sp x s)
theorem Js.j {x : Nm} {s : S} (h : Js x s) : J (.call x) s (sp x s) := by
 unfold Js at h
 split at h
 ·exact h.j
 ·exact h
theorem Js.one {x : Nm} {s : S} (h : Js x s) (ho : pF x = true) : J1 (.call x) s (sp x s) := by
 unfold Js at h;rwa [if_pos ho] at h
theorem J.call {x : Nm} {s : S} {p : Pr} (h : J (body x) s p) : J (.call x) s p := T.call h
theorem J1.call {x : Nm} {s : S} {p : Pr} (h : J1 (body x) s p) : J1 (.call x) s p := T.call h
theorem Js.mk {x : Nm} {s : S} {p : Pr} (ho : pF x = false) (h : J (body x) s p) (hp : p.le (sp x s)) : Js x s := by
 unfold Js;rw [ho];exact (J.call h).weak hp
theorem Js.mk1 {x : Nm} {s : S} {p : Pr} (ho : pF x = true) (h : J1 (body x) s p) (hp : p.le (sp x s)) : Js x s := by
 unfold Js;rw [ho];exact (J1.call h).weak hp
structure Ih (N R : Nat) : Prop where
 lt : ∀ x r,V r.rem → B r.rem < N → Pre x r → Js x r
 eq : ∀ x r,V r.rem → B r.rem ≤ N → jN x r < R → Pre x r → Js x r
theorem G.flag {p : Pr} {s r : S} {l : List Tr} {b : Bool} (g : G p s r l) : G p s { r with flag := b } l := ⟨g.kids,g.suf,g.con,g.c0,g.c1,g.cn,g.dep,g.wf⟩
theorem Bt {l : List ByteArray} {s : S} (h : s.test (cE l) = true) : aV l (aO s.rem) = true := h
theorem Eu {x : ByteArray} {t : Tok} (h : aV [x] t = true) : t.2 = x := by
 simp only [aV,Bool.and_eq_true] at h;have := h.2;simp only [Lib.containsS,Lib.idxOfS,Lib.idxFromS] at this
 split at this
 ·rename_i he; exact (by simpa using he : x = t.2).symm
 ·simp at this
variable {N R : Nat}
theorem Ih.expr (ih : Ih N R) {r : S} (hv : V r.rem) (h : B r.rem < N) : J1 Cmd.expr r ⟨0,1,15,3⟩ := (ih.lt (.binary 0) r hv h (by simp [Pre])).one rfl
theorem Ih.exprR (ih : Ih N R) {r : S} (hR : 20 < R) (hv : V r.rem) (h : B r.rem ≤ N) : J1 Cmd.expr r ⟨0,1,15,3⟩ := (ih.eq (.binary 0) r hv h hR (by simp [Pre])).one rfl
theorem Ih.typ (ih : Ih N R) {r : S} (hv : V r.rem) (h : B r.rem < N) : J1 (.call .typeExpr) r ⟨0,1,15,3⟩ := (ih.lt .typeExpr r hv h trivial).one rfl
theorem Ih.path (ih : Ih N R) {b : Bool} {r : S} (hv : V r.rem) (h : B r.rem < N) : J1 (.call (.path b)) r ⟨0,3,14,3⟩ := by
 refine ((ih.lt (.path b) r hv h trivial).one rfl).weak ?_;simp only [sp]
 split <;> decide
theorem Ih.blk (ih : Ih N R) {r : S} (hv : V r.rem) (h : B r.rem < N) : J1 (.call .block) r ⟨0,4,8,5⟩ := by
 refine ((ih.lt .block r hv h trivial).one rfl).weak ?_;simp only [sp]
 split <;> decide
theorem J.opt {x : ByteArray} {c : Cmd} {s : S} {p : Pr} (hv : V s.rem) (h : ∀ r,V r.rem → B r.rem < B s.rem → J c r p) : J (Cmd.opt x c) s ((Pr.seq ⟨1,0,23,-1⟩ p).alt ⟨0,1,1000,1⟩) :=
 J.cond (fun ht => J.seq hv (J.bump1 hv (cO ht)) fun r v (c : (B r.rem : Int) + 1 ≤ B s.rem) _ => h r v (by omega)) (fun _ => (J1.leaf (by decide)).j)
theorem J.bseq {c : Cmd} {s : S} {p : Pr} (hv : V s.rem) (ht : (aO s.rem).1 ≠ 100) (h : ∀ r,V r.rem → B r.rem < B s.rem → J c r p) : J (.seq .bump c) s (Pr.seq ⟨1,0,23,-1⟩ p) :=
 J.seq hv (J.bump1 hv ht) fun r v (c : (B r.rem : Int) + 1 ≤ B s.rem) _ => h r v (by omega)
theorem J.then {a b : Cmd} {s : S} {p q : Pr} (hv : V s.rem) (hn : B s.rem < N) (h : J a s p) (h' : ∀ r,V r.rem → B r.rem < N → J b r q) : J (.seq a b) s (p.seq q) :=
 J.seq hv h fun r v _ hb => h' r v (by omega)
theorem J.thenL {a b : Cmd} {s : S} {p q : Pr} (hv : V s.rem) (hn : B s.rem ≤ N) (h : J a s p) (h' : ∀ r,V r.rem → B r.rem ≤ N → J b r q) : J (.seq a b) s (p.seq q) :=
 J.seq hv h fun r v _ hb => h' r v (by omega)
theorem uJ (n : Nat) (s : S) : run body n .bump s = some s.bump := by cases n <;> rfl
theorem T.of_bump {s : S} {Q : S → Prop} (h : T .bump s Q) : Q s.bump := by
 obtain ⟨n,r,h1,h2⟩ := h;rw [uJ] at h1
 cases h1
 exact h2
theorem J.bseqE {c : Cmd} {s : S} {p : Pr} (hv : V s.rem) (ht : (aO s.rem).1 ≠ 100) (h : ∀ r,r.rem = left s.rem → V r.rem → B r.rem < B s.rem → J c r p) : J (.seq .bump c) s (Pr.seq ⟨1,0,23,-1⟩ p) := by
 obtain ⟨l,g⟩ := T.of_bump (J.bump1 hv ht);have hc : (B s.bump.rem : Int) + 1 ≤ B s.rem := g.con;exact T.seq (T.bump (T.mono (h s.bump rfl (g.val hv) (by omega)) fun x ⟨m,g'⟩ => ⟨l ++ m,g.seq g'⟩))
theorem J1.nodeH {k : Int} {c : Cmd} {s : S} {p : Pr} (hk : 0 ≤ k ∧ k < 100) (hv : V s.rem) (h : ∀ y : S,y.rem = s.rem → V y.rem → J c y p) : J1 (.node k c) s p.node := J1.node hk (h _ rfl hv)
theorem I5 (ih : Ih N R) {x : S} (vx : V x.rem) (hx : B x.rem < N) : J (.cond (fun t _ _ _ => fT t) (.node 36 (fJ [.call .pattern,exp ⟨#[61,62]⟩,Cmd.expr])) .skip) x ⟨0,4,11,4⟩ := by
 refine (J.cond (fun ht => (J1.nodeH (by decide) vx fun y ey vy => J.then vy (by rw [ey]; exact hx) ((ih.lt .pattern y vy (by rw [ey]; exact hx) trivial).one rfl).j fun r v h => J.then v h (J.exp v) fun r v h => (ih.expr v h).j).j) fun _ => J.skip).weak ?_
 first | (simp only [sp]; decide) | decide
theorem yO (ih : Ih N R) {s : S} (hv : V s.rem) (hs : B s.rem ≤ N) (hR : (B s.rem < N ∨ 50 < R)) : J (.loop (fun t _ _ f => !f && !aV [⟨#[125]⟩] t && t.1 != 100 && !aV eR t) (.call .statement)) s ⟨0,0,12,4⟩ := by
 refine J.loop (p := ⟨1,0,12,4⟩) hv (by decide) (by decide) fun r v hb ht => ?_;have hp : Pre .statement r := by
  simp only [S.test,Bool.and_eq_true,bne_iff_ne] at ht;exact ht.1.2
 rcases hR with h | h
 ·exact (ih.lt .statement r v (by omega) hp).j
 ·exact (ih.eq .statement r v (by omega) h hp).j
theorem Ho {b : Bool} {s r : S} {u : Tr} {p : Pr} (hk : 1 ≤ p.k) (he : p.e ≤ 3) (hs : 15 ≤ p.s) (g : G p s r [u]) (hv : V r.rem) (ih : ∀ x,V x.rem → B x.rem < B r.rem → J1 Cmd.expr x ⟨0,1,15,3⟩) : T (jM b) r fun x => ∃ l,G ⟨1,0,12,4⟩ s x l := by
 refine T.cond (fun _ => T.flag ⟨[u],(g.weak ?_).flag⟩) fun _ => T.seq (T.mono (?_ : T _ r fun x => ∃ t',G ⟨1,0,12,4⟩ s x [t']) fun x ⟨t',h⟩ => T.flag ⟨[t'],h.flag⟩)
 ·exact ⟨hk,.inl hk,by show (12 : Int) ≤ p.s; omega,by show p.e ≤ 4; omega⟩
 ·refine T.cond (fun ht => ?_) fun _ => ?_
  ·refine T.mono (J1.wrap (by decide) g (q := Pr.seq ⟨1,0,23,-1⟩ (Pr.seq ⟨0,1,15,3⟩ ⟨0,1,23,1⟩)) (J.bseq (s := { r with kids := [u],adds := r.adds + 1 }) hv (cO ht) fun y v c => J.then (N := B r.rem) v c (ih y v c).j fun y v c => J.exp v)) fun x ⟨⟨t',h⟩,_⟩ => ⟨t',h.weak ?_⟩
   simp only [Pr.le,Pr.wrap,Pr.seq];simp;omega
  ·refine T.mono (J1.wrap (by decide) g (q := ⟨0,1,23,1⟩) ((J.cond (s := { r with kids := [u],adds := r.adds + 1 }) (fun ht => J.bump1 hv (cO ht)) fun _ => (?_ : J _ _ ⟨0,1,1000,1⟩)).weak (by decide))) fun x ⟨⟨t',h⟩,_⟩ => ⟨t',h.weak ?_⟩
   ·cases b
    ·exact (J1.leaf (by decide)).j
    ·exact J.skip.weak (by decide)
   ·simp only [Pr.le,Pr.wrap,Pr.seq]
    simp;omega
theorem I6 {N : Nat} {s : S} (hv : V s.rem) (hN : B s.rem = N) : Js .use s := by
 have sg : ∀ x,V x.rem → J1 (.node 18 expIdent) x ⟨0,2,22,2⟩ := fun x vx => (J1.nodeH (by decide) vx fun y ey vy => J.expIdent vy).weak (by decide);exact .mk rfl (J.thenL (N := N) hv (by omega) (J1.nodeH (by decide) hv fun y ey vy => J.thenL (N := N) vy (by rw [ey]; omega) (sg y vy).j fun r v h => J.loop (p := ⟨1,0,18,2⟩) v (by decide) (by decide) fun x vx cx ht => (J.bseq vx (by simp only [S.test,Bool.and_eq_true] at ht; exact iB ht.1) fun a va ca => (sg a va).j).weak (by decide)).j
  fun r v h => J.thenL v h (J.cond (fun ht => J.bseq v (cO ht) fun x vx cx => J.bump vx) fun _ => J.cond (fun ht => J.bseq v (cO ht) fun x vx cx => J.expIdent vx) fun _ => J.skip) fun r v h => J.exp v) (by first | (simp only [sp]; decide) | decide)
theorem Bu {s : S} (hv : V s.rem) (hp : Pre .skipTo s) : Js .skipTo s :=
 .mk1 rfl (J1.nodeH (by decide) hv fun y ey vy => J.bseq vy (by rw [ey]; exact hp) fun r v c => J.loop (p := ⟨1,0,23,0⟩) v (by decide) (by decide) fun x vx cx ht => (J.bump1 vx (by simp only [S.test,Bool.and_eq_true,bne_iff_ne] at ht; exact ht.1)).weak (by decide)) (by first | (simp only [sp]; decide) | decide)
theorem mE : ∀ (zs : List ByteArray) (x : ByteArray) (k : Nat),Lib.idxFromS zs x k < (k : Int) + zs.length ∨ Lib.idxFromS zs x k = -1
 | [],x,k => .inr rfl
 | z :: zs,x,k => by
  simp only [Lib.idxFromS]
  split
  ·exact .inl (by rw [List.length_cons]; omega)
  ·rcases mE zs x (k + 1) with h | h
   ·exact .inl (by rw [List.length_cons]; omega)
   ·exact .inr h
theorem lO : fX.length = 8 := by kernel_rfl
theorem sK (x : ByteArray) : 0 ≤ eF x ∧ eF x < 100 := by
 unfold eF Lib.idxOfS;have := mE fX x 0;rw [lO] at this;simp only
 split <;> omega
theorem pG (t u : Tok) : 0 ≤ cY t u ∧ cY t u < 100 := by
 have key : ∀ y : Tok,0 ≤ (if eF y.2 == 0 || y.1 != 104 then 0 else eF y.2) ∧ (if eF y.2 == 0 || y.1 != 104 then 0 else eF y.2) < 100 := fun y => by
  cases (eF y.2 == 0 || y.1 != 104)
  ·exact sK _
  ·simp
 exact key _
section
variable (ih : Ih N R) {s : S} (hv : V s.rem) (hN : B s.rem = N)
include ih hv hN
theorem uK (hp : Pre .arguments s) : Js .arguments s :=
 .mk rfl (J.bseq hv hp fun r v c => J.list v (p := ⟨0,1,15,3⟩) (by decide) fun x vx cx => (ih.expr vx (by omega)).j) (by first | (simp only [sp]; decide) | decide)
theorem Hp (hp : Pre .letS s) : Js .letS s :=
 .mk rfl (J.bseq hv hp fun r v c => J.then v (by omega) ((ih.lt .pattern r v (by omega) trivial).one rfl).j fun r v h => J.then v h (J.opt v fun x vx cx => (ih.typ vx (by omega)).j) fun r v h => J.then v h (J.exp v) fun r v h => J.then v h (ih.expr v h).j fun r v h => J.exp v) (by first | (simp only [sp]; decide) | decide)
theorem zX (hp : Pre .returnS s) : Js .returnS s :=
 .mk rfl (J.bseq hv hp fun r v c => J.then v (by omega) (J.cond (fun _ => (J1.leaf (by decide)).j) fun _ => (ih.expr v (by omega)).j) fun r v h => J.exp v) (by first | (simp only [sp]; decide) | decide)
theorem Bv (hp : Pre .matchE s) : Js .matchE s :=
 .mk rfl (J.bseq hv hp fun r v c => J.then v (by omega) (ih.expr v (by omega)).j fun r v h => J.then v h (J.exp v) fun r v h => J.list v (p := ⟨0,4,11,4⟩) (by decide) fun x vx cx => I5 ih vx (by omega)) (by first | (simp only [sp]; decide) | decide)
theorem uL (hp : Pre .structLit s) : Js .structLit s :=
 .mk rfl (J.bseq hv hp fun r v c => J.then v (by omega) (ih.path v (by omega)).j fun r v h => J.then v h (J.exp v) fun r v h => J.list v (p := ⟨0,0,15,3⟩) (by decide) fun x vx cx =>
  (J.cond (fun ht => (J1.nodeH (by decide) vx fun y ey vy => J.bseq vy (by rw [ey]; exact gW ht) fun r v c => J.then (N := N) v (by rw [ey] at c; omega) (J.exp v) fun r v h => (ih.expr v h).j).j) fun _ => J.skip).weak (by decide)) (by first | (simp only [sp]; decide) | decide)
theorem Bx (hp : Pre .lambda s) : Js .lambda s :=
 .mk rfl (J.seq hv (p := ⟨1,0,19,1⟩) ((J.cond (fun ht => J.bseq hv (cO ht) fun r v c => (J1.nodeH (by decide) v fun y ey vy => J.skip).j)
  (fun ht => J.bseq hv hp fun r v c => ((ih.lt (.params ⟨#[124]⟩) r v (by omega) trivial).one rfl).j)).weak (by first | (simp only [sp]; decide) | decide)) fun r v (c : (B r.rem : Int) + 1 ≤ B s.rem) _ => (ih.expr v (by omega)).j) (by first | (simp only [sp]; decide) | decide)
theorem By (hp : Pre .ifExpr s) : Js .ifExpr s := by
 have h2 : (aO s.rem).2.size = 2 := by rw [Eu hp]; rfl
 refine .mk1 (p := Pr.node (Pr.seq ⟨2,0,46,-3⟩ (Pr.seq ⟨0,1,15,3⟩ (Pr.seq ⟨0,4,8,5⟩ ⟨0,4,8,5⟩)))) rfl (J1.nodeH (by decide) hv fun y ey vy => J.seq vy ((J.bumpK (k := 2) vy (by rw [ey]; exact iB hp) (by rw [ey]; omega)).weak (by decide)) fun r v c _ => ?_) (by first | (simp only [sp]; decide) | decide);have c : (B r.rem : Int) + 2 ≤ B y.rem := c;rw [ey] at c;refine J.then (N := N) v (by omega) (ih.expr v (by omega)).j fun r v h => J.then v h (ih.blk v h).j fun r v h => ?_;refine (J.opt v (p := ⟨0,4,8,5⟩) fun x vx cx => (J.cond (fun ht => ((ih.lt .ifExpr x vx (by omega) (Bt ht)).one rfl).j) fun _ => (ih.blk vx (by omega)).j).weak (by first | (simp only [sp]; decide) | decide)).weak (by decide)
theorem Ev (hR : jN .block s = R) : Js .block s := by
 by_cases hb : aV [rG] (aO s.rem) = true
 ·have hsp : sp .block s = ⟨1,0,15,3⟩ := if_pos hb
  refine .mk1 (p := ⟨1,0,15,3⟩) rfl ((J1.nodeH (by decide) hv fun y ey vy => J.seq vy (p := ⟨1,0,23,-1⟩) ?_ fun r v (c : (B r.rem : Int) + 1 ≤ B y.rem) _ => ?_).weak (p := Pr.node (Pr.seq ⟨1,0,23,-1⟩ (Pr.seq ⟨0,0,1000,0⟩ (Pr.seq ⟨0,0,12,4⟩ (Pr.seq ⟨0,1,1000,1⟩ ⟨0,1,23,1⟩))))) (by decide)) (by rw [hsp]; decide)
  ·exact T.cond (fun _ => J.bump1 vy (by rw [ey]; exact iB hb)) fun h => by
    have : aV [rG] (aO y.rem) = false := h;rw [ey,hb] at this
    cases this
  ·rw [ey] at c
   exact J.then (N := N) v (by omega) J.flag fun r v h => J.then v h (yO ih v (by omega) (.inl h)) fun r v h => J.then v h ((J.cond (fun _ => J.skip) fun _ => (J1.leaf (by decide)).j).weak (by decide)) fun r v h => J.exp v
 ·have hsp : sp .block s = ⟨0,4,8,5⟩ := if_neg hb
  have hr : jN .block s = 60 := if_neg hb;refine .mk1 (p := ⟨0,4,8,5⟩) rfl ((J1.nodeH (by decide) hv fun y ey vy => J.thenL (N := N) vy (by rw [ey]; omega) (J.exp vy) fun r v h => ?_).weak (p := Pr.node (Pr.seq ⟨0,1,23,1⟩ (Pr.seq ⟨0,0,1000,0⟩ (Pr.seq ⟨0,0,12,4⟩ (Pr.seq ⟨0,1,1000,1⟩ ⟨0,1,23,1⟩))))) (by decide)) (by rw [hsp]; decide);exact J.thenL v h J.flag fun r v h => J.thenL v h (yO ih v h (.inr (by omega))) fun r v h => J.thenL v h ((J.cond (fun _ => J.skip) fun _ => (J1.leaf (by decide)).j).weak (by decide)) fun r v h => J.exp v
theorem uM (hR : jN .statement s = R) (hp : Pre .statement s) : Js .statement s := by
 have hR : R = 50 := hR.symm;have fix : ∀ (c : Cmd) (b : Bool),J1 c s ⟨0,1,15,3⟩ → T (.prog c sJ (jM b)) s fun x => ∃ l,G ⟨1,0,12,4⟩ s x l := fun c b hc => T.prog (T.mono hc fun r ⟨u,g⟩ => ⟨fun he => ?_,fun hn => ?_⟩)
 ·refine .mk (p := ⟨1,0,12,4⟩) rfl (T.cond (fun ht => ?_) fun _ => T.cond (fun ht => ?_) fun _ => T.cond (fun ht => ?_) fun _ => T.cond (fun ht => ?_) fun _ => ?_) (by first | (simp only [sp]; decide) | decide)
  ·exact (J.seq hv (J1.nodeH (by decide) hv fun y ey vy => (ih.eq .letS y vy (by rw [ey]; omega) (by rw [hR]; exact Nat.lt_of_sub_eq_succ rfl) (by show (aO y.rem).1 ≠ 100; rw [ey]; exact hp)).j).j fun r v _ _ => J.flag).weak (by first | (simp only [sp]; decide) | decide)
  ·exact (J.seq hv (J1.nodeH (by decide) hv fun y ey vy => J.bseq vy (by rw [ey]; exact hp) fun r v c => J.then (N := N) v (by rw [ey] at c; omega) (ih.expr v (by rw [ey] at c; omega)).j fun r v h => (ih.blk v h).j).j fun r v _ _ => J.flag).weak (by first | (simp only [sp]; decide) | decide)
  ·exact (J.seq hv (J1.nodeH (by decide) hv fun y ey vy => (ih.eq .returnS y vy (by rw [ey]; omega) (by rw [hR]; exact Nat.lt_of_sub_eq_succ rfl) (by show (aO y.rem).1 ≠ 100; rw [ey]; exact hp)).j).j fun r v _ _ => J.flag).weak (by first | (simp only [sp]; decide) | decide)
  ·exact fix _ _ ((ih.eq .primary s hv (by omega) (by rw [hR]; exact Nat.lt_of_sub_eq_succ rfl) trivial).one rfl)
  ·exact fix _ _ (ih.exprR (by omega) hv (by omega))
 ·obtain ⟨w,hw,_⟩ := g.suf
  have hw0 : w = [] := by
   rw [hw,List.length_append] at he;exact List.length_eq_zero_iff.1 (by omega)
  rw [hw0] at hw;have hr : r.rem = s.rem := hw.symm;refine T.seq (T.drop (T.seq (T.mono (J1.unexpected (s := { r with kids := r.kids.dropLast }) (g.val hv) (by rw [show ({ r with kids := r.kids.dropLast } : S).rem = s.rem from hr]; exact hp)) fun x ⟨t',g'⟩ => T.flag ⟨[t'],?_⟩)));have hk : r.kids.dropLast = s.kids := by rw [g.kids]; simp
  have a1 := g.c0 (by rw [hr]);have a2 := g.cn;have a3 := g'.cn;have a4 := g'.c1;have a5 := g'.con;have a6 := g'.dep;simp only [hr] at a1 a2 a3 a4 a5 a6;exact ⟨by have := g'.kids; simp only [hk] at this; exact this,by have := g'.suf; simp only [hr] at this; exact this,by simp only; omega,fun h => by simp only at h; omega,fun h => by have := a4 h; simp only; omega,by simp only; omega,by simp only; omega,g'.wf⟩
 ·have hl := g.le
  have hlt : B r.rem < B s.rem := by
   rcases Nat.lt_or_ge (B r.rem) (B s.rem) with h | h
   ·exact h
   ·obtain ⟨w,hw,_⟩ := g.suf
    have := Bs (u := w) (l := r.rem) (by rw [← hw]; exact hv) (by rw [← hw]; omega);rw [this] at hw;exact absurd (congrArg List.length hw.symm) hn
  refine Ho (p := ⟨1,0,15,3⟩) (by decide) (by decide) (by decide) ⟨g.kids,g.suf,by simp only; omega,fun h => by omega,g.c1,g.cn,g.dep,g.wf⟩ (g.val hv) fun x vx hx => ih.expr vx (by omega)
theorem Bz {n : Nat} (hR : jN (.binary n) s = R) (hp : Pre (.binary n) s) : Js (.binary n) s := by
 have hp : n ≤ 5 := hp;have hR : R = 20 - n := hR.symm;refine .mk1 (p := ⟨0,1,15,3⟩) rfl ?_ (by first | (simp only [sp]; decide) | decide);have hb : body (.binary n) = if n = 5 then .call .unary else .seq (.call (.binary (n + 1))) (if n = 2 then .cond (cE (aY n)) (.wrap 39 (.seq .bump (.call (.binary (n + 1))))) .skip else .loop (cE (aY n)) (.wrap 39 (.seq .bump (.call (.binary (n + 1)))))) := rfl
 rw [hb]
 split
 ·exact (ih.eq .unary s hv (by omega) (by rw [hR]; subst n; exact Nat.lt_of_sub_eq_succ rfl) trivial).one rfl
 ·rename_i h5
  have turn : ∀ r u,V r.rem → (aO r.rem).1 ≠ 100 → G ⟨0,1,15,3⟩ s r [u] → T (.wrap 39 (.seq .bump (.call (.binary (n + 1))))) r fun x => (∃ u',G ⟨0,1,15,3⟩ s x [u']) ∧ B x.rem < B r.rem := fun r u v ht g => by
   have h1 := J1.wrap (k := 39) (by decide) g (q := Pr.seq ⟨1,0,23,-1⟩ ⟨0,1,15,3⟩) (J.bseq (s := { r with kids := [u],adds := r.adds + 1 }) v ht fun y vy c => ((ih.lt (.binary (n + 1)) y vy (by have := g.le; simp only at c; omega) (by show n + 1 ≤ 5; omega)).one rfl).j);exact T.mono h1 fun x ⟨⟨u',g'⟩,(hk : (B x.rem : Int) + 1 ≤ B r.rem)⟩ => ⟨⟨u',g'.weak (by decide)⟩,by omega⟩
  refine T.seq (T.mono ((ih.eq (.binary (n + 1)) s hv (by omega) (by rw [hR]; show 20 - (n + 1) < 20 - n; omega) (by show n + 1 ≤ 5; omega)).one rfl) fun r ⟨u,g⟩ => ?_)
  split
  ·exact T.cond (fun ht => T.mono (turn r u (g.val hv) (cO ht) g) fun x h => h.1) fun _ => T.skip ⟨u,g⟩
  ·exact J1.loop hv (fun r u v ht g => turn r u v (cO ht) g) g
theorem zY (hR1 : 1 < R) {r : S} {u : Tr} (g : G ⟨0,1,15,3⟩ s r [u]) : T (.call .postE) r fun x => ∃ u',G ⟨0,1,15,3⟩ s x [u'] := by
 refine T.call (J1.loop hv (fun r u v ht g => ?_) g);have hl := g.le;refine T.cond (fun ht => ?_) fun hf => T.cond (fun hi => ?_) fun hf2 => ?_
 ·refine T.mono (J1.wrap (by decide) g (q := ⟨1,0,18,1⟩) ((ih.eq .arguments { r with kids := [u],adds := r.adds + 1 } v (by show B r.rem ≤ N; omega) ?_ (cO ht)).j)) fun x ⟨⟨t',h⟩,(hk : (B x.rem : Int) + 1 ≤ B r.rem)⟩ => ⟨⟨t',h.weak (by decide)⟩,by omega⟩
  exact hR1
 ·have hi : ((aO (left r.rem)).1 == 103 && aV [⟨#[40]⟩] (aO (left (left r.rem)))) = true := hi
  simp only [Bool.and_eq_true,beq_iff_eq] at hi;refine T.mono (J1.wrap (by decide) g (q := Pr.seq ⟨1,0,23,-1⟩ (Pr.seq ⟨1,0,23,-1⟩ ⟨1,0,18,1⟩)) (J.bseqE (s := { r with kids := [u],adds := r.adds + 1 }) v (cO ht) fun y ey vy c => J.bseqE vy (by rw [ey,hi.1]; decide) fun z ez vz c' => (ih.lt .arguments z vz (by simp only at c; omega) (by show (aO z.rem).1 ≠ 100; rw [ez,ey]; exact iB hi.2)).j)) fun x ⟨⟨t',h⟩,(hk : (B x.rem : Int) + (1 + (1 + 1)) ≤ B r.rem)⟩ => ⟨⟨t',h.weak (by decide)⟩,by omega⟩
 ·refine T.mono (J1.wrap (by decide) g (q := Pr.seq ⟨1,0,23,-1⟩ ⟨0,1,23,1⟩) (J.bseq (s := { r with kids := [u],adds := r.adds + 1 }) v (cO ht) fun y vy c => J.expIdent vy)) fun x ⟨⟨t',h⟩,(hk : (B x.rem : Int) + (1 + 0) ≤ B r.rem)⟩ => ⟨⟨t',h.weak (by decide)⟩,by omega⟩
theorem Ew (hR : jN .unary s = R) : Js .unary s := by
 have hR : R = 14 := hR.symm;refine .mk1 (p := ⟨0,1,15,3⟩) rfl (T.cond (fun ht => ?_) fun _ => T.cond (fun ht => ?_) fun _ => ?_) (by first | (simp only [sp]; decide) | decide)
 ·exact (J1.nodeH (by decide) hv fun y ey vy => J.bseq vy (by rw [ey]; exact cO ht) fun r v c => ((ih.lt .unary r v (by rw [ey] at c; omega) trivial).one rfl).j).weak (by first | (simp only [sp]; decide) | decide)
 ·exact (J1.nodeH (by decide) hv fun y ey vy => J.bseq vy (by rw [ey]; exact cO ht) fun r v c => J.then (N := N) v (by rw [ey] at c; omega) (J.acc v) fun r v h => ((ih.lt .unary r v h trivial).one rfl).j).weak (by first | (simp only [sp]; decide) | decide)
 ·exact T.seq (T.mono ((ih.eq .primary s hv (by omega) (by rw [hR]; exact Nat.lt_of_sub_eq_succ rfl) trivial).one rfl) fun r ⟨u,g⟩ => zY ih hv hN (by omega) g)
theorem wJ (hR : jN .typeExpr s = R) : Js .typeExpr s := by
 have hR : R = 5 := hR.symm;refine .mk1 (p := ⟨0,1,15,3⟩) rfl (T.cond (fun ht => ?_) fun _ => T.cond (fun ht => ?_) fun _ => T.cond (fun ht => ?_) fun _ => ?_) (by first | (simp only [sp]; decide) | decide)
 ·exact (J1.nodeH (by decide) hv fun y ey vy => J.bseq vy (by rw [ey]; exact cO ht) fun r v c => J.then (N := N) v (by rw [ey] at c; omega) (J.acc v) fun r v h => (ih.typ v h).j).weak (by first | (simp only [sp]; decide) | decide)
 ·exact (J1.nodeH (by decide) hv fun y ey vy => J.bseq vy (by rw [ey]; exact cO ht) fun r v c => J.then (N := N) v (by rw [ey] at c; omega) (J.exp v) fun r v h => J.then v h (J.list v (p := ⟨0,1,15,3⟩) (by decide) fun x vx cx => (ih.typ vx (by omega)).j) fun r v h => J.opt v fun x vx cx => (ih.typ vx (by omega)).j).weak (by first | (simp only [sp]; decide) | decide)
 ·have hi : (aO s.rem).1 = 103 := by simpa [S.test,cB] using ht
  have := (ih.eq (.path true) s hv (by omega) (by rw [hR]; exact Nat.lt_of_sub_eq_succ rfl) trivial).one rfl;rw [show sp (.path true) s = ⟨1,0,18,1⟩ from if_pos hi] at this;exact this.weak (by decide)
 ·exact (J1.leaf (by decide)).weak (by decide)
end
section
variable (ih : Ih N R) {s : S} (hv : V s.rem)
include ih hv
theorem yP {b : Bool} (hN : B s.rem ≤ N) : J (if b then .cond (cE [⟨#[60]⟩]) (.seq .bump (list ⟨#[62]⟩ (.call .typeExpr))) .skip else .skip) s ⟨0,0,20,1⟩ := by
 cases b
 ·exact J.skip.weak (by decide)
 ·exact (J.cond (fun ht => J.bseq hv (cO ht) fun r v c => J.list v (p := ⟨0,1,15,3⟩) (by decide) fun x vx cx => (ih.typ vx (by omega)).j) fun _ => J.skip).weak (by decide)
theorem G6 {b : Bool} (hN : B s.rem ≤ N) : J1 (seg b) s ⟨0,2,18,2⟩ :=
 (J1.nodeH (by decide) hv fun y ey vy => J.thenL (N := N) vy (by rw [ey]; exact hN) (J.expIdent vy) fun r v h => yP ih v h).weak (by decide)
theorem Hq {b : Bool} (hN : B s.rem = N) : Js (.path b) s := by
 have lp : ∀ r,V r.rem → B r.rem ≤ N → J (.loop (cE [⟨#[58,58]⟩]) (.seq .bump (seg b))) r ⟨0,0,18,0⟩ := fun r v h =>
  (J.loop (p := ⟨1,0,20,0⟩) v (by decide) (by decide) fun x vx cx ht => (J.bseq vx (cO ht) fun y vy cy => (G6 ih vy (by omega)).j).weak (by decide)).weak (by decide)
 by_cases hi : (aO s.rem).1 = 103
 ·have hsp : sp (.path b) s = ⟨1,0,18,1⟩ := if_pos hi
  refine .mk1 (p := Pr.node (Pr.seq (Pr.node (Pr.seq ⟨1,0,23,-1⟩ ⟨0,0,20,1⟩)) ⟨0,0,18,0⟩)) rfl (J1.nodeH (by decide) hv fun y ey vy => J.seq vy (J1.nodeH (by decide) vy fun z ez vz => J.seq vz (T.cond (fun ht => J.bump1 vz (gW ht)) fun hf => ?_) fun r v c _ => yP ih v ?_).j fun r v c _ => lp r v ?_) (by rw [hsp]; decide)
  ·simp only [S.test,cB,ez,ey,hi] at hf
   cases hf
  ·have c : (B r.rem : Int) + 1 ≤ B z.rem := c
   rw [ez,ey] at c; omega
  ·have c : (B r.rem : Int) + (1 + 0) ≤ B y.rem := c
   rw [ey] at c; omega
 ·have hsp : sp (.path b) s = ⟨0,3,14,3⟩ := if_neg hi
  exact .mk1 (p := Pr.node (Pr.seq ⟨0,2,18,2⟩ ⟨0,0,18,0⟩)) rfl (J1.nodeH (by decide) hv fun y ey vy => J.thenL (N := N) vy (by rw [ey]; omega) (G6 ih vy (by rw [ey]; omega)).j fun r v h => lp r v h) (by rw [hsp]; decide)
theorem zZ (hN : B s.rem = N) (hR : jN .pattern s = R) : Js .pattern s := by
 have hR : R = 5 := hR.symm;refine .mk1 (p := ⟨0,1,15,2⟩) rfl (T.cond (fun ht => ?_) fun _ => T.cond (fun ht => ?_) fun _ => T.cond (fun ht => ?_) fun _ => T.cond (fun ht => ?_) fun _ => T.cond (fun ht => ?_) fun _ => T.cond (fun ht => ?_) fun _ => ?_) (by first | (simp only [sp]; decide) | decide)
 ·exact (J1.nodeH (by decide) hv fun y ey vy => J.bseq vy (by rw [ey]; exact cO ht) fun r v c => J.expIdent v).weak (by first | (simp only [sp]; decide) | decide)
 ·have hi : (aO s.rem).1 ≠ 100 := by simp [S.test] at ht; omega
  exact (J1.nodeH (by decide) hv fun y ey vy => J.bump1 vy (by rw [ey]; exact hi)).weak (by first | (simp only [sp]; decide) | decide)
 ·have hi : (aO s.rem).1 ≠ 100 := by simp [S.test] at ht; omega
  exact (J1.nodeH (by decide) hv fun y ey vy => J.bump1 vy (by rw [ey]; exact hi)).weak (by first | (simp only [sp]; decide) | decide)
 ·have hi : (aO s.rem).1 = 103 := by simpa [S.test,cB] using ht
  refine (J1.nodeH (by decide) hv fun y ey vy => J.seq vy (p := ⟨1,0,18,1⟩) ?_ fun r v (c : (B r.rem : Int) + 1 ≤ B y.rem) _ => J.cond (fun ht => J.bseq v (cO ht) fun x vx cx => J.list vx (p := ⟨0,1,15,2⟩) (by decide) fun z vz cz => ((ih.lt .pattern z vz (by rw [ey] at c; omega) trivial).one rfl).j) fun _ => J.skip).weak (by first | (simp only [sp]; decide) | decide);have := (ih.eq (.path false) y vy (by rw [ey]; omega) (by rw [hR]; exact Nat.lt_of_sub_eq_succ rfl) trivial).one rfl;rw [show sp (.path false) y = ⟨1,0,18,1⟩ from if_pos (by rw [ey]; exact hi)] at this;exact this.j
 ·have hi : (aO s.rem).1 ≠ 100 := by simp [S.test] at ht; omega
  exact (J1.nodeH (by decide) hv fun y ey vy => J.bump1 vy (by rw [ey]; exact hi)).weak (by first | (simp only [sp]; decide) | decide)
 ·exact (J1.nodeH (by decide) hv fun y ey vy => J.bump1 vy (by rw [ey]; exact cO ht)).weak (by first | (simp only [sp]; decide) | decide)
 ·exact (J1.leaf (by decide)).weak (by decide)
theorem uN (hN : B s.rem = N) : Js .typeParam s :=
 .mk rfl (J.cond (fun ht => (J1.nodeH (by decide) hv fun y ey vy => J.bseq vy (by rw [ey]; exact gW ht) fun r v c => (J.cond (fun ht => J.bseq v (cO ht) fun x vx cx => J.then (N := N) vx (by rw [ey] at c; omega) (ih.path vx (by rw [ey] at c; omega)).j fun x vx hx =>
  J.loop (p := ⟨1,0,19,1⟩) vx (by decide) (by decide) fun z vz cz ht => (J.bseq vz (cO ht) fun a va ca => (ih.path va (by omega)).j).weak (by decide)) fun _ => J.skip)).j) fun _ => J.skip) (by first | (simp only [sp]; decide) | decide)
theorem sM (hN : B s.rem = N) : Js .typeParams s :=
 .mk1 rfl (J1.nodeH (by decide) hv fun y ey vy => J.cond (fun ht => J.bseq vy (cO ht) fun r v c => J.list v (p := ⟨0,0,15,2⟩) (by decide) fun x vx cx => (ih.lt .typeParam x vx (by rw [ey] at c; omega) trivial).j) fun _ => J.skip) (by first | (simp only [sp]; decide) | decide)
theorem B0 {cl : ByteArray} (hN : B s.rem = N) : Js (.params cl) s :=
 .mk1 rfl (J1.nodeH (by decide) hv fun y ey vy => J.list vy (p := ⟨0,0,18,1⟩) (by decide) fun x vx cx => (J.cond (fun ht => (J1.nodeH (by decide) vx fun z ez vz => J.bseq vz (by rw [ez]; exact gW ht) fun r v c => J.opt v fun a va ca => (ih.typ va (by rw [ez] at c; rw [ey] at cx; omega)).j).j) fun _ => J.skip).weak (by decide)) (by first | (simp only [sp]; decide) | decide)
theorem wK {b : Bool} (hN : B s.rem = N) (hR : jN (.function b) s = R) : Js (.function b) s := by
 have hR : R = 70 := hR.symm;have blk : ∀ r,V r.rem → B r.rem ≤ N → J (.call .block) r ⟨0,4,8,5⟩ := fun r v h => by
  refine ((ih.eq .block r v h ?_ trivial).one rfl).j.weak ?_
  ·rw [hR]; simp only [jN]; split <;> decide
  ·simp only [sp]; split <;> decide
 refine .mk rfl (J.thenL (N := N) hv (by omega) (J.expIdent hv) fun r v h => J.thenL v h ((ih.eq .typeParams r v h (by rw [hR]; exact Nat.lt_of_sub_eq_succ rfl) trivial).one rfl).j fun r v h => J.thenL v h (J.exp v) fun r v h => J.thenL v h ((ih.eq (.params ⟨#[41]⟩) r v h (by rw [hR]; exact Nat.lt_of_sub_eq_succ rfl) trivial).one rfl).j fun r v h =>
  J.thenL v h (J.opt v fun x vx cx => (ih.typ vx (by omega)).j) fun r v h => (?_ : J _ r ⟨0,4,8,5⟩)) (by first | (simp only [sp]; decide) | decide)
 cases b
 ·exact (J.cond (fun ht => J.bseq v (cO ht) fun x vx cx => (J1.leaf (by decide)).j) fun _ => blk r v h).weak (by decide)
 ·exact blk r v h
theorem Aa {k : Int} (hN : B s.rem ≤ N) : J (.cond cB (if k = 4 then .node 14 (fJ [.bump,exp ⟨#[58]⟩,.call .typeExpr]) else .node 15 (.seq .bump (.cond (cE [⟨#[40]⟩]) (.seq .bump (list ⟨#[41]⟩ (.call .typeExpr))) .skip))) .skip) s ⟨0,0,18,3⟩ := by
 refine (J.cond (p := ⟨1,0,18,3⟩) (fun ht => ?_) fun _ => J.skip).weak (by decide)
 split
 ·exact (J1.nodeH (by decide) hv fun y ey vy => J.bseq vy (by rw [ey]; exact gW ht) fun r v c => J.then (N := N) v (by rw [ey] at c; omega) (J.exp v) fun r v h => (ih.typ v h).j).j.weak (by decide)
 ·exact (J1.nodeH (by decide) hv fun y ey vy => J.bseq vy (by rw [ey]; exact gW ht) fun r v c => J.cond (fun ht => J.bseq v (cO ht) fun r v c => J.list v (p := ⟨0,1,15,3⟩) (by decide) fun x vx cx => (ih.typ vx (by rw [ey] at *; omega)).j) fun _ => J.skip).j.weak (by decide)
theorem wL {k : Int} (hN : B s.rem = N) (hR : jN (.dataType k) s = R) : Js (.dataType k) s := by
 have hR : R = 70 := hR.symm;exact .mk rfl (J.thenL (N := N) hv (by omega) (J.expIdent hv) fun r v h => J.thenL v h ((ih.eq .typeParams r v h (by rw [hR]; exact Nat.lt_of_sub_eq_succ rfl) trivial).one rfl).j fun r v h => J.thenL v h (J.exp v) fun r v h => J.list v (p := ⟨0,0,18,3⟩) (by decide) fun x vx cx => Aa ih vx (by omega)) (by first | (simp only [sp]; decide) | decide)
theorem Ab (hN : B s.rem = N) : Js .members s :=
 .mk rfl (J.thenL (N := N) hv (by omega) (J.exp hv) fun r v h => J.thenL v h (J.loop (p := ⟨1,0,11,5⟩) v (by decide) (by decide) fun x vx cx ht => (J.cond (fun h2 => (J1.nodeH (by decide) vx fun y ey vy => J.bseq vy (by rw [ey]; exact cO h2) fun r v c => (ih.lt (.function false) r v (by rw [ey] at c; omega) trivial).j).j)
  fun _ => (J1.nodeH (by decide) vx fun y ey vy => J.bseq vy (by rw [ey]; exact cO ht) fun r v c => J.then (N := N) v (by rw [ey] at c; omega) (J.expIdent v) fun r v h => J.then v h (J.opt v fun x vx cx => (ih.typ vx (by omega)).j) fun r v h => J.exp v).j).weak (by first | (simp only [sp]; decide) | decide)) fun r v h => J.exp v) (by first | (simp only [sp]; decide) | decide)
theorem I7 {r : S} {t : Tr} (hN : B s.rem ≤ N) (g : G ⟨0,1,15,3⟩ s r [t]) : T (.cond (cE [⟨#[102,111,114]⟩]) (.seq .bump (.call .typeExpr)) .before) r fun x => ∃ l,G ⟨0,2,13,3⟩ s x l := by
 have hl := g.le;have v := g.val hv;refine T.cond (fun ht => ?_) fun _ => ?_
 ·exact T.mono (J.bseq v (cO ht) fun x vx cx => (ih.typ vx (by omega)).j) fun x ⟨m,g'⟩ => ⟨_,(g.seq g').weak (by decide)⟩
 ·refine T.before g.kids ⟨[.leaf 0,t],rfl,?_,g.con,fun h => ?_,fun h => ?_,?_,?_,⟨.inr ⟨by decide,by decide,rfl,trivial⟩,g.wf⟩⟩
  ·obtain ⟨u,h1,h2⟩ := g.suf
   exact ⟨u,h1,by rw [← h2]; simp [gK,Tr.leaf,Tr.txt,fS]⟩
  ·have := g.c0 h
   simp at this ⊢;omega
  ·have := g.c1 h
   simp at this ⊢;omega
  ·have := g.cn
   simp [fN,Tr.leaf,Tr.cnt] at this ⊢;omega
  ·have := g.dep
   simp [jG,Tr.leaf,Tr.dep] at this ⊢;omega
theorem Hr (hN : B s.rem = N) (hR : jN .impl s = R) : Js .impl s := by
 have hR : R = 80 := hR.symm;exact .mk (p := Pr.seq ⟨0,1,14,2⟩ (Pr.seq ⟨0,2,13,3⟩ ⟨0,2,8,5⟩)) rfl (J.thenL (N := N) hv (by omega) ((ih.eq .typeParams s hv (by omega) (by rw [hR]; exact Nat.lt_of_sub_eq_succ rfl) trivial).one rfl).j fun r v h =>
  T.seq (T.mono ((ih.eq .typeExpr r v h (by rw [hR]; exact Nat.lt_of_sub_eq_succ rfl) trivial).one rfl) fun x ⟨t,g⟩ => T.seq (T.mono (I7 ih v h g) fun y ⟨l,g'⟩ => T.mono ((ih.eq .members y (g'.val v) (by have := g'.le; omega) (by rw [hR]; exact Nat.lt_of_sub_eq_succ rfl) trivial).j) fun z ⟨m,g''⟩ => ⟨_,g'.seq g''⟩))) (by first | (simp only [sp]; decide) | decide)
theorem wM {k : Int} (hN : B s.rem = N) (hR : jN (.itemBody k) s = R) : Js (.itemBody k) s := by
 have hR : R = 90 := hR.symm;have up : ∀ x r,V r.rem → B r.rem ≤ N → jN x r < 90 → Pre x r → J (.call x) r (sp x r) := fun x r v h hk hp => (ih.eq x r v h (by omega) hp).j;refine .mk (p := ⟨0,12,0,6⟩) rfl ?_ (by first | (simp only [sp]; decide) | decide);simp only [body]
 split
 ·exact (up .use s hv (by omega) (by exact Nat.lt_of_sub_eq_succ rfl) trivial).weak (by first | (simp only [sp]; decide) | decide)
 split
 ·exact (up (.function true) s hv (by omega) (by exact Nat.lt_of_sub_eq_succ rfl) trivial).weak (by first | (simp only [sp]; decide) | decide)
 split
 ·exact (up (.dataType k) s hv (by omega) (by exact Nat.lt_of_sub_eq_succ rfl) trivial).weak (by first | (simp only [sp]; decide) | decide)
 split
 ·exact (J.thenL (N := N) hv (by omega) (J.expIdent hv) fun r v h => up .members r v h (by exact Nat.lt_of_sub_eq_succ rfl) trivial).weak (by first | (simp only [sp]; decide) | decide)
 split
 ·exact (up .impl s hv (by omega) (by exact Nat.lt_of_sub_eq_succ rfl) trivial).weak (by first | (simp only [sp]; decide) | decide)
 split
 ·exact (J.thenL (N := N) hv (by omega) (J.expIdent hv) fun r v h => J.thenL v h (J.exp v) fun r v h => J.thenL v h (up .typeExpr r v h (by exact Nat.lt_of_sub_eq_succ rfl) trivial) fun r v h => J.thenL v h (J.exp v) fun r v h => J.thenL v h (ih.exprR (by omega) v h).j fun r v h => J.exp v).weak (by first | (simp only [sp]; decide) | decide)
 split
 ·exact (J.thenL (N := N) hv (by omega) (J.expIdent hv) fun r v h => J.thenL v h (J.exp v) fun r v h => J.thenL v h (up (.params ⟨#[41]⟩) r v h (by exact Nat.lt_of_sub_eq_succ rfl) trivial) fun r v h => J.thenL v h (J.exp v) fun r v h => J.thenL v h (ih.exprR (by omega) v h).j fun r v h => J.exp v).weak (by first | (simp only [sp]; decide) | decide)
 ·exact J.skip.weak (by first | (simp only [sp]; decide) | decide)
theorem Ac (hN : B s.rem = N) (hR : jN .primary s = R) : Js .primary s := by
 have hR : R = 10 := hR.symm;have up : ∀ x r,V r.rem → B r.rem ≤ N → jN x r < 10 → Pre x r → J (.call x) r (sp x r) := fun x r v h hk hp => (ih.eq x r v h (by omega) hp).j;have hb : body .primary = .cond (fun t _ _ _ => t.1 == 105) (.node 27 .bump) (.cond (fun t _ _ _ => t.1 == 106) (.node 29 .bump) (.cond (cE [⟨#[116,114,117,101]⟩,⟨#[102,97,108,115,101]⟩]) (.node 28 .bump) (.cond cB (.seq (.call (.path false)) (.cond (fun t u _ _ => aV [⟨#[33]⟩] t && aV [⟨#[40]⟩] u) (.wrap 42 (.seq .bump (.call .arguments))) .skip))
   (.cond (cE [⟨#[40]⟩]) (.node 60 (fJ [.bump,Cmd.expr,exp ⟨#[41]⟩])) (.cond (cE [rG]) (.call .block) (.cond (cE [⟨#[105,102]⟩]) (.call .ifExpr) (.cond (cE [⟨#[109,97,116,99,104]⟩]) (.node 35 (.call .matchE)) (.cond (cE [⟨#[110,101,119]⟩]) (.node 33 (.call .structLit)) (.cond (cE [⟨#[124]⟩,⟨#[124,124]⟩]) (.node 38 (.call .lambda)) mS))))))))) := rfl
 refine .mk1 (p := ⟨0,1,15,3⟩) rfl ?_ (by first | (simp only [sp]; decide) | decide);rw [hb];refine T.cond (fun ht => ?_) fun _ => T.cond (fun ht => ?_) fun _ => T.cond (fun ht => ?_) fun _ => T.cond (fun ht => ?_) fun _ => T.cond (fun ht => ?_) fun _ => T.cond (fun ht => ?_) fun _ => T.cond (fun ht => ?_) fun _ => T.cond (fun ht => ?_) fun _ => T.cond (fun ht => ?_) fun _ => T.cond (fun ht => ?_) fun _ => ?_
 ·have hi : (aO s.rem).1 ≠ 100 := by simp [S.test] at ht; omega
  exact (J1.nodeH (by decide) hv fun y ey vy => J.bump1 vy (by rw [ey]; exact hi)).weak (by first | (simp only [sp]; decide) | decide)
 ·have hi : (aO s.rem).1 ≠ 100 := by simp [S.test] at ht; omega
  exact (J1.nodeH (by decide) hv fun y ey vy => J.bump1 vy (by rw [ey]; exact hi)).weak (by first | (simp only [sp]; decide) | decide)
 ·exact (J1.nodeH (by decide) hv fun y ey vy => J.bump1 vy (by rw [ey]; exact cO ht)).weak (by first | (simp only [sp]; decide) | decide)
 ·have hi : (aO s.rem).1 = 103 := by simpa [S.test,cB] using ht
  have h1 := (ih.eq (.path false) s hv (by omega) (by rw [hR]; exact Nat.lt_of_sub_eq_succ rfl) trivial).one rfl;rw [show sp (.path false) s = ⟨1,0,18,1⟩ from if_pos hi] at h1;refine T.seq (T.mono h1 fun r ⟨u,g⟩ => T.cond (fun h2 => ?_) fun _ => T.skip ⟨u,g.weak (by decide)⟩);have hc : (B r.rem : Int) + 1 ≤ B s.rem := g.con;have h2 : (aV [⟨#[33]⟩] (aO r.rem) && aV [⟨#[40]⟩] (aO (left r.rem))) = true := h2;simp only [Bool.and_eq_true] at h2;exact T.mono (J1.wrap (by decide) g (q := Pr.seq ⟨1,0,23,-1⟩ ⟨1,0,18,1⟩) (J.bseqE (s := { r with kids := [u],adds := r.adds + 1 }) (g.val hv) (iB h2.1) fun y ey vy c => (ih.lt .arguments y vy (by simp only at c; omega) (by show (aO y.rem).1 ≠ 100; rw [ey]; exact iB h2.2)).j)) fun x ⟨⟨t',h⟩,_⟩ => ⟨t',h.weak (by decide)⟩
 ·exact (J1.nodeH (by decide) hv fun y ey vy => J.bseq vy (by rw [ey]; exact cO ht) fun r v c => J.then (N := N) v (by rw [ey] at c; omega) (ih.expr v (by rw [ey] at c; omega)).j fun r v h => J.exp v).weak (by first | (simp only [sp]; decide) | decide)
 ·have hb : aV [rG] (aO s.rem) = true := ht
  have h1 := (ih.eq .block s hv (by omega) (by rw [hR,show jN .block s = 0 from if_pos hb]; decide) trivial).one rfl;rw [show sp .block s = ⟨1,0,15,3⟩ from if_pos hb] at h1;exact h1.weak (by decide)
 ·exact ((ih.eq .ifExpr s hv (by omega) (by rw [hR]; exact Nat.lt_of_sub_eq_succ rfl) (Bt ht)).one rfl).weak (by first | (simp only [sp]; decide) | decide)
 ·exact (J1.nodeH (by decide) hv fun y ey vy => up .matchE y vy (by rw [ey]; omega) (by exact Nat.lt_of_sub_eq_succ rfl) (by show (aO y.rem).1 ≠ 100; rw [ey]; exact cO ht)).weak (by first | (simp only [sp]; decide) | decide)
 ·exact (J1.nodeH (by decide) hv fun y ey vy => up .structLit y vy (by rw [ey]; omega) (by exact Nat.lt_of_sub_eq_succ rfl) (by show (aO y.rem).1 ≠ 100; rw [ey]; exact cO ht)).weak (by first | (simp only [sp]; decide) | decide)
 ·exact (J1.nodeH (by decide) hv fun y ey vy => up .lambda y vy (by rw [ey]; omega) (by exact Nat.lt_of_sub_eq_succ rfl) (by show (aO y.rem).1 ≠ 100; rw [ey]; exact cO ht)).weak (by first | (simp only [sp]; decide) | decide)
 ·exact (J1.leaf (by decide)).weak (by decide)
theorem Hs {k : Int} (hN : B s.rem = N) (hk : cY (aO s.rem) (aO (left s.rem)) = k) (h0 : k ≠ 0) (h1 : 0 ≤ k ∧ k < 100) : J1 (.node k (fJ [acc ⟨#[112,117,98]⟩,.bump,.call (.itemBody k)])) s ⟨1,0,10,7⟩ := by
 refine (J1.nodeH (p := ⟨1,0,11,4⟩) h1 hv fun y ey vy => ?_).weak (by decide)
 by_cases hp : aV [⟨#[112,117,98]⟩] (aO s.rem) = true
 ·refine (T.seq (T.cond (fun _ => ?_) fun h => ?_) : T _ _ _)
  ·obtain ⟨l,g⟩ := T.of_bump (J.bump1 vy (by rw [ey]; exact iB hp))
   have hc : (B y.bump.rem : Int) + 1 ≤ B y.rem := g.con;have ebr : y.bump.rem = left s.rem := by show left y.rem = _; rw [ey]
   refine T.bump (T.mono (J.bseq (g.val vy) ?_ fun r v c => ((ih.lt (.itemBody k) r v (by rw [ey] at hc; omega) trivial).j).weak (q := ⟨0,12,0,6⟩) (by first | (simp only [sp]; decide) | decide)) fun x ⟨m,g'⟩ => ⟨_,(g.seq g').weak (by decide)⟩);rw [ebr];intro he;unfold cY at hk;rw [if_pos hp] at hk;simp only [he] at hk;simp at hk;exact h0 hk.symm
  ·have h : aV [⟨#[112,117,98]⟩] (aO y.rem) = false := h
   rw [ey,hp] at h
   cases h
 ·refine (T.seq (T.cond (fun h => ?_) fun _ => T.skip ?_) : T _ _ _)
  ·have h : aV [⟨#[112,117,98]⟩] (aO y.rem) = true := h
   rw [ey] at h;exact absurd h hp
  ·refine T.mono (J.bseq vy ?_ fun r v c => ((ih.lt (.itemBody k) r v (by rw [ey] at c; omega) trivial).j).weak (q := ⟨0,12,0,6⟩) (by first | (simp only [sp]; decide) | decide)) fun x ⟨m,g'⟩ => ⟨m,g'.weak (by decide)⟩
   rw [ey];intro he;unfold cY at hk;rw [if_neg hp] at hk;simp only [he] at hk;simp at hk;exact h0 hk.symm
theorem Ht (hN : B s.rem = N) (hR : jN .item s = R) (hp : Pre .item s) : Js .item s := by
 have hR : R = 100 := hR.symm;refine .mk1 (p := ⟨1,0,10,7⟩) rfl (T.sel ?_) (by first | (simp only [sp]; decide) | decide)
 by_cases h0 : cY (aO s.rem) (aO (left s.rem)) = 0
 ·simp only [h0]
  exact ((ih.eq .skipTo s hv (by omega) (by rw [hR]; exact Nat.lt_of_sub_eq_succ rfl) hp).one rfl).weak (by first | (simp only [sp]; decide) | decide)
 ·simp only [if_neg h0]
  exact Hs ih hv hN rfl h0 (pG _ _)
end
theorem step (ih : Ih N R) {x : Nm} {s : S} (hv : V s.rem) (hN : B s.rem = N) (hR : jN x s = R) (hp : Pre x s) : Js x s := by
 cases x with
 | block => exact Ev ih hv hN hR
 | statement => exact uM ih hv hN hR hp
 | letS => exact Hp ih hv hN hp
 | returnS => exact zX ih hv hN hp
 | binary n => exact Bz ih hv hN hR hp
 | unary => exact Ew ih hv hN hR
 | arguments => exact uK ih hv hN hp
 | postE => exact hp.elim
 | primary => exact Ac ih hv hN hR
 | ifExpr => exact By ih hv hN hp
 | matchE => exact Bv ih hv hN hp
 | structLit => exact uL ih hv hN hp
 | lambda => exact Bx ih hv hN hp
 | pattern => exact zZ ih hv hN hR
 | item => exact Ht ih hv hN hR hp
 | skipTo => exact Bu hv hp
 | itemBody k => exact wM ih hv hN hR
 | use => exact I6 hv hN
 | typeParams => exact sM ih hv hN
 | typeParam => exact uN ih hv hN
 | params cl => exact B0 ih hv hN
 | function b => exact wK ih hv hN hR
 | dataType k => exact wL ih hv hN hR
 | members => exact Ab ih hv hN
 | impl => exact Hr ih hv hN hR
 | path b => exact Hq ih hv hN
 | typeExpr => exact wJ ih hv hN hR
theorem all (N : Nat) : ∀ R x s,V s.rem → B s.rem = N → jN x s = R → Pre x s → Js x s := by
 induction N using Nat.strongRecOn with
 | _ N ihN =>
  intro R
  induction R using Nat.strongRecOn with
  | _ R ihR =>
   intro x s hv hN hR hp;refine step (N := N) (R := R) ⟨fun y r v h p => ihN _ h _ y r v rfl rfl p,fun y r v h hk p => ?_⟩ hv hN hR hp
   rcases Nat.lt_or_ge (B r.rem) N with c | c
   ·exact ihN _ c _ y r v rfl rfl p
   ·exact ihR _ hk y r v (by omega) rfl p
theorem I8 (x : Nm) (s : S) (hv : V s.rem) (hp : Pre x s) : Js x s := all _ _ x s hv rfl rfl hp
theorem B1 {l : List Tok} (hv : V l) (h : (aO l).1 = 100) : left l = [] ∧ ∀ t ∈ l,gG t.1 = true := by
 induction l with
 | nil => exact ⟨rfl,fun t ht => by cases ht⟩
 | cons t l ih =>
  simp only [aO,left] at h ⊢
  split at h
  ·rename_i ht
   rw [if_pos ht];obtain ⟨h1,h2⟩ := ih (fun u hu => hv u (List.mem_cons_of_mem _ hu)) h;exact ⟨h1,fun u hu => by
    rcases List.mem_cons.1 hu with rfl | hu
    ·exact ht
    ·exact h2 u hu⟩
  ·have := (hv t List.mem_cons_self).2
   omega
theorem rH (l : List Tok) (hv : V l) : T uE ⟨l,[],false,0⟩ fun r => r.rem = [] ∧ gK r.kids = tt l ∧ qQ r.kids ∧ r.adds ≤ 24 * B l ∧ fN r.kids ≤ r.adds ∧ jG r.kids ≤ 2 * B l + 7 := by
 refine T.seq (T.mono (T.loopB (I := fun r => V r.rem ∧ ∃ m,G ⟨0,0,0,7⟩ ⟨l,[],false,0⟩ r m) (fun r ⟨v,m,g⟩ ht => ?_) _ ⟨l,[],false,0⟩ (Nat.le_refl _) ⟨hv,[],rfl,⟨[],rfl,rfl⟩,by simp,by simp,fun h => absurd h (Nat.lt_irrefl _),by simp [fN],by simp [jG]; omega,trivial⟩) fun r ⟨⟨v,m,g⟩,ht⟩ => ?_)
 ·have hp : Pre .item r := by
   show ¬ (aO r.rem).1 = 100
   simpa [S.test] using ht
  refine T.mono ((I8 .item r v hp).j) fun x ⟨m',g'⟩ => ⟨⟨g'.val v,_,(g.seq g').weak (by simp only [sp]; decide)⟩,?_⟩;have : (B x.rem : Int) + 1 ≤ B r.rem := g'.con;omega
 ·have he : (aO r.rem).1 = 100 := by simpa [S.test] using ht
  obtain ⟨m',g'⟩ := T.of_bump (J.bump v);have h1 := (B1 v he).1;have h2 : r.bump.rem = [] := h1;have g2 := (g.seq g').weak (q := ⟨0,0,0,7⟩) (by decide);have hk : r.bump.kids = m ++ m' := by have := g2.kids; simpa using this
  refine T.bump ⟨h2,?_,?_,?_,?_,?_⟩ <;> (try rw [hk])
  ·obtain ⟨u,e1,e2⟩ := g2.suf
   rw [h2,List.append_nil] at e1;rw [e2];exact congrArg tt e1.symm
  ·exact g2.wf
  ·rcases Nat.lt_or_ge (B r.bump.rem) (B l) with c | c
   ·have := g2.c1 c
    rw [h2] at this;simp [B] at this ⊢;omega
   ·have := g2.c0 (by have := g2.le; simp only at this ⊢; omega)
    simp only at this;omega
  ·have := g2.cn
   simpa using this
  ·have := g2.dep
   rw [h2] at this;simp [B] at this ⊢;omega
end Go.Proofs.YtlndmiegodcfjaaGreatDoor.Par
namespace Go.Gx
open Go.RowKit
abbrev Env := List (Nat × Value)
def look : Env → Nat → Option Value
 | [],_ => none
 | (t,v) :: L,s => match Nat.beq t s with
  | true => some v
  | false => look L s
def cF (L : Env) : Operand → Option Value
 | .tmp t => look L t
 | .const v => some v
 | .global g => some (.pointer (some ⟨g,0,none⟩))
 | .func f => some (.func (.func f) #[] #[])
structure Fr (n : Nat) (a : Act) (L : Env) : Prop where
 defers : a.defers = []
 size : a.tmps.size = n
 vals : ∀ s v,look L s = some v → s < n ∧ a.tmps.getD s undef = v
def lV (d : Option Tmp) (v : Value) (L : Env) : Env := match d with
 | some d => (d,v) :: L
 | none => L
def wD (n : Nat) (d : Option Tmp) : Bool := match d with
 | some d => Nat.blt d n
 | none => true
theorem Fr.put {n : Nat} {a : Act} {L : Env} (h : Fr n a L) {d : Option Tmp} (hd : wD n d = true) (v : Value) : Fr n (a.put d v) (lV d v L) := by
 cases d with
 | none => exact h
 | some d =>
  have hd' : d < n := by simpa [wD,Nat.blt_eq] using hd
  refine ⟨h.defers,by simp [Act.put,h.size],fun s u hs => ?_⟩;simp only [lV,look] at hs
  split at hs
  ·rename_i he
   have := Nat.eq_of_beq_eq_true he;subst this
   injection hs with hs
   subst hs;exact ⟨hd',by simp [Act.put,Array.getD_eq_getD_getElem?,h.size,hd']⟩
  ·rename_i he
   have hne : d ≠ s := fun e => by subst e; simp at he
   have := h.vals s u hs;refine ⟨this.1,?_⟩;rw [← this.2];simp [Act.put,Array.getElem?_setIfInBounds_ne hne]
theorem Fr.eval {n : Nat} {a : Act} {L : Env} (h : Fr n a L) {x : Operand} {v : Value} (hx : cF L x = some v) : a.eval x = v := by
 cases x with
 | tmp t => exact (h.vals t v hx).2
 | const u => simpa [cF,Act.eval] using hx
 | global g => simpa [cF,Act.eval] using hx
 | func f => simpa [cF,Act.eval] using hx
def Sub (M L : Env) : Prop := ∀ s v,look M s = some v → look L s = some v
theorem Sub.nil {L : Env} : Sub [] L := fun _ _ h => by cases h
theorem Sub.cons {s : Nat} {v : Value} {M L : Env} (h : look L s = some v) (k : Sub M L) : Sub ((s,v) :: M) L := fun t u ht => by
 simp only [look] at ht
 split at ht
 ·rename_i he
  have := Nat.eq_of_beq_eq_true he;subst this
  injection ht with ht
  subst ht;exact h
 ·exact k t u ht
theorem Fr.sub {n : Nat} {a : Act} {M L : Env} (h : Fr n a L) (k : Sub M L) : Fr n a M := ⟨h.defers,h.size,fun s v hs => h.vals s v (k s v hs)⟩
abbrev Kn := Env → World → Prop
def Tq (n : Nat) (N : Kn) (X : Exit → Kn) : Exit → Act → World → Prop
 | .normal,a,w => ∃ L,Fr n a L ∧ N L w
 | .panic _,_,_ => False
 | .outgrown,_,_ => False
 | e,a,w => ∃ L,Fr n a L ∧ X e L w
def Wp (P : Program) (n : Nat) (c : Code) (N : Kn) (X : Exit → Kn) (L : Env) (w : World) : Prop :=
 ∀ a,Fr n a L → c.wp P (Tq n N X) a w
section
variable {P : Program} {n : Nat} {N : Kn} {X : Exit → Kn} {L : Env} {w : World}
theorem Wp.sub {c : Code} {M : Env} (h : Sub M L) (k : Wp P n c N X M w) : Wp P n c N X L w := fun a ha => k a (ha.sub h)
theorem Wp.mono {c : Code} {N' : Kn} {X' : Exit → Kn} (h : Wp P n c N X L w) (hN : ∀ L w,N L w → N' L w) (hX : ∀ e L w,X e L w → X' e L w) : Wp P n c N' X' L w :=
 fun a ha => wp_mono (h a ha) fun e a w q => by
  cases e <;> first
   | exact q
   | (obtain ⟨L,h1,h2⟩ := q; first | exact ⟨L,h1,hN _ _ h2⟩ | exact ⟨L,h1,hX _ _ _ h2⟩)
theorem Wp.skip (h : N L w) : Wp P n .skip N X L w := fun a ha => wp_skip (Q := Tq n N X) ⟨L,ha,h⟩
theorem Wp.ret (h : X .ret L w) : Wp P n .ret N X L w := fun a ha => wp_ret (Q := Tq n N X) ⟨L,ha,h⟩
theorem Wp.exit {i : Nat} (h : X (.exit i) L w) : Wp P n (.exit i) N X L w := fun a ha => wp_exit (Q := Tq n N X) ⟨L,ha,h⟩
theorem Wp.seq {x y : Code} (h : Wp P n x (fun L w => Wp P n y N X L w) X L w) : Wp P n (.seq x y) N X L w := fun a ha =>
 wp_seq (wp_mono (h a ha) fun e a w q => by
  cases e <;> first
   | exact q
   | (obtain ⟨L,h1,h2⟩ := q; exact h2 a h1))
def Xb (i : Nat) (N : Kn) (X : Exit → Kn) : Exit → Kn
 | .exit j => match Nat.beq j i with
  | true => N
  | false => X (.exit j)
 | e => X e
theorem Wp.block {i : Nat} {c : Code} (h : Wp P n c N (Xb i N X) L w) : Wp P n (.block i c) N X L w := fun a ha =>
  wp_block (wp_mono (h a ha) fun e a w q => by
    cases e <;> simp only [Exit.inBlock] <;> first
      | exact q
      | (rename_i j
         obtain ⟨L, h1, h2⟩ := q
         by_cases hj : j = i
         · subst hj
           simp only [Xb, Nat.beq_refl] at h2;simp only [if_true];exact ⟨L, h1, h2⟩
         · have hb : Nat.beq j i = false := by
             cases hb : Nat.beq j i
             · rfl
             · exact absurd (Nat.eq_of_beq_eq_true hb) hj
           simp only [Xb, hb] at h2;simp only [hj, if_false];exact ⟨L, h1, h2⟩))
theorem Wp.condT {c : Operand} {x y : Code} (hc : cF L c = some (.bool true)) (h : Wp P n x N X L w) : Wp P n (.cond c x y) N X L w := fun a ha =>
 wp_cond_true (ha.eval hc) (h a ha)
theorem Wp.condF {c : Operand} {x y : Code} (hc : cF L c = some (.bool false)) (h : Wp P n y N X L w) : Wp P n (.cond c x y) N X L w := fun a ha =>
 wp_cond_false (ha.eval hc) (h a ha)
theorem Wp.loop {c : Code} {ι : Type} (E : ι → Env) (I : ι → World → Prop) (μ : ι → Nat) (i0 : ι) (h0 : Sub (E i0) L) (hi : I i0 w)
    (round : ∀ i w, I i w → Wp P n c (fun L' w' => ∃ j, Sub (E j) L' ∧ I j w' ∧ μ j < μ i) X (E i) w) : Wp P n (.loop c) N X L w := fun a ha => by
  refine wp_loop_ghost (fun m a w => ∃ i, μ i = m ∧ Fr n a (E i) ∧ I i w) (μ i0) ⟨i0, rfl, ha.sub h0, hi⟩ ?_;rintro m a w ⟨i, rfl, hF, hI⟩;refine wp_mono (round i w hI a hF) fun e a w q => ?_
  cases e <;> first
    | exact q
    | (obtain ⟨L', h1, j, h2, h3, h4⟩ := q
       exact ⟨μ j, h4, j, rfl, h1.sub h2, h3⟩)
def iV (aY : Array Oper) (o : Oper) (L : Env) : Prop := match o.guard with
 | none => True
 | some (j,want) => ∃ t,(aY[j]?).bind (·.dst) = some t ∧ look L t = some (.bool want)
def Hu (aY : Array Oper) (o : Oper) (L : Env) : Prop := match o.guard with
 | none => False
 | some (j,want) => ∃ t b,(aY[j]?).bind (·.dst) = some t ∧ look L t = some (.bool b) ∧ (b == want) = false
def wN (aY : Array Oper) (o : Oper) (L : Env) : Prop := match o.guard with
 | none => False
 | some (j,_) => ∃ t,(aY[j]?).bind (·.dst) = some t ∧ look L t = some undef
theorem mF {aY : Array Oper} {a : Act} (ha : Fr n a L) {j t : Nat} {v : Value} (h1 : (aY[j]?).bind (·.dst) = some t) (h2 : look L t = some v) :
  yielded aY a.tmps j = match v with | .bool b => some b | _ => none := by
 obtain ⟨h3,h4⟩ := ha.vals t v h2;have : a.tmps[t]? = some v := by
  rw [Array.getD_eq_getD_getElem?] at h4;rw [Array.getElem?_eq_getElem (by rw [ha.size]; exact h3)] at h4 ⊢
  simpa using h4
 simp only [yielded,h1,Option.bind_some,this]
 cases v <;> rfl
theorem iV.wanted {aY : Array Oper} {o : Oper} {a : Act} (h : iV aY o L) (ha : Fr n a L) : Region.wanted o (yielded aY a.tmps) = true := by
 unfold iV at h;unfold Region.wanted
 split at h
 ·rename_i hg; simp [hg]
 ·rename_i j want hg
  obtain ⟨t,h1,h2⟩ := h;simp [hg,mF ha h1 h2]
theorem Hu.wanted {aY : Array Oper} {o : Oper} {a : Act} (h : Hu aY o L) (ha : Fr n a L) : Region.wanted o (yielded aY a.tmps) = false := by
 unfold Hu at h;unfold Region.wanted
 split at h
 ·exact h.elim
 ·rename_i j want hg
  obtain ⟨t,b,h1,h2,h3⟩ := h;have : (some b == some want) = false := by simpa using h3
  simp [hg,mF ha h1 h2]
  simpa using h3
theorem wN.wanted {aY : Array Oper} {o : Oper} {a : Act} (h : wN aY o L) (ha : Fr n a L) : Region.wanted o (yielded aY a.tmps) = false := by
 unfold wN at h;unfold Region.wanted
 split at h
 ·exact h.elim
 ·rename_i j want hg
  obtain ⟨t,h1,h2⟩ := h;simp [hg,mF ha h1 h2,undef]
def Tm (P : Program) (n : Nat) (o : Oper) (L : Env) (w : World) (v : Value) : Prop :=
 ∀ a,Fr n a L → ∀ w',Below w.heap.size w w' → (execOp a.eval o).run P w' = .ok (.value v) w'
def Wl (P : Program) (n : Nat) (o : Oper) (L : Env) (w : World) (R : Value → World → Prop) : Prop :=
 ∀ a,Fr n a L → ∀ (Q : Exit → Act → World → Prop) (next : Act → World → Prop),(∀ v w',R v w' → next (a.put o.dst v) w') → o.wp P a w next Q
def cR : Op → Bool
 | .alloc _ | .box .. | .buildSlice .. | .store .. | .insert .. => true
 | .makeMap .. | .makeSlice .. | .mapUpdate .. | .mapEntry .. | .entryStore .. => true
 | .range .. | .next .. | .entry .. | .panic .. | .defer .. | .go .. => true
 | .call { callee := .builtin .len,.. } | .call { callee := .builtin .cap,.. } | .call { callee := .builtin .min,.. } | .call { callee := .builtin .max,.. } => false
 | .call _ => true
 | _ => false
inductive Rg (P : Program) (aY : Array Oper) (n : Nat) (dr : Option (List Nat)) (K : Kn) : List Oper → Env → World → Prop
 | done {L : Env} {w : World} (h : K L w) : Rg P aY n dr K [] L w
 | skip {o : Oper} {rest : List Oper} {L : Env} {w : World} (h : Hu aY o L ∨ wN aY o L) (hd : wD n o.dst = true) (k : Rg P aY n dr K rest (lV o.dst undef L) w) : Rg P aY n dr K (o :: rest) L w
 | tame {o : Oper} {rest : List Oper} {L : Env} {w : World} (v : Value) (hg : iV aY o L) (hw : cR o.op = false) (h : Tm P n o L w v) (hd : wD n o.dst = true)
   (k : Rg P aY n dr K rest (lV o.dst v L) w) : Rg P aY n dr K (o :: rest) L w
 | wild {o : Oper} {rest : List Oper} {L : Env} {w : World} (R : Value → World → Prop) (hg : iV aY o L) (h : Wl P n o L w R) (hb : ∀ bars,dr = some bars → cR o.op = true ∧ (bars.contains rest.length = false → ∀ v w',R v w' → Below w.heap.size w w')) (hd : wD n o.dst = true)
   (k : ∀ v w',R v w' → Rg P aY n dr K rest (lV o.dst v L) w') : Rg P aY n dr K (o :: rest) L w
theorem Tm.wl {o : Oper} {v : Value} (h : Tm P n o L w v) : Wl P n o L w (fun u w' => u = v ∧ w' = w) := fun a ha Q next hn => by
 unfold Oper.wp;rw [h a ha w (Below.refl _ _)];exact hn v w ⟨rfl,rfl⟩
theorem Rg.list {aY : Array Oper} {dr : Option (List Nat)} {K : Kn} {l : List Oper} (h : Rg P aY n dr K l L w) : ∀ a,Fr n a L → wpList P aY (Tq n K X) l a w := by
 induction h with
 | done h => exact fun a ha => ⟨_,ha,h⟩
 | skip h hd k ih =>
  intro a ha;unfold wpList;have : Region.wanted _ (yielded aY a.tmps) = false := h.elim (fun h => h.wanted ha) (fun h => h.wanted ha);rw [if_neg (by simp [this])];exact ih _ (ha.put hd _)
 | tame v hg hw h hd k ih =>
  intro a ha;unfold wpList;rw [if_pos (hg.wanted ha)];exact .inl (h.wl a ha _ _ fun u w' ⟨h1,h2⟩ => by subst h1; subst h2; exact ih _ (ha.put hd _))
 | wild R hg h hb hd k ih =>
  intro a ha;unfold wpList;rw [if_pos (hg.wanted ha)];exact .inl (h a ha _ _ fun u w' hr => ih u w' hr _ (ha.put hd _))
theorem Wp.region {id : Nat} {l : List Oper} (h : Rg P l.toArray n none N l L w) : Wp P n (.region id l.toArray false) N X L w := fun a ha =>
 wp_region_lit (h.list a ha)
def B2 (aY : Array Oper) : Nat → List Nat → List Nat
 | 0,acc => acc
 | j + 1,acc => B2 aY j (if acc.contains j then (match aY[j]? with | some o => (o.after.toList.filter (Region.binds .any ·)).map (·.on) ++ acc | none => acc) else acc)
inductive Anc (aY : Array Oper) (b : Nat) : Nat → Prop
 | self : Anc aY b b
 | step {j : Nat} {o : Oper} {e : Edge} (h : Anc aY b j) (ho : aY[j]? = some o) (he : e ∈ o.after) (hb : Region.binds .any e = true) : Anc aY b e.on
theorem kF {aY : Array Oper} {b : Nat} : ∀ (j : Nat) (acc : List Nat),(∀ i ∈ acc,Anc aY b i) → ∀ i ∈ B2 aY j acc,Anc aY b i
 | 0,_,h => h
 | j + 1,acc,h => by
  unfold B2;refine kF j _ ?_
  split
  ·rename_i hj
   have hA := h j (by simpa using hj)
   split
   ·rename_i o ho
    intro i hi
    rcases List.mem_append.1 hi with hi | hi
    ·obtain ⟨e,he,rfl⟩ := List.mem_map.1 hi
     obtain ⟨he,hb⟩ := List.mem_filter.1 he;exact .step hA ho (by simpa using he) hb
    ·exact h i hi
   ·exact h
  ·exact h
def fZ (aY : Array Oper) (listed : Array Bool) : Prop := ∀ j o,listed.getD j false = true → aY[j]? = some o → ∀ e ∈ o.after,Region.binds .any e = true → listed.getD e.on false = true
theorem fZ.start (aY : Array Oper) : fZ aY (Array.replicate aY.size false) := fun j o h => by
 by_cases hj : j < aY.size <;> simp [hj] at h
theorem fZ.set {aY : Array Oper} {listed : Array Bool} (h : fZ aY listed) {i : Nat} (hi : i ∈ Region.ready .any aY listed) : fZ aY (listed.setIfInBounds i true) := fun j o hj ho e he hb => by
 by_cases hij : i = j
 ·subst hij
  obtain ⟨_,o',ho',hall⟩ := mem_ready.1 hi;rw [ho] at ho'
  injection ho' with ho'
  subst ho';exact getD_set_true (hall e he hb)
 ·rw [getD_set_ne false hij] at hj
  exact getD_set_true (h j o hj ho e he hb)
theorem fZ.anc {aY : Array Oper} {listed : Array Bool} (h : fZ aY listed) {b : Nat} (hr : b ∈ Region.ready .any aY listed) {i : Nat} (ha : Anc aY b i) : i = b ∨ listed.getD i false = true := by
 induction ha with
 | self => exact .inl rfl
 | step hA ho he hb ih =>
  rcases ih with rfl | ih
  ·obtain ⟨_,o',ho',hall⟩ := mem_ready.1 hr
   rw [ho] at ho'
   injection ho' with ho'
   subst ho';exact .inr (hall _ he hb)
  ·exact .inr (h _ _ ih ho _ he hb)
def gA (P : Program) (aY : Array Oper) (Q : Exit → Act → World → Prop) (S : World → Prop) (b : Nat) : Nat → Array Bool → Act → World → Prop
 | 0,listed,a,w => Region.ready .any aY listed = [] ∧ Q .normal a w
 | fuel + 1,listed,a,w =>
  (Region.ready .any aY listed = [] → Q .normal a w) ∧
  ∀ i ∈ Region.ready .any aY listed,wpOp P aY Q i (fun a' w' => (i = b → wpAny P .any aY Q fuel (listed.setIfInBounds i true) a' w') ∧ (i ≠ b → S w' ∧ gA P aY Q S b fuel (listed.setIfInBounds i true) a' w')) a w
theorem eB {aY : Array Oper} {Q : Exit → Act → World → Prop} {S : World → Prop} {b : Nat} : ∀ (fuel : Nat) (listed : Array Bool) (a : Act) (w : World),gA P aY Q S b fuel listed a w → wpAny P .any aY Q fuel listed a w
 | 0,_,_,_,h => h
 | fuel + 1,_,_,_,h => ⟨h.1,fun i hi => wpOp_mono (fun a' w' h' => by
   by_cases hib : i = b
   ·exact h'.1 hib
   ·exact eB fuel _ a' w' (h'.2 hib).2) (h.2 i hi)⟩
theorem oG {aY : Array Oper} {Q : Exit → Act → World → Prop} {S S' : World → Prop} {b : Nat} (h : ∀ w,S' w → S w) :
  ∀ (fuel : Nat) (listed : Array Bool) (a : Act) (w : World),gA P aY Q S' b fuel listed a w → gA P aY Q S b fuel listed a w
 | 0,_,_,_,k => k
 | fuel + 1,_,_,_,k => ⟨k.1,fun i hi => wpOp_mono (fun a' w' h' => ⟨h'.1,fun hib => ⟨h _ (h'.2 hib).1,oG h fuel _ a' w' (h'.2 hib).2⟩⟩) (k.2 i hi)⟩
theorem kY {aY : Array Oper} {Q : Exit → Act → World → Prop} {S : World → Prop} {b : Nat} {listed : Array Bool} {a : Act} {w : World} (hr : Region.ready .any aY listed = []) (h : Q .normal a w) :
  ∀ fuel,gA P aY Q S b fuel listed a w
 | 0 => ⟨hr,h⟩
 | _ + 1 => ⟨fun _ => h,by rw [hr]; simp⟩
theorem kG {aY : Array Oper} {Q : Exit → Act → World → Prop} {S : World → Prop} {b : Nat} {i : Nat} {oi : Oper} {v : Value} (hi : aY[i]? = some oi) (hsel : ∀ (j : Nat) (o : Oper) cs b,aY[j]? = some o → o.op ≠ .select cs b)
  (hQ : ∀ c a w,Q (.panic c) (a.put oi.dst v) w → Q (.panic c) a w) (hbar : b ≠ i ∧ ∀ listed,fZ aY listed → listed.getD i false = false → b ∉ Region.ready .any aY listed) :
  ∀ (fuel : Nat) (listed : Array Bool) (a : Act) (w : World),
   (∀ j oj,aY[j]? = some oj → j ≠ i → listed.getD j true = false → (∀ e ∈ oj.after,Region.binds .any e = true → e.on ≠ i) → oi.apart aY oj = true) →
   i ∈ Region.ready .any aY listed → fZ aY listed → YieldsIf P aY S oi v a → S w →
   gA P aY Q S b fuel (listed.setIfInBounds i true) (a.put oi.dst v) w → gA P aY Q S b (fuel + 1) listed a w := by
 intro fuel
 induction fuel with
 | zero =>
  intro listed a w _ hr hcl hy hS H;refine ⟨fun h => (by rw [h] at hr; cases hr),fun j hj => ?_⟩
  by_cases hji : j = i
  ·subst hji; exact hy.wpOp hi hS ⟨fun e => absurd e.symm hbar.1,fun _ => ⟨hS,H⟩⟩
  ·have := ready_mono hj hji
   rw [H.1] at this
   cases this
 | succ fuel ih =>
  intro listed a w hfree hr hcl hy hS H;refine ⟨fun h => (by rw [h] at hr; cases hr),fun j hj => ?_⟩
  by_cases hji : j = i
  ·subst hji; exact hy.wpOp hi hS ⟨fun e => absurd e.symm hbar.1,fun _ => ⟨hS,H⟩⟩
  ·have hun : listed.getD i false = false := by
    have h0 := (mem_ready.1 hr).1
    rcases Nat.lt_or_ge i listed.size with h' | h'
    ·simpa [h'] using h0
    ·simp [Array.getElem?_eq_none h'] at h0
   have hjb : j ≠ b := fun e => hbar.2 listed hcl hun (e ▸ hj);have h1 := H.2 j (ready_mono hj hji);obtain ⟨hjun,oj,hoj,hall⟩ := mem_ready.1 hj;have hnot : ∀ e ∈ oj.after,Region.binds .any e = true → e.on ≠ i := fun e he hb heq => by
    have h1 := hall e he hb;rw [heq,hun] at h1
    cases h1
   have h2 := wpOp_putIf hoj (hfree j oj hoj hji hjun hnot) (fun cs b => hsel i oi cs b hi) (fun cs b => hsel j oj cs b hoj) hQ hy h1;have hfree' : ∀ k ok,aY[k]? = some ok → k ≠ i → (listed.setIfInBounds j true).getD k true = false →
     (∀ e ∈ ok.after,Region.binds .any e = true → e.on ≠ i) → oi.apart aY ok = true := fun k ok hk hki hun hno => by
    refine hfree k ok hk hki ?_ hno
    by_cases hjk : j = k
    ·subst hjk; exact hjun
    ·rw [getD_set_ne true hjk] at hun; exact hun
   refine wpOp_mono (fun a' w' h3 => ⟨fun e => absurd e hjb,fun _ => ?_⟩) h2;obtain ⟨h4,h5⟩ := h3;have h6 := h5.2 hjb;refine ⟨h6.1,ih (listed.setIfInBounds j true) a' w' hfree' (ready_mono hr (Ne.symm hji)) (hcl.set hj) h4 h6.1 ?_⟩;rw [Array.setIfInBounds_comm _ _ hji];exact h6.2
def bU (aY : Array Oper) (bars : List Nat) : List Nat → Nat
 | [] => aY.size
 | i :: rest => if bars.contains rest.length then i else bU aY bars rest
theorem jE {aY : Array Oper} {bars : List Nat} {i : Nat} {rest : List Nat} (h : bars.contains rest.length = true) : bU aY bars (i :: rest) = i := by
 rw [bU,if_pos h]
theorem gX {aY : Array Oper} {bars : List Nat} {i : Nat} {rest : List Nat} (h : bars.contains rest.length = false) : bU aY bars (i :: rest) = bU aY bars rest := by
 rw [bU,if_neg (by rw [h]; simp)]
def iW (aY : Array Oper) (bars : List Nat) : List Nat → Array Bool → Bool
  | [], listed => (Region.ready .any aY listed).isEmpty
  | i :: rest, listed =>
    (match aY[i]? with
     | none => false
     | some o => (Region.ready .any aY listed).contains i &&
        (if cR o.op then Region.ready .any aY listed == [i]
         else Region.free .any aY listed i && !bars.contains rest.length && (Nat.beq (bU aY bars rest) aY.size || (!Nat.beq (bU aY bars rest) i && (B2 aY (bU aY bars rest + 1) [bU aY bars rest]).contains i)))) &&
    iW aY bars rest (listed.setIfInBounds i true)
def dN (aY : Array Oper) (plan : List Nat) : List Oper := plan.map fun i => aY.getD i default
theorem jO {aY : Array Oper} {listed : Array Bool} {j : Nat} (h : j ∈ Region.ready .any aY listed) : j < aY.size := by
 obtain ⟨_,o,ho,_⟩ := mem_ready.1 h;exact (Array.getElem?_eq_some_iff.1 ho).1
theorem Rg.any {aY : Array Oper} {bars : List Nat} {K : Kn} (hs : Region.noSelect aY = true) : ∀ (plan : List Nat) (L : Env) (w : World) (listed : Array Bool) (fuel : Nat),
  iW aY bars plan listed = true → plan.length ≤ fuel → fZ aY listed → Rg P aY n (some bars) K (dN aY plan) L w → ∀ a,Fr n a L →
  gA P aY (Tq n K X) (Below w.heap.size w) (bU aY bars plan) fuel listed a w := by
 intro plan
 induction plan with
 | nil =>
  intro L w listed fuel hp hf hcl h a ha;have hr : Region.ready .any aY listed = [] := by simpa [iW] using hp
  cases h with
  | done h => exact kY hr ⟨_,ha,h⟩ _
 | cons i plan ih =>
  intro L w listed fuel hp hf hcl h a ha;obtain ⟨fuel,rfl⟩ : ∃ m,fuel = m + 1 := ⟨fuel - 1,by simp at hf; omega⟩;have hf' : plan.length ≤ fuel := by simpa using hf
  simp only [iW,Bool.and_eq_true] at hp;obtain ⟨hp,hp'⟩ := hp
  cases ho : aY[i]? with
  | none => simp [ho] at hp
  | some o =>
   simp only [ho,Bool.and_eq_true] at hp;obtain ⟨hr,hp⟩ := hp;have hri : i ∈ Region.ready .any aY listed := by simpa using hr
   have hcl' := hcl.set hri;have hoo : aY.getD i default = o := by simp [Array.getD_eq_getD_getElem?,ho]
   have hlen : (dN aY plan).length = plan.length := by simp [dN]
   have hops : dN aY (i :: plan) = o :: dN aY plan := by simp only [dN,List.map_cons,hoo]
   rw [hops] at h;have tameCase : cR o.op = false → ∀ v,(∀ a,Fr n a L → YieldsIf P aY (Below w.heap.size w) o v a) → Rg P aY n (some bars) K (dN aY plan) (lV o.dst v L) w → wD n o.dst = true →
     gA P aY (Tq n K X) (Below w.heap.size w) (bU aY bars (i :: plan)) (fuel + 1) listed a w := by
    intro hk v hy k hd;rw [if_neg (by simp [hk])] at hp;simp only [Bool.and_eq_true,Bool.not_eq_true',Bool.or_eq_true] at hp;obtain ⟨⟨hfr,hnb⟩,hbar⟩ := hp;have hnext : bU aY bars (i :: plan) = bU aY bars plan := gX hnb;rw [hnext];refine kG ho (Region.noSelect_spec hs) (fun _ _ _ h => h) ?_ fuel listed a w (Region.free_spec ho hfr) hri hcl (hy a ha) (Below.refl _ _) (ih _ w _ fuel hp' hf' hcl' k _ (ha.put hd _))
    rcases hbar with hbar | ⟨hne,hanc⟩
    ·have hb := Nat.eq_of_beq_eq_true hbar
     have hil := jO hri;exact ⟨by omega,fun l _ _ hm => by have := jO hm; omega⟩
    ·have hne' : bU aY bars plan ≠ i := fun e => by rw [e,Nat.beq_refl] at hne; cases hne
     refine ⟨hne',fun l hl hi hm => ?_⟩;have hself : ∀ j ∈ [bU aY bars plan],Anc aY (bU aY bars plan) j := fun j hj => by
      have hj' : j = bU aY bars plan := by simpa using hj
      rw [hj'];exact Anc.self
     have hA := kF (b := bU aY bars plan) (bU aY bars plan + 1) _ hself i (by simpa using hanc)
     rcases hl.anc hm hA with e | e
     ·exact hne' e.symm
     ·rw [hi] at e; cases e
   have wildCase : cR o.op = true → ∀ R : Value → World → Prop,Region.wanted o (yielded aY a.tmps) = true → Wl P n o L w R → (bars.contains plan.length = false → ∀ v w',R v w' → Below w.heap.size w w') → wD n o.dst = true →
     (∀ v w',R v w' → Rg P aY n (some bars) K (dN aY plan) (lV o.dst v L) w') → gA P aY (Tq n K X) (Below w.heap.size w) (bU aY bars (i :: plan)) (fuel + 1) listed a w := by
    intro hk R hg h hb hd k;rw [if_pos hk] at hp;have hrs : Region.ready .any aY listed = [i] := by simpa using hp
    refine ⟨fun h0 => (by rw [h0] at hrs; cases hrs),?_⟩;intro j hj;obtain rfl : j = i := by rw [hrs] at hj; simpa using hj
    unfold wpOp;simp only [ho];rw [if_pos hg];refine .inl (h a ha _ _ fun v w' hv => ?_);have hih := ih _ w' _ fuel hp' hf' hcl' (k v w' hv) _ (ha.put hd v)
    cases hbc : bars.contains plan.length with
    | true =>
     have hnext : bU aY bars (j :: plan) = j := jE hbc;rw [hnext];exact ⟨fun _ => eB _ _ _ _ hih,fun e => absurd rfl e⟩
    | false =>
     have hw := hb hbc v w' hv;have hnext : bU aY bars (j :: plan) = bU aY bars plan := gX hbc;rw [hnext];exact ⟨fun _ => eB _ _ _ _ hih,fun _ => ⟨hw,oG (fun x hx => hw.trans (hx.mono hw.size)) _ _ _ _ hih⟩⟩
   cases h with
   | skip h hd k =>
    cases hk : cR o.op with
    | false => exact tameCase hk undef (fun a ha => .inr ⟨h.elim (fun h => h.wanted ha) (fun h => h.wanted ha),rfl⟩) k hd
    | true =>
     rw [if_pos hk] at hp;have hrs : Region.ready .any aY listed = [i] := by simpa using hp
     refine ⟨fun h0 => (by rw [h0] at hrs; cases hrs),?_⟩;intro j hj;obtain rfl : j = i := by rw [hrs] at hj; simpa using hj
     unfold wpOp;simp only [ho];have hn : Region.wanted o (yielded aY a.tmps) = false := h.elim (fun h => h.wanted ha) (fun h => h.wanted ha);rw [if_neg (by simp [hn])];have hih := ih _ w _ fuel hp' hf' hcl' k _ (ha.put hd _);refine ⟨fun _ => eB _ _ _ _ hih,fun e => ⟨Below.refl _ _,?_⟩⟩;have hnext : bU aY bars (j :: plan) = bU aY bars plan := by
      by_cases hbc : bars.contains plan.length = true
      ·exact absurd (jE hbc).symm e
      ·exact gX (by simpa using hbc)
     rw [hnext];exact hih
   | tame v hg hw h hd k => exact tameCase hw v (fun a ha => .inl ⟨hg.wanted ha,fun w' hw' => h a ha w' hw'⟩) k hd
   | wild R hg h hb hd k =>
    have hbb := hb bars rfl;rw [hlen] at hbb;exact wildCase hbb.1 R (hg.wanted ha) h hbb.2 hd k
theorem Wp.regionD {id : Nat} {aY : Array Oper} (plan : List Nat) (bars : List Nat) (hm : P.follows .mixedOrders = true) (hs : Region.noSelect aY = true)
  (hp : (iW aY bars plan (Array.replicate aY.size false) && Nat.ble plan.length aY.size) = true)
  (h : Rg P aY n (some bars) N (dN aY plan) L w.drew) : Wp P n (.region id aY true) N X L w := fun a ha => by
 simp only [Bool.and_eq_true] at hp;exact wp_region_any hm (eB _ _ _ _ (h.any hs plan L w.drew _ aY.size hp.1 (Nat.le_of_ble_eq_true hp.2) (fZ.start aY) a ha))
end
section
variable {P : Program} {n : Nat} {N : Kn} {X : Exit → Kn} {L : Env} {w : World} {d : Option Tmp} {ty : TypeId} {pos : String} {af : Array Edge} {g : Option (Nat × Bool)}
theorem aP {x : Operand} {v : Value} (hx : cF L x = some v) : Tm P n ⟨d,.move x,ty,pos,af,g⟩ L w v := fun a ha w' _ => by
 simp [execOp,ha.eval hx]
theorem eJ {x : Operand} {v : Value} (hx : cF L x = some v) : Tm P n ⟨d,.assign x,ty,pos,af,g⟩ L w v := fun a ha w' _ => by
 simp [execOp,ha.eval hx]
theorem aJ {c x y : Operand} {v : Value} (hc : cF L c = some (.bool true)) (hx : cF L x = some v) : Tm P n ⟨d,.pick c x y,ty,pos,af,g⟩ L w v := fun a ha w' _ => by
 simp [execOp,ha.eval hc,ha.eval hx,asBool]
theorem aN {c x y : Operand} {v : Value} (hc : cF L c = some (.bool false)) (hy : cF L y = some v) : Tm P n ⟨d,.pick c x y,ty,pos,af,g⟩ L w v := fun a ha w' _ => by
 simp [execOp,ha.eval hc,ha.eval hy,asBool]
theorem aF {x : Operand} {p : Addr} (hx : cF L x = some (.pointer (some p))) : Tm P n ⟨d,.nilCheck x,ty,pos,af,g⟩ L w (.pointer (some p)) := fun a ha w' _ => by
 simp [execOp,ha.eval hx]
theorem bV {t t' : TypeId} {x y : Operand} {k : IntKind} {u v : Int} (hx : cF L x = some (.int k u)) (hy : cF L y = some (.int k v)) : Tm P n ⟨d,.binOp .add t x y t',ty,pos,af,g⟩ L w (.int k (k.wrap (u + v))) := fun a ha w' _ => by
 simp [execOp,eqGuard,binOp,Op.intArith,ha.eval hx,ha.eval hy]
theorem kR {t t' : TypeId} {x y : Operand} {k : IntKind} {u v : Int} (hx : cF L x = some (.int k u)) (hy : cF L y = some (.int k v)) : Tm P n ⟨d,.binOp .sub t x y t',ty,pos,af,g⟩ L w (.int k (k.wrap (u - v))) := fun a ha w' _ => by
 simp [execOp,eqGuard,binOp,Op.intArith,ha.eval hx,ha.eval hy]
theorem uO {z : Int} (h : -9223372036854775808 ≤ z) (h' : z ≤ 9223372036854775807) : IntKind.i64.wrap z = z := by
 have := IntWalk.i64_in z
 first | exact this ⟨h,h'⟩ | exact this h h' | (simp [IntKind.wrap] <;> omega)
theorem bC {t t' : TypeId} {x y : Operand} {u v : Int} (hx : cF L x = some (.int .i64 u)) (hy : cF L y = some (.int .i64 v)) (h : -9223372036854775808 ≤ u + v ∧ u + v ≤ 9223372036854775807) :
  Tm P n ⟨d,.binOp .add t x y t',ty,pos,af,g⟩ L w (.int .i64 (u + v)) := by
 have := bV (P := P) (n := n) (w := w) (d := d) (ty := ty) (pos := pos) (af := af) (g := g) (t := t) (t' := t') hx hy;rwa [uO h.1 h.2] at this
theorem eG {t t' : TypeId} {x y : Operand} {u v : Int} (hx : cF L x = some (.int .i64 u)) (hy : cF L y = some (.int .i64 v)) (h : -9223372036854775808 ≤ u - v ∧ u - v ≤ 9223372036854775807) :
  Tm P n ⟨d,.binOp .sub t x y t',ty,pos,af,g⟩ L w (.int .i64 (u - v)) := by
 have := kR (P := P) (n := n) (w := w) (d := d) (ty := ty) (pos := pos) (af := af) (g := g) (t := t) (t' := t') hx hy;rwa [uO h.1 h.2] at this
theorem cT {t t' : TypeId} {x y : Operand} {k : IntKind} {u v : Int} (hx : cF L x = some (.int k u)) (hy : cF L y = some (.int k v)) : Tm P n ⟨d,.binOp .lss t x y t',ty,pos,af,g⟩ L w (.bool (decide (u < v))) := fun a ha w' _ => by
 simp [execOp,eqGuard,binOp,Op.intCmp,ha.eval hx,ha.eval hy]
 try (first | rfl | (by_cases h : u = v <;> simp [h] <;> done) | (simp [bne]; done))
theorem bN {t t' : TypeId} {x y : Operand} {k : IntKind} {u v : Int} (hx : cF L x = some (.int k u)) (hy : cF L y = some (.int k v)) (h : u < v) : Tm P n ⟨d,.binOp .lss t x y t',ty,pos,af,g⟩ L w (.bool true) := by
 have := cT (P := P) (n := n) (w := w) (d := d) (ty := ty) (pos := pos) (af := af) (g := g) (t := t) (t' := t') hx hy;rwa [decide_eq_true h] at this
theorem bO {t t' : TypeId} {x y : Operand} {k : IntKind} {u v : Int} (hx : cF L x = some (.int k u)) (hy : cF L y = some (.int k v)) (h : v ≤ u) : Tm P n ⟨d,.binOp .lss t x y t',ty,pos,af,g⟩ L w (.bool false) := by
 have := cT (P := P) (n := n) (w := w) (d := d) (ty := ty) (pos := pos) (af := af) (g := g) (t := t) (t' := t') hx hy;rwa [decide_eq_false (by omega)] at this
theorem iC {t t' : TypeId} {x y : Operand} {k : IntKind} {u v : Int} (hx : cF L x = some (.int k u)) (hy : cF L y = some (.int k v)) : Tm P n ⟨d,.binOp .leq t x y t',ty,pos,af,g⟩ L w (.bool (decide (u ≤ v))) := fun a ha w' _ => by
 simp [execOp,eqGuard,binOp,Op.intCmp,ha.eval hx,ha.eval hy]
 try (first | rfl | (by_cases h : u = v <;> simp [h] <;> done) | (simp [bne]; done))
theorem eC {t t' : TypeId} {x y : Operand} {k : IntKind} {u v : Int} (hx : cF L x = some (.int k u)) (hy : cF L y = some (.int k v)) (h : u ≤ v) : Tm P n ⟨d,.binOp .leq t x y t',ty,pos,af,g⟩ L w (.bool true) := by
 have := iC (P := P) (n := n) (w := w) (d := d) (ty := ty) (pos := pos) (af := af) (g := g) (t := t) (t' := t') hx hy;rwa [decide_eq_true h] at this
theorem dU {t t' : TypeId} {x y : Operand} {k : IntKind} {u v : Int} (hx : cF L x = some (.int k u)) (hy : cF L y = some (.int k v)) (h : v < u) : Tm P n ⟨d,.binOp .leq t x y t',ty,pos,af,g⟩ L w (.bool false) := by
 have := iC (P := P) (n := n) (w := w) (d := d) (ty := ty) (pos := pos) (af := af) (g := g) (t := t) (t' := t') hx hy;rwa [decide_eq_false (by omega)] at this
theorem jF {t t' : TypeId} {x y : Operand} {k : IntKind} {u v : Int} (hx : cF L x = some (.int k u)) (hy : cF L y = some (.int k v)) : Tm P n ⟨d,.binOp .gtr t x y t',ty,pos,af,g⟩ L w (.bool (decide (v < u))) := fun a ha w' _ => by
 simp [execOp,eqGuard,binOp,Op.intCmp,ha.eval hx,ha.eval hy]
 try (first | rfl | (by_cases h : u = v <;> simp [h] <;> done) | (simp [bne]; done))
theorem gB {t t' : TypeId} {x y : Operand} {k : IntKind} {u v : Int} (hx : cF L x = some (.int k u)) (hy : cF L y = some (.int k v)) (h : v < u) : Tm P n ⟨d,.binOp .gtr t x y t',ty,pos,af,g⟩ L w (.bool true) := by
 have := jF (P := P) (n := n) (w := w) (d := d) (ty := ty) (pos := pos) (af := af) (g := g) (t := t) (t' := t') hx hy;rwa [decide_eq_true h] at this
theorem eN {t t' : TypeId} {x y : Operand} {k : IntKind} {u v : Int} (hx : cF L x = some (.int k u)) (hy : cF L y = some (.int k v)) (h : u ≤ v) : Tm P n ⟨d,.binOp .gtr t x y t',ty,pos,af,g⟩ L w (.bool false) := by
 have := jF (P := P) (n := n) (w := w) (d := d) (ty := ty) (pos := pos) (af := af) (g := g) (t := t) (t' := t') hx hy;rwa [decide_eq_false (by omega)] at this
theorem fO {t t' : TypeId} {x y : Operand} {k : IntKind} {u v : Int} (hx : cF L x = some (.int k u)) (hy : cF L y = some (.int k v)) : Tm P n ⟨d,.binOp .geq t x y t',ty,pos,af,g⟩ L w (.bool (decide (v ≤ u))) := fun a ha w' _ => by
 simp [execOp,eqGuard,binOp,Op.intCmp,ha.eval hx,ha.eval hy]
 try (first | rfl | (by_cases h : u = v <;> simp [h] <;> done) | (simp [bne]; done))
theorem cP {t t' : TypeId} {x y : Operand} {k : IntKind} {u v : Int} (hx : cF L x = some (.int k u)) (hy : cF L y = some (.int k v)) (h : v ≤ u) : Tm P n ⟨d,.binOp .geq t x y t',ty,pos,af,g⟩ L w (.bool true) := by
 have := fO (P := P) (n := n) (w := w) (d := d) (ty := ty) (pos := pos) (af := af) (g := g) (t := t) (t' := t') hx hy;rwa [decide_eq_true h] at this
theorem eO {t t' : TypeId} {x y : Operand} {k : IntKind} {u v : Int} (hx : cF L x = some (.int k u)) (hy : cF L y = some (.int k v)) (h : u < v) : Tm P n ⟨d,.binOp .geq t x y t',ty,pos,af,g⟩ L w (.bool false) := by
 have := fO (P := P) (n := n) (w := w) (d := d) (ty := ty) (pos := pos) (af := af) (g := g) (t := t) (t' := t') hx hy;rwa [decide_eq_false (by omega)] at this
theorem bM {t t' : TypeId} {x y : Operand} {k : IntKind} {u v : Int} (hx : cF L x = some (.int k u)) (hy : cF L y = some (.int k v)) : Tm P n ⟨d,.binOp .eql t x y t',ty,pos,af,g⟩ L w (.bool (decide (u = v))) := fun a ha w' _ => by
 simp [execOp,eqGuard,binOp,Op.intCmp,ha.eval hx,ha.eval hy]
 try (first | rfl | (by_cases h : u = v <;> simp [h] <;> done) | (simp [bne]; done))
theorem aS {t t' : TypeId} {x y : Operand} {k : IntKind} {u v : Int} (hx : cF L x = some (.int k u)) (hy : cF L y = some (.int k v)) (h : u = v) : Tm P n ⟨d,.binOp .eql t x y t',ty,pos,af,g⟩ L w (.bool true) := by
 have := bM (P := P) (n := n) (w := w) (d := d) (ty := ty) (pos := pos) (af := af) (g := g) (t := t) (t' := t') hx hy;rwa [decide_eq_true h] at this
theorem aR {t t' : TypeId} {x y : Operand} {k : IntKind} {u v : Int} (hx : cF L x = some (.int k u)) (hy : cF L y = some (.int k v)) (h : u ≠ v) : Tm P n ⟨d,.binOp .eql t x y t',ty,pos,af,g⟩ L w (.bool false) := by
 have := bM (P := P) (n := n) (w := w) (d := d) (ty := ty) (pos := pos) (af := af) (g := g) (t := t) (t' := t') hx hy;rwa [decide_eq_false (by omega)] at this
theorem gS {t t' : TypeId} {x y : Operand} {k : IntKind} {u v : Int} (hx : cF L x = some (.int k u)) (hy : cF L y = some (.int k v)) : Tm P n ⟨d,.binOp .neq t x y t',ty,pos,af,g⟩ L w (.bool (decide (u ≠ v))) := fun a ha w' _ => by
 simp [execOp,eqGuard,binOp,Op.intCmp,ha.eval hx,ha.eval hy]
 try (first | rfl | (by_cases h : u = v <;> simp [h] <;> done) | (simp [bne]; done))
theorem dX {t t' : TypeId} {x y : Operand} {k : IntKind} {u v : Int} (hx : cF L x = some (.int k u)) (hy : cF L y = some (.int k v)) (h : u ≠ v) : Tm P n ⟨d,.binOp .neq t x y t',ty,pos,af,g⟩ L w (.bool true) := by
 have := gS (P := P) (n := n) (w := w) (d := d) (ty := ty) (pos := pos) (af := af) (g := g) (t := t) (t' := t') hx hy;rwa [decide_eq_true h] at this
theorem cU {t t' : TypeId} {x y : Operand} {k : IntKind} {u v : Int} (hx : cF L x = some (.int k u)) (hy : cF L y = some (.int k v)) (h : u = v) : Tm P n ⟨d,.binOp .neq t x y t',ty,pos,af,g⟩ L w (.bool false) := by
 have := gS (P := P) (n := n) (w := w) (d := d) (ty := ty) (pos := pos) (af := af) (g := g) (t := t) (t' := t') hx hy;rwa [decide_eq_false (by omega)] at this
theorem lP (a b : ByteArray) : (a.toList == b.toList) = decide (a = b) := by
 rw [ByteArray.toList_eq,ByteArray.toList_eq]
 by_cases h : a = b
 ·subst h; simp
 ·have h2 : ¬ a.data = b.data := fun e => h (by cases a; cases b; simp_all)
  have : ¬ a.data.toList = b.data.toList := fun e => h2 (Array.toList_inj.1 e);simp [h,h2]
theorem dY {t t' : TypeId} {x y : Operand} {u v : ByteArray} (hx : cF L x = some (.string u)) (hy : cF L y = some (.string v)) : Tm P n ⟨d,.binOp .eql t x y t',ty,pos,af,g⟩ L w (.bool (decide (u = v))) := fun a ha w' _ => by
 simp [execOp,eqGuard,binOp,Op.stringOp,ha.eval hx,ha.eval hy,lP]
theorem wO {t t' : TypeId} {x y : Operand} {u v : ByteArray} (hx : cF L x = some (.string u)) (hy : cF L y = some (.string v)) : Tm P n ⟨d,.binOp .neq t x y t',ty,pos,af,g⟩ L w (.bool (!decide (u = v))) := fun a ha w' _ => by
 simp [execOp,eqGuard,binOp,Op.stringOp,ha.eval hx,ha.eval hy,lP]
theorem cX {t t' : TypeId} {x y : Operand} {u v : ByteArray} (hx : cF L x = some (.string u)) (hy : cF L y = some (.string v)) (h : u = v) : Tm P n ⟨d,.binOp .eql t x y t',ty,pos,af,g⟩ L w (.bool true) := by
 have := dY (P := P) (n := n) (w := w) (d := d) (ty := ty) (pos := pos) (af := af) (g := g) (t := t) (t' := t') hx hy;rwa [decide_eq_true h] at this
theorem cZ {t t' : TypeId} {x y : Operand} {u v : ByteArray} (hx : cF L x = some (.string u)) (hy : cF L y = some (.string v)) (h : u ≠ v) : Tm P n ⟨d,.binOp .eql t x y t',ty,pos,af,g⟩ L w (.bool false) := by
 have := dY (P := P) (n := n) (w := w) (d := d) (ty := ty) (pos := pos) (af := af) (g := g) (t := t) (t' := t') hx hy;rwa [decide_eq_false h] at this
theorem bJ {t : TypeId} {x : Operand} {b : Bool} (hx : cF L x = some (.bool b)) : Tm P n ⟨d,.unOp .not t x,ty,pos,af,g⟩ L w (.bool (!b)) := fun a ha w' _ => by
 simp [execOp,Op.unary,ha.eval hx]
theorem B3 {t t' : TypeId} {x y : Operand} (hu : P.underlying t = some (.pointer (P.pointee t))) (hx : cF L x = some (.pointer none)) (hy : cF L y = some (.pointer none)) : Tm P n ⟨d,.binOp .eql t x y t',ty,pos,af,g⟩ L w (.bool true) := fun a ha w' _ => by
 simp [execOp,eqGuard,run_eql_pointer_nil w' t _ hu,run_neq_pointer_nil w' t _ hu,ha.eval hx,ha.eval hy]
theorem B4 {t t' : TypeId} {x y : Operand} {p : Addr} (hu : P.underlying t = some (.pointer (P.pointee t))) (hx : cF L x = some (.pointer (some p))) (hy : cF L y = some (.pointer none)) : Tm P n ⟨d,.binOp .eql t x y t',ty,pos,af,g⟩ L w (.bool false) := fun a ha w' _ => by
 simp [execOp,eqGuard,run_eql_pointer_nil w' t _ hu,run_neq_pointer_nil w' t _ hu,ha.eval hx,ha.eval hy]
structure Ty (P : Program) (t : TypeId) (size : Nat) (agg : Bool) : Prop where
 sz : ∀ w,(sizeOf t).run P w = .ok size w
 ag : ∀ w,(isAgg t).run P w = .ok agg w
def FA (P : Program) (s : TypeId) (f off : Nat) : Prop := ∀ (w : World) (b o : Nat),(Instr.fieldAt s (.pointer (some ⟨b,o,none⟩)) f).run P w = .ok (.pointer (some ⟨b,o + off,none⟩)) w
theorem dF (b o k : Nat) : (⟨b,o,none⟩ : Addr).add k = ⟨b,o + k,none⟩ := by
 unfold Addr.add
 split <;> simp_all
theorem FA.mk {s : TypeId} {f : Nat} {fs : Array Field} {fd : Field} {k : Nat} {ag : Bool} (hu : P.underlying s = some (.struct fs)) (hf : fs[f]? = some fd) (ht : Ty P fd.type (k + 1) ag) : FA P s f fd.offset := fun w b o => by
 simp [Instr.fieldAt,run_underlying hu,hf,Instr.sureAddr,fieldPlace,ht.sz,dF]
theorem FA.mk2 {s : TypeId} {f off t : Nat} {fs : Array Field} {fd : Field} {k : Nat} {ag : Bool} (hu : P.underlying s = some (.struct fs)) (hf : fs[f]? = some fd) (htt : fd.type = t) (ho : fd.offset = off) (ht : Ty P t (k + 1) ag) : FA P s f off := by
 subst htt; subst ho; exact FA.mk hu hf ht
theorem aA {s : TypeId} {x : Operand} {f off b o : Nat} (h : FA P s f off) (hx : cF L x = some (.pointer (some ⟨b,o,none⟩))) : Tm P n ⟨d,.fieldAddr s x f,ty,pos,af,g⟩ L w (.pointer (some ⟨b,o + off,none⟩)) := fun a ha w' _ => by
 simp [execOp,ha.eval hx,h w' b o]
def bF (w : World) (b o : Nat) (vs : List Value) : Prop := ∀ i v,vs[i]? = some v → w.cell? ⟨b,o + i,none⟩ = some v
theorem bF.get {b o : Nat} {vs : List Value} (h : bF w b o vs) (i : Nat) {v : Value} (hv : vs[i]? = some v) : w.cell? ⟨b,o + i,none⟩ = some v := h i v hv
theorem pH {ad : Addr} {v : Value} (h : w.cell? ad = some v) : ad.block < w.heap.size := World.block_lt_of_cell? _ _ h
theorem mG {w' : World} (hb : Below w.heap.size w w') {ad : Addr} {v : Value} (h : w.cell? ad = some v) : w'.cell? ad = some v := by
 rw [hb.cell (pH h)]; exact h
theorem aB {t : TypeId} {x : Operand} {ad : Addr} {v : Value} (ht : Ty P t 1 false) (hx : cF L x = some (.pointer (some ad))) (hc : w.cell? ad = some v) : Tm P n ⟨d,.load t x,ty,pos,af,g⟩ L w v := fun a ha w' hw => by
 simp [execOp,ha.eval hx,Instr.loadAt,Instr.sureAddr,loadVar,ht.ag,mG hw hc]
theorem bB {t : TypeId} {x : Operand} {b o : Nat} {vs : List Value} (hx : cF L x = some (.pointer (some ⟨b,o,none⟩))) (hc : bF w b o vs) (ht : Ty P t vs.length true) : Tm P n ⟨d,.load t x,ty,pos,af,g⟩ L w (.agg vs.toArray) := fun a ha w' hw => by
 have hl : (loadCells ⟨b,o,none⟩ vs.length).run P w' = .ok vs.toArray w' := run_loadCells_list (P := P) w' ⟨b,o,none⟩ vs (fun j v hv => by
  rw [dF]; exact mG hw (hc j v hv))
 simp [execOp,ha.eval hx,Instr.loadAt,Instr.sureAddr,loadVar,ht.ag,ht.sz,hl]
theorem cS {t : TypeId} {x : Operand} {s : ByteArray} (hu : P.underlying t = some .string) (hx : cF L x = some (.string s)) : Tm P n ⟨d,.call { callee := .builtin .len,args := #[x],argTypes := #[t] },ty,pos,af,g⟩ L w (.int .i64 s.size) := fun a ha w' _ => by
 simp [execOp,resolve,invoke,builtin,Builtin.len_,ha.eval hx,run_underlying hu,goInt]
theorem dC {t e : TypeId} {x : Operand} {p : Option Addr} {l c : Nat} (hu : P.underlying t = some (.slice e)) (hx : cF L x = some (.slice p l c)) : Tm P n ⟨d,.call { callee := .builtin .len,args := #[x],argTypes := #[t] },ty,pos,af,g⟩ L w (.int .i64 l) := fun a ha w' _ => by
 simp [execOp,resolve,invoke,builtin,Builtin.len_,ha.eval hx,run_underlying hu,goInt]
theorem cA {x : Operand} {vs : Array Value} {i : Nat} {v : Value} (hx : cF L x = some (.tuple vs)) (hv : vs[i]? = some v) : Tm P n ⟨d,.extract x i,ty,pos,af,g⟩ L w v := fun a ha w' _ => by
 simp [execOp,ha.eval hx,Instr.extract,hv]
theorem bR {t : TypeId} {x y : Operand} {s : ByteArray} {k : IntKind} {i : Int} (hu : P.underlying t = some .string) (hx : cF L x = some (.string s)) (hy : cF L y = some (.int k i)) (h : 0 ≤ i ∧ i < s.size) :
  Tm P n ⟨d,.index t x y,ty,pos,af,g⟩ L w (.int .u8 ((s.data.toList.getD i.toNat 0).toNat : Int)) := fun a ha w' _ => by
 have hlt : i.toNat < s.size := by omega
 have hg : s[i.toNat]? = some (s.data.toList.getD i.toNat 0) := by
  rw [getElem?_pos s i.toNat hlt]
  congr 1
  have h2 : i.toNat < s.data.toList.length := by rw [Array.length_toList]; exact hlt
  rw [List.getD_eq_getElem?_getD,List.getElem?_eq_getElem h2];rfl
 simp only [execOp,ha.eval hx,ha.eval hy,Instr.index,asIntOf,Sem.run_bind,Sem.run_pure,Result.andThen_ok,run_underlying hu];rw [if_pos h.1,hg];rfl
theorem eK {t : TypeId} {x : Operand} {lo hi : Option Operand} {s : ByteArray} {l h : Int} (hu : P.underlying t = some .string) (hx : cF L x = some (.string s))
  (hlo : (match lo with | none => some (.int .i64 0) | some y => cF L y) = some (.int .i64 l)) (hhi : (match hi with | none => some (.int .i64 s.size) | some y => cF L y) = some (.int .i64 h)) (hb : 0 ≤ l ∧ l ≤ h ∧ h ≤ s.size) :
  Tm P n ⟨d,.slice t x lo hi none,ty,pos,af,g⟩ L w (.string (s.extract l.toNat h.toNat)) := fun a ha w' _ => by
 obtain ⟨h1,h2,h3⟩ := hb
 cases lo <;> cases hi <;> simp only [Option.some.injEq,Value.int.injEq,true_and] at hlo hhi
 ·subst hlo; subst hhi
  simp [execOp,ha.eval hx,Instr.sliceAt,Instr.slice,run_underlying hu,Instr.sliceBounds]
 ·subst hlo
  have : 0 ≤ h := by omega
  simp [execOp,ha.eval hx,ha.eval hhi,Instr.sliceAt,Instr.slice,run_underlying hu,Instr.sliceBounds,Instr.sliceBound,asIntOf,this,h3]
 ·subst hhi
  simp [execOp,ha.eval hx,ha.eval hlo,Instr.sliceAt,Instr.slice,run_underlying hu,Instr.sliceBounds,Instr.sliceBound,asIntOf,h1,h2]
 ·have : 0 ≤ h := by omega
  have h4 : l ≤ (h.toNat : Int) := by omega
  simp [execOp,ha.eval hx,ha.eval hlo,ha.eval hhi,Instr.sliceAt,Instr.slice,run_underlying hu,Instr.sliceBounds,Instr.sliceBound,asIntOf,this,h1,h3,h4];intro hc;omega
theorem Hv {t t' : TypeId} {x y : Operand} {u v : Int} (hx : cF L x = some (.int .i64 u)) (hy : cF L y = some (.int .i64 v)) : Tm P n ⟨d,.call { callee := .builtin .min,args := #[x,y],argTypes := #[t,t'] },ty,pos,af,g⟩ L w (.int .i64 (min u v)) := fun a ha w' _ => by
 simp [execOp,resolve,invoke,builtin,Builtin.min_,Builtin.min2,ha.eval hx,ha.eval hy];omega
theorem Hw {t t' : TypeId} {x y : Operand} {u v : Int} (hx : cF L x = some (.int .i64 u)) (hy : cF L y = some (.int .i64 v)) : Tm P n ⟨d,.call { callee := .builtin .max,args := #[x,y],argTypes := #[t,t'] },ty,pos,af,g⟩ L w (.int .i64 (max u v)) := fun a ha w' _ => by
 simp [execOp,resolve,invoke,builtin,Builtin.max_,Builtin.max2,ha.eval hx,ha.eval hy];omega
theorem dG {t e : TypeId} {x : Operand} {lo hi : Option Operand} {b o len cap size : Nat} {ag : Bool} {l h : Int} (hu : P.underlying t = some (.slice e)) (ht : Ty P e size ag) (hx : cF L x = some (.slice (some ⟨b,o,none⟩) len cap))
  (hlo : (match lo with | none => some (.int .i64 0) | some y => cF L y) = some (.int .i64 l)) (hhi : (match hi with | none => some (.int .i64 len) | some y => cF L y) = some (.int .i64 h)) (hb : 0 ≤ l ∧ l ≤ h ∧ h ≤ cap) :
  Tm P n ⟨d,.slice t x lo hi none,ty,pos,af,g⟩ L w (.slice (some (if cap = l.toNat then ⟨b,o,none⟩ else ⟨b,o + l.toNat * size,none⟩)) (h.toNat - l.toNat) (cap - l.toNat)) := fun a ha w' _ => by
 obtain ⟨h1,h2,h3⟩ := hb;have h0 : 0 ≤ h := by omega
 cases lo <;> cases hi <;> simp only [Option.some.injEq,Value.int.injEq,true_and] at hlo hhi
 ·subst hlo; subst hhi
  simp [execOp,ha.eval hx,Instr.sliceAt,Instr.slice,run_underlying hu,Instr.sliceBounds,ht.sz,dF,apply_ite]
 ·subst hlo
  simp [execOp,ha.eval hx,ha.eval hhi,Instr.sliceAt,Instr.slice,run_underlying hu,Instr.sliceBounds,Instr.sliceBound,asIntOf,h0,h3,ht.sz,dF,apply_ite]
 ·subst hhi
  simp [execOp,ha.eval hx,ha.eval hlo,Instr.sliceAt,Instr.slice,run_underlying hu,Instr.sliceBounds,Instr.sliceBound,asIntOf,h1,h2,ht.sz,dF,apply_ite]
 ·have h4 : l ≤ (h.toNat : Int) := by omega
  simp [execOp,ha.eval hx,ha.eval hlo,ha.eval hhi,Instr.sliceAt,Instr.slice,run_underlying hu,Instr.sliceBounds,Instr.sliceBound,asIntOf,h0,h1,h3,h4,show l ≤ max h 0 from by omega,ht.sz,dF,apply_ite]
theorem pI {t e : TypeId} {x : Operand} {lo hi : Option Operand} {size : Nat} {ag : Bool} (hu : P.underlying t = some (.slice e)) (ht : Ty P e size ag) (hx : cF L x = some (.slice none 0 0))
  (hlo : (match lo with | none => some (.int .i64 0) | some y => cF L y) = some (.int .i64 0)) (hhi : (match hi with | none => some (.int .i64 0) | some y => cF L y) = some (.int .i64 0)) :
  Tm P n ⟨d,.slice t x lo hi none,ty,pos,af,g⟩ L w (.slice none 0 0) := fun a ha w' _ => by
 cases lo <;> cases hi <;> simp only [Option.some.injEq,Value.int.injEq,true_and] at hlo hhi
 ·simp [execOp,ha.eval hx,Instr.sliceAt,Instr.slice,run_underlying hu,Instr.sliceBounds,ht.sz]
 ·simp [execOp,ha.eval hx,ha.eval hhi,Instr.sliceAt,Instr.slice,run_underlying hu,Instr.sliceBounds,Instr.sliceBound,asIntOf,ht.sz]
 ·simp [execOp,ha.eval hx,ha.eval hlo,Instr.sliceAt,Instr.slice,run_underlying hu,Instr.sliceBounds,Instr.sliceBound,asIntOf,ht.sz]
 ·simp [execOp,ha.eval hx,ha.eval hlo,ha.eval hhi,Instr.sliceAt,Instr.slice,run_underlying hu,Instr.sliceBounds,Instr.sliceBound,asIntOf,ht.sz]
theorem bI {t e : TypeId} {x y : Operand} {b o len cap size : Nat} {ag : Bool} {i : Int} {k : IntKind} (hu : P.underlying t = some (.slice e)) (ht : Ty P e size ag) (hx : cF L x = some (.slice (some ⟨b,o,none⟩) len cap)) (hy : cF L y = some (.int k i)) (h : 0 ≤ i ∧ i < len) :
  Tm P n ⟨d,.indexAddr t x y,ty,pos,af,g⟩ L w (.pointer (some ⟨b,o + i.toNat * size,none⟩)) := fun a ha w' _ => by
 simp [execOp,ha.eval hx,ha.eval hy,Instr.indexAt,asIntOf,run_underlying hu,h,ht.sz,dF]
theorem cH {t : TypeId} {parts : Array (Nat × Operand)} {pv : List (Nat × Value)} {v : Value} (h : ∀ w,(Instr.build t pv.toArray).run P w = .ok v w) (hp : (parts.toList.map fun q => (q.1,cF L q.2)) = pv.map fun q => (q.1,some q.2)) :
  Tm P n ⟨d,.build t parts,ty,pos,af,g⟩ L w v := fun a ha w' _ => by
 have : (parts.map fun q => (q.1,a.eval q.2)) = pv.toArray := by
  apply Array.toList_inj.1;rw [Array.toList_map]
  show _ = pv
  generalize parts.toList = ps at *;clear h
  induction ps generalizing pv with
  | nil => cases pv <;> simp_all
  | cons p ps ih =>
   cases pv with
   | nil => simp at hp
   | cons q vs =>
    simp only [List.map_cons,List.cons.injEq,Prod.mk.injEq] at hp ⊢;refine ⟨?_,ih hp.2⟩;rw [hp.1.1,ha.eval hp.1.2]
 simp only [execOp];rw [show (parts.map fun (i,x) => (i,a.eval x)) = pv.toArray from this];simp [h]
theorem lQ {t : TypeId} {x : Operand} {i : Nat} {u v : Value} (hx : cF L x = some u) (h : ∀ w,(Instr.field t u i).run P w = .ok v w) : Tm P n ⟨d,.field t x i,ty,pos,af,g⟩ L w v := fun a ha w' _ => by
 simp [execOp,ha.eval hx,h]
def Rt (R : Value → World → Prop) : Ending → World → Prop := fun e w => ∃ v,e = .returned v ∧ R v w
abbrev Cl (P : Program) (f : FuncId) (args : Array Value) (w : World) (R : Value → World → Prop) : Prop := Calls P f args w (Rt R)
theorem Cl.mono {f : FuncId} {args : Array Value} {R R' : Value → World → Prop} (h : Cl P f args w R) (k : ∀ v w',R v w' → R' v w') : Cl P f args w R' :=
 Calls.mono h fun _ w' ⟨v,e,r⟩ => ⟨v,e,k v w' r⟩
theorem aC {f : FuncId} {args : Array Operand} {at_ : Array TypeId} {vs : List Value} {R : Value → World → Prop} (hf : ∀ (args : Array Value) (w : World),(callFunc f args).run P w = .ok (.enter f args) w)
  (ha : args.toList.map (cF L) = vs.map some) (h : Cl P f vs.toArray w R) : Wl P n ⟨d,.call { callee := .value (.func f),args := args,argTypes := at_ },ty,pos,af,g⟩ L w R := fun a hF Q next hn => by
 have hargs : args.map a.eval = vs.toArray := by
  apply Array.toList_inj.1;rw [Array.toList_map]
  show args.toList.map a.eval = vs
  generalize args.toList = ps at *
  induction ps generalizing vs with
  | nil => cases vs <;> simp_all
  | cons p ps ih =>
   cases vs with
   | nil => simp at ha
   | cons q vs =>
    simp only [List.map_cons,List.cons.injEq] at ha ⊢;refine ⟨hF.eval ha.1,?_⟩;have : ∀ (ps : List Operand) (vs : List Value),ps.map (cF L) = vs.map some → ps.map a.eval = vs := by
     intro ps
     induction ps with
     | nil => intro vs h; cases vs <;> simp_all
     | cons p ps ih =>
      intro vs h
      cases vs with
      | nil => simp at h
      | cons q vs =>
       simp only [List.map_cons,List.cons.injEq] at h ⊢;exact ⟨hF.eval h.1,ih vs h.2⟩
    exact this ps vs ha.2
 have hrun : (execOp a.eval ⟨d,.call { callee := .value (.func f),args := args,argTypes := at_ },ty,pos,af,g⟩).run P w = .ok (.enter f vs.toArray) w := by
  simp [execOp,resolve,Act.eval,Deferred.ofValue,invoke,hf,hargs]
 unfold Oper.wp;rw [hrun];simp only [Oper.upon];exact Calls.mono h fun e w' ⟨v,he,hr⟩ => by subst he; exact hn v w' hr
theorem Ex {t : TypeId} {z : Value} (hz : ∀ w,(zeroValue t).run P w = .ok z w) : Wl P n ⟨d,.alloc t,ty,pos,af,g⟩ L w (fun v w' => v = .pointer (some ⟨w.heap.size,0,none⟩) ∧ w' = w.alloc (.cells z.cells t)) := fun a hF Q next hn => by
 have hrun : (execOp a.eval ⟨d,.alloc t,ty,pos,af,g⟩).run P w = .ok (.value (.pointer (some ⟨w.heap.size,0,none⟩))) (w.alloc (.cells z.cells t)) := by
  simp only [execOp,Instr.alloc,Sem.run_bind,hz,newVar,newRow,run_newObj,Result.andThen_ok,Sem.run_pure];rfl
 unfold Oper.wp;rw [hrun];exact hn _ _ ⟨rfl,rfl⟩
theorem G7 {t : TypeId} {x : Operand} {v : Value} (hx : cF L x = some v) : Wl P n ⟨d,.box t x,ty,pos,af,g⟩ L w (fun u w' => u = .pointer (some ⟨w.heap.size,0,none⟩) ∧ w' = w.alloc (.cells v.cells t)) := fun a hF Q next hn => by
 have hrun : (execOp a.eval ⟨d,.box t x,ty,pos,af,g⟩).run P w = .ok (.value (.pointer (some ⟨w.heap.size,0,none⟩))) (w.alloc (.cells v.cells t)) := by
  simp only [execOp,Instr.box,hF.eval hx,Sem.run_bind,newVar,newRow,run_newObj,Result.andThen_ok,Sem.run_pure];rfl
 unfold Oper.wp;rw [hrun];exact hn _ _ ⟨rfl,rfl⟩
theorem B5 {t t0 : TypeId} {x y : Operand} {b : Nat} {v : Value} {cs : Array Value} {ag : Bool} (ht : Ty P t v.cells.size ag) (hx : cF L x = some (.pointer (some ⟨b,0,none⟩))) (hy : cF L y = some v) (hc : w.heap[b]? = some (.cells cs t0 (0,0)))
  (hs : cs.size = v.cells.size) (h1 : ∀ u ∈ v.cells.toList,u.oneCell' = true) : Wl P n ⟨none,.store t x y,ty,pos,af,g⟩ L w (fun _ w' => w' = w.setRow b v.cells) := fun a hF Q next hn => by
 have hst := run_storeCells_from (P := P) b t0 v.cells.toList 0 cs w hc (by simp [hs]) h1;have hrun : (execOp a.eval ⟨none,.store t x y,ty,pos,af,g⟩).run P w = .ok .skip (w.setRow b v.cells) := by
  simp [execOp,Instr.storeAt,hF.eval hx,hF.eval hy,Instr.sureAddr,storeVar,ht.sz,hst]
 unfold Oper.wp;rw [hrun];exact hn undef _ rfl
def mT : Nat → List Value → Env
 | _,[] => []
 | i,v :: vs => (i,v) :: mT (i + 1) vs
theorem rI : ∀ (vs : List Value) (i s : Nat) (v : Value),look (mT i vs) s = some v → ∃ j,s = i + j ∧ vs[j]? = some v
 | [],_,_,_,h => by cases h
 | u :: vs,i,s,v,h => by
  simp only [mT,look] at h
  split at h
  ·rename_i he
   have := Nat.eq_of_beq_eq_true he;exact ⟨0,by omega,by simpa using h⟩
  ·obtain ⟨j,h1,h2⟩ := rI vs (i + 1) s v h
   exact ⟨j + 1,by omega,by simpa using h2⟩
theorem Fr.enter {m : Nat} (vs : List Value) (hm : vs.length ≤ m) : Fr m { tmps := vs.toArray ++ Array.replicate (m - vs.toArray.size) undef,defers := [] } (mT 0 vs) := by
 refine ⟨rfl,by simp; omega,fun s v h => ?_⟩;obtain ⟨j,h1,h2⟩ := rI vs 0 s v h;obtain ⟨hj,h3⟩ := List.getElem?_eq_some_iff.1 h2;have e : s = j := by omega
 subst e;refine ⟨by omega,?_⟩;rw [Array.getD_eq_getD_getElem?,Array.getElem?_append_left (by simpa using hj)];simp [h2]
def RV (P : Program) (L : Env) (w : World) : ResultVar → Value → Prop
 | .tmp t,v => look L t = some v
 | .cell a t,v => ∃ ad,look L a = some (.pointer (some ad)) ∧ (loadVar t ad).run P w = .ok v w
def RVs (P : Program) (L : Env) (w : World) : List ResultVar → List Value → Prop
 | [],[] => True
 | r :: rs,v :: vs => RV P L w r v ∧ RVs P L w rs vs
 | _,_ => False
def Hx (vs : List Value) : Value := match vs with
 | [v] => v
 | _ => .tuple vs.toArray
def RetK (P : Program) (rs : List ResultVar) (R : Value → World → Prop) : Kn := fun L w => ∃ vs,RVs P L w rs vs ∧ R (Hx vs) w
def RetX (P : Program) (rs : List ResultVar) (R : Value → World → Prop) : Exit → Kn
 | .ret => RetK P rs R
 | _ => fun _ _ => False
def pJ (tmps : Array Value) (r : ResultVar) : Sem Value := match r with
 | .tmp t => pure (tmps.getD t undef)
 | .cell p t => do loadVar t (← asAddr (tmps.getD p undef))
theorem wQ (fn : Func) (tmps : Array Value) : results fn tmps = (do
  let vs ← fn.results.mapM (pJ tmps)
  pure (if h : vs.size = 1 then vs[0] else .tuple vs)) := by
 unfold results
 congr 2
theorem mU {a : Act} {m : Nat} (ha : Fr m a L) : ∀ (rs : List ResultVar) (vs : List Value),RVs P L w rs vs → (rs.mapM (pJ a.tmps)).run P w = .ok vs w
 | [],[],_ => by simp
 | r :: rs,v :: vs,h => by
  obtain ⟨h1,h2⟩ := h;have ih := mU ha rs vs h2;have h3 : (pJ a.tmps r).run P w = .ok v w := by
   cases r with
   | tmp t =>
    have := (ha.vals t v h1).2;simp only [pJ,this,Sem.run_pure]
   | cell p t =>
    obtain ⟨ad,h4,h5⟩ := h1;have := (ha.vals p _ h4).2;simp only [pJ,this,asAddr,Sem.run_bind,Sem.run_pure,Result.andThen_ok,h5]
  simp only [List.mapM_cons,Sem.run_bind,h3,Result.andThen_ok,ih,Sem.run_pure]
 | [],_ :: _,h => h.elim
 | _ :: _,[],h => h.elim
theorem oH {fn : Func} {rs : List ResultVar} (hr : fn.results = rs.toArray) {a : Act} {m : Nat} (ha : Fr m a L) {vs : List Value} (h : RVs P L w rs vs) : (results fn a.tmps).run P w = .ok (Hx vs) w := by
 have := mU (P := P) ha rs vs h;rw [wQ,hr];simp only [List.mapM_toArray,Sem.run_bind,Sem.run_map,this,Result.andThen_ok,Sem.run_pure]
 congr 1
 match vs with
 | [] => rfl
 | [v] => rfl
 | v :: u :: vs => rw [dif_neg (by simp)]; rfl
theorem Cl.enter {f : FuncId} {fn : Func} {c : Code} {vs : List Value} {m : Nat} {rs : List ResultVar} {R : Value → World → Prop} (hf : P.funcs[f]? = some fn) (hb : fn.body = some c) (hm : fn.ntmps = m) (hr : fn.results = rs.toArray)
  (hle : Nat.ble vs.length m = true) (h : Wp P m c (RetK P rs R) (RetX P rs R) (mT 0 vs) w) : Cl P f vs.toArray w R := by
 refine calls_of_wp hf hb ?_;rw [hm];refine wp_mono (h _ (Fr.enter vs (Nat.le_of_ble_eq_true hle))) fun e a w q => ?_
 cases e with
 | normal =>
  obtain ⟨L',h1,vs',h2,h3⟩ := q;exact ⟨h1.defers,_,oH hr h1 h2,_,rfl,h3⟩
 | ret =>
  obtain ⟨L',h1,vs',h2,h3⟩ := q;exact ⟨h1.defers,_,oH hr h1 h2,_,rfl,h3⟩
 | panic _ => exact q.elim
 | outgrown => exact q.elim
 | exit _ => obtain ⟨_,_,q⟩ := q; exact q.elim
 | goto _ => obtain ⟨_,_,q⟩ := q; exact q.elim
section
variable {aY : Array Oper} {dr : Option (List Nat)} {K : Kn} {dd : Tmp} {op : Op} {rest : List Oper} {v : Value}
theorem Rg.tm (hg : iV aY ⟨some dd,op,ty,pos,af,g⟩ L) (hw : cR op = false) (h : Tm P n ⟨some dd,op,ty,pos,af,g⟩ L w v) (hd : Nat.blt dd n = true) (k : Rg P aY n dr K rest ((dd,v) :: L) w) :
  Rg P aY n dr K (⟨some dd,op,ty,pos,af,g⟩ :: rest) L w := .tame v hg hw h hd k
def gSk (aY : Array Oper) (o : Oper) (L : Env) : Bool := match o.guard with
 | none => false
 | some (j,want) => match (aY[j]?).bind (·.dst) with
  | none => false
  | some t => match look L t with
   | some (.bool b) => !(b == want)
   | some (.tuple vs) => Nat.beq vs.size 0
   | _ => false
theorem Hy {o : Oper} (h : gSk aY o L = true) : Hu aY o L ∨ wN aY o L := by
 unfold gSk at h;unfold Hu wN
 cases hg : o.guard with
 | none => simp [hg] at h
 | some jw =>
  obtain ⟨j,want⟩ := jw;simp only [hg] at h ⊢
  cases h1 : (aY[j]?).bind (·.dst) with
  | none => simp [h1] at h
  | some t =>
   simp only [h1] at h
   cases h2 : look L t with
   | none => simp [h2] at h
   | some v =>
    simp only [h2] at h
    split at h
    ·rename_i b hb
     cases hb
     exact .inl ⟨t,b,rfl,h2,by simpa using h⟩
    ·rename_i vs hb
     cases hb
     have : vs = #[] := Array.size_eq_zero_iff.1 (Nat.eq_of_beq_eq_true h);subst this;exact .inr ⟨t,rfl,h2⟩
    ·cases h
theorem Rg.so (hg : gSk aY ⟨some dd,op,ty,pos,af,g⟩ L = true) (hd : Nat.blt dd n = true) (k : Rg P aY n dr K rest ((dd,undef) :: L) w) :
  Rg P aY n dr K (⟨some dd,op,ty,pos,af,g⟩ :: rest) L w := .skip (Hy hg) hd k
theorem Rg.wd {R : Value → World → Prop} (hg : iV aY ⟨some dd,op,ty,pos,af,g⟩ L) (h : Wl P n ⟨some dd,op,ty,pos,af,g⟩ L w R) (hd : Nat.blt dd n = true)
  (k : ∀ v w',R v w' → Rg P aY n none K rest ((dd,v) :: L) w') : Rg P aY n none K (⟨some dd,op,ty,pos,af,g⟩ :: rest) L w := .wild R hg h (fun _ h => nomatch h) hd k
theorem Rg.wn {R : Value → World → Prop} (hg : iV aY ⟨none,op,ty,pos,af,g⟩ L) (h : Wl P n ⟨none,op,ty,pos,af,g⟩ L w R)
  (k : ∀ v w',R v w' → Rg P aY n none K rest L w') : Rg P aY n none K (⟨none,op,ty,pos,af,g⟩ :: rest) L w := .wild R hg h (fun _ h => nomatch h) rfl k
theorem Rg.wdB {bars : List Nat} {R : Value → World → Prop} (hg : iV aY ⟨some dd,op,ty,pos,af,g⟩ L) (hk : cR op = true) (h : Wl P n ⟨some dd,op,ty,pos,af,g⟩ L w R) (hd : Nat.blt dd n = true) (hb : ∀ v w',R v w' → Below w.heap.size w w')
  (k : ∀ v w',R v w' → Rg P aY n (some bars) K rest ((dd,v) :: L) w') : Rg P aY n (some bars) K (⟨some dd,op,ty,pos,af,g⟩ :: rest) L w := .wild R hg h (fun _ _ => ⟨hk,fun _ => hb⟩) hd k
theorem Rg.wnB {bars : List Nat} {R : Value → World → Prop} (hg : iV aY ⟨none,op,ty,pos,af,g⟩ L) (hk : cR op = true) (h : Wl P n ⟨none,op,ty,pos,af,g⟩ L w R) (hc : bars.contains rest.length = true)
  (k : ∀ v w',R v w' → Rg P aY n (some bars) K rest L w') : Rg P aY n (some bars) K (⟨none,op,ty,pos,af,g⟩ :: rest) L w := .wild R hg h (fun bs hbs => by
   injection hbs with hbs
   subst hbs;exact ⟨hk,fun hf => absurd hc (by rw [hf]; simp)⟩) rfl k
end
end
def Ext (w w' : World) : Prop := Below w.heap.size w w'
theorem Ext.refl (w : World) : Ext w w := Below.refl _ _
theorem Ext.ext {a b c : World} (h : Ext a b) (k : Ext b c) : Ext a c := Below.trans h (Below.mono k h.size)
theorem Ext.below {w w' : World} (h : Ext w w') : Below w.heap.size w w' := h
theorem Ext.le {w w' : World} (h : Ext w w') : w.heap.size ≤ w'.heap.size := h.size
theorem Ext.drew (w : World) : Ext w w.drew := (Below.refl _ _).drew
theorem Ext.alloc (w : World) (o : Obj) : Ext w (w.alloc o) := (Below.refl _ _).alloc (Nat.le_refl _) o
theorem Ext.cell {w w' : World} (h : Ext w w') {ad : Addr} {v : Value} (hc : w.cell? ad = some v) : w'.cell? ad = some v := mG h hc
theorem bF.ext {w w' : World} {b o : Nat} {vs : List Value} (h : bF w b o vs) (k : Ext w w') : bF w' b o vs := fun i v hv => k.cell (h i v hv)
theorem bF.lt {w : World} {b o : Nat} {v : Value} {vs : List Value} (h : bF w b o (v :: vs)) : b < w.heap.size := pH (h 0 v rfl)
theorem Wp.draw {P : Program} {n : Nat} {N : Kn} {X : Exit → Kn} {L : Env} {w : World} {id : Nat} {aY : Array Oper} (plan : List Nat) (bars : List Nat) (hm : P.follows .mixedOrders = true) (hs : Region.noSelect aY = true)
  (hp : (iW aY bars plan (Array.replicate aY.size false) && Nat.ble plan.length aY.size) = true)
  (h : ∀ w1,Ext w w1 → w1.heap = w.heap → Rg P aY n (some bars) N (dN aY plan) L w1) : Wp P n (.region id aY true) N X L w := Wp.regionD plan bars hm hs hp (h _ (Ext.drew w) rfl)
def Var (w : World) (b : Nat) (cs : List Value) (t : TypeId) : Prop := w.heap[b]? = some (.cells cs.toArray t (0,0))
theorem Var.lt {w : World} {b : Nat} {cs : List Value} {t : TypeId} (h : Var w b cs t) : b < w.heap.size := (Array.getElem?_eq_some_iff.1 h).1
theorem Var.ext {w w' : World} {b : Nat} {cs : List Value} {t : TypeId} (h : Var w b cs t) (k : Ext w w') : Var w' b cs t := by
 unfold Var; rw [k.below.block b h.lt]; exact h
theorem Var.cells {w : World} {b : Nat} {cs : List Value} {t : TypeId} (h : Var w b cs t) : bF w b 0 cs := fun i v hv => by
 unfold Var at h;simp only [World.cell?,h,Nat.zero_add]
 simpa using hv
structure Upd (b : Nat) (w w' : World) : Prop where
 os : w'.os = w.os
 tape : w'.tape = w.tape
 output : w'.output = w.output
 size : w'.heap.size = w.heap.size
 block : ∀ k,k ≠ b → w'.heap[k]? = w.heap[k]?
theorem Upd.setRow (w : World) (b : Nat) (cs : Array Value) : Upd b w (w.setRow b cs) := ⟨by unfold World.setRow; rfl,by unfold World.setRow; rfl,by unfold World.setRow; rfl,by unfold World.setRow; simp,fun k hk => by
 unfold World.setRow;simp only [Array.getElem?_modify];rw [if_neg (Ne.symm hk)]⟩
theorem Ext.upd {w0 w w' : World} {b : Nat} (h : Ext w0 w) (k : Upd b w w') (hb : w0.heap.size ≤ b) : Ext w0 w' :=
 ⟨k.os.trans h.os,k.tape.trans h.tape,k.output.trans h.output,Nat.le_trans h.le (Nat.le_of_eq k.size.symm),fun i hi => (k.block i (by omega)).trans (h.below.block i hi)⟩
theorem bF.upd {w w' : World} {b c o : Nat} {vs : List Value} (h : bF w c o vs) (k : Upd b w w') (hc : c ≠ b) : bF w' c o vs := fun i v hv => by
 rw [World.cell?_of_block (w := w) (a := ⟨c,o + i,none⟩) (k.block c hc)]; exact h i v hv
theorem Var.upd {w w' : World} {b c : Nat} {cs : List Value} {t : TypeId} (h : Var w c cs t) (k : Upd b w w') (hc : c ≠ b) : Var w' c cs t := by
 unfold Var; rw [k.block c hc]; exact h
def mH (w : World) (cs : List Value) (t : TypeId) (v : Value) (w' : World) : Prop := ∃ b,v = .pointer (some ⟨b,0,none⟩) ∧ b = w.heap.size ∧ Ext w w' ∧ Var w' b cs t
theorem mH.mk (w : World) (cs : List Value) (t : TypeId) : mH w cs t (.pointer (some ⟨w.heap.size,0,none⟩)) (w.alloc (.cells cs.toArray t)) :=
 ⟨_,rfl,rfl,Ext.alloc _ _,by unfold Var World.alloc; simp⟩
section
variable {P : Program} {n : Nat} {L : Env} {w : World} {d : Option Tmp} {ty : TypeId} {pos : String} {af : Array Edge} {g : Option (Nat × Bool)}
theorem dB {t : TypeId} {z : Value} {cs : List Value} (hz : ∀ w,(zeroValue t).run P w = .ok z w) (hc : z.cells = cs.toArray) : Wl P n ⟨d,.alloc t,ty,pos,af,g⟩ L w (mH w cs t) := fun a hF Q next hn =>
 Ex hz a hF Q next fun v w' ⟨h1,h2⟩ => hn v w' (by subst h1; subst h2; rw [hc]; exact mH.mk _ _ _)
theorem aW {t : TypeId} {x : Operand} {v : Value} {cs : List Value} (hx : cF L x = some v) (hc : v.cells = cs.toArray) : Wl P n ⟨d,.box t x,ty,pos,af,g⟩ L w (mH w cs t) := fun a hF Q next hn =>
 G7 hx a hF Q next fun v w' ⟨h1,h2⟩ => hn v w' (by subst h1; subst h2; rw [hc]; exact mH.mk _ _ _)
def wR (w : World) (b : Nat) (cs : List Value) (t0 : TypeId) (_ : Value) (w' : World) : Prop := Upd b w w' ∧ Var w' b cs t0
theorem cW {t t0 : TypeId} {x y : Operand} {b : Nat} {v : Value} {old cs : List Value} {ag : Bool} (h : Var w b old t0) (hx : cF L x = some (.pointer (some ⟨b,0,none⟩))) (hy : cF L y = some v) (hc : v.cells = cs.toArray) (ht : Ty P t cs.length ag)
  (hs : old.length = cs.length) (h1 : cs.all (·.oneCell') = true) : Wl P n ⟨none,.store t x y,ty,pos,af,g⟩ L w (wR w b cs t0) := fun a hF Q next hn => by
 refine B5 (cs := old.toArray) (v := v) (t0 := t0) (by rw [hc]; simpa using ht) hx hy h (by rw [hc]; simpa using hs) (by rw [hc]; simpa using h1) a hF Q next fun u w' hw => hn u w' ?_;subst hw;rw [hc];refine ⟨Upd.setRow _ _ _,?_⟩;have := setRow_heap w b old.toArray cs.toArray t0 (0,0) h;exact this
end
theorem RV.cellA {P : Program} {L : Env} {w : World} {a t b o : Nat} {vs : List Value} (ht : Ty P t vs.length true) (hl : look L a = some (.pointer (some ⟨b,o,none⟩))) (hc : bF w b o vs) : RV P L w (.cell a t) (.agg vs.toArray) :=
 ⟨_,hl,by
  have h := run_loadCells_list (P := P) w ⟨b,o,none⟩ vs (fun j v hv => by rw [dF]; exact hc j v hv);simp [loadVar,ht.ag,ht.sz,h]⟩
section
variable {P : Program} {n : Nat} {X : Exit → Kn} {N : Kn} {L : Env} {w : World} {aY : Array Oper} {dr : Option (List Nat)} {K : Kn} {dd : Tmp} {op : Op} {rest : List Oper} {v : Value} {ty : TypeId} {pos : String} {af : Array Edge} {g : Option (Nat × Bool)}
theorem Rg.tq (h : Tm P n ⟨some dd,op,ty,pos,af,none⟩ L w v) (hd : Nat.blt dd n = true) (k : Rg P aY n dr K rest ((dd,v) :: L) w) (hw : cR op = false := by rfl) :
  Rg P aY n dr K (⟨some dd,op,ty,pos,af,none⟩ :: rest) L w := .tm trivial hw h hd k
theorem Rg.gd (h : Tm P n ⟨some dd,op,ty,pos,af,g⟩ L w v) (hd : Nat.blt dd n = true) (k : Rg P aY n dr K rest ((dd,v) :: L) w) (hg : iV aY ⟨some dd,op,ty,pos,af,g⟩ L := by exact ⟨_,rfl,rfl⟩) (hw : cR op = false := by rfl) :
  Rg P aY n dr K (⟨some dd,op,ty,pos,af,g⟩ :: rest) L w := .tm hg hw h hd k
theorem Rg.mv {x : Operand} (hx : cF L x = some v) (hd : Nat.blt dd n = true) (k : Rg P aY n dr K rest ((dd,v) :: L) w) : Rg P aY n dr K (⟨some dd,.move x,ty,pos,af,none⟩ :: rest) L w := .tm trivial rfl (aP hx) hd k
theorem Rg.as {x : Operand} (hx : cF L x = some v) (hd : Nat.blt dd n = true) (k : Rg P aY n dr K rest ((dd,v) :: L) w) : Rg P aY n dr K (⟨some dd,.assign x,ty,pos,af,none⟩ :: rest) L w := .tm trivial rfl (eJ hx) hd k
theorem Wp.sr {id : Nat} {l : List Oper} {c : Code} (h : Rg P l.toArray n none (fun L w => Wp P n c N X L w) l L w) : Wp P n (.seq (.region id l.toArray false) c) N X L w := .seq (.region h)
theorem Rg.t2 (h : Tm P n ⟨some dd,op,ty,pos,af,none⟩ L w v) (k : Rg P aY n dr K rest ((dd,v) :: L) w) (hd : Nat.blt dd n = true := by rfl) (hw : cR op = false := by rfl) :
  Rg P aY n dr K (⟨some dd,op,ty,pos,af,none⟩ :: rest) L w := .tm trivial hw h hd k
theorem Rg.g2 (h : Tm P n ⟨some dd,op,ty,pos,af,g⟩ L w v) (k : Rg P aY n dr K rest ((dd,v) :: L) w) (hd : Nat.blt dd n = true := by rfl) (hg : iV aY ⟨some dd,op,ty,pos,af,g⟩ L := by exact ⟨_,rfl,rfl⟩) (hw : cR op = false := by rfl) :
  Rg P aY n dr K (⟨some dd,op,ty,pos,af,g⟩ :: rest) L w := .tm hg hw h hd k
theorem Rg.m2 {x : Operand} (hx : cF L x = some v) (k : Rg P aY n dr K rest ((dd,v) :: L) w) (hd : Nat.blt dd n = true := by rfl) : Rg P aY n dr K (⟨some dd,.move x,ty,pos,af,none⟩ :: rest) L w := .tm trivial rfl (aP hx) hd k
theorem Rg.a2 {x : Operand} (hx : cF L x = some v) (k : Rg P aY n dr K rest ((dd,v) :: L) w) (hd : Nat.blt dd n = true := by rfl) : Rg P aY n dr K (⟨some dd,.assign x,ty,pos,af,none⟩ :: rest) L w := .tm trivial rfl (eJ hx) hd k
end
theorem Var.g {w : World} {b : Nat} {cs : List Value} {t : TypeId} (h : Var w b cs t) (i : Nat) {v : Value} (hv : cs[i]? = some v) : w.cell? ⟨b,0 + i,none⟩ = some v := h.cells.get i hv
section
variable {P : Program} {n : Nat} {L : Env} {w : World} {d : Option Tmp} {ty : TypeId} {pos : String} {af : Array Edge} {g : Option (Nat × Bool)}
theorem iD {o : Oper} {R : Value → World → Prop} (h : ∀ a,Fr n a L → ∃ v w',(execOp a.eval o).run P w = .ok (.value v) w' ∧ R v w') : Wl P n o L w R := fun a hF Q next hn => by
 obtain ⟨v,w',h1,h2⟩ := h a hF;unfold Oper.wp;rw [h1];exact hn v w' h2
theorem yQ {t : TypeId} {x y : Operand} {ad : Addr} {u v : Value} (ht : Ty P t 1 false) (hx : cF L x = some (.pointer (some ad))) (hy : cF L y = some v) (hc : w.cell? ad = some u) (hf : w.frozen? ad = false) (hv : v.cells = #[v]) (h1 : v.oneCell' = true) :
  Wl P n ⟨none,.store t x y,ty,pos,af,g⟩ L w (fun _ w' => w' = w.setCell ad v) := fun a hF Q next hn => by
 have had : ad.add 0 = ad := by simp [Addr.add]
 have hst := run_store P w ad v .plain h1;rw [hc] at hst;simp only [hf] at hst;have hrun : (execOp a.eval ⟨none,.store t x y,ty,pos,af,g⟩).run P w = .ok .skip (w.setCell ad v) := by
  simp only [execOp,Instr.storeAt,hF.eval hx,hF.eval hy,Instr.sureAddr,storeVar,hv,Sem.run_bind,Sem.run_pure,Result.andThen_ok,ht.sz];simp [storeCells,had,hst]
 unfold Oper.wp;rw [hrun];exact hn undef _ rfl
theorem uP {f : FuncId} {fn : Func} {e : Array Value → Sem Value} {args : Array Operand} {at_ : Array TypeId} {vs : List Value} {R : Value → World → Prop} (hf : P.funcs[f]? = some fn) (hname : (fn.name == "runtime.NumGoroutine") = false)
  (hb : fn.body.isNone = true) (hn' : Extern.findNext fn = none) (he : Extern.find fn = some e) (ha : args.toList.map (cF L) = vs.map some) (h : ∃ v w',(e vs.toArray).run P w = .ok v w' ∧ R v w') :
  Wl P n ⟨d,.call { callee := .value (.func f),args := args,argTypes := at_ },ty,pos,af,g⟩ L w R := iD fun a hF => by
 have hargs : args.map a.eval = vs.toArray := by
  apply Array.toList_inj.1;rw [Array.toList_map]
  show args.toList.map a.eval = vs
  generalize args.toList = ps at *;clear h
  induction ps generalizing vs with
  | nil => cases vs <;> simp_all
  | cons p ps ih =>
   cases vs with
   | nil => simp at ha
   | cons q vs =>
    simp only [List.map_cons,List.cons.injEq] at ha ⊢;exact ⟨hF.eval ha.1,ih ha.2⟩
 obtain ⟨v,w',h1,h2⟩ := h;refine ⟨v,w',?_,h2⟩;simp [execOp,resolve,Act.eval,Deferred.ofValue,invoke,hargs,run_callFunc_extern hf hname hb hn' he,h1]
theorem Ad {t t' te : TypeId} {j : TypeInfo} {x y : Operand} {p : Addr} (hu : P.underlying t = some (.pointer te)) (hte : P.info? te = some j) (hx : cF L x = some (.pointer (some p))) (hy : cF L y = some (.pointer (some p))) : Tm P n ⟨d,.binOp .neq t x y t',ty,pos,af,g⟩ L w (.bool false) := fun a ha w' _ => by
 simp [execOp,eqGuard,Lib.run_neq_ptr_same w' p hu hte,ha.eval hx,ha.eval hy]
def OwnR (w : World) (B : Nat) (e : TypeId) (size : Nat) (v0 : Value) (n : Nat) (xs : List Value) (v' : Value) (w' : World) : Prop :=
 w'.ownsRow B e size v' n xs ∧ w.grownBy w' v0.ownBlock ∧ ∃ p l c,v' = .slice p l c
theorem OwnR.mk {B : Nat} {e : TypeId} {size : Nat} {v0 : Value} {n : Nat} {xs : List Value} {v' : Value} {w' : World} (h : w'.ownsRow B e size v' n xs) (k : w.grownBy w' v0.ownBlock) : OwnR w B e size v0 n xs v' w' :=
 ⟨h,k,by
  rcases h.2 with ⟨hv,_⟩ | ⟨g,cap,cur,hv,_⟩
  ·exact ⟨_,_,_,hv⟩
  ·exact ⟨_,_,_,hv⟩⟩
theorem uQ {t u e : TypeId} {i : TypeInfo} {x y : Operand} (B : Nat) {v : Value} {m : Nat} {xs : List Value} {s : ByteArray} (ht : P.underlying t = some (.slice e)) (hu : P.underlying u = some .string) (hi : P.info? e = some i) (hz : i.zero = some (.int .u8 0)) (hs : i.size = 1) (hby : i.bytes = 1)
  (hx : cF L x = some v) (hy : cF L y = some (.string s)) (hown : w.ownsRow B e 1 v m xs) (hb : m + s.size ≤ 140737488355328) (hB : B ≤ w.heap.size) :
  Wl P n ⟨d,.call { callee := .builtin .append,args := #[x,y],argTypes := #[t,u] },ty,pos,af,g⟩ L w (OwnR w B e 1 v (m + s.size) (xs ++ Lib.strCells s)) := iD fun a hF => by
 obtain ⟨v',w',h1,h2,h3,_⟩ := Lib.run_append_own_string (P := P) w B t u ty e i ht hu hi hz hs hby v m xs hown s (by unfold maxLen; omega) hb hB;refine ⟨v',w',?_,OwnR.mk h2 h3⟩;simp [execOp,resolve,invoke,builtin,hF.eval hx,hF.eval hy,h1]
theorem uR {t e : TypeId} {i : TypeInfo} {z : Value} {x y : Operand} (B : Nat) {size bytes : Nat} {v : Value} {m k c : Nat} {xs news : List Value} {ad : Addr} (ht : P.underlying t = some (.slice e)) (hi : P.info? e = some i) (hz : i.zero = some z) (hs : i.size = size) (hby : i.bytes = bytes) (hzs : z.cells.size = size) (hpos : 0 < size)
  (hx : cF L x = some v) (hy : cF L y = some (.slice (some ad) k c)) (hown : w.ownsRow B e size v m xs) (hl : news.length = k * size) (hnews : ∀ j u,news[j]? = some u → w.cell? (ad.add j) = some u) (h1 : ∀ u ∈ news,u.oneCell' = true)
  (h63 : m + k ≤ maxLen) (hb : (m + k) * bytes ≤ 140737488355328) (hB : B ≤ w.heap.size) :
  Wl P n ⟨d,.call { callee := .builtin .append,args := #[x,y],argTypes := #[t,t] },ty,pos,af,g⟩ L w (OwnR w B e size v (m + k) (xs ++ news)) := iD fun a hF => by
 obtain ⟨v',w',h2,h3,h4,_⟩ := run_append_own (P := P) w B t ty e i z size bytes ht hi hz hs hby hzs hpos v m xs hown ad k c news hl hnews h1 h63 hb hB;refine ⟨v',w',?_,OwnR.mk h3 h4⟩;simp [execOp,resolve,invoke,builtin,hF.eval hx,hF.eval hy,h2]
theorem Cl.of {f : FuncId} {args : Array Value} {v : Value} {Q : World → Prop} (h : Calls P f args w fun e w' => e = .returned v ∧ Q w') : Cl P f args w (fun u w' => u = v ∧ Q w') :=
 Calls.mono h fun _ _ ⟨h1,h2⟩ => ⟨v,h1,rfl,h2⟩
end
section
variable {P : Program} {n : Nat} {L : Env} {w : World} {d : Option Tmp} {ty : TypeId} {pos : String} {af : Array Edge} {g : Option (Nat × Bool)}
theorem wT {src dst t e : TypeId} {j : TypeInfo} {cells : Nat} {x : Operand} {ad : Addr} (hs : P.underlying src = some (.pointer t)) (hd : P.underlying dst = some .unsafePointer) (ht : P.info? t = some j) (hj : j.size ≠ 0)
  (hsh : w.shape? ad.block = some (e,cells)) (hoff : ad.off < cells) (hx : cF L x = some (.pointer (some ad))) : Wl P n ⟨d,.convert src dst x,ty,pos,af,g⟩ L w (fun u w' => u = .pointer (some ad) ∧ w = w') := iD fun a hF =>
 ⟨_,_,by simp [execOp,hF.eval hx,Lib.run_to_unsafe w ad hs hd ht hj hsh hoff],rfl,rfl⟩
theorem sN {src dst u e : TypeId} {j : TypeInfo} {cells : Nat} {x : Operand} {ad : Addr} (hs : P.underlying src = some .unsafePointer) (hd : P.underlying dst = some (.pointer u)) (hu : P.info? u = some j)
  (hsh : w.shape? ad.block = some (e,cells)) (hlies : liesAt P P.depth e (cells / P.cellsOf e) ad.off u 1 = true) (hx : cF L x = some (.pointer (some ad))) : Wl P n ⟨d,.convert src dst x,ty,pos,af,g⟩ L w (fun v w' => v = .pointer (some ad) ∧ w = w') := iD fun a hF =>
 ⟨_,_,by simp [execOp,hF.eval hx,Lib.run_from_unsafe w ad hs hd hu hsh hlies],rfl,rfl⟩
end
def SlC (w : World) (v : Value) (size n : Nat) (cs : List Value) : Prop :=
 cs.length = n * size ∧ ∃ p cap,v = .slice p n cap ∧ n ≤ cap ∧ (cap = 0 ∨ ∃ b o,p = some ⟨b,o,none⟩ ∧ bF w b o cs)
theorem SlC.ext {w w' : World} {v : Value} {size n : Nat} {cs : List Value} (h : SlC w v size n cs) (k : Ext w w') : SlC w' v size n cs := by
 obtain ⟨h1,p,cap,h2,h3,h4⟩ := h;refine ⟨h1,p,cap,h2,h3,h4.imp id ?_⟩;rintro ⟨b,o,h5,h6⟩;exact ⟨b,o,h5,h6.ext k⟩
theorem bF.sub {w : World} {b o : Nat} {cs : List Value} (h : bF w b o cs) (i m : Nat) : bF w b (o + i) ((cs.drop i).take m) := fun j v hv => by
 rw [Nat.add_assoc];refine h (i + j) v ?_;rw [List.getElem?_take] at hv
 split at hv
 ·rwa [List.getElem?_drop] at hv
 ·cases hv
section
variable {P : Program} {n : Nat} {L : Env} {w : World} {d : Option Tmp} {ty : TypeId} {pos : String} {af : Array Edge} {g : Option (Nat × Bool)}
variable {aY : Array Oper} {dr : Option (List Nat)} {K : Kn} {dd : Tmp} {op : Op} {rest : List Oper} {v : Value}
theorem dD {wB : World} {t e : TypeId} {x : Operand} {size m : Nat} {cs : List Value} (hs : SlC wB v size m cs) (hu : P.underlying t = some (.slice e)) (hx : cF L x = some v) : Tm P n ⟨d,.call { callee := .builtin .len,args := #[x],argTypes := #[t] },ty,pos,af,g⟩ L w (.int .i64 m) := by
 obtain ⟨_,p,cap,rfl,_⟩ := hs;exact dC hu hx
theorem Rg.ix {wB : World} {t e : TypeId} {x y : Operand} {size m : Nat} {ag : Bool} {i : Int} {k : IntKind} {cs : List Value} (hs : SlC wB v size m cs) (hg : iV aY ⟨some dd,.indexAddr t x y,ty,pos,af,g⟩ L) (hx : cF L x = some v) (hy : cF L y = some (.int k i)) (hu : P.underlying t = some (.slice e)) (ht : Ty P e size ag)
  (hb : 0 ≤ i ∧ i < m) (hd : Nat.blt dd n = true) (k : ∀ b o,bF wB b o ((cs.drop (i.toNat * size)).take size) → Rg P aY n dr K rest ((dd,.pointer (some ⟨b,o,none⟩)) :: L) w) : Rg P aY n dr K (⟨some dd,.indexAddr t x y,ty,pos,af,g⟩ :: rest) L w := by
 obtain ⟨_,p,cap,rfl,h2,h3⟩ := id hs
 rcases h3 with rfl | ⟨b,o,rfl,hc⟩
 ·omega
 ·exact Rg.tm hg rfl (bI hu ht hx hy hb) hd (k _ _ (hc.sub _ _))
theorem aD {t len e : Nat} {parts : Array (Nat × Operand)} {pv : List (Nat × Value)} {cs : List Value} (h : ∀ w,(Instr.buildSlice t len pv.toArray).run P w = .ok (.slice (some ⟨w.heap.size,0,none⟩) len len) (w.alloc (.cells cs.toArray e))) (hp : (parts.toList.map fun q => (q.1,cF L q.2)) = pv.map fun q => (q.1,some q.2)) :
  Wl P n ⟨d,.buildSlice t len parts,ty,pos,af,g⟩ L w (fun u w' => ∃ b,u = .slice (some ⟨b,0,none⟩) len len ∧ b = w.heap.size ∧ Ext w w' ∧ Var w' b cs e) := iD fun a ha => by
 have : (parts.map fun q => (q.1,a.eval q.2)) = pv.toArray := by
  apply Array.toList_inj.1;rw [Array.toList_map]
  show _ = pv
  generalize parts.toList = ps at *;clear h
  induction ps generalizing pv with
  | nil => cases pv <;> simp_all
  | cons p ps ih =>
   cases pv with
   | nil => simp at hp
   | cons q vs =>
    simp only [List.map_cons,List.cons.injEq,Prod.mk.injEq] at hp ⊢;refine ⟨?_,ih hp.2⟩;rw [hp.1.1,ha.eval hp.1.2]
 refine ⟨.slice (some ⟨w.heap.size,0,none⟩) len len,w.alloc (.cells cs.toArray e),?_,w.heap.size,rfl,rfl,Ext.alloc _ _,?_⟩
 ·simp only [execOp]
  rw [show (parts.map fun (i,x) => (i,a.eval x)) = pv.toArray from this];simp [h]
 ·unfold Var World.alloc; simp
end
theorem Ae {w : World} {B e size n : Nat} {v : Value} {xs : List Value} (h : w.ownsRow B e size v n xs) : SlC w v size n xs := by
 obtain ⟨h1,h2⟩ := h
 rcases h2 with ⟨rfl,rfl⟩ | ⟨b,cap,cur,rfl,hB,hh,hn,hcap,hsz,hxs⟩
 ·exact ⟨h1,_,_,rfl,Nat.le_refl _,.inl rfl⟩
 ·refine ⟨h1,_,_,rfl,hn,.inr ⟨b,0,rfl,fun i v hv => ?_⟩⟩
  rw [Nat.zero_add];simp only [World.cell?,hh];subst hxs;rw [List.getElem?_take] at hv
  split at hv
  ·simpa using hv
  ·cases hv
theorem sO (w : World) (B e size : Nat) : w.ownsRow B e size (.slice none 0 0) 0 [] := ⟨by simp,.inl ⟨rfl,rfl⟩⟩
theorem cM {w w' : World} {B e size n : Nat} {v : Value} {xs : List Value} (h : w.ownsRow B e size v n xs) (k : Ext w w') : w'.ownsRow B e size v n xs := by
 obtain ⟨h1,h2⟩ := h;refine ⟨h1,h2.imp id ?_⟩;rintro ⟨b,cap,cur,h3,hB,hh,r⟩;exact ⟨b,cap,cur,h3,hB,by rw [k.below.block b (Array.getElem?_eq_some_iff.1 hh).1]; exact hh,r⟩
section
variable {P : Program} {n : Nat} {L : Env} {w : World} {d : Option Tmp} {ty : TypeId} {pos : String} {af : Array Edge} {g : Option (Nat × Bool)}
end
section
variable {P : Program} {n : Nat} {L : Env} {w : World} {d : Option Tmp} {ty : TypeId} {pos : String} {af : Array Edge} {g : Option (Nat × Bool)}
theorem kZ {a : Act} (hF : Fr n a L) : ∀ {ps : List Operand} {vs : List Value},ps.map (cF L) = vs.map some → ps.map a.eval = vs
 | [],vs,h => by cases vs <;> simp_all
 | p :: ps,[],h => by simp at h
 | p :: ps,q :: vs,h => by
  simp only [List.map_cons,List.cons.injEq] at h ⊢;exact ⟨hF.eval h.1,kZ hF h.2⟩
theorem yR {x : Operand} {f : FuncId} {args : Array Operand} {at_ : Array TypeId} {vs : List Value} {R : Value → World → Prop} (hx : cF L x = some (.func (.func f) #[] #[])) (hf : ∀ (args : Array Value) (w : World),(callFunc f args).run P w = .ok (.enter f args) w)
  (ha : args.toList.map (cF L) = vs.map some) (h : Cl P f vs.toArray w R) : Wl P n ⟨d,.call { callee := .value x,args := args,argTypes := at_ },ty,pos,af,g⟩ L w R := fun a hF Q next hn => by
 have hargs : args.map a.eval = vs.toArray := by
  apply Array.toList_inj.1;rw [Array.toList_map];exact kZ hF ha
 have hrun : (execOp a.eval ⟨d,.call { callee := .value x,args := args,argTypes := at_ },ty,pos,af,g⟩).run P w = .ok (.enter f vs.toArray) w := by
  simp [execOp,resolve,hF.eval hx,Deferred.ofValue,invoke,hf,hargs]
 unfold Oper.wp;rw [hrun];simp only [Oper.upon];exact Calls.mono h fun e w' ⟨v,he,hr⟩ => by subst he; exact hn v w' hr
theorem cG {t t0 : TypeId} {x y : Operand} {b o : Nat} {u v : Value} {old : List Value} (h : Var w b old t0) (ht : Ty P t 1 false) (hx : cF L x = some (.pointer (some ⟨b,o,none⟩))) (hy : cF L y = some v) (ho : old[o]? = some u) (hv : v.cells = #[v]) (h1 : v.oneCell' = true) :
  Wl P n ⟨none,.store t x y,ty,pos,af,g⟩ L w (wR w b (old.set o v) t0) := fun a hF Q next hn => by
 have hc : w.cell? ⟨b,o,none⟩ = some u := by have := h.cells o u ho; rwa [Nat.zero_add] at this
 refine yQ ht hx hy hc (Lib.frozen_of_heap h o) hv h1 a hF Q next fun z w' hw => hn z w' ?_;subst hw;refine ⟨⟨rfl,rfl,rfl,by simp [World.setCell],fun k hk => Below.heap_setCell _ _ _ _ (fun e => hk e)⟩,?_⟩;unfold Var at h ⊢;simp [World.setCell,Array.getElem?_modify,h]
theorem B6 {t t' : TypeId} {x y : Operand} {xs ys : Array Value} {b : Bool} (hg : P.eqGuardType P.depth t = false) (he : ∀ w,(Op.equal t (.agg xs) (.agg ys)).run P w = .ok b w) (hx : cF L x = some (.agg xs)) (hy : cF L y = some (.agg ys)) : Tm P n ⟨d,.binOp .eql t x y t',ty,pos,af,g⟩ L w (.bool b) := fun a ha w' _ => by
 simp [execOp,ha.eval hx,ha.eval hy,eqGuard,hg,binOp,he]
theorem B7 {t t' : TypeId} {x y : Operand} {xs ys : Array Value} {b : Bool} (hg : P.eqGuardType P.depth t = false) (he : ∀ w,(Op.equal t (.agg xs) (.agg ys)).run P w = .ok b w) (hx : cF L x = some (.agg xs)) (hy : cF L y = some (.agg ys)) : Tm P n ⟨d,.binOp .neq t x y t',ty,pos,af,g⟩ L w (.bool (!b)) := fun a ha w' _ => by
 simp [execOp,ha.eval hx,ha.eval hy,eqGuard,hg,binOp,he]
end
theorem pK {P : Program} {n : Nat} {aY : Array Oper} {K : Kn} {L : Env} {w : World} {bars : List Nat} {R : Value → World → Prop} {dd : Tmp} {op : Op} {ty : TypeId} {pos : String} {af : Array Edge} {g : Option (Nat × Bool)} {rest : List Oper} (hg : iV aY ⟨some dd,op,ty,pos,af,g⟩ L) (hk : cR op = true) (h : Wl P n ⟨some dd,op,ty,pos,af,g⟩ L w R) (hd : Nat.blt dd n = true) (hc : bars.contains rest.length = true)
  (k : ∀ v w',R v w' → Rg P aY n (some bars) K rest ((dd,v) :: L) w') : Rg P aY n (some bars) K (⟨some dd,op,ty,pos,af,g⟩ :: rest) L w := .wild R hg h (fun bs hbs => by
   injection hbs with hbs
   subst hbs;exact ⟨hk,fun hf => absurd hc (by rw [hf]; simp)⟩) hd k
theorem uS {w : World} {B B' e size n : Nat} {v : Value} {xs : List Value} (h : w.ownsRow B e size v n xs) (hb : B' ≤ B) : w.ownsRow B' e size v n xs :=
 ⟨h.1,h.2.imp id fun ⟨g,cap,cur,h1,h2,h3⟩ => ⟨g,cap,cur,h1,by omega,h3⟩⟩
section
variable {P : Program} {n : Nat} {L : Env} {w : World} {d : Option Tmp} {ty : TypeId} {pos : String} {af : Array Edge} {g : Option (Nat × Bool)}
end
section
variable {P : Program} {n : Nat} {L : Env} {w : World} {d : Option Tmp} {ty : TypeId} {pos : String} {af : Array Edge} {g : Option (Nat × Bool)}
end
structure Kp (Z : List Nat) (w w' : World) : Prop where
 base : Below 0 w w'
 block : ∀ k,k < w.heap.size → k ∉ Z → w'.heap[k]? = w.heap[k]?
theorem wV {w : World} {b t t' : Nat} {cs : List Value} (h : Var w b cs t) (ht : t ≠ t') : ∀ cs',w.heap[b]? ≠ some (.cells cs' t' (0,0)) := fun cs' e => by
 unfold Var at h;rw [h] at e;simp only [Option.some.injEq,Obj.cells.injEq] at e;exact ht e.2.1
theorem Var.ne {w : World} {b b' t t' : Nat} {cs cs' : List Value} (h : Var w b cs t) (h' : Var w b' cs' t') (ht : t ≠ t') : b ≠ b' := fun e => by
 subst e;exact wV h ht _ h'
theorem jP {w : World} {B e size n k : Nat} {v : Value} {xs : List Value} (h : w.ownsRow B e size v n xs) (hk : some k = v.ownBlock) : ∃ cs,w.heap[k]? = some (.cells cs e (0,0)) := by
 rcases h.2 with ⟨rfl,_⟩ | ⟨g,cap,cur,rfl,_,hg,_⟩
 ·cases hk
 ·obtain rfl : k = g := by simpa [Value.ownBlock] using hk
  exact ⟨cur,hg⟩
theorem Ey {w w' : World} {b t B e size n : Nat} {cs xs : List Value} {v : Value} (h : w.ownsRow B e size v n xs) (hv : Var w b cs t) (hu : Upd b w w') (ht : t ≠ e) : w'.ownsRow B e size v n xs := by
 refine ⟨h.1,h.2.imp id fun ⟨g,cap,cur,h1,h2,h3,h4⟩ => ⟨g,cap,cur,h1,h2,?_,h4⟩⟩;rw [hu.block g fun hk => by subst hk; exact wV hv ht _ h3];exact h3
section
variable {P : Program} {n : Nat} {L : Env} {w : World} {d : Option Tmp} {ty : TypeId} {pos : String} {af : Array Edge} {g : Option (Nat × Bool)}
theorem dZ {t t0 : TypeId} {x y : Operand} {b o : Nat} {v : Value} {old cs : List Value} {ag : Bool} (h : Var w b old t0) (hx : cF L x = some (.pointer (some ⟨b,o,none⟩))) (hy : cF L y = some v) (hc : v.cells = cs.toArray) (ht : Ty P t cs.length ag) (hl : o + cs.length ≤ old.length) (h1 : ∀ u ∈ cs,u.oneCell' = true) :
  Wl P n ⟨none,.store t x y,ty,pos,af,g⟩ L w (wR w b (old.take o ++ cs ++ old.drop (o + cs.length)) t0) := fun a hF Q next hn => by
 have hst := run_storeCells_at (P := P) b o t0 cs 0 old.toArray w h (by simpa using hl) h1;simp only [Nat.add_zero,List.toList_toArray] at hst;have hrun : (execOp a.eval ⟨none,.store t x y,ty,pos,af,g⟩).run P w = .ok .skip (w.setRow b (old.take o ++ cs ++ old.drop (o + cs.length)).toArray) := by
  simp [execOp,Instr.storeAt,hF.eval hx,hF.eval hy,Instr.sureAddr,storeVar,ht.sz,hc,hst]
 unfold Oper.wp;rw [hrun];refine hn undef _ ⟨Upd.setRow w b _,?_⟩;unfold Var at h ⊢;exact setRow_heap w b old.toArray _ t0 _ h
end
end Go.Gx
namespace Go.Gx
open Go.RowKit
open Go.ChangeMaps (setBlock heap_setBlock_same heap_setBlock_other)
section
variable {P : Program} {k : TypeId} {Q : Value → Prop}
end
section
variable {P : Program} {n : Nat} {L : Env} {w : World} {d : Option Tmp} {ty : TypeId} {pos : String} {af : Array Edge} {g : Option (Nat × Bool)}
variable {aY : Array Oper} {dr : Option (List Nat)} {K0 : Kn} {dd : Tmp} {rest : List Oper}
end
section
variable {P : Program} {n : Nat} {L : Env} {w : World} {d : Option Tmp} {ty : TypeId} {pos : String} {af : Array Edge} {g : Option (Nat × Bool)}
theorem B8 {t e : TypeId} {x : Operand} {b o k c size : Nat} {z : Value} {zs cur : List Value} (hu : P.underlying t = some (.slice e)) (hz : ∀ w,(zeroValue e).run P w = .ok z w) (hzc : z.cells = zs.toArray) (hsz : zs.length = size) (hv : Var w b cur e) (hx : cF L x = some (.slice (some ⟨b,o,none⟩) k c))
  (hl : o + k * size ≤ cur.length) (h1 : ∀ v ∈ zs,v.oneCell' = true) :
  Wl P n ⟨d,.call { callee := .builtin .clear,args := #[x],argTypes := #[t] },ty,pos,af,g⟩ L w (fun _ w' => Upd b w w' ∧ ∃ cur',Var w' b cur' e ∧ cur'.length = cur.length ∧ cur'.take o = cur.take o ∧ cur'.drop (o + k * size) = cur.drop (o + k * size)) := iD fun a hF => by
 cases k with
 | zero =>
  refine ⟨.tuple #[],w,?_,⟨rfl,rfl,rfl,rfl,fun _ _ => rfl⟩,cur,hv,rfl,rfl,rfl⟩;simp [execOp,resolve,invoke,builtin,hF.eval hx,Builtin.clear_,run_underlying hu]
 | succ k =>
  have hzl : (Builtin.zeroCells z.cells (k + 1)).toList.length = (k + 1) * size := by simp [Builtin.zeroCells,hzc,hsz]
  have hone : ∀ v ∈ (Builtin.zeroCells z.cells (k + 1)).toList,v.oneCell' = true := fun v hv' => by
   simp only [Builtin.zeroCells,hzc,Array.toList_map,List.mem_map] at hv';obtain ⟨i,hi,rfl⟩ := hv'
   by_cases h0 : 0 < zs.length
   ·have : i % zs.length < zs.length := Nat.mod_lt _ h0
    rw [List.size_toArray,getElem!_pos _ _ (by simpa using this)];exact h1 _ (by simp)
   ·have : zs = [] := List.length_eq_zero_iff.1 (by omega)
    subst this;simp at hi
  have hst := run_storeCells_at (P := P) b o e (Builtin.zeroCells z.cells (k + 1)).toList 0 cur.toArray w hv (by rw [hzl]; simpa using hl) hone;simp only [Nat.add_zero,List.toList_toArray,hzl] at hst;have hlen : (cur.take o).length = o := by rw [List.length_take]; omega
  refine ⟨.tuple #[],w.setRow b (cur.take o ++ (Builtin.zeroCells z.cells (k + 1)).toList ++ cur.drop (o + (k + 1) * size)).toArray,?_,Upd.setRow w b _,cur.take o ++ (Builtin.zeroCells z.cells (k + 1)).toList ++ cur.drop (o + (k + 1) * size),setRow_heap w b cur.toArray _ e _ hv,?_,?_,?_⟩
  ·simp [execOp,resolve,invoke,builtin,hF.eval hx,Builtin.clear_,run_underlying hu,hz,hst]
  ·simp only [List.length_append,hzl,hlen,List.length_drop]; omega
  ·rw [List.append_assoc,List.take_left' hlen]
  ·rw [List.drop_left' (by simp only [List.length_append,hzl,hlen])]
theorem Af {t e : TypeId} {i : TypeInfo} {x y : Operand} {b o m cap k size : Nat} {u : Value} {cur news : List Value} (ht : P.underlying t = some (.slice e)) (hi : P.info? e = some i) (hs : i.size = size) (hv : Var w b cur e) (hx : cF L x = some (.slice (some ⟨b,o,none⟩) m cap)) (hy : cF L y = some u) (hsl : SlC w u size k news)
  (h1 : ∀ v ∈ news,v.oneCell' = true) (hroom : m + k ≤ cap) (hfit : o + (m + k) * size ≤ cur.length) :
  Wl P n ⟨d,.call { callee := .builtin .append,args := #[x,y],argTypes := #[t,t] },ty,pos,af,g⟩ L w (fun v w' => v = .slice (some ⟨b,o,none⟩) (m + k) cap ∧ Upd b w w' ∧ Var w' b (cur.take (o + m * size) ++ news ++ cur.drop (o + m * size + news.length)) e) := iD fun a hF => by
 obtain ⟨hl,p,c,rfl,hkc,hd⟩ := hsl;have hfc : (Builtin.firstCells size k (.slice p k c)).run P w = .ok news.toArray w := by
  cases p with
  | none =>
   have hc : c = 0 := hd.elim id fun ⟨b,o,h,_⟩ => by cases h
   have hk : k = 0 := by omega
   subst hk;have : news = [] := List.length_eq_zero_iff.1 (by simpa using hl);simp [Builtin.firstCells,this]
  | some ad =>
   refine run_firstCells_some w size _ ad _ _ _ hl fun j v hj => ?_
   rcases hd with h0 | ⟨b',o',hp,hc⟩
   ·have hk : k = 0 := by omega
    subst hk;have : news = [] := List.length_eq_zero_iff.1 (by simpa using hl);subst this;simp at hj
   ·cases hp
    rw [dF];exact hc j v hj
 have hadd : (m + k) * size = m * size + k * size := Nat.add_mul _ _ _;have hst := run_storeCells_at (P := P) b (o + m * size) e news 0 cur.toArray w hv (by simp only [hl]; simp; omega) h1;simp only [Nat.add_zero,List.toList_toArray] at hst;subst hs;refine ⟨.slice (some ⟨b,o,none⟩) (m + k) cap,w.setRow b (cur.take (o + m * i.size) ++ news ++ cur.drop (o + m * i.size + news.length)).toArray,?_,rfl,Upd.setRow w b _,setRow_heap w b cur.toArray _ e _ hv⟩;simp [execOp,resolve,invoke,builtin,hF.eval hx,hF.eval hy,Builtin.append_,run_underlying ht,sizeOf,typeInfo,hi,Builtin.lenOf,hroom,hfc,dF,hst]
theorem nR {t e : TypeId} {i : TypeInfo} {z : Value} {x y : Operand} {m cap k size bytes : Nat} {p : Option Addr} {u : Value} {olds news : List Value} (ht : P.underlying t = some (.slice e)) (hi : P.info? e = some i) (hz : i.zero = some z) (hs : i.size = size) (hby : i.bytes = bytes) (hzs : z.cells.size = size)
  (hx : cF L x = some (.slice p m cap)) (hy : cF L y = some u) (hold : SlC w (.slice p m cap) size m olds) (hsl : SlC w u size k news) (h1 : ∀ v ∈ news,v.oneCell' = true) (hfull : cap < m + k) (h63 : m + k ≤ maxLen) (hb : (m + k) * bytes ≤ 140737488355328) :
  Wl P n ⟨d,.call { callee := .builtin .append,args := #[x,y],argTypes := #[t,t] },ty,pos,af,g⟩ L w (fun v w' => Ext w w' ∧ w'.ownsRow w.heap.size e size v (m + k) (olds ++ news)) := iD fun a hF => by
 obtain ⟨hl,p2,c,rfl,hkc,hd⟩ := hsl;obtain ⟨hlo,p3,c3,e3,hmc,hdo⟩ := hold
 injection e3 with e3 _ e4
 subst e3 e4;have hk0 : k ≠ 0 := by omega
 obtain ⟨b2,o2,rfl,hc2⟩ : ∃ b o,p2 = some ⟨b,o,none⟩ ∧ bF w b o news := hd.resolve_left (by omega);have hsrc : Src P i.size t (.slice (some ⟨b2,o2,none⟩) k c) k news w := Src.ofSlice w ht _ k c news (by rw [hs]; exact hl) (fun j u hu => by rw [dF]; exact hc2 j u hu) h1;have holdR : (Builtin.firstCells i.size m (.slice p m cap)).run P w.drew = .ok olds.toArray w.drew := by
  rw [hs]
  cases p with
  | none =>
   have hc : cap = 0 := hdo.elim id fun ⟨b,o,h,_⟩ => by cases h
   have hm : m = 0 := by omega
   subst hm;have : olds = [] := List.length_eq_zero_iff.1 (by simpa using hlo);simp [Builtin.firstCells,this]
  | some ad =>
   refine run_firstCells_some w.drew size _ ad _ _ _ hlo fun j v hj => ?_
   rcases hdo with h0 | ⟨b',o',hp,hc⟩
   ·have hm : m = 0 := by omega
    subst hm;have : olds = [] := List.length_eq_zero_iff.1 (by simpa using hlo);subst this;simp at hj
   ·cases hp
    rw [dF];exact hc j v hj
 have hcapB : Builtin.nextslicecap (m + k) cap * i.bytes ≤ 281474976710656 := by
  rw [hby];refine Nat.le_trans ?_ (Nat.mul_le_mul_left 2 hb);rw [← Nat.mul_assoc];exact Nat.mul_le_mul_right _ (nextslicecap_le hfull)
 have hsmall : ((m + k : Nat) : Int) ≤ 9223372036854775807 := by have : m + k ≤ 9223372036854775807 := h63; omega
 have hrun := run_append_grow_src (P := P) w t t ty e i z ht hi hz p m cap olds holdR _ k news hsrc hfull hsmall hcapB;refine ⟨.slice (some ⟨w.heap.size,0,none⟩) (m + k) (grownCap w (m + k) cap e),w.drew.alloc (.cells ((olds ++ news).toArray ++ Builtin.zeroCells z.cells (grownCap w (m + k) cap e - (m + k))) e),by simp [execOp,resolve,invoke,builtin,hF.eval hx,hF.eval hy,hrun],(Ext.drew w).ext (Ext.alloc _ _),?_⟩;have hge := grownCap_ge w (m + k) cap e;have hadd : (m + k) * size = m * size + k * size := Nat.add_mul _ _ _;refine ⟨by rw [List.length_append,hlo,hl,hadd],.inr ⟨w.heap.size,grownCap w (m + k) cap e,(olds ++ news).toArray ++ Builtin.zeroCells z.cells (grownCap w (m + k) cap e - (m + k)),rfl,Nat.le_refl _,?_,hge,grownCap_le_maxLen w _ _ _ h63,?_,?_⟩⟩
 ·exact heap_alloc_new w.drew _
 ·simp only [Array.size_append,List.size_toArray,List.length_append,hlo,hl,size_zeroCells,hzs]
  rw [← hadd,← Nat.add_mul]
  congr 1
  omega
 ·simp only [Array.toList_append,List.toList_toArray]
  rw [List.take_left' (by rw [List.length_append,hlo,hl,hadd])]
end
section
variable {P : Program} {n : Nat} {L : Env} {w : World} {d : Option Tmp} {ty : TypeId} {pos : String} {af : Array Edge} {g : Option (Nat × Bool)}
theorem Ag {t tn e : TypeId} {i : TypeInfo} {z : Value} {x y : Operand} {m cap k size bytes : Nat} {kn : IntKind} {p : Option Addr} {olds zs : List Value} (ht : P.underlying t = some (.slice e)) (htn : P.underlying tn = some (.int kn)) (hi : P.info? e = some i) (hz : i.zero = some z) (hs : i.size = size) (hby : i.bytes = bytes) (hzs : z.cells = zs.toArray) (hzl : zs.length = size) (hpos : 0 < size)
  (hx : cF L x = some (.slice p m cap)) (hy : cF L y = some (.int .i64 (k : Int))) (hold : SlC w (.slice p m cap) size m olds) (h0 : 0 < k) (hfull : cap < m + k) (h63 : m + k ≤ maxLen) (hb : (m + k) * bytes ≤ 140737488355328) :
  Wl P n ⟨d,.call { callee := .builtin .append,args := #[x,y],argTypes := #[t,tn] },ty,pos,af,g⟩ L w (fun v w' => Ext w w' ∧ ∃ news,news.length = k * size ∧ w'.ownsRow w.heap.size e size v (m + k) (olds ++ news)) := iD fun a hF => by
 obtain ⟨hlo,p3,c3,e3,hmc,hdo⟩ := hold
 injection e3 with e3 _ e4
 subst e3 e4;have holdR : (Builtin.firstCells i.size m (.slice p m cap)).run P w.drew = .ok olds.toArray w.drew := by
  rw [hs]
  cases p with
  | none =>
   have hc : cap = 0 := hdo.elim id fun ⟨b,o,h,_⟩ => by cases h
   have hm : m = 0 := by omega
   subst hm;have : olds = [] := List.length_eq_zero_iff.1 (by simpa using hlo);simp [Builtin.firstCells,this]
  | some ad =>
   refine run_firstCells_some w.drew size _ ad _ _ _ hlo fun j v hj => ?_
   rcases hdo with h0 | ⟨b',o',hp,hc⟩
   ·have hm : m = 0 := by omega
    subst hm;have : olds = [] := List.length_eq_zero_iff.1 (by simpa using hlo);subst this;simp at hj
   ·cases hp
    rw [dF];exact hc j v hj
 have hcapB : Builtin.nextslicecap (m + k) cap * i.bytes ≤ 281474976710656 := by
  rw [hby];refine Nat.le_trans ?_ (Nat.mul_le_mul_left 2 hb);rw [← Nat.mul_assoc];exact Nat.mul_le_mul_right _ (nextslicecap_le hfull)
 have hsmall : ((m + k : Nat) : Int) ≤ 9223372036854775807 := by have : m + k ≤ 9223372036854775807 := h63; omega
 have hkb : k * i.bytes ≤ 281474976710656 := by
  rw [hby];have : k * bytes ≤ (m + k) * bytes := Nat.mul_le_mul_right _ (by omega);omega
 have hrun := Lib.run_append_grow_zeros (P := P) w t tn ty e i z .i64 kn ht htn hi hz p m cap olds holdR k h0 (by rw [hs]; exact hpos) hfull hsmall hkb hcapB;have hzc : ∀ q,(Builtin.zeroCells z.cells q).size = q * size := fun q => by simp [Builtin.zeroCells,hzs,hzl]
 refine ⟨.slice (some ⟨w.heap.size,0,none⟩) (m + k) (grownCap w (m + k) cap e),w.drew.alloc (.cells (olds.toArray ++ Builtin.zeroCells z.cells k ++ Builtin.zeroCells z.cells (grownCap w (m + k) cap e - (m + k))) e),by simp [execOp,resolve,invoke,builtin,hF.eval hx,hF.eval hy,hrun],(Ext.drew w).ext (Ext.alloc _ _),(Builtin.zeroCells z.cells k).toList,by simp [hzc],?_⟩;have hge := grownCap_ge w (m + k) cap e;have hadd : (m + k) * size = m * size + k * size := Nat.add_mul _ _ _;refine ⟨by rw [List.length_append,hlo,Array.length_toList,hzc,hadd],.inr ⟨w.heap.size,grownCap w (m + k) cap e,olds.toArray ++ Builtin.zeroCells z.cells k ++ Builtin.zeroCells z.cells (grownCap w (m + k) cap e - (m + k)),rfl,Nat.le_refl _,?_,hge,grownCap_le_maxLen w _ _ _ h63,?_,?_⟩⟩
 ·exact heap_alloc_new w.drew _
 ·simp only [Array.size_append,List.size_toArray,hlo,hzc]
  rw [← hadd,← Nat.add_mul]
  congr 1
  omega
 ·simp only [Array.toList_append,List.toList_toArray]
  rw [List.take_left' (by rw [List.length_append,hlo,Array.length_toList,hzc,hadd])]
end
section
variable {P : Program} {k : TypeId}
end
section
variable {P : Program} {n : Nat} {L : Env} {w : World} {d : Option Tmp} {ty : TypeId} {pos : String} {af : Array Edge} {g : Option (Nat × Bool)}
end
end Go.Gx
namespace Go.Gx
open Go.RowKit
abbrev PanK := List PanicEntry → World → Prop
section
variable {P : Program} {n : Nat} {N : Kn} {X : Exit → Kn} {R : PanK} {L : Env} {w : World}
variable {d : Option Tmp} {ty : TypeId} {pos : String} {af : Array Edge} {g : Option (Nat × Bool)}
end
end Go.Gx
