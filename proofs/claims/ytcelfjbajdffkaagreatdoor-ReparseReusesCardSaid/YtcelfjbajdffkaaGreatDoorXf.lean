/- The parser in memory: trees, the stack of unfinished nodes, what a call keeps. -/
import Derived.Test.YtcelfjbajdffkaaGreatDoorXe
import Derived.Test.YtcelfjbajdffkaaGreatDoorXb
import Derived.Test.YtcelfjbajdffkaaGreatDoorXd
import Derived.Test.YtcelfjbajdffkaaGreatDoorXc
set_option linter.unusedVariables false
set_option linter.unusedSimpArgs false
namespace Go.Proofs.YtcelfjbajdffkaaGreatDoor.Par
open Go.Gx Go.RowKit Go.Lib
open Lexi (Asc)
def encs {α : Type} (f : α → List Value) (l : List α) : List Value := l.flatMap f
theorem encs_len {α : Type} {f : α → List Value} {k : Nat} (hf : ∀ a,(f a).length = k) (l : List α) : (encs f l).length = l.length * k := by
 induction l with
 | nil => simp [encs]
 | cons a l ih => simp only [encs,List.flatMap_cons,List.length_append,List.length_cons] at ih ⊢; rw [ih,hf,Nat.add_mul]; omega
theorem encs_app {α : Type} (f : α → List Value) (l m : List α) : encs f (l ++ m) = encs f l ++ encs f m := by unfold encs; rw [List.flatMap_append]
theorem encs_one {α : Type} (f : α → List Value) (a : α) : encs f [a] = f a := by simp [encs]
theorem encs_cell {α : Type} {f : α → List Value} (hf : ∀ a,∀ u ∈ f a,u.oneCell' = true) (l : List α) : ∀ u ∈ encs f l,u.oneCell' = true := fun u hu => by
 obtain ⟨a,_,h⟩ := List.mem_flatMap.1 hu
 exact hf a u h
theorem encs_get {α : Type} {f : α → List Value} {k : Nat} (hf : ∀ a,(f a).length = k) : ∀ (l : List α) (i j : Nat) (h : i < l.length),j < k → (encs f l)[i * k + j]? = (f l[i])[j]?
 | [],i,j,h,hj => absurd h (Nat.not_lt_zero _)
 | a :: l,0,j,h,hj => by
  show (f a ++ encs f l)[0 * k + j]? = _
  rw [Nat.zero_mul,Nat.zero_add,List.getElem?_append_left (by rw [hf]; exact hj)]
  rfl
 | a :: l,i + 1,j,h,hj => by
  show (f a ++ encs f l)[(i + 1) * k + j]? = _
  have e : (i + 1) * k + j = k + (i * k + j) := by rw [Nat.add_mul]; omega
  rw [e,List.getElem?_append_right (by rw [hf]; omega),hf,Nat.add_sub_cancel_left]
  exact encs_get hf l i j (by simpa using h) hj
abbrev Fs := Nat → Prop
def Und (F : Fs) (n : Nat) : Prop := ∀ z,F z → z < n
structure Bw (F : Fs) (w w' : World) : Prop where
 os : w'.os = w.os
 tape : w'.tape = w.tape
 output : w'.output = w.output
 size : w.heap.size ≤ w'.heap.size
 block : ∀ k,F k → w'.heap[k]? = w.heap[k]?
theorem Bw.refl (F : Fs) (w : World) : Bw F w w := ⟨rfl,rfl,rfl,Nat.le_refl _,fun _ _ => rfl⟩
theorem Bw.trans {F : Fs} {a b c : World} (h : Bw F a b) (k : Bw F b c) : Bw F a c := ⟨k.os.trans h.os,k.tape.trans h.tape,k.output.trans h.output,Nat.le_trans h.size k.size,fun i hi => (k.block i hi).trans (h.block i hi)⟩
theorem Bw.sub {F G : Fs} {a b : World} (h : Bw G a b) (hs : ∀ z,F z → G z) : Bw F a b := ⟨h.os,h.tape,h.output,h.size,fun k hk => h.block k (hs k hk)⟩
theorem Bw.of {F : Fs} {a b : World} (h : Ext a b) (hF : Und F a.heap.size) : Bw F a b := ⟨h.os,h.tape,h.output,h.size,fun k hk => Below.block h k (hF k hk)⟩
theorem Bw.upd {F : Fs} {b : Nat} {a w : World} (h : Upd b a w) (hb : ¬ F b) : Bw F a w := ⟨h.os,h.tape,h.output,Nat.le_of_eq h.size.symm,fun k hk => h.block k fun e => hb (e ▸ hk)⟩
theorem Bw.ext {F : Fs} {w0 a b : World} (h : Ext w0 a) (k : Bw F a b) (hF : ∀ z,z < w0.heap.size → F z) : Ext w0 b := ⟨k.os.trans h.os,k.tape.trans h.tape,k.output.trans h.output,Nat.le_trans h.le k.size,fun i hi => (k.block i (hF i hi)).trans (h.block i hi)⟩
def blkIn (F : Fs) (v : Value) : Prop := ∀ b,v.ownBlock = some b → F b
theorem blkIn.mono {F G : Fs} {v : Value} (h : blkIn F v) (hs : ∀ z,F z → G z) : blkIn G v := fun b hb => hs b (h b hb)
theorem var_bw {F : Fs} {w w' : World} {b t : Nat} {cs : List Value} (h : Var w b cs t) (k : Bw F w w') (hb : F b) : Var w' b cs t := (k.block b hb).trans h
theorem slC_bw {F : Fs} {w w' : World} {v : Value} {size n : Nat} {cs : List Value} (h : SlC w v size n cs) (k : Bw F w w') (hb : blkIn F v) : SlC w' v size n cs := by
 obtain ⟨h1,p,cap,h2,h3,h4⟩ := h
 refine ⟨h1,p,cap,h2,h3,h4.imp id ?_⟩
 rintro ⟨b,o,h5,h6⟩
 refine ⟨b,o,h5,fun i v hv => ?_⟩
 rw [World.cell?_of_block (k.block b (hb b (by rw [h2,h5]; rfl)))]
 exact h6 i v hv
theorem own_bw {F : Fs} {w w' : World} {v : Value} {B e size n : Nat} {cs : List Value} (h : w.ownsRow B e size v n cs) (k : Bw F w w') (hb : blkIn F v) : w'.ownsRow B e size v n cs := by
 obtain ⟨h1,h2⟩ := h
 refine ⟨h1,h2.imp id ?_⟩
 rintro ⟨g,cap,cur,h3,h4,h5,h6⟩
 exact ⟨g,cap,cur,h3,h4,(k.block g (hb g (by rw [h3]; rfl))).trans h5,h6⟩
theorem own_lt {w : World} {v : Value} {B e size n b : Nat} {cs : List Value} (h : w.ownsRow B e size v n cs) (hb : v.ownBlock = some b) : b < w.heap.size := by
 obtain ⟨h1,h2⟩ := h
 rcases h2 with ⟨rfl,_⟩ | ⟨g,cap,cur,rfl,h4,h5,h6⟩
 ·cases hb
 ·cases hb
  exact (Array.getElem?_eq_some_iff.1 h5).1
inductive Gt where
 | mk (k : Int) (t : ByteArray) (cv : Value) (kids : List Gt)
def Gt.cells : Gt → List Value
 | .mk k t cv _ => [.int .i64 k,.string t,cv]
mutual
def Gt.er : Gt → Tr
 | .mk k t _ ks => .mk k t (erL ks)
def erL : List Gt → List Tr
 | [] => []
 | g :: l => g.er :: erL l
end
theorem erL_map (l : List Gt) : erL l = l.map Gt.er := by
 induction l with
 | nil => rfl
 | cons g l ih => simp [erL,ih]
theorem erL_app (l m : List Gt) : erL (l ++ m) = erL l ++ erL m := by simp [erL_map]
theorem erL_len (l : List Gt) : (erL l).length = l.length := by simp [erL_map]
inductive GOk (F : Fs) (w : World) : Gt → Prop where
 | mk {k : Int} {t : ByteArray} {cv : Value} {kids : List Gt} (hs : SlC w cv 3 kids.length (encs Gt.cells kids)) (h1 : cv.oneCell' = true) (hb : blkIn F cv) (hk : ∀ g ∈ kids,GOk F w g) : GOk F w (.mk k t cv kids)
theorem GOk.bw {F G : Fs} {w w' : World} {g : Gt} (h : GOk F w g) (k : Bw G w w') (hs : ∀ z,F z → G z) : GOk G w' g := by
 induction h with
 | mk h1 h2 h3 h4 ih => exact .mk (slC_bw h1 k (h3.mono hs)) h2 (h3.mono hs) ih
theorem GOk.mono {F G : Fs} {w : World} {g : Gt} (h : GOk F w g) (hs : ∀ z,F z → G z) : GOk G w g := h.bw (Bw.refl G w) hs
theorem GOk.one {F : Fs} {w : World} {g : Gt} (h : GOk F w g) : ∀ u ∈ g.cells,u.oneCell' = true := by
 cases h with
 | mk h1 h2 h3 h4 =>
  intro u hu
  simp only [Gt.cells,List.mem_cons,List.not_mem_nil,or_false] at hu
  rcases hu with rfl | rfl | rfl
  ·rfl
  ·rfl
  ·exact h2
theorem Gt.len (g : Gt) : g.cells.length = 3 := by cases g; rfl
def tokc (t : Tok) : List Value := [.int .i64 t.1,.string t.2]
theorem tokc_len (t : Tok) : (tokc t).length = 2 := rfl
structure Fr where
 kind : Int
 cv : Value
 kids : List Gt
def Fr.cells (f : Fr) : List Value := [.int .i64 f.kind,.string nob,f.cv]
theorem Fr.len (f : Fr) : f.cells.length = 3 := rfl
structure Pg where
 bP : Nat
 sv : Value
 pos : Nat
 frs : List Fr
 Q : Fs
def Pg.muts (g : Pg) : List Nat := g.bP :: (g.sv.ownBlock.toList ++ g.frs.flatMap fun f => f.cv.ownBlock.toList)
section
variable (w0 : World) (tv : Value) (toks : List Tok)
structure Cx : Prop where
 asc : Asc w0
 tok : SlC w0 tv 2 toks.length (encs tokc toks)
 few : toks.length ≤ 1000000000
 val : V toks
structure PsW (F : Fs) (w : World) (g : Pg) : Prop where
 ext : Ext w0 w
 base : ∀ z,z < w0.heap.size → F z
 und : Und F w.heap.size
 undQ : Und g.Q w.heap.size
 var : Var w g.bP [tv,.int .i64 g.pos,g.sv] 62
 stk : w.ownsRow 0 25 3 g.sv g.frs.length (encs Fr.cells g.frs)
 kid : ∀ f ∈ g.frs,w.ownsRow 0 25 3 f.cv f.kids.length (encs Gt.cells f.kids)
 ok : ∀ f ∈ g.frs,∀ t ∈ f.kids,GOk g.Q w t
 nod : g.muts.Nodup
 off : ∀ b ∈ g.muts,¬ F b ∧ ¬ g.Q b
 fq : ∀ z,F z → ¬ g.Q z
def Ps (F : Fs) (w : World) (bP : Nat) (below : List (Int × List Tr)) (k : Int) (s : S) : Prop :=
 ∃ g : Pg,PsW w0 tv F w g ∧ g.bP = bP ∧ toks.drop g.pos = s.rem ∧ g.pos ≤ toks.length ∧ g.frs.map (fun f => (f.kind,erL f.kids)) = below ++ [(k,s.kids)] ∧ (∀ f ∈ g.frs,f.kids.length ≤ s.adds) ∧ g.frs.length ≤ s.adds + 1
end
variable {w0 : World} {tv : Value} {toks : List Tok} {F : Fs} {w w' : World}
theorem PsW.lt {g : Pg} (h : PsW w0 tv F w g) : ∀ b ∈ g.muts,b < w.heap.size := fun b hb => by
 simp only [Pg.muts,List.mem_cons,List.mem_append,Option.mem_toList,List.mem_flatMap] at hb
 rcases hb with rfl | hb | ⟨f,hf,hb⟩
 ·exact h.var.lt
 ·exact own_lt h.stk hb
 ·exact own_lt (h.kid f hf) hb
theorem PsW.bw {g : Pg} {G : Fs} (h : PsW w0 tv F w g) (k : Bw G w w') (hG : ∀ z,(F z ∨ g.Q z ∨ z ∈ g.muts) → G z) : PsW w0 tv F w' g := by
 have hF : ∀ z,F z → G z := fun z hz => hG z (.inl hz)
 have hQ : ∀ z,g.Q z → G z := fun z hz => hG z (.inr (.inl hz))
 have hM : ∀ z,z ∈ g.muts → G z := fun z hz => hG z (.inr (.inr hz))
 refine ⟨(k.sub hF).ext h.ext h.base,h.base,fun z hz => Nat.lt_of_lt_of_le (h.und z hz) k.size,fun z hz => Nat.lt_of_lt_of_le (h.undQ z hz) k.size,var_bw h.var k (hM _ (by simp [Pg.muts])),own_bw h.stk k fun b hb => hM b ?_,fun f hf => own_bw (h.kid f hf) k fun b hb => hM b ?_,fun f hf t ht => (h.ok f hf t ht).bw (k.sub hQ) fun _ hz => hz,h.nod,h.off,h.fq⟩
 ·simp [Pg.muts,hb]
 ·simp only [Pg.muts,List.mem_cons,List.mem_append,Option.mem_toList,List.mem_flatMap]
  exact .inr (.inr ⟨f,hf,hb⟩)
theorem PsW.extw {g : Pg} (h : PsW w0 tv F w g) (k : Ext w w') : PsW w0 tv F w' g := h.bw (G := fun z => z < w.heap.size) (Bw.of k fun z hz => hz) fun z hz => by
 rcases hz with hz | hz | hz
 ·exact h.und z hz
 ·exact h.undQ z hz
 ·exact h.lt z hz
theorem Ps.extw {bP : Nat} {below : List (Int × List Tr)} {k : Int} {s : S} (h : Ps w0 tv toks F w bP below k s) (x : Ext w w') : Ps w0 tv toks F w' bP below k s := by
 obtain ⟨g,h1,h2⟩ := h
 exact ⟨g,h1.extw x,h2⟩
theorem Ps.add {bP b : Nat} {below : List (Int × List Tr)} {k : Int} {s : S} (h : Ps w0 tv toks F w bP below k s) (x : Ext w w') (hb : w.heap.size ≤ b) (hb' : b < w'.heap.size) : Ps w0 tv toks (fun z => F z ∨ z = b) w' bP below k s := by
 obtain ⟨g,h1,h2⟩ := h
 have h3 := h1.extw x
 refine ⟨g,⟨h3.ext,fun z hz => .inl (h3.base z hz),fun z hz => ?_,h3.undQ,h3.var,h3.stk,h3.kid,h3.ok,h3.nod,fun z hz => ⟨fun hF => ?_,(h3.off z hz).2⟩,fun z hz hq => ?_⟩,h2⟩
 ·rcases hz with hz | rfl
  ·exact h3.und z hz
  ·exact hb'
 ·rcases hF with hF | rfl
  ·exact (h3.off z hz).1 hF
  ·have := h1.lt _ hz
   omega
 ·rcases hz with hz | rfl
  ·exact h1.fq z hz hq
  ·have := h1.undQ _ hq
   omega
theorem Ps.sub {G : Fs} {bP : Nat} {below : List (Int × List Tr)} {k : Int} {s : S} (h : Ps w0 tv toks G w bP below k s) (hs : ∀ z,F z → G z) (hb : ∀ z,z < w0.heap.size → F z) : Ps w0 tv toks F w bP below k s := by
 obtain ⟨g,h1,h2⟩ := h
 exact ⟨g,⟨h1.ext,hb,fun z hz => h1.und z (hs z hz),h1.undQ,h1.var,h1.stk,h1.kid,h1.ok,h1.nod,fun z hz => ⟨fun hF => (h1.off z hz).1 (hs z hF),(h1.off z hz).2⟩,fun z hz => h1.fq z (hs z hz)⟩,h2⟩
theorem Ps.base {bP : Nat} {below : List (Int × List Tr)} {k : Int} {s : S} (h : Ps w0 tv toks F w bP below k s) : ∀ z,z < w0.heap.size → F z := by
 obtain ⟨g,h1,_⟩ := h
 exact h1.base
theorem Ps.und {bP : Nat} {below : List (Int × List Tr)} {k : Int} {s : S} (h : Ps w0 tv toks F w bP below k s) : Und F w.heap.size := by
 obtain ⟨g,h1,_⟩ := h
 exact h1.und
theorem Ps.ext {bP : Nat} {below : List (Int × List Tr)} {k : Int} {s : S} (h : Ps w0 tv toks F w bP below k s) : Ext w0 w := by
 obtain ⟨g,h1,_⟩ := h
 exact h1.ext
theorem Ps.updF {bP b : Nat} {below : List (Int × List Tr)} {k : Int} {s : S} (h : Ps w0 tv toks F w bP below k s) (hu : Upd b w w') (hF : F b) (hb : w0.heap.size ≤ b) : Ps w0 tv toks F w' bP below k s := by
 obtain ⟨g,h1,h2⟩ := h
 have hw : Bw (fun z => z ≠ b) w w' := Bw.upd hu fun hh => hh rfl
 have hm : ∀ z ∈ g.muts,z ≠ b := fun z hz e => (h1.off z hz).1 (e ▸ hF)
 have hq : ∀ z,g.Q z → z ≠ b := fun z hz e => h1.fq b hF (e ▸ hz)
 refine ⟨g,⟨h1.ext.upd hu hb,h1.base,fun z hz => Nat.lt_of_lt_of_le (h1.und z hz) hw.size,fun z hz => Nat.lt_of_lt_of_le (h1.undQ z hz) hw.size,var_bw h1.var hw (hm _ (by simp [Pg.muts])),own_bw h1.stk hw fun b hb => hm b (by simp [Pg.muts,hb]),fun f hf => own_bw (h1.kid f hf) hw fun b hb => hm b ?_,fun f hf t ht => (h1.ok f hf t ht).bw (hw.sub hq) fun _ hz => hz,h1.nod,h1.off,h1.fq⟩,h2⟩
 simp only [Pg.muts,List.mem_cons,List.mem_append,Option.mem_toList,List.mem_flatMap]
 exact .inr (.inr ⟨f,hf,hb⟩)
theorem Ps.box {bP b : Nat} {below : List (Int × List Tr)} {k : Int} {s : S} (h : Ps w0 tv toks F w bP below k s) (x : Ext w w') (hb : b = w.heap.size) (hb' : b < w'.heap.size) : ∃ F1 : Fs,Ps w0 tv toks F1 w' bP below k s ∧ F1 b ∧ ∀ z,F z → F1 z :=
 ⟨fun z => F z ∨ z = b,h.add x (Nat.le_of_eq hb.symm) hb',.inr rfl,fun z hz => .inl hz⟩
end Go.Proofs.YtcelfjbajdffkaaGreatDoor.Par
namespace Go.Gx
open Go.RowKit
def AppR (w : World) (e size n k : Nat) (v : Value) (all : List Value) (v' : Value) (w' : World) : Prop :=
 ∃ g cap sp,v' = .slice (some ⟨g,0,none⟩) (n + k) cap ∧ n + k ≤ cap ∧ cap ≤ maxLen ∧ sp.length = (cap - (n + k)) * size ∧ Var w' g (all ++ sp) e ∧ (((∃ c,v = .slice (some ⟨g,0,none⟩) n c) ∧ Upd g w w') ∨ (w.heap.size ≤ g ∧ Ext w w'))
section
variable {P : Program} {n : Nat} {L : Env} {w : World} {d : Option Tmp} {ty : TypeId} {pos : String} {af : Array Edge} {g : Option (Nat × Bool)}
theorem own_slc {w : World} {B e size n : Nat} {v : Value} {xs : List Value} (h : w.ownsRow B e size v n xs) : SlC w v size n xs := by
 rcases own_wholeG h with ⟨rfl,rfl⟩ | ⟨b,cap,sp,rfl,h1,h2,h3,h4,h5⟩
 ·exact ⟨h.1,none,0,rfl,Nat.le_refl _,.inl rfl⟩
 ·refine ⟨h.1,_,cap,rfl,h2,.inr ⟨b,0,rfl,fun i v hv => ?_⟩⟩
  exact h5.cells i v (by rw [List.getElem?_append_left (List.getElem?_eq_some_iff.1 hv).1]; exact hv)
theorem w_appendO {t e : TypeId} {i : TypeInfo} {z : Value} {x y : Operand} {size bytes m k : Nat} {v u : Value} {xs news : List Value} (ht : P.underlying t = some (.slice e)) (hi : P.info? e = some i) (hz : i.zero = some z) (hs : i.size = size) (hby : i.bytes = bytes) (hzs : z.cells.size = size)
  (hx : evO L x = some v) (hy : evO L y = some u) (hown : w.ownsRow 0 e size v m xs) (hsl : SlC w u size k news) (h1 : ∀ u ∈ news,u.oneCell' = true) (hk : 0 < k) (h63 : m + k ≤ maxLen) (hb : (m + k) * bytes ≤ 140737488355328) :
  Wl P n ⟨d,.call { callee := .builtin .append,args := #[x,y],argTypes := #[t,t] },ty,pos,af,g⟩ L w (AppR w e size m k v (xs ++ news)) := by
 have hnl : news.length = k * size := hsl.1
 have grow : ∀ (p : Option Addr) (cap : Nat),v = .slice p m cap → cap < m + k → Wl P n ⟨d,.call { callee := .builtin .append,args := #[x,y],argTypes := #[t,t] },ty,pos,af,g⟩ L w (AppR w e size m k v (xs ++ news)) := fun p cap hv hfull a ha Q next hn => by
  subst hv
  refine w_appendG ht hi hz hs hby hzs hx hy (own_slc hown) hsl h1 hfull h63 hb a ha Q next fun v' w' ⟨hxx,ho⟩ => hn v' w' ?_
  rcases own_wholeG ho with ⟨_,h0⟩ | ⟨b,cap',sp,rfl,g1,g2,g3,g4,g5⟩
  ·omega
  ·exact ⟨b,cap',sp,rfl,g2,g3,g4,g5,.inr ⟨g1,hxx⟩⟩
 rcases own_wholeG hown with ⟨rfl,rfl⟩ | ⟨b,cap,sp,rfl,g1,g2,g3,g4,g5⟩
 ·exact grow none 0 rfl (by omega)
 ·by_cases hr : m + k ≤ cap
  ·intro a ha Q next hn
   have hfit : 0 + (m + k) * size ≤ (xs ++ sp).length := by
    rw [List.length_append,hown.1,g4,Nat.zero_add,← Nat.add_mul]
    exact Nat.mul_le_mul_right _ (by omega)
   refine w_appendV (o := 0) ht hi hs g5 hx hy hsl h1 hr hfit a ha Q next fun v' w' ⟨e1,e2,e3⟩ => hn v' w' ?_
   have h2 : (xs ++ sp).take (0 + m * size) = xs := by rw [Nat.zero_add,← hown.1,List.take_left]
   have h3 : (xs ++ sp).drop (0 + m * size + news.length) = sp.drop (k * size) := by
    rw [Nat.zero_add,← hown.1,List.drop_append,List.drop_eq_nil_of_le (by omega),List.nil_append,Nat.add_sub_cancel_left,hnl]
   rw [h2,h3] at e3
   refine ⟨b,cap,sp.drop (k * size),e1,hr,g3,?_,e3,.inl ⟨⟨cap,rfl⟩,e2⟩⟩
   rw [List.length_drop,g4,← Nat.sub_mul]
   congr 1
   omega
  ·exact grow _ _ rfl (by omega)
end
end Go.Gx
namespace Go.Proofs.YtcelfjbajdffkaaGreatDoor.Par
open Go.Gx Go.RowKit Go.Lib
open Lexi (Asc)
variable {w0 : World} {tv : Value} {F : Fs} {w w' : World}
theorem muts_app {bP pos : Nat} {sv : Value} {pre : List Fr} {f : Fr} {Q : Fs} : Pg.muts ⟨bP,sv,pos,pre ++ [f],Q⟩ = (bP :: (sv.ownBlock.toList ++ pre.flatMap fun f => f.cv.ownBlock.toList)) ++ f.cv.ownBlock.toList := by
 simp [Pg.muts]
theorem PsW.top {G Q : Fs} {bP pos : Nat} {sv cv' : Value} {pre : List Fr} {f : Fr} {kids' : List Gt} (h : PsW w0 tv F w ⟨bP,sv,pos,pre ++ [f],Q⟩) (hw : Bw G w w') (hG : ∀ z,z < w.heap.size → some z ≠ sv.ownBlock → some z ≠ cv'.ownBlock → G z)
  (hS : w'.ownsRow 0 25 3 sv (pre.length + 1) (encs Fr.cells (pre ++ [⟨f.kind,cv',kids'⟩]))) (hK : w'.ownsRow 0 25 3 cv' kids'.length (encs Gt.cells kids')) (hfr : ∀ b,cv'.ownBlock = some b → f.cv.ownBlock = some b ∨ w.heap.size ≤ b) (hok : ∀ t ∈ kids',GOk Q w t) :
  PsW w0 tv F w' ⟨bP,sv,pos,pre ++ [⟨f.kind,cv',kids'⟩],Q⟩ ∧ Bw F w w' := by
 have hlt := h.lt
 have hnod := h.nod
 have hoff := h.off
 rw [muts_app] at hlt hnod hoff
 have hbel : ∀ z,z ∈ bP :: (sv.ownBlock.toList ++ pre.flatMap fun f => f.cv.ownBlock.toList) → some z ≠ cv'.ownBlock := fun z hz e => by
  rcases hfr z e.symm with e1 | e1
  ·have := (List.nodup_append.1 hnod).2.2 z hz z (by simp [e1])
   exact this rfl
  ·have := hlt z (List.mem_append_left _ hz)
   omega
 have hsvm : ∀ z,sv.ownBlock = some z → z ∈ bP :: (sv.ownBlock.toList ++ pre.flatMap fun f => f.cv.ownBlock.toList) := fun z hz => by simp [hz]
 have hFG : ∀ z,F z → G z := fun z hz => by
  refine hG z (h.und z hz) (fun e => ?_) (fun e => ?_)
  ·exact (hoff z (List.mem_append_left _ (hsvm z e.symm))).1 hz
  ·rcases hfr z e.symm with e1 | e1
   ·exact (hoff z (List.mem_append_right _ (by simp [e1]))).1 hz
   ·have := h.und z hz
    omega
 have hQG : ∀ z,Q z → G z := fun z hz => by
  refine hG z (h.undQ z hz) (fun e => ?_) (fun e => ?_)
  ·exact (hoff z (List.mem_append_left _ (hsvm z e.symm))).2 hz
  ·rcases hfr z e.symm with e1 | e1
   ·exact (hoff z (List.mem_append_right _ (by simp [e1]))).2 hz
   ·have := h.undQ z hz
    have this : z < w.heap.size := this
    omega
 have hnsv : ∀ z,z = bP ∨ z ∈ pre.flatMap (fun f => f.cv.ownBlock.toList) → some z ≠ sv.ownBlock := fun z hz e => by
  have hn := (List.nodup_append.1 hnod).1
  rw [← e] at hn
  simp only [Option.toList_some,List.singleton_append,List.nodup_cons] at hn
  rcases hz with rfl | hz
  ·exact hn.1 (by simp)
  ·exact hn.2.1 hz
 refine ⟨⟨(hw.sub hFG).ext h.ext h.base,h.base,fun z hz => Nat.lt_of_lt_of_le (h.und z hz) hw.size,fun z hz => Nat.lt_of_lt_of_le (h.undQ z hz) hw.size,var_bw h.var hw (hG _ (hlt _ (by simp)) (hnsv _ (.inl rfl)) (hbel _ (by simp))),by simpa using hS,fun x hx => ?_,fun x hx t ht => ?_,?_,fun b hb => ?_,h.fq⟩,hw.sub hFG⟩
 ·rcases List.mem_append.1 hx with hx | hx
  ·refine own_bw (h.kid x (by simp [hx])) hw fun b hb => ?_
   have hm : b ∈ pre.flatMap fun f => f.cv.ownBlock.toList := List.mem_flatMap.2 ⟨x,hx,by simp [hb]⟩
   exact hG b (hlt b (by simp only [List.mem_append,List.mem_cons]; exact .inl (.inr (.inr hm)))) (hnsv b (.inr hm)) (hbel b (by simp only [List.mem_append,List.mem_cons]; exact .inr (.inr hm)))
  ·obtain rfl : x = ⟨f.kind,cv',kids'⟩ := by simpa using hx
   exact hK
 ·rcases List.mem_append.1 hx with hx | hx
  ·exact (h.ok x (by simp [hx]) t ht).bw (hw.sub hQG) fun _ hz => hz
  ·obtain rfl : x = ⟨f.kind,cv',kids'⟩ := by simpa using hx
   exact (hok t ht).bw (hw.sub hQG) fun _ hz => hz
 ·rw [muts_app]
  refine List.nodup_append.2 ⟨(List.nodup_append.1 hnod).1,?_,fun a ha b hb e => ?_⟩
  ·simp only
   cases cv'.ownBlock <;> simp
  ·subst e
   have hb : cv'.ownBlock = some a := by simpa using hb
   exact hbel a ha hb.symm
 ·rw [muts_app] at hb
  rcases List.mem_append.1 hb with hb | hb
  ·exact hoff b (List.mem_append_left _ hb)
  ·have hb' : cv'.ownBlock = some b := by simpa using hb
   rcases hfr b hb' with e1 | e1
   ·exact hoff b (List.mem_append_right _ (by simp [e1]))
   ·exact ⟨fun hF => by have := h.und b hF; omega,fun hF => by have this : b < w.heap.size := h.undQ b hF; omega⟩
end Go.Proofs.YtcelfjbajdffkaaGreatDoor.Par
namespace Go.Proofs.YtcelfjbajdffkaaGreatDoor.Par
set_option maxRecDepth 20000
open Go.Gx Go.RowKit Go.Lib
open Lexi (Asc)
theorem top_cell {pre : List Fr} {f : Fr} {sp : List Value} (j : Nat) (hj : j < 3) : (encs Fr.cells (pre ++ [f]) ++ sp)[pre.length * 3 + j]? = f.cells[j]? := by
 have hl : (encs Fr.cells (pre ++ [f])).length = (pre ++ [f]).length * 3 := encs_len Fr.len _
 rw [List.getElem?_append_left (by rw [hl,List.length_append,List.length_singleton,Nat.add_mul]; omega),encs_get Fr.len _ _ _ (by simp) hj]
 simp
theorem top_set {pre : List Fr} {f : Fr} {sp : List Value} (v : Value) : (encs Fr.cells (pre ++ [f]) ++ sp).take (pre.length * 3 + 2) ++ [v] ++ (encs Fr.cells (pre ++ [f]) ++ sp).drop (pre.length * 3 + 2 + 1) = encs Fr.cells (pre ++ [⟨f.kind,v,f.kids⟩]) ++ sp := by
 have hl : (encs Fr.cells pre).length = pre.length * 3 := encs_len Fr.len _
 rw [encs_app,encs_app,encs_one,encs_one,← hl]
 obtain ⟨k,cv,ks⟩ := f
 simp only [Fr.cells,List.append_assoc]
 rw [List.take_append,List.drop_append,List.take_of_length_le (by omega),List.drop_eq_nil_of_le (by omega)]
 simp [show (encs Fr.cells pre).length + 2 - (encs Fr.cells pre).length = 2 by omega,show (encs Fr.cells pre).length + 2 + 1 - (encs Fr.cells pre).length = 3 by omega]
theorem kid_set {kids : List Gt} {t : Gt} {z sp : List Value} (hz : z.length = 3) : (encs Gt.cells kids ++ z ++ sp).take (kids.length * 3) ++ t.cells ++ (encs Gt.cells kids ++ z ++ sp).drop (kids.length * 3 + t.cells.length) = encs Gt.cells (kids ++ [t]) ++ sp := by
 have hl : (encs Gt.cells kids).length = kids.length * 3 := encs_len Gt.len _
 rw [encs_app,encs_one,← hl,Gt.len,List.append_assoc,List.append_assoc,List.take_left,List.drop_append,List.drop_eq_nil_of_le (by omega),List.nil_append,Nat.add_sub_cancel_left,List.drop_append,List.drop_eq_nil_of_le (by omega),List.nil_append,hz,Nat.sub_self,List.drop_zero,List.append_assoc]
theorem Fr.one {f : Fr} (h : f.cv.oneCell' = true) : ∀ u ∈ f.cells,u.oneCell' = true := by
 intro u hu
 simp only [Fr.cells,List.mem_cons,List.not_mem_nil,or_false] at hu
 rcases hu with rfl | rfl | rfl
 ·rfl
 ·rfl
 ·exact h
theorem add_ok {w0 : World} {tv : Value} {F : Fs} {w : World} {g : Pg} {pre : List Fr} {f : Fr} {t : Gt} (h : PsW w0 tv F w g) (hf : g.frs = pre ++ [f]) (ht : GOk g.Q w t) (hk : f.kids.length ≤ 1000000000) (hp : pre.length ≤ 1000000000) :
  Cl Tryz.prog 114 #[.pointer (some ⟨g.bP,0,none⟩),.agg t.cells.toArray] w (fun u w' => ∃ cv',PsW w0 tv F w' { g with frs := pre ++ [⟨f.kind,cv',f.kids ++ [t]⟩] } ∧ Bw F w w') := by
 obtain ⟨bP,sv,pos,frs,Q⟩ := g
 simp only at hf ht
 subst hf
 obtain ⟨fk,cv,kids⟩ := f
 simp only at hk
 have hW := h
 have hvar := h.var
 simp only at hvar
 rcases own_wholeG h.stk with ⟨_,h0⟩ | ⟨gs,caps,sps,e1,_,gs1,gs2,gs3,hS⟩
 ·simp at h0
 simp only at e1 gs1 gs3 hS
 subst e1
 have hown := h.kid ⟨fk,cv,kids⟩ (by simp)
 simp only at hown
 have hones : cv.oneCell' = true := by
  rcases own_wholeG hown with ⟨rfl,_⟩ | ⟨_,_,_,rfl,_⟩ <;> rfl
 obtain ⟨pc,cc,rfl⟩ : ∃ pc cc,cv = .slice pc kids.length cc := by
  rcases own_wholeG hown with ⟨rfl,e⟩ | ⟨_,_,_,rfl,_⟩
  ·exact ⟨none,0,by rw [e]⟩
  ·exact ⟨_,_,rfl⟩
 have hlen : (pre ++ [(⟨fk,.slice pc kids.length cc,kids⟩ : Fr)]).length = pre.length + 1 := by simp
 rw [hlen] at gs1 gs3 hvar hW
 have hc62 := hvar.cells
 have hcv : w.cell? ⟨gs,0 + ((pre.length + 1 : Nat) - 1 : Int).toNat * 3 + 2,none⟩ = some (.slice pc kids.length cc) := by
  have := hS.cells _ _ (top_cell (pre := pre) (f := ⟨fk,.slice pc kids.length cc,kids⟩) (sp := sps) 2 (by decide))
  rw [Nat.zero_add] at this
  rw [show 0 + ((pre.length + 1 : Nat) - 1 : Int).toNat * 3 + 2 = pre.length * 3 + 2 by omega]
  exact this
 obtain ⟨tk,tx,tc,tks⟩ := t
 simp only [Gt.cells]
 have hone := ht.one
 simp only [Gt.cells] at hone
 obtain ⟨i25,hi25,hz25,hsi25,hby25⟩ := inf25
 have hx := Ext.refl w
 refine Cl.enter Tryz.func114 rfl Tryz.ntmps114 rfl rfl (.sr (Rg.wd trivial (w_boxed rfl rfl) rfl ?_))
 rintro _ w1 ⟨b3,rfl,qb3,hx1,hv3⟩
 replace hx := hx.ext hx1
 refine .done ?_
 refine Wp.seq (Wp.draw [0,1,2,3,4,5,6,7,8,9,10,11] [] mixed (by kernel_rfl) (by kernel_rfl) ?_)
 intro w2 hx2 _
 replace hx := hx.ext hx2
 replace hv3 := hv3.ext hx2
 refine .mv rfl rfl (.tq (t_nilCheck rfl) rfl (.tq (t_fieldAddr fa62_2 rfl) rfl (.tq (t_load ty23 rfl (Cells.get (i := 2) (hc62.ext hx) rfl)) rfl (.mv rfl rfl (.tq (t_nilCheck rfl) rfl (.tq (t_fieldAddr fa62_2 rfl) rfl (.tq (t_load ty23 rfl (Cells.get (i := 2) (hc62.ext hx) rfl)) rfl (.tq (t_lenS Tryz.underlying23 rfl) rfl ?_))))))))
 first | refine .tq (t_subI rfl rfl (by omega)) rfl ?_ | refine .tq (t_sub rfl rfl) rfl ?_
 refine .tq (t_indexAddrL Tryz.underlying23 ty25 rfl rfl (by omega)) rfl ?_
 refine .as rfl rfl (.done ?_)
 refine Wp.cut (fun L w' => ∃ i_ : Unit,Sub ((fun _ => []) i_) L ∧ (fun _ w' => ∃ cv',PsW w0 tv F w' { bP := bP,sv := .slice (some ⟨gs,0,none⟩) (pre.length + 1) caps,pos := pos,frs := pre ++ [⟨fk,cv',kids ++ [.mk tk tx tc tks]⟩],Q := Q } ∧ Bw F w w') i_ w') ?_ ?_
 ·skip
  refine Wp.drawB (fun w' => w'.cell? ⟨gs,0 + (((pre.length + 1 : Nat) : Int) - 1).toNat * 3 + 2,none⟩ = some (.slice pc kids.length cc) ∧ Var w' b3 [.int .i64 tk,.string tx,tc] 25) 7 mixed ?_
  intro w3 hx3 hh3
  replace hx := hx.ext hx3
  replace hv3 := hv3.ext hx3
  refine ⟨⟨hx.cell hcv,hv3⟩,?_⟩
  refine Qb.tameW (by kernel_rfl) 0 rfl (by kernel_rfl) trivial (tw_of fun wz => t_move rfl) rfl ?_
  refine Qb.tameW (by kernel_rfl) 1 rfl (by kernel_rfl) trivial (tw_of fun wz => t_nilCheck rfl) rfl ?_
  refine Qb.tameW (by kernel_rfl) 2 rfl (by kernel_rfl) trivial (tw_of fun wz => t_fieldAddr fa25_2 rfl) rfl ?_
  refine Qb.tame (by kernel_rfl) 3 rfl (by kernel_rfl) trivial (ts fun wz hkz => by exact t_load ty23 rfl hkz.1) rfl ?_
  refine Qb.tame (by kernel_rfl) 4 rfl (by kernel_rfl) trivial (ts fun wz hkz => by exact t_loadA rfl hkz.2.cells ty25) rfl ?_
  refine Qb.tame (by kernel_rfl) 5 rfl (by kernel_rfl) trivial (ts fun wz hkz => by exact t_lenS Tryz.underlying23 rfl) rfl ?_
  refine Qb.alt1 (i := 6) (by kernel_rfl) ?_
  refine ⟨_,_,rfl,rfl,trivial,w_buildSlice (bs23_1 _ _ _ _ _) rfl,rfl,fun _ _ hr => by obtain ⟨_,_,_,hr,_⟩ := hr; exact ⟨hr.cell (hx.cell hcv),hv3.ext hr⟩,?_⟩
  rintro _ w4 ⟨b22,rfl,q22,hx4,hv22⟩
  replace hx := hx.ext hx4
  replace hv3 := hv3.ext hx4
  refine Qb.bar (fun _ => True) 7 13 rfl (by kernel_rfl) rfl trivial (w_appendO Tryz.underlying23 hi25 hz25 hsi25 hby25 rfl rfl rfl (own_ext hown hx) (slc_var hv22 rfl) (by decide) (by decide) (by unfold maxLen; omega) (by omega)) rfl (fun _ _ _ => trivial) ?_
  rintro _ w5 ⟨gk,capk,spk,rfl,hck,hmk,hlk,hvk,hwhere⟩
  have hfr : (Value.slice pc kids.length cc).ownBlock = some gk ∨ w.heap.size ≤ gk := by
   rcases hwhere with ⟨⟨c,e⟩,_⟩ | ⟨e,_⟩
   ·exact .inl (by rw [e]; rfl)
   ·exact .inr (Nat.le_trans hx.le e)
  have hne : gs ≠ gk := fun e => by
   rcases hfr with e1 | e1
   ·have hn := hW.nod
    rw [muts_app] at hn
    exact (List.nodup_append.1 hn).2.2 gs (by simp [Value.ownBlock]) gs (by simp [e1,e]) rfl
   ·have := hS.lt
    omega
  obtain ⟨G,hGd⟩ : ∃ G : Fs,G = fun z => z < w.heap.size ∧ z ≠ gk ∧ z ≠ gs := ⟨_,rfl⟩
  have nGk : ¬ G gk := by rw [hGd]; exact fun h => h.2.1 rfl
  have nGs : ¬ G gs := by rw [hGd]; exact fun h => h.2.2 rfl
  have hB : Bw G w w5 := by
   have h1 : Bw G w w4 := Bw.of hx (by rw [hGd]; exact fun z hz => hz.1)
   rcases hwhere with ⟨_,hu⟩ | ⟨_,hu⟩
   ·exact h1.trans (Bw.upd hu nGk)
   ·exact h1.trans (Bw.of hu (by rw [hGd]; exact fun z hz => Nat.lt_of_lt_of_le hz.1 hx.le))
  have hSc := hS.ext hx
  replace hSc : Var w5 gs (encs Fr.cells (pre ++ [(⟨fk,.slice pc kids.length cc,kids⟩ : Fr)]) ++ sps) 25 := by
   rcases hwhere with ⟨_,hu⟩ | ⟨_,hu⟩
   ·exact hSc.upd hu hne
   ·exact hSc.ext hu
  have hoE : 0 + (kids.length : Int).toNat * 3 = kids.length * 3 := by omega
  have hoS : 0 + (((pre.length + 1 : Nat) : Int) - 1).toNat * 3 + 2 = pre.length * 3 + 2 := by omega
  have hSl : (encs Fr.cells (pre ++ [(⟨fk,.slice pc kids.length cc,kids⟩ : Fr)]) ++ sps).length = (pre.length + 1) * 3 + sps.length := by rw [List.length_append,encs_len Fr.len,hlen]
  have hKl : (encs Gt.cells kids ++ [Value.int .i64 0,Value.string ⟨#[]⟩,Value.slice none 0 0] ++ spk).length = kids.length * 3 + 3 + spk.length := by rw [List.length_append,List.length_append,encs_len Gt.len]; rfl
  refine Qb.tameW (by kernel_rfl) 8 rfl (by kernel_rfl) trivial (tw_of fun wz => t_indexAddrL Tryz.underlying23 ty25 rfl rfl (by omega)) rfl ?_
  refine Qb.tameW (by kernel_rfl) 10 rfl (by kernel_rfl) trivial (tw_of fun wz => t_nilCheck rfl) rfl ?_
  refine Qb.tameW (by kernel_rfl) 11 rfl (by kernel_rfl) trivial (tw_of fun wz => t_fieldAddr fa25_2 rfl) rfl ?_
  refine Qb.alt2 (i := 9) (j := 12) (by kernel_rfl) ?_ ?_
  ·skip
   refine ⟨_,_,rfl,rfl,trivial,w_putAt (cs := [.int .i64 tk,.string tx,tc]) hvk rfl rfl rfl ty25 (by rw [hoE,hKl]; simp) hone,rfl,fun _ _ h => trivial,?_⟩
   rintro _ wE ⟨huE,hvE⟩
   rw [hoE] at hvE
   replace hvE : Var wE gk (encs Gt.cells (kids ++ [.mk tk tx tc tks]) ++ spk) 25 := (kid_set (kids := kids) (t := .mk tk tx tc tks) (z := [Value.int .i64 0,Value.string ⟨#[]⟩,Value.slice none 0 0]) (sp := spk) rfl) ▸ hvE
   clear hvk
   have hvk := hvE
   clear hvE
   replace hSc := hSc.upd huE hne
   replace hB := hB.trans (Bw.upd huE nGk)
   refine Qb.alt1 (i := 12) (by kernel_rfl) ?_
   refine ⟨_,_,rfl,rfl,trivial,w_putAt (cs := [.slice (some ⟨gk,0,none⟩) (kids.length + 1) capk]) hSc rfl rfl rfl ty23 (by rw [hoS,hSl]; simp only [List.length_singleton]; omega) (by intro u hu; simp at hu; subst hu; rfl),rfl,fun _ _ h => trivial,?_⟩
   rintro _ wS ⟨huS,hvS⟩
   rw [hoS] at hvS
   replace hvS : Var wS gs (encs Fr.cells (pre ++ [⟨fk,.slice (some ⟨gk,0,none⟩) (kids.length + 1) capk,kids ++ [.mk tk tx tc tks]⟩]) ++ sps) 25 := by
    have := top_set (pre := pre) (f := ⟨fk,.slice pc kids.length cc,kids⟩) (sp := sps) (.slice (some ⟨gk,0,none⟩) (kids.length + 1) capk)
    rw [show encs Fr.cells (pre ++ [⟨fk,.slice (some ⟨gk,0,none⟩) (kids.length + 1) capk,kids ++ [.mk tk tx tc tks]⟩]) = encs Fr.cells (pre ++ [⟨fk,.slice (some ⟨gk,0,none⟩) (kids.length + 1) capk,kids⟩]) by simp [encs,Fr.cells],← this]
    exact hvS
   clear hSc
   have hSc := hvS
   clear hvS
   replace hvk := hvk.upd huS (Ne.symm hne)
   replace hB := hB.trans (Bw.upd huS nGs)
   refine Qb.done (by kernel_rfl) ?_
   exact ⟨(),.nil,_,hW.top (cv' := .slice (some ⟨gk,0,none⟩) (kids.length + 1) capk) (kids' := kids ++ [.mk tk tx tc tks]) hB (fun z h1 h2 h3 => by rw [hGd]; exact ⟨h1,fun e => h3 (by rw [e]; rfl),fun e => h2 (by rw [e]; rfl)⟩) (whole_ownG (Nat.zero_le _) (encs_len Fr.len _ |>.trans (by simp)) gs1 gs2 gs3 hSc) (by rw [List.length_append]; exact whole_ownG (Nat.zero_le _) (encs_len Gt.len _ |>.trans (by simp)) hck hmk hlk hvk) (fun b hb => by injection hb with hb; subst hb; exact hfr) (fun t hm => by
    rcases List.mem_append.1 hm with hm | hm
    ·exact hW.ok ⟨fk,.slice pc kids.length cc,kids⟩ (by simp) t hm
    ·obtain rfl : t = .mk tk tx tc tks := by simpa using hm
     exact ht)⟩
  ·skip
   refine ⟨_,_,rfl,rfl,trivial,w_putAt (cs := [.slice (some ⟨gk,0,none⟩) (kids.length + 1) capk]) hSc rfl rfl rfl ty23 (by rw [hoS,hSl]; simp only [List.length_singleton]; omega) (by intro u hu; simp at hu; subst hu; rfl),rfl,fun _ _ h => trivial,?_⟩
   rintro _ wS ⟨huS,hvS⟩
   rw [hoS] at hvS
   replace hvS : Var wS gs (encs Fr.cells (pre ++ [⟨fk,.slice (some ⟨gk,0,none⟩) (kids.length + 1) capk,kids ++ [.mk tk tx tc tks]⟩]) ++ sps) 25 := by
    have := top_set (pre := pre) (f := ⟨fk,.slice pc kids.length cc,kids⟩) (sp := sps) (.slice (some ⟨gk,0,none⟩) (kids.length + 1) capk)
    rw [show encs Fr.cells (pre ++ [⟨fk,.slice (some ⟨gk,0,none⟩) (kids.length + 1) capk,kids ++ [.mk tk tx tc tks]⟩]) = encs Fr.cells (pre ++ [⟨fk,.slice (some ⟨gk,0,none⟩) (kids.length + 1) capk,kids⟩]) by simp [encs,Fr.cells],← this]
    exact hvS
   clear hSc
   have hSc := hvS
   clear hvS
   replace hvk := hvk.upd huS (Ne.symm hne)
   replace hB := hB.trans (Bw.upd huS nGs)
   refine Qb.alt1 (i := 9) (by kernel_rfl) ?_
   refine ⟨_,_,rfl,rfl,trivial,w_putAt (cs := [.int .i64 tk,.string tx,tc]) hvk rfl rfl rfl ty25 (by rw [hoE,hKl]; simp) hone,rfl,fun _ _ h => trivial,?_⟩
   rintro _ wE ⟨huE,hvE⟩
   rw [hoE] at hvE
   replace hvE : Var wE gk (encs Gt.cells (kids ++ [.mk tk tx tc tks]) ++ spk) 25 := (kid_set (kids := kids) (t := .mk tk tx tc tks) (z := [Value.int .i64 0,Value.string ⟨#[]⟩,Value.slice none 0 0]) (sp := spk) rfl) ▸ hvE
   clear hvk
   have hvk := hvE
   clear hvE
   replace hSc := hSc.upd huE hne
   replace hB := hB.trans (Bw.upd huE nGk)
   refine Qb.done (by kernel_rfl) ?_
   exact ⟨(),.nil,_,hW.top (cv' := .slice (some ⟨gk,0,none⟩) (kids.length + 1) capk) (kids' := kids ++ [.mk tk tx tc tks]) hB (fun z h1 h2 h3 => by rw [hGd]; exact ⟨h1,fun e => h3 (by rw [e]; rfl),fun e => h2 (by rw [e]; rfl)⟩) (whole_ownG (Nat.zero_le _) (encs_len Fr.len _ |>.trans (by simp)) gs1 gs2 gs3 hSc) (by rw [List.length_append]; exact whole_ownG (Nat.zero_le _) (encs_len Gt.len _ |>.trans (by simp)) hck hmk hlk hvk) (fun b hb => by injection hb with hb; subst hb; exact hfr) (fun t hm => by
    rcases List.mem_append.1 hm with hm | hm
    ·exact hW.ok ⟨fk,.slice pc kids.length cc,kids⟩ (by simp) t hm
    ·obtain rfl : t = .mk tk tx tc tks := by simpa using hm
     exact ht)⟩
 ·rintro L' wF ⟨_,hs,cv',h1,h2⟩
  exact ⟨[],trivial,⟨cv',(by rw [hlen]; exact h1),h2⟩⟩
end Go.Proofs.YtcelfjbajdffkaaGreatDoor.Par
namespace Go.Proofs.YtcelfjbajdffkaaGreatDoor.Par
set_option maxRecDepth 20000
open Go.Gx Go.RowKit Go.Lib
open Lexi (Asc)
theorem encs_at {α : Type} {f : α → List Value} {k : Nat} (hf : ∀ a,(f a).length = k) (l : List α) (i : Nat) (h : i < l.length) : ((encs f l).drop (i * k)).take k = f l[i] := by
 apply List.ext_getElem?
 intro j
 rw [List.getElem?_take]
 split
 ·rename_i hj
  rw [List.getElem?_drop,encs_get hf l i j h hj]
 ·rename_i hj
  rw [List.getElem?_eq_none (by rw [hf]; omega)]
theorem isTrivia_ok {w : World} {k : Int} : Cl Tryz.prog 57 #[.int .i64 k] w (fun u w' => u = .bool (isTriv k) ∧ Ext w w') := by
 have hx := Ext.refl w
 refine Cl.enter Tryz.func57 rfl Tryz.ntmps57 rfl rfl ?_
 by_cases h1 : k = 101
 ·skip
  refine .sr (.as rfl rfl (.done (.sr (.mv rfl rfl (.tq (t_eqlT rfl rfl h1) rfl (.mv rfl rfl (.so rfl rfl (.so rfl rfl (.tq (t_pickT rfl rfl) rfl (.as rfl rfl (.done (Wp.ret ?_))))))))))))
  exact ⟨[_],⟨rfl,trivial⟩,by subst h1; rfl,hx⟩
 ·skip
  refine .sr (.as rfl rfl (.done (.sr (.mv rfl rfl (.tq (t_eqlF rfl rfl h1) rfl (.mv rfl rfl (.gd (t_move rfl) rfl (.gd (t_eql rfl rfl) rfl (.tq (t_pickF rfl rfl) rfl (.as rfl rfl (.done (Wp.ret ?_))))))))))))
  exact ⟨[_],⟨rfl,trivial⟩,by by_cases h2 : k = 102 <;> simp [isTriv,h1,h2,tup],hx⟩
theorem sig1_drop {l : List Tok} {k : Nat} (h : k < l.length) : sig1 (l.drop k) = if isTriv l[k].1 then sig1 (l.drop (k + 1)) else l[k] := by
 rw [List.drop_eq_getElem_cons h]
 rfl
theorem peek_ok {w : World} {tv sv : Value} {toks : List Tok} {pos bP : Nat} (hT0 : SlC w tv 2 toks.length (encs tokc toks)) (hvar : Var w bP [tv,.int .i64 pos,sv] 62) (hp : pos ≤ toks.length) (hn : toks.length ≤ 1000000000) :
  Cl Tryz.prog 47 #[.pointer (some ⟨bP,0,none⟩)] w (fun u w' => u = .agg #[.int .i64 (sig1 (toks.drop pos)).1,.string (sig1 (toks.drop pos)).2] ∧ Ext w w') := by
 have hx := Ext.refl w
 have hc := hvar.cells
 refine Cl.enter Tryz.func47 rfl Tryz.ntmps47 rfl rfl (.sr (Rg.wd trivial (w_new Tryz.zeroValue55 rfl) rfl ?_))
 rintro _ w1 ⟨b2,rfl,qb2,hx1,hv2⟩
 replace hx := hx.ext hx1
 refine .done (.sr (.mv rfl rfl (.tq (t_nilCheck rfl) rfl (.tq (t_fieldAddr fa62_1 rfl) rfl (.tq (t_load ty3 rfl (Cells.get (i := 1) (hc.ext hx) rfl)) rfl (.as rfl rfl (.done (.seq (Wp.block ?_)))))))))
 refine Wp.loop (ι := Nat) (fun k => [(0,.pointer (some ⟨bP,0,none⟩)),(2,.pointer (some ⟨b2,0,none⟩)),(3,.int .i64 k)])
  (fun k w' => k ≤ toks.length ∧ sig1 (toks.drop k) = sig1 (toks.drop pos) ∧ Ext w w' ∧ Var w' b2 [.int .i64 0,.string ⟨#[]⟩] 55) (fun k => toks.length - k) pos (by repeat (first | exact .nil | refine .cons rfl ?_)) ⟨hp,rfl,hx,hv2⟩ ?_
 clear hx hv2
 rintro k w3 ⟨hk,hsg,hx,hv2⟩
 by_cases hlt : k < toks.length
 ·skip
  refine .seq (.sr (.mv rfl rfl (.mv rfl rfl (.tq (t_nilCheck rfl) rfl (.tq (t_fieldAddr fa62_0 rfl) rfl (.tq (t_load ty49 rfl (Cells.get (i := 0) (hc.ext hx) rfl)) rfl (.tq (t_lenC hT0 Tryz.underlying49 rfl) rfl ?_)))))))
  refine .tq (t_lssT rfl rfl (by omega)) rfl ?_
  refine .mv rfl rfl (.gd (t_move rfl) rfl (.gd (t_nilCheck rfl) rfl (.gd (t_fieldAddr fa62_0 rfl) rfl (.gd (t_load ty49 rfl (Cells.get (i := 0) (hc.ext hx) rfl)) rfl (.gd (t_move rfl) rfl ?_)))))
  refine Rg.ix hT0 ⟨_,rfl,rfl⟩ rfl rfl Tryz.underlying49 ty55 (by omega) rfl ?_
  intro bt21 ot21 ht21
  replace ht21 := ht21.ext hx
  rw [Int.toNat_natCast,encs_at tokc_len toks k hlt] at ht21
  refine .gd (t_fieldAddr fa55_0 rfl) rfl (.gd (t_load ty3 rfl (Cells.get (i := 0) ht21 rfl)) rfl (Rg.wd ⟨_,rfl,rfl⟩ (w_call Tryz.call57 rfl isTrivia_ok) rfl ?_))
  rintro _ w4 ⟨rfl,hx4⟩
  replace hx := hx.ext hx4
  replace hv2 := hv2.ext hx4
  replace ht21 := ht21.ext hx4
  refine .tq (t_pickT rfl rfl) rfl (.done ?_)
  have hs := sig1_drop (l := toks) hlt
  cases htr : isTriv toks[k].1 with
  | true =>
   refine .condT rfl (Wp.skip (Wp.block (Wp.region (.mv rfl rfl ?_))))
   refine .tq (t_addI rfl rfl (by omega)) rfl ?_
   refine .as rfl rfl (.done ?_)
   rw [htr,if_pos rfl] at hs
   exact ⟨k + 1,by repeat (first | exact .nil | refine .cons rfl ?_),⟨hlt,hs.symm.trans hsg,hx,hv2⟩,by omega⟩
  | false =>
   refine .condF rfl (Wp.exit (.seq (.sr (.mv rfl rfl (.mv rfl rfl (.tq (t_nilCheck rfl) rfl (.tq (t_fieldAddr fa62_0 rfl) rfl (.tq (t_load ty49 rfl (Cells.get (i := 0) (hc.ext hx) rfl)) rfl (.tq (t_lenC hT0 Tryz.underlying49 rfl) rfl ?_)))))))))
   refine .tq (t_eqlF rfl rfl (by omega)) rfl ?_
   refine .done (.condF rfl (Wp.skip (.sr (.mv rfl rfl (.tq (t_nilCheck rfl) rfl (.tq (t_fieldAddr fa62_0 rfl) rfl (.tq (t_load ty49 rfl (Cells.get (i := 0) (hc.ext hx) rfl)) rfl (.mv rfl rfl ?_))))))))
   refine Rg.ix hT0 trivial rfl rfl Tryz.underlying49 ty55 (by omega) rfl ?_
   intro bt41 ot41 ht41
   replace ht41 := ht41.ext hx
   rw [Int.toNat_natCast,encs_at tokc_len toks k hlt] at ht41
   refine .tq (t_loadA rfl ht41 ty55) rfl (Rg.wn trivial (w_put hv2 rfl rfl rfl ty55 rfl rfl) ?_)
   rintro _ wZ ⟨huZ,hv3⟩
   replace hx : Ext w wZ := Ext.upd hx huZ (Nat.le_of_eq qb2.symm)
   refine .done (Wp.ret ?_)
   rw [htr] at hs
   have hs : sig1 (toks.drop k) = toks[k] := hs
   exact ⟨[_],⟨RV.cellA (vs := [_,_]) ty55 rfl hv3.cells,trivial⟩,by rw [← hsg,hs]; rfl,hx⟩
 ·skip
  refine .seq (.sr (.mv rfl rfl (.mv rfl rfl (.tq (t_nilCheck rfl) rfl (.tq (t_fieldAddr fa62_0 rfl) rfl (.tq (t_load ty49 rfl (Cells.get (i := 0) (hc.ext hx) rfl)) rfl (.tq (t_lenC hT0 Tryz.underlying49 rfl) rfl ?_)))))))
  refine .tq (t_lssF rfl rfl (by omega)) rfl ?_
  refine .mv rfl rfl (.so rfl rfl (.so rfl rfl (.so rfl rfl (.so rfl rfl (.so rfl rfl (.so rfl rfl (.so rfl rfl (.so rfl rfl (.so rfl rfl (.tq (t_pickF rfl rfl) rfl (.done (.condF rfl ?_))))))))))))
  refine Wp.exit (.seq (.sr (.mv rfl rfl (.mv rfl rfl (.tq (t_nilCheck rfl) rfl (.tq (t_fieldAddr fa62_0 rfl) rfl (.tq (t_load ty49 rfl (Cells.get (i := 0) (hc.ext hx) rfl)) rfl (.tq (t_lenC hT0 Tryz.underlying49 rfl) rfl ?_))))))))
  refine .tq (t_eqlT rfl rfl (by omega)) rfl ?_
  refine .done (.condT rfl (.sr (.tq (t_build (bd55_0 _) rfl) rfl (Rg.wn trivial (w_put hv2 rfl rfl rfl ty55 rfl rfl) ?_))))
  rintro _ wZ ⟨huZ,hv3⟩
  replace hx : Ext w wZ := Ext.upd hx huZ (Nat.le_of_eq qb2.symm)
  refine .done (Wp.ret ?_)
  have hs : sig1 (toks.drop k) = (100,nob) := by rw [List.drop_eq_nil_of_le (by omega)]; rfl
  exact ⟨[_],⟨RV.cellA (vs := [_,_]) ty55 rfl hv3.cells,trivial⟩,by rw [← hsg,hs]; rfl,hx⟩
theorem Ps.peek {w0 : World} {tv : Value} {toks : List Tok} {F : Fs} {w : World} {bP : Nat} {below : List (Int × List Tr)} {k : Int} {s : S} (hC : Cx w0 tv toks) (h : Ps w0 tv toks F w bP below k s) :
  Cl Tryz.prog 47 #[.pointer (some ⟨bP,0,none⟩)] w (fun u w' => u = .agg #[.int .i64 (sig1 s.rem).1,.string (sig1 s.rem).2] ∧ Ext w w') := by
 obtain ⟨g,h1,rfl,h2,h3,_⟩ := h
 rw [← h2]
 exact peek_ok (hC.tok.ext h1.ext) h1.var h3 hC.few
section
variable {w0 : World} {tv : Value} {toks : List Tok} {F : Fs} {w : World} {bP : Nat} {below : List (Int × List Tr)} {k : Int} {s : S}
theorem at_ok (hC : Cx w0 tv toks) (h : Ps w0 tv toks F w bP below k s) {texts : List ByteArray} {bt : Nat} (ht : Var w bt (texts.map .string) 9) (hn : texts.length ≤ 1000) :
  Cl Tryz.prog 48 #[.pointer (some ⟨bP,0,none⟩),.slice (some ⟨bt,0,none⟩) texts.length texts.length] w (fun u w' => u = .bool (isAt texts (sig1 s.rem)) ∧ Ext w w') := by
 have hx := Ext.refl w
 obtain ⟨tk,tx,hs⟩ : ∃ tk tx,sig1 s.rem = (tk,tx) := ⟨_,_,rfl⟩
 rw [hs]
 have hbt := ht.lt
 have ht0 := ht
 refine Cl.enter Tryz.func48 rfl Tryz.ntmps48 rfl rfl (.sr (.as rfl rfl (.done (.sr (.mv rfl rfl (Rg.wd trivial (w_call Tryz.call47 rfl (h.peek hC)) rfl ?_))))))
 rintro _ w1 ⟨rfl,hx1⟩
 rw [hs]
 replace hx := hx.ext hx1
 refine Rg.wd trivial (w_new Tryz.zeroValue55 rfl) rfl ?_
 have hlo := hx.le
 rintro _ w2 ⟨b5,rfl,qb5,hx2,hv5⟩
 replace hx := hx.ext hx2
 refine Rg.wn trivial (w_put hv5 rfl rfl rfl ty55 rfl rfl) ?_
 rintro _ wZ ⟨huZ,hv5'⟩
 have hc5 := hv5'.cells
 replace hx : Ext w wZ := Ext.upd hx huZ (by omega)
 refine .done ?_
 have hxz := Ext.refl wZ
 rcases (by omega : tk = 104 ∨ (tk ≠ 104 ∧ tk = 107) ∨ (tk ≠ 104 ∧ tk ≠ 107)) with h4 | ⟨h4,h7⟩ | ⟨h4,h7⟩
 ·skip
  refine .sr (.tq (t_fieldAddr fa55_0 rfl) rfl (.tq (t_load ty3 rfl (Cells.get (i := 0) (hc5.ext hxz) rfl)) rfl (.tq (t_eqlT rfl rfl h4) rfl (.mv rfl rfl (.so rfl rfl (.so rfl rfl (.so rfl rfl (.tq (t_pickT rfl rfl) rfl (.mv rfl rfl (.gd (t_move rfl) rfl (.gd (t_fieldAddr fa55_1 rfl) rfl (.gd (t_load ty9 rfl (Cells.get (i := 1) (hc5.ext hxz) rfl)) rfl ?_))))))))))))
  refine Rg.wd ⟨_,rfl,rfl⟩ (w_call Tryz.call94 rfl (Lexi.contains_ok (by omega) (ht0.ext hx))) rfl ?_
  rintro _ w3 ⟨rfl,rfl⟩
  refine .tq (t_pickT rfl rfl) rfl (.as rfl rfl (.done (Wp.ret ?_)))
  exact ⟨[_],⟨rfl,trivial⟩,by subst h4; rfl,hx⟩
 ·skip
  refine .sr (.tq (t_fieldAddr fa55_0 rfl) rfl (.tq (t_load ty3 rfl (Cells.get (i := 0) (hc5.ext hxz) rfl)) rfl (.tq (t_eqlF rfl rfl h4) rfl (.mv rfl rfl (.gd (t_fieldAddr fa55_0 rfl) rfl (.gd (t_load ty3 rfl (Cells.get (i := 0) (hc5.ext hxz) rfl)) rfl (.gd (t_eqlT rfl rfl h7) rfl (.tq (t_pickF rfl rfl) rfl (.mv rfl rfl (.gd (t_move rfl) rfl (.gd (t_fieldAddr fa55_1 rfl) rfl (.gd (t_load ty9 rfl (Cells.get (i := 1) (hc5.ext hxz) rfl)) rfl ?_))))))))))))
  refine Rg.wd ⟨_,rfl,rfl⟩ (w_call Tryz.call94 rfl (Lexi.contains_ok (by omega) (ht0.ext hx))) rfl ?_
  rintro _ w3 ⟨rfl,rfl⟩
  refine .tq (t_pickT rfl rfl) rfl (.as rfl rfl (.done (Wp.ret ?_)))
  exact ⟨[_],⟨rfl,trivial⟩,by subst h7; rfl,hx⟩
 ·skip
  refine .sr (.tq (t_fieldAddr fa55_0 rfl) rfl (.tq (t_load ty3 rfl (Cells.get (i := 0) (hc5.ext hxz) rfl)) rfl (.tq (t_eqlF rfl rfl h4) rfl (.mv rfl rfl (.gd (t_fieldAddr fa55_0 rfl) rfl (.gd (t_load ty3 rfl (Cells.get (i := 0) (hc5.ext hxz) rfl)) rfl (.gd (t_eqlF rfl rfl h7) rfl (.tq (t_pickF rfl rfl) rfl (.mv rfl rfl (.so rfl rfl (.so rfl rfl (.so rfl rfl ?_))))))))))))
  refine .so rfl rfl (.tq (t_pickF rfl rfl) rfl (.as rfl rfl (.done (Wp.ret ?_))))
  exact ⟨[_],⟨rfl,trivial⟩,by simp [isAt,h4,h7,tup],hx⟩
theorem atEOF_ok (hC : Cx w0 tv toks) (h : Ps w0 tv toks F w bP below k s) : Cl Tryz.prog 25 #[.pointer (some ⟨bP,0,none⟩)] w (fun u w' => u = .bool ((sig1 s.rem).1 == 100) ∧ Ext w w') := by
 have hx := Ext.refl w
 refine Cl.enter Tryz.func25 rfl Tryz.ntmps25 rfl rfl (.sr (.as rfl rfl (.done (.sr (.mv rfl rfl (Rg.wd trivial (w_call Tryz.call47 rfl (h.peek hC)) rfl ?_))))))
 rintro _ w1 ⟨rfl,hx1⟩
 replace hx := hx.ext hx1
 refine .tq (t_field rfl (fun w => rfl)) rfl (.tq (t_eql rfl rfl) rfl (.as rfl rfl (.done (Wp.ret ?_))))
 exact ⟨[_],⟨rfl,trivial⟩,by simp [tup]; rfl,hx⟩
theorem atIdent_ok (hC : Cx w0 tv toks) (h : Ps w0 tv toks F w bP below k s) : Cl Tryz.prog 132 #[.pointer (some ⟨bP,0,none⟩)] w (fun u w' => u = .bool ((sig1 s.rem).1 == 103) ∧ Ext w w') := by
 have hx := Ext.refl w
 refine Cl.enter Tryz.func132 rfl Tryz.ntmps132 rfl rfl (.sr (.as rfl rfl (.done (.sr (.mv rfl rfl (Rg.wd trivial (w_call Tryz.call47 rfl (h.peek hC)) rfl ?_))))))
 rintro _ w1 ⟨rfl,hx1⟩
 replace hx := hx.ext hx1
 refine .tq (t_field rfl (fun w => rfl)) rfl (.tq (t_eql rfl rfl) rfl (.as rfl rfl (.done (Wp.ret ?_))))
 exact ⟨[_],⟨rfl,trivial⟩,by simp [tup]; rfl,hx⟩
end
end Go.Proofs.YtcelfjbajdffkaaGreatDoor.Par
namespace Go.Proofs.YtcelfjbajdffkaaGreatDoor.Par
set_option maxRecDepth 20000
open Go.Gx Go.RowKit Go.Lib
open Lexi (Asc)
variable {w0 : World} {tv : Value} {toks : List Tok} {F : Fs} {w w' : World} {bP : Nat} {below : List (Int × List Tr)} {k : Int} {s : S}
def big : Nat := 1000000000
theorem map_snoc {α β : Type} {f : α → β} {l : List α} {m : List β} {b : β} (h : l.map f = m ++ [b]) : ∃ pre a,l = pre ++ [a] ∧ pre.map f = m ∧ f a = b := by
 have hl : l.length = m.length + 1 := by have := congrArg List.length h; simpa using this
 have hne : l ≠ [] := fun e => by rw [e] at hl; simp at hl
 refine ⟨l.dropLast,l.getLast hne,(List.dropLast_concat_getLast hne).symm,?_,?_⟩
 ·rw [List.map_dropLast,h,List.dropLast_concat]
 ·have := List.getLast_map (f := f) (l := l) (by simpa using hne)
  rw [← this]
  simp only [h,List.getLast_concat]
theorem PsW.setPos {g : Pg} {p : Nat} (h : PsW w0 tv F w g) (hu : Upd g.bP w w') (hv : Var w' g.bP [tv,.int .i64 p,g.sv] 62) : PsW w0 tv F w' { g with pos := p } ∧ Bw F w w' := by
 obtain ⟨bP,sv,pos,frs,Q⟩ := g
 simp only at hu hv
 have hnod := h.nod
 have hoff := h.off
 have hm : bP ∈ Pg.muts ⟨bP,sv,pos,frs,Q⟩ := by simp [Pg.muts]
 have hb : Bw (fun z => z ≠ bP) w w' := Bw.upd hu fun hh => hh rfl
 have hF : ∀ z,F z → z ≠ bP := fun z hz e => (hoff bP hm).1 (e ▸ hz)
 have hQ : ∀ z,Q z → z ≠ bP := fun z hz e => (hoff bP hm).2 (e ▸ hz)
 have hn := hnod
 simp only [Pg.muts,List.nodup_cons] at hn
 refine ⟨⟨(hb.sub hF).ext h.ext h.base,h.base,fun z hz => Nat.lt_of_lt_of_le (h.und z hz) hb.size,fun z hz => Nat.lt_of_lt_of_le (h.undQ z hz) hb.size,hv,own_bw h.stk hb fun b hb' e => hn.1 ?_,fun f hf => own_bw (h.kid f hf) hb fun b hb' e => hn.1 ?_,fun f hf t ht => (h.ok f hf t ht).bw (hb.sub hQ) fun _ hz => hz,hnod,hoff,h.fq⟩,hb.sub hF⟩
 ·subst e
  simp [hb']
 ·subst e
  exact List.mem_append_right _ (List.mem_flatMap.2 ⟨f,hf,by simp [hb']⟩)
theorem slc_nil (w : World) (size : Nat) : SlC w (.slice none 0 0) size 0 [] := ⟨by simp,none,0,rfl,Nat.le_refl _,.inl rfl⟩
theorem addLeaf_ok (h : Ps w0 tv toks F w bP below k s) (hb : s.adds + 1 ≤ big) {k' : Int} {x : ByteArray} :
  Cl Tryz.prog 114 #[.pointer (some ⟨bP,0,none⟩),.agg #[.int .i64 k',.string x,.slice none 0 0]] w (fun u w' => Ps w0 tv toks F w' bP below k { s with kids := s.kids ++ [.mk k' x []],adds := s.adds + 1 } ∧ Bw F w w') := by
 obtain ⟨g,h1,rfl,h2,h3,h4,h5,h6⟩ := h
 obtain ⟨pre,f,hf,e1,e2⟩ := map_snoc h4
 have hk := h5 f (by rw [hf]; simp)
 have hl : g.frs.length = pre.length + 1 := by rw [hf]; simp
 unfold big at hb
 refine (add_ok (t := .mk k' x (.slice none 0 0) []) h1 hf (.mk (slc_nil _ _) rfl (fun b hb => by cases hb) fun g hg => by cases hg) (by omega) (by omega)).mono fun u w' ⟨cv',h7,h8⟩ => ⟨⟨_,h7,rfl,h2,h3,?_,?_,?_⟩,h8⟩
 ·simp only [List.map_append,e1,List.map_cons,List.map_nil]
  injection e2 with e3 e4
  rw [erL_app,e3,e4]
  rfl
 ·intro f' hf'
  simp only [List.mem_append,List.mem_singleton] at hf'
  rcases hf' with hf' | rfl
  ·have := h5 f' (by rw [hf]; simp [hf'])
   simp only
   omega
  ·simp only [List.length_append,List.length_singleton]
   omega
 ·simp only [List.length_append,List.length_singleton]
  omega
theorem Ps.nonempty {t : Tok} {l : List Tok} (h : Ps w0 tv toks F w bP below k s) (hr : s.rem = t :: l) : ∃ g,PsW w0 tv F w g ∧ g.bP = bP ∧ ∃ hp : g.pos < toks.length,toks[g.pos] = t ∧ toks.drop (g.pos + 1) = l := by
 obtain ⟨g,h1,e,h2,h3,h4⟩ := h
 rw [hr] at h2
 have hp : g.pos < toks.length := by
  rcases Nat.lt_or_ge g.pos toks.length with c | c
  ·exact c
  ·rw [List.drop_eq_nil_of_le c] at h2
   cases h2
 rw [List.drop_eq_getElem_cons hp] at h2
 injection h2 with h5 h6
 exact ⟨g,h1,e,hp,h5,h6⟩
theorem addToken_ok (hC : Cx w0 tv toks) (h : Ps w0 tv toks F w bP below k s) {t : Tok} {l : List Tok} (hr : s.rem = t :: l) (hb : s.adds + 1 ≤ big) :
  Cl Tryz.prog 58 #[.pointer (some ⟨bP,0,none⟩)] w (fun u w' => Ps w0 tv toks F w' bP below k { s with rem := l,kids := s.kids ++ [.tok t],adds := s.adds + 1 } ∧ Bw F w w') := by
 have hx := Ext.refl w
 obtain ⟨g,h1,e0,hp,e1,e2⟩ := h.nonempty hr
 have hvar := h1.var
 rw [e0] at hvar
 have hc := hvar.cells
 have hT0 := hC.tok.ext h1.ext
 obtain ⟨tk,tx⟩ := t
 refine Cl.enter Tryz.func58 rfl Tryz.ntmps58 rfl rfl ?_
 refine Wp.seq (Wp.draw [0,1,2,3,4,5,6,7,8,9,10,11,12,13,14,15,16,17,18,19,20,21,22,23,24] [0] mixed (by kernel_rfl) (by kernel_rfl) ?_)
 intro w1 hx1 _
 replace hx := hx.ext hx1
 refine .mv rfl rfl (.mv rfl rfl (.tq (t_nilCheck rfl) rfl (.tq (t_fieldAddr fa62_0 rfl) rfl (.tq (t_load ty49 rfl (Cells.get (i := 0) (hc.ext hx) rfl)) rfl (.mv rfl rfl (.tq (t_nilCheck rfl) rfl (.tq (t_fieldAddr fa62_1 rfl) rfl (.tq (t_load ty3 rfl (Cells.get (i := 1) (hc.ext hx) rfl)) rfl ?_))))))))
 refine Rg.ix hT0 trivial rfl rfl Tryz.underlying49 ty55 (by omega) rfl ?_
 intro bt11 ot11 ht11
 replace ht11 := ht11.ext hx
 rw [Int.toNat_natCast,encs_at tokc_len toks g.pos hp,e1] at ht11
 refine .tq (t_fieldAddr fa55_0 rfl) rfl (.tq (t_load ty3 rfl (Cells.get (i := 0) ht11 rfl)) rfl (.mv rfl rfl (.tq (t_nilCheck rfl) rfl (.tq (t_fieldAddr fa62_0 rfl) rfl (.tq (t_load ty49 rfl (Cells.get (i := 0) (hc.ext hx) rfl)) rfl (.mv rfl rfl (.tq (t_nilCheck rfl) rfl (.tq (t_fieldAddr fa62_1 rfl) rfl (.tq (t_load ty3 rfl (Cells.get (i := 1) (hc.ext hx) rfl)) rfl ?_)))))))))
 refine Rg.ix hT0 trivial rfl rfl Tryz.underlying49 ty55 (by omega) rfl ?_
 intro bt22 ot22 ht22
 replace ht22 := ht22.ext hx
 rw [Int.toNat_natCast,encs_at tokc_len toks g.pos hp,e1] at ht22
 refine .tq (t_fieldAddr fa55_1 rfl) rfl (.tq (t_load ty9 rfl (Cells.get (i := 1) ht22 rfl)) rfl (.tq (t_build (bd25_0_1 _ _) rfl) rfl ?_))
 refine rg_wdC trivial rfl (w_call Tryz.call114 rfl (addLeaf_ok (h.extw hx) hb)) rfl (by rfl) ?_
 rintro _ w2 ⟨hp2,hb2⟩
 obtain ⟨g2,f1,f0,f2,f3,f4⟩ := hp2
 have hpos : g2.pos = g.pos := by
  have q1 := congrArg List.length f2
  have q2 := congrArg List.length e2
  simp only [List.length_drop] at q1 q2
  rw [hr,List.length_cons] at q1
  omega
 rw [hpos] at f2 f3
 have hv2 := f1.var
 rw [f0,hpos] at hv2
 have hc2 := hv2.cells
 refine .done (Wp.region (.mv rfl rfl (.tq (t_nilCheck rfl) rfl (.tq (t_fieldAddr fa62_1 rfl) rfl (.tq (t_load ty3 rfl (Cells.get (i := 1) hc2 rfl)) rfl ?_)))))
 refine .tq (t_addI rfl rfl (by have := hC.few; omega)) rfl ?_
 refine .tq (t_nilCheck rfl) rfl (.tq (t_fieldAddr fa62_1 rfl) rfl (Rg.wn trivial (w_putF hv2 ty3 rfl rfl rfl rfl rfl) ?_))
 rintro _ wZ ⟨huZ,hvZ⟩
 simp only [List.set] at hvZ
 refine .done ?_
 have hpp : ((g.pos : Int) + 1) = ((g.pos + 1 : Nat) : Int) := by omega
 rw [hpp] at hvZ
 obtain ⟨z1,z2⟩ := PsW.setPos f1 (by rw [f0]; exact huZ) (by rw [f0]; exact hvZ)
 exact ⟨[],trivial,⟨_,z1,f0,e2,hp,f4⟩,(Bw.of hx1 h.und).trans (hb2.trans z2)⟩
end Go.Proofs.YtcelfjbajdffkaaGreatDoor.Par
namespace Go.Proofs.YtcelfjbajdffkaaGreatDoor.Par
set_option maxRecDepth 20000
open Go.Gx Go.RowKit Go.Lib
open Lexi (Asc)
variable {w0 : World} {tv : Value} {toks : List Tok} {F : Fs} {w w' : World} {bP : Nat} {below : List (Int × List Tr)} {k : Int} {s : S}
def trivs : List Tok → List Tok
 | [] => []
 | t :: l => if isTriv t.1 then t :: trivs l else []
def past : List Tok → List Tok
 | [] => []
 | t :: l => if isTriv t.1 then past l else t :: l
def S.skipT (s : S) : S := { s with rem := past s.rem,kids := s.kids ++ (trivs s.rem).map .tok,adds := s.adds + (trivs s.rem).length }
theorem skipT_step {s : S} {t : Tok} {l : List Tok} (hr : s.rem = t :: l) (h : isTriv t.1 = true) : S.skipT { s with rem := l,kids := s.kids ++ [.tok t],adds := s.adds + 1 } = s.skipT := by
 simp only [S.skipT,hr,trivs,past,if_pos h,List.map_cons,List.append_assoc,List.singleton_append,List.length_cons]
 congr 1
 omega
theorem skipT_stop {s : S} {t : Tok} {l : List Tok} (hr : s.rem = t :: l) (h : isTriv t.1 = false) : s.skipT = s := by
 obtain ⟨r,ks,f,a⟩ := s
 simp only at hr
 subst hr
 simp [S.skipT,trivs,past,h]
theorem skipT_nil {s : S} (hr : s.rem = []) : s.skipT = s := by
 obtain ⟨r,ks,f,a⟩ := s
 simp only at hr
 subst hr
 simp [S.skipT,trivs,past]
theorem past_head {l : List Tok} {t : Tok} {m : List Tok} (h : past l = t :: m) : isTriv t.1 = false ∧ taken l = trivs l ++ [t] ∧ left l = m := by
 induction l with
 | nil => cases h
 | cons u l ih =>
  simp only [past,taken,trivs,left] at h ⊢
  split at h
  ·rename_i hu
   obtain ⟨h1,h2,h3⟩ := ih h
   simp only [if_pos hu,h2,List.cons_append]
   exact ⟨h1,trivial,h3⟩
  ·rename_i hu
   injection h with h1 h2
   subst h1; subst h2
   simp [hu]
theorem past_nil {l : List Tok} (h : past l = []) : taken l = trivs l ∧ left l = [] := by
 induction l with
 | nil => exact ⟨rfl,rfl⟩
 | cons u l ih =>
  simp only [past,taken,trivs,left] at h ⊢
  split at h
  ·rename_i hu
   obtain ⟨h1,h2⟩ := ih h
   simp only [if_pos hu,h1]
   exact ⟨trivial,h2⟩
  ·cases h
theorem bump_some {s : S} {t : Tok} {m : List Tok} (h : past s.rem = t :: m) : s.bump = { s.skipT with rem := m,kids := s.skipT.kids ++ [.tok t],adds := s.skipT.adds + 1 } := by
 obtain ⟨_,h2,h3⟩ := past_head h
 simp [S.bump,S.skipT,h2,h3,Nat.add_assoc]
theorem bump_none {s : S} (h : past s.rem = []) : s.bump = s.skipT := by
 obtain ⟨h2,h3⟩ := past_nil h
 simp [S.bump,S.skipT,h2,h3,h]
theorem Ps.var (h : Ps w0 tv toks F w bP below k s) : ∃ g : Pg,PsW w0 tv F w g ∧ g.bP = bP ∧ toks.drop g.pos = s.rem ∧ g.pos ≤ toks.length ∧ Var w bP [tv,.int .i64 g.pos,g.sv] 62 := by
 obtain ⟨g,h1,e,h2,h3,_⟩ := h
 exact ⟨g,h1,e,h2,h3,e ▸ h1.var⟩
theorem skipTrivia_ok (hC : Cx w0 tv toks) (h : Ps w0 tv toks F w bP below k s) (hb : s.skipT.adds ≤ big) :
  Cl Tryz.prog 27 #[.pointer (some ⟨bP,0,none⟩)] w (fun u w' => Ps w0 tv toks F w' bP below k s.skipT ∧ Bw F w w') := by
 refine Cl.enter Tryz.func27 rfl Tryz.ntmps27 rfl rfl (Wp.block ?_)
 refine Wp.loop (ι := S) (fun _ => [(0,.pointer (some ⟨bP,0,none⟩))])
  (fun s' w' => Ps w0 tv toks F w' bP below k s' ∧ Bw F w w' ∧ s'.skipT = s.skipT) (fun s' => s'.rem.length) s (by repeat (first | exact .nil | refine .cons rfl ?_)) ⟨h,Bw.refl _ _,rfl⟩ ?_
 clear h
 rintro s' wl ⟨h,hbw,hsk⟩
 have hx := Ext.refl wl
 obtain ⟨g,h1,e0,h2,h3,hvar⟩ := h.var
 have hc := hvar.cells
 have hT0 := hC.tok.ext h1.ext
 by_cases hlt : g.pos < toks.length
 ·skip
  refine .seq ?_
  refine Wp.seq (Wp.draw [0,1,2,3,4,5,6,7,8,9,10,11,12,13,14,15,16,17,18,19,20,21,22,23] [] mixed (by kernel_rfl) (by kernel_rfl) ?_)
  intro w1 hx1 _
  replace hx := hx.ext hx1
  refine .mv rfl rfl (.tq (t_nilCheck rfl) rfl (.tq (t_fieldAddr fa62_1 rfl) rfl (.tq (t_load ty3 rfl (Cells.get (i := 1) (hc.ext hx) rfl)) rfl (.mv rfl rfl (.tq (t_nilCheck rfl) rfl (.tq (t_fieldAddr fa62_0 rfl) rfl (.tq (t_load ty49 rfl (Cells.get (i := 0) (hc.ext hx) rfl)) rfl (.tq (t_lenC hT0 Tryz.underlying49 rfl) rfl ?_))))))))
  refine .tq (t_lssT rfl rfl (by omega)) rfl ?_
  refine .mv rfl rfl (.gd (t_move rfl) rfl (.gd (t_nilCheck rfl) rfl (.gd (t_fieldAddr fa62_0 rfl) rfl (.gd (t_load ty49 rfl (Cells.get (i := 0) (hc.ext hx) rfl)) rfl (.gd (t_move rfl) rfl (.gd (t_nilCheck rfl) rfl (.gd (t_fieldAddr fa62_1 rfl) rfl (.gd (t_load ty3 rfl (Cells.get (i := 1) (hc.ext hx) rfl)) rfl ?_))))))))
  refine Rg.ix hT0 ⟨_,rfl,rfl⟩ rfl rfl Tryz.underlying49 ty55 (by omega) rfl ?_
  intro bt21 ot21 ht21
  replace ht21 := ht21.ext hx
  rw [Int.toNat_natCast,encs_at tokc_len toks g.pos hlt] at ht21
  refine .gd (t_fieldAddr fa55_0 rfl) rfl (.gd (t_load ty3 rfl (Cells.get (i := 0) ht21 rfl)) rfl (Rg.wdB ⟨_,rfl,rfl⟩ rfl (w_call Tryz.call57 rfl isTrivia_ok) rfl (fun _ _ h => h.2) ?_))
  rintro _ w2 ⟨rfl,hx2⟩
  replace hx := hx.ext hx2
  replace ht21 := ht21.ext hx2
  refine .tq (t_pickT rfl rfl) rfl (.done ?_)
  have hr : s'.rem = toks[g.pos] :: toks.drop (g.pos + 1) := by rw [← h2,List.drop_eq_getElem_cons hlt]
  cases htr : isTriv toks[g.pos].1 with
  | true =>
   have hst := (skipT_step hr htr).trans hsk
   refine .condT rfl (Wp.skip (Wp.block (Wp.region (.mv rfl rfl ?_))))
   refine Rg.wd trivial (w_call Tryz.call58 rfl (addToken_ok hC (h.extw hx) hr (by have := congrArg S.adds hst; simp only [S.skipT] at this hb; omega))) rfl ?_
   rintro _ wA ⟨hp2,hb2⟩
   refine .done ?_
   refine ⟨_,by repeat (first | exact .nil | refine .cons rfl ?_),⟨hp2,(hbw.trans (Bw.of hx h.und)).trans hb2,hst⟩,?_⟩
   rw [hr]
   simp
   omega
  | false =>
   refine .condF rfl (Wp.exit ?_)
   rw [skipT_stop hr htr] at hsk
   exact ⟨[],trivial,hsk ▸ h.extw hx,hbw.trans (Bw.of hx h.und)⟩
 ·skip
  refine .seq ?_
  refine Wp.seq (Wp.draw [0,1,2,3,4,5,6,7,8,9,10,11,12,13,14,15,16,17,18,19,20,21,22,23] [] mixed (by kernel_rfl) (by kernel_rfl) ?_)
  intro w1 hx1 _
  replace hx := hx.ext hx1
  refine .mv rfl rfl (.tq (t_nilCheck rfl) rfl (.tq (t_fieldAddr fa62_1 rfl) rfl (.tq (t_load ty3 rfl (Cells.get (i := 1) (hc.ext hx) rfl)) rfl (.mv rfl rfl (.tq (t_nilCheck rfl) rfl (.tq (t_fieldAddr fa62_0 rfl) rfl (.tq (t_load ty49 rfl (Cells.get (i := 0) (hc.ext hx) rfl)) rfl (.tq (t_lenC hT0 Tryz.underlying49 rfl) rfl ?_))))))))
  refine .tq (t_lssF rfl rfl (by omega)) rfl ?_
  refine .mv rfl rfl (.so rfl rfl (.so rfl rfl (.so rfl rfl (.so rfl rfl (.so rfl rfl (.so rfl rfl (.so rfl rfl (.so rfl rfl (.so rfl rfl (.so rfl rfl (.so rfl rfl (.so rfl rfl ?_))))))))))))
  refine .tq (t_pickF rfl rfl) rfl (.done (.condF rfl (Wp.exit ?_)))
  have hr : s'.rem = [] := by rw [← h2,List.drop_eq_nil_of_le (by omega)]
  rw [skipT_nil hr] at hsk
  exact ⟨[],trivial,hsk ▸ h.extw hx,hbw.trans (Bw.of hx h.und)⟩
theorem bump_ok (hC : Cx w0 tv toks) (h : Ps w0 tv toks F w bP below k s) (hb : s.bump.adds ≤ big) :
  Cl Tryz.prog 55 #[.pointer (some ⟨bP,0,none⟩)] w (fun u w' => Ps w0 tv toks F w' bP below k s.bump ∧ Bw F w w') := by
 have hsb : s.skipT.adds ≤ s.bump.adds := by
  cases hp : past s.rem with
  | nil => rw [bump_none hp]; exact Nat.le_refl _
  | cons t m => rw [bump_some hp]; simp
 refine Cl.enter Tryz.func55 rfl Tryz.ntmps55 rfl rfl (.sr (.mv rfl rfl (Rg.wd trivial (w_call Tryz.call27 rfl (skipTrivia_ok hC h (Nat.le_trans hsb hb))) rfl ?_)))
 rintro _ w1 ⟨hp1,hb1⟩
 have hx := Ext.refl w1
 obtain ⟨g,h1,e0,h2,h3,hvar⟩ := hp1.var
 have hc := hvar.cells
 have hT0 := hC.tok.ext h1.ext
 refine .done ?_
 cases hpast : past s.rem with
 | nil =>
  have hq : toks.drop g.pos = past s.rem := h2
  rw [hpast] at hq
  have hlt : ¬ g.pos < toks.length := by
   intro hh
   rw [List.drop_eq_getElem_cons hh] at hq
   cases hq
  refine Wp.seq (Wp.draw [0,1,2,3,4,5,6,7,8,9] [] mixed (by kernel_rfl) (by kernel_rfl) ?_)
  intro w2 hx2 _
  replace hx := hx.ext hx2
  refine .mv rfl rfl (.tq (t_nilCheck rfl) rfl (.tq (t_fieldAddr fa62_1 rfl) rfl (.tq (t_load ty3 rfl (Cells.get (i := 1) (hc.ext hx) rfl)) rfl (.mv rfl rfl (.tq (t_nilCheck rfl) rfl (.tq (t_fieldAddr fa62_0 rfl) rfl (.tq (t_load ty49 rfl (Cells.get (i := 0) (hc.ext hx) rfl)) rfl (.tq (t_lenC hT0 Tryz.underlying49 rfl) rfl ?_))))))))
  refine .tq (t_lssF rfl rfl (by omega)) rfl ?_
  refine .done (.condF rfl (Wp.skip ?_))
  rw [bump_none hpast]
  exact ⟨[],trivial,hp1.extw hx,hb1.trans (Bw.of hx hp1.und)⟩
 | cons t m =>
  have hq : toks.drop g.pos = past s.rem := h2
  rw [hpast] at hq
  have hlt : g.pos < toks.length := by
   rcases Nat.lt_or_ge g.pos toks.length with hh | hh
   ·exact hh
   ·rw [List.drop_eq_nil_of_le hh] at hq
    cases hq
  refine Wp.seq (Wp.draw [0,1,2,3,4,5,6,7,8,9] [] mixed (by kernel_rfl) (by kernel_rfl) ?_)
  intro w2 hx2 _
  replace hx := hx.ext hx2
  refine .mv rfl rfl (.tq (t_nilCheck rfl) rfl (.tq (t_fieldAddr fa62_1 rfl) rfl (.tq (t_load ty3 rfl (Cells.get (i := 1) (hc.ext hx) rfl)) rfl (.mv rfl rfl (.tq (t_nilCheck rfl) rfl (.tq (t_fieldAddr fa62_0 rfl) rfl (.tq (t_load ty49 rfl (Cells.get (i := 0) (hc.ext hx) rfl)) rfl (.tq (t_lenC hT0 Tryz.underlying49 rfl) rfl ?_))))))))
  refine .tq (t_lssT rfl rfl (by omega)) rfl ?_
  refine .done (.condT rfl (Wp.region (.mv rfl rfl ?_)))
  refine Rg.wd trivial (w_call Tryz.call58 rfl (addToken_ok hC (hp1.extw hx) (show s.skipT.rem = t :: m from hpast) (by rw [bump_some hpast] at hb; exact hb))) rfl ?_
  rintro _ w9 ⟨hp2,hb2⟩
  refine .done ?_
  rw [bump_some hpast]
  exact ⟨[],trivial,hp2,hb1.trans ((Bw.of hx hp1.und).trans hb2)⟩
end Go.Proofs.YtcelfjbajdffkaaGreatDoor.Par
namespace Go.Proofs.YtcelfjbajdffkaaGreatDoor.Par
open Go.Gx Go.RowKit Go.Lib
open Lexi (Asc)
variable {w0 : World} {tv : Value} {F : Fs} {w w' : World}
theorem PsW.push {G Q : Fs} {bP pos : Nat} {sv sv' : Value} {frs : List Fr} {f : Fr} (h : PsW w0 tv F w ⟨bP,sv,pos,frs,Q⟩) (hw : Bw G w w') (hG : ∀ z,z < w.heap.size → z ≠ bP → some z ≠ sv'.ownBlock → G z)
  (hv : Var w' bP [tv,.int .i64 pos,sv'] 62) (hS : w'.ownsRow 0 25 3 sv' (frs.length + 1) (encs Fr.cells (frs ++ [f]))) (hfr : ∀ b,sv'.ownBlock = some b → sv.ownBlock = some b ∨ w.heap.size ≤ b) (hK : w'.ownsRow 0 25 3 f.cv f.kids.length (encs Gt.cells f.kids))
  (hcv : ∀ b,f.cv.ownBlock = some b → w.heap.size ≤ b ∧ some b ≠ sv'.ownBlock) (hok : ∀ t ∈ f.kids,GOk Q w t) : PsW w0 tv F w' ⟨bP,sv',pos,frs ++ [f],Q⟩ ∧ Bw F w w' := by
 have hlt := h.lt
 have hnod := h.nod
 have hoff := h.off
 simp only [Pg.muts] at hlt hnod hoff
 have hbP : bP < w.heap.size := hlt bP (by simp)
 have hnb := List.nodup_cons.1 hnod
 have hna := List.nodup_append.1 hnb.2
 have hsv : ∀ b,sv'.ownBlock = some b → (b ∈ sv.ownBlock.toList ∨ w.heap.size ≤ b) := fun b hb => (hfr b hb).imp (fun e => by simp [e]) id
 have hsvF : ∀ z,(F z ∨ Q z) → some z ≠ sv'.ownBlock := fun z hz e => by
  rcases hsv z e.symm with e1 | e1
  ·have := hoff z (List.mem_cons_of_mem _ (List.mem_append_left _ e1))
   exact hz.elim this.1 this.2
  ·rcases hz with hz | hz
   ·have := h.und z hz
    omega
   ·have : z < w.heap.size := h.undQ z hz
    omega
 have hFG : ∀ z,F z → G z := fun z hz => hG z (h.und z hz) (fun e => (hoff bP (by simp)).1 (e ▸ hz)) (hsvF z (.inl hz))
 have hQG : ∀ z,Q z → G z := fun z hz => hG z (h.undQ z hz) (fun e => (hoff bP (by simp)).2 (e ▸ hz)) (hsvF z (.inr hz))
 have hkb : ∀ z,z ∈ frs.flatMap (fun f => f.cv.ownBlock.toList) → some z ≠ sv'.ownBlock := fun z hz e => by
  rcases hsv z e.symm with e1 | e1
  ·exact hna.2.2 z e1 z hz rfl
  ·have := hlt z (by simp only [List.mem_cons,List.mem_append]; exact .inr (.inr hz))
   omega
 refine ⟨⟨(hw.sub hFG).ext h.ext h.base,h.base,fun z hz => Nat.lt_of_lt_of_le (h.und z hz) hw.size,fun z hz => Nat.lt_of_lt_of_le (h.undQ z hz) hw.size,hv,by simpa using hS,fun x hx => ?_,fun x hx t ht => ?_,?_,fun b hb => ?_,h.fq⟩,hw.sub hFG⟩
 ·rcases List.mem_append.1 hx with hx | hx
  ·refine own_bw (h.kid x hx) hw fun b hb => ?_
   have hm : b ∈ frs.flatMap fun f => f.cv.ownBlock.toList := List.mem_flatMap.2 ⟨x,hx,by simp [hb]⟩
   refine hG b (hlt b (by simp only [List.mem_cons,List.mem_append]; exact .inr (.inr hm))) (fun e => hnb.1 ?_) (hkb b hm)
   subst e
   exact List.mem_append_right _ hm
  ·obtain rfl : x = f := by simpa using hx
   exact hK
 ·rcases List.mem_append.1 hx with hx | hx
  ·exact (h.ok x hx t ht).bw (hw.sub hQG) fun _ hz => hz
  ·obtain rfl : x = f := by simpa using hx
   exact (hok t ht).bw (hw.sub hQG) fun _ hz => hz
 ·rw [muts_app]
  refine List.nodup_append.2 ⟨List.nodup_cons.2 ⟨fun hm => ?_,List.nodup_append.2 ⟨?_,hna.2.1,fun a ha b hb e => ?_⟩⟩,?_,fun a ha b hb e => ?_⟩
  ·rcases List.mem_append.1 hm with hm | hm
   ·rcases hsv bP (by simpa using hm) with e1 | e1
    ·exact hnb.1 (List.mem_append_left _ e1)
    ·omega
   ·exact hnb.1 (List.mem_append_right _ hm)
  ·cases sv'.ownBlock <;> simp
  ·subst e
   have ha : sv'.ownBlock = some a := by simpa using ha
   exact hkb a hb ha.symm
  ·cases f.cv.ownBlock <;> simp
  ·subst e
   have hb : f.cv.ownBlock = some a := by simpa using hb
   obtain ⟨c1,c2⟩ := hcv a hb
   rcases List.mem_cons.1 ha with rfl | ha
   ·omega
   ·rcases List.mem_append.1 ha with ha | ha
    ·have ha : sv'.ownBlock = some a := by simpa using ha
     exact c2 ha.symm
    ·have := hlt a (by simp only [List.mem_cons,List.mem_append]; exact .inr (.inr ha))
     omega
 ·rw [muts_app] at hb
  have young : w.heap.size ≤ b → ¬ F b ∧ ¬ Q b := fun hy => ⟨fun hF => by have := h.und b hF; omega,fun hF => by have : b < w.heap.size := h.undQ b hF; omega⟩
  rcases List.mem_append.1 hb with hb | hb
  ·rcases List.mem_cons.1 hb with rfl | hb
   ·exact hoff b (by simp)
   ·rcases List.mem_append.1 hb with hb | hb
    ·rcases hsv b (by simpa using hb) with e1 | e1
     ·exact hoff b (List.mem_cons_of_mem _ (List.mem_append_left _ e1))
     ·exact young e1
    ·exact hoff b (List.mem_cons_of_mem _ (List.mem_append_right _ hb))
  ·exact young (hcv b (by simpa using hb)).1
theorem PsW.pop {Q : Fs} {bP pos : Nat} {sv sv' : Value} {pre : List Fr} {f : Fr} (h : PsW w0 tv F w ⟨bP,sv,pos,pre ++ [f],Q⟩) (hu : Upd bP w w') (hv : Var w' bP [tv,.int .i64 pos,sv'] 62) (hsv : sv'.ownBlock = sv.ownBlock) (hS : w.ownsRow 0 25 3 sv' pre.length (encs Fr.cells pre)) :
  PsW w0 tv F w' ⟨bP,sv',pos,pre,fun z => Q z ∨ f.cv.ownBlock = some z⟩ ∧ GOk (fun z => Q z ∨ f.cv.ownBlock = some z) w' (.mk f.kind nob f.cv f.kids) ∧ Bw F w w' := by
 have hlt := h.lt
 have hnod := h.nod
 have hoff := h.off
 rw [muts_app] at hlt hnod hoff
 have hn := List.nodup_append.1 hnod
 have hnb := List.nodup_cons.1 hn.1
 have hb : Bw (fun z => z ≠ bP) w w' := Bw.upd hu fun hh => hh rfl
 have hF : ∀ z,F z → z ≠ bP := fun z hz e => (hoff bP (by simp)).1 (e ▸ hz)
 have hfc : ∀ z,f.cv.ownBlock = some z → z ≠ bP := fun z hz e => hn.2.2 bP (by simp) z (by simp [hz]) e.symm
 have hQ : ∀ z,(Q z ∨ f.cv.ownBlock = some z) → z ≠ bP := fun z hz e => hz.elim (fun hz => (hoff bP (by simp)).2 (e ▸ hz)) fun hz => hfc z hz e
 have hone : f.cv.oneCell' = true := by
  rcases own_wholeG (h.kid f (by simp)) with ⟨e,_⟩ | ⟨_,_,_,e,_⟩ <;> rw [e] <;> rfl
 refine ⟨⟨(hb.sub hF).ext h.ext h.base,h.base,fun z hz => Nat.lt_of_lt_of_le (h.und z hz) hb.size,fun z hz => Nat.lt_of_lt_of_le ?_ hb.size,hv,own_bw hS hb fun b hb' e => hnb.1 ?_,fun x hx => own_bw (h.kid x (by simp [hx])) hb fun b hb' e => hnb.1 ?_,fun x hx t ht => ((h.ok x (by simp [hx]) t ht).mono fun z hz => .inl hz).bw (hb.sub hQ) fun _ hz => hz,?_,fun b hb' => ?_,fun z hz hq => hq.elim (h.fq z hz) fun e => (hoff z (List.mem_append_right _ (by simp [e]))).1 hz⟩,.mk (slC_bw (own_slc (h.kid f (by simp))) (hb.sub hQ) fun z hz => .inr hz) hone (fun z hz => .inr hz) (fun t ht => ((h.ok f (by simp) t ht).mono fun z hz => .inl hz).bw (hb.sub hQ) fun _ hz => hz),hb.sub hF⟩
 ·rcases hz with hz | hz
  ·exact h.undQ z hz
  ·exact hlt z (List.mem_append_right _ (by simp [hz]))
 ·subst e
  rw [hsv] at hb'
  exact List.mem_append_left _ (by simp [hb'])
 ·subst e
  exact List.mem_append_right _ (List.mem_flatMap.2 ⟨x,hx,by simp [hb']⟩)
 ·simp only [Pg.muts,hsv]
  exact hn.1
 ·simp only [Pg.muts,hsv] at hb'
  have := hoff b (List.mem_append_left _ hb')
  refine ⟨this.1,fun hz => hz.elim this.2 fun hz => ?_⟩
  exact hn.2.2 b hb' b (by simp [hz]) rfl
end Go.Proofs.YtcelfjbajdffkaaGreatDoor.Par
namespace Go.Proofs.YtcelfjbajdffkaaGreatDoor.Par
set_option maxRecDepth 20000
open Go.Gx Go.RowKit Go.Lib
open Lexi (Asc)
variable {w0 : World} {tv : Value} {toks : List Tok} {F : Fs} {w w' : World} {bP : Nat} {below : List (Int × List Tr)} {k : Int} {s : S}
theorem fr_set {frs : List Fr} {f : Fr} {z sp : List Value} (hz : z.length = 3) : (encs Fr.cells frs ++ z ++ sp).take (frs.length * 3) ++ f.cells ++ (encs Fr.cells frs ++ z ++ sp).drop (frs.length * 3 + f.cells.length) = encs Fr.cells (frs ++ [f]) ++ sp := by
 have hl : (encs Fr.cells frs).length = frs.length * 3 := encs_len Fr.len _
 rw [encs_app,encs_one,← hl,Fr.len,List.append_assoc,List.append_assoc,List.take_left,List.drop_append,List.drop_eq_nil_of_le (by omega),List.nil_append,Nat.add_sub_cancel_left,List.drop_append,List.drop_eq_nil_of_le (by omega),List.nil_append,hz,Nat.sub_self,List.drop_zero,List.append_assoc]
theorem Ps.kids_le (h : Ps w0 tv toks F w bP below k s) : s.kids.length ≤ s.adds := by
 obtain ⟨g,h1,e,h2,h3,h4,h5,h6⟩ := h
 obtain ⟨pre,f,hf,e1,e2⟩ := map_snoc h4
 have := h5 f (by rw [hf]; simp)
 injection e2 with e3 e4
 rw [← e4,erL_len]
 exact this
theorem finish_ok {k' : Int} {r : S} (h : Ps w0 tv toks F w bP (below ++ [(k,s.kids)]) k' r) (h1 : s.kids.length + 1 ≤ r.adds) (hb : r.adds ≤ big) :
  Cl Tryz.prog 103 #[.pointer (some ⟨bP,0,none⟩)] w (fun u w' => Ps w0 tv toks F w' bP below k { r with kids := s.kids ++ [.mk k' nob r.kids] } ∧ Bw F w w') := by
 obtain ⟨g,hW,e0,hd,hpos,hm,hks,hfl⟩ := h
 obtain ⟨pre,f,hf,em,e2⟩ := map_snoc hm
 obtain ⟨gP,sv,pos,frs,Q⟩ := g
 simp only at hf e0 hd hpos em hks hfl
 subst hf e0
 have hU := hW.und
 unfold big at hb
 have hvar := hW.var
 simp only at hvar
 rcases own_wholeG hW.stk with ⟨_,h0⟩ | ⟨gs,caps,sps,es,_,gs1,gs2,gs3,hS⟩
 ·simp at h0
 simp only at es gs1 gs3 hS
 subst es
 have hlen : (pre ++ [f]).length = pre.length + 1 := by simp
 rw [hlen] at gs1 gs3 hvar hW hfl
 have hx := Ext.refl w
 have hc := hvar.cells
 have htop : Cells w gs (0 + ((pre.length + 1 : Nat) - 1 : Int).toNat * 3) f.cells := fun j v hv => by
  have hj : j < 3 := by have := (List.getElem?_eq_some_iff.1 hv).1; rw [Fr.len] at this; exact this
  have := hS.cells _ _ ((top_cell (pre := pre) (f := f) (sp := sps) j hj).trans hv)
  rw [Nat.zero_add] at this
  rw [show 0 + ((pre.length + 1 : Nat) - 1 : Int).toNat * 3 + j = pre.length * 3 + j by omega]
  exact this
 refine Cl.enter Tryz.func103 rfl Tryz.ntmps103 rfl rfl ?_
 have hfo : f.cv.oneCell' = true := by
  rcases own_wholeG (hW.kid f (by simp)) with ⟨e,_⟩ | ⟨_,_,_,e,_⟩ <;> rw [e] <;> rfl
 refine .sr (.mv rfl rfl (.tq (t_nilCheck rfl) rfl (.tq (t_fieldAddr fa62_2 rfl) rfl (.tq (t_load ty23 rfl (Cells.get (i := 2) (hc.ext hx) rfl)) rfl (.tq (t_lenS Tryz.underlying23 rfl) rfl ?_)))))
 refine .tq (t_subI rfl rfl (by omega)) rfl ?_
 refine .as rfl rfl (.done (.sr (.mv rfl rfl (.tq (t_nilCheck rfl) rfl (.tq (t_fieldAddr fa62_2 rfl) rfl (.tq (t_load ty23 rfl (Cells.get (i := 2) (hc.ext hx) rfl)) rfl (.mv rfl rfl ?_)))))))
 refine .tq (t_indexAddrL Tryz.underlying23 ty25 rfl rfl (by omega)) rfl ?_
 refine .tq (t_loadA rfl (htop.ext hx) ty25) rfl (Rg.wd trivial (w_new Tryz.zeroValue25 rfl) rfl ?_)
 rintro _ w1 ⟨b3,rfl,qb3,hx1,hv3⟩
 have hlo := hx.le
 replace hx := hx.ext hx1
 refine Rg.wn trivial (w_put hv3 rfl rfl rfl ty25 rfl (by simp [Fr.cells,Value.oneCell']; exact hfo)) ?_
 rintro _ w2 ⟨hu2,hv3'⟩
 replace hx : Ext w w2 := Ext.upd hx hu2 (by omega)
 have hc3 := hv3'.cells
 have hW2 := hW.extw hx
 have hS2 := hS.ext hx
 have hvar2 := hvar.ext hx
 refine .done (.sr (.mv rfl rfl (.mv rfl rfl (.tq (t_nilCheck rfl) rfl (.tq (t_fieldAddr fa62_2 rfl) rfl (.tq (t_load ty23 rfl (Cells.get (i := 2) (hc.ext hx) rfl)) rfl (.mv rfl rfl ?_)))))))
 refine .tq (t_sliceL Tryz.underlying23 ty25 rfl rfl rfl (by omega)) rfl ?_
 refine .tq (t_nilCheck rfl) rfl (.tq (t_fieldAddr fa62_2 rfl) rfl (Rg.wn trivial (w_putF hvar2 ty23 rfl rfl rfl rfl rfl) ?_))
 rintro _ w3 ⟨hu3,hv4⟩
 simp only [List.set] at hv4
 have e5 : Value.slice (some (if caps = (0 : Int).toNat then (⟨gs,0,none⟩ : Addr) else ⟨gs,0 + (0 : Int).toNat * 3,none⟩)) ((((pre.length + 1 : Nat) : Int) - 1).toNat - (0 : Int).toNat) (caps - (0 : Int).toNat) = .slice (some ⟨gs,0,none⟩) pre.length caps := by
  rw [if_neg (by simp; omega),show ((((pre.length + 1 : Nat) : Int) - 1).toNat - (0 : Int).toNat) = pre.length by omega,show caps - (0 : Int).toNat = caps by omega,show 0 + (0 : Int).toNat * 3 = 0 by omega]
 rw [e5] at hv4
 obtain ⟨q1,q2,q3⟩ := PsW.pop hW2 hu3 hv4 rfl (whole_ownG (sp := f.cells ++ sps) (Nat.zero_le _) (encs_len Fr.len _) (by omega) gs2 (by rw [List.length_append,Fr.len,gs3]; omega) (by rw [← List.append_assoc]; have := hS2; rw [encs_app,encs_one] at this; exact this))
 have hc3' := hc3.upd hu3 (by have := hvar.lt; omega)
 obtain ⟨pre2,f2,hf2,em2,ef2⟩ := map_snoc em
 refine .done (Wp.region (.mv rfl rfl (.tq (t_loadA rfl hc3' ty25) rfl ?_)))
 refine Rg.wd trivial (w_call Tryz.call114 rfl (add_ok (t := .mk f.kind nob f.cv f.kids) q1 hf2 q2 (by have := hks f2 (by simp [hf2]); omega) (by have := congrArg List.length hf2; simp at this; omega))) rfl ?_
 rintro _ w4 ⟨cv',q4,q5⟩
 refine .done ?_
 injection e2 with ek ekid
 injection ef2 with ek2 ekid2
 refine ⟨[],trivial,⟨_,q4,rfl,hd,hpos,?_,?_,?_⟩,(Bw.of hx hU).trans (q3.trans q5)⟩
 ·simp only [List.map_append,List.map_cons,List.map_nil,em2,ek2]
  rw [erL_app,ekid2]
  simp [erL,Gt.er,ek,ekid]
 ·intro x hx'
  rcases List.mem_append.1 hx' with hx' | hx'
  ·exact hks x (by rw [hf2]; simp [hx'])
  ·obtain rfl : x = ⟨f2.kind,cv',f2.kids ++ [.mk f.kind nob f.cv f.kids]⟩ := by simpa using hx'
   have := congrArg List.length ekid2
   rw [erL_len] at this
   simp only [List.length_append,List.length_singleton]
   omega
 ·have := congrArg List.length hf2
  simp at this ⊢
  omega
end Go.Proofs.YtcelfjbajdffkaaGreatDoor.Par
namespace Go.Proofs.YtcelfjbajdffkaaGreatDoor.Par
set_option maxRecDepth 20000
open Go.Gx Go.RowKit Go.Lib
open Lexi (Asc)
variable {w0 : World} {tv : Value} {toks : List Tok} {F : Fs} {w w' : World} {bP : Nat} {below : List (Int × List Tr)} {k : Int} {s : S}
def Part (w0 : World) (tv : Value) (toks : List Tok) (F : Fs) (bP : Nat) (cf : FuncId) (fst cap : List Value) (w : World) (below : List (Int × List Tr)) (k : Int) (s r : S) : Prop :=
 ∀ w1,Bw F w w1 → Ps w0 tv toks F w1 bP below k s → Cl Tryz.prog cf (fst ++ ([] : List Value) ++ cap).toArray w1 (fun u w2 => Ps w0 tv toks F w2 bP below k r ∧ Bw F w1 w2)
theorem node_ok {k' : Int} {r : S} {cf : FuncId} {fst cap : List Value} (hcf : ∀ (args : Array Value) (w : World),(callFunc cf args).run Tryz.prog w = .ok (.enter cf args) w) (h : Ps w0 tv toks F w bP below k s)
  (hP : Part w0 tv toks F bP cf fst cap w (below ++ [(k,s.kids)]) k' { s with kids := [],adds := s.adds + 1 } r) (h1 : s.adds + 1 ≤ r.adds) (hb : r.adds ≤ big) :
  Cl Tryz.prog 52 #[.pointer (some ⟨bP,0,none⟩),.int .i64 k',.func (.func cf) fst.toArray cap.toArray] w (fun u w' => Ps w0 tv toks F w' bP below k { r with kids := s.kids ++ [.mk k' nob r.kids] } ∧ Bw F w w') := by
 have hk1 := h.kids_le
 have hU := h.und
 obtain ⟨g,hW,e0,hd,hpos,hm,hks,hfl⟩ := h
 obtain ⟨gP,sv,pos,frs,Q⟩ := g
 simp only at e0 hd hpos hm hks hfl
 subst e0
 have hb' : s.adds + 1 ≤ 1000000000 := by unfold big at hb; omega
 have hvar := hW.var
 have hown := hW.stk
 simp only at hvar hown
 obtain ⟨pc,cc,rfl⟩ : ∃ pc cc,sv = .slice pc frs.length cc := by
  rcases own_wholeG hown with ⟨rfl,e⟩ | ⟨_,_,_,rfl,_⟩
  ·exact ⟨none,0,by rw [e]⟩
  ·exact ⟨_,_,rfl⟩
 have hx := Ext.refl w
 obtain ⟨i25,hi25,hz25,hsi25,hby25⟩ := inf25
 refine Cl.enter Tryz.func52 rfl Tryz.ntmps52 rfl rfl ?_
 refine Wp.seq (Wp.cut (fun L w' => ∃ i_ : Unit,Sub ((fun _ => [(0,.pointer (some ⟨gP,0,none⟩)),(1,.int .i64 k'),(2,.func (.func cf) fst.toArray cap.toArray)]) i_) L ∧ (fun _ w' => ∃ sv',PsW w0 tv F w' { bP := gP,sv := sv',pos := pos,frs := frs ++ [⟨k',.slice none 0 0,[]⟩],Q := Q } ∧ Bw F w w') i_ w') ?_ ?_)
 ·skip
  refine Wp.drawB (fun w' => Var w' gP [tv,.int .i64 pos,.slice pc frs.length cc] 62) 8 mixed ?_
  intro w1 hx1 hh1
  replace hx := hx.ext hx1
  refine ⟨hvar.ext hx,?_⟩
  refine Qb.tameW (by kernel_rfl) 0 rfl (by kernel_rfl) trivial (tw_of fun wz => t_move rfl) rfl ?_
  refine Qb.tameW (by kernel_rfl) 1 rfl (by kernel_rfl) trivial (tw_of fun wz => t_nilCheck rfl) rfl ?_
  refine Qb.tameW (by kernel_rfl) 2 rfl (by kernel_rfl) trivial (tw_of fun wz => t_fieldAddr fa62_2 rfl) rfl ?_
  refine Qb.tame (by kernel_rfl) 3 rfl (by kernel_rfl) trivial (ts fun wz hkz => by exact t_load ty23 rfl (Cells.get (i := 2) hkz.cells rfl)) rfl ?_
  refine Qb.tameW (by kernel_rfl) 4 rfl (by kernel_rfl) trivial (tw_of fun wz => t_move rfl) rfl ?_
  refine Qb.tameW (by kernel_rfl) 5 rfl (by kernel_rfl) trivial (tw_of fun wz => t_build (bd25_0 _) rfl) rfl ?_
  refine Qb.tame (by kernel_rfl) 6 rfl (by kernel_rfl) trivial (ts fun wz hkz => by exact t_lenS Tryz.underlying23 rfl) rfl ?_
  refine Qb.alt1 (i := 7) (by kernel_rfl) ?_
  refine ⟨_,_,rfl,rfl,trivial,w_buildSlice (bs23_1 _ _ _ _ _) rfl,rfl,fun _ _ hr => by obtain ⟨_,_,_,hr,_⟩ := hr; exact hvar.ext (hx.ext hr),?_⟩
  rintro _ w2 ⟨b13,rfl,q13,hx2,hv13⟩
  replace hx := hx.ext hx2
  refine Qb.bar (fun _ => True) 8 14 rfl (by kernel_rfl) rfl trivial (w_appendO Tryz.underlying23 hi25 hz25 hsi25 hby25 rfl rfl rfl (own_ext hown hx) (slc_var hv13 rfl) (by decide) (by decide) (by unfold maxLen; omega) (by omega)) rfl (fun _ _ _ => trivial) ?_
  rintro _ w3 ⟨gk,capk,spk,rfl,hck,hmk,hlk,hvk,hwhere⟩
  have hfr : (Value.slice pc frs.length cc).ownBlock = some gk ∨ w.heap.size ≤ gk := by
   rcases hwhere with ⟨⟨c,e⟩,_⟩ | ⟨e,_⟩
   ·exact .inl (by rw [e]; rfl)
   ·exact .inr (Nat.le_trans hx.le e)
  have hne : gP ≠ gk := fun e => by
   rcases hfr with e1 | e1
   ·have hn := hW.nod
    simp only [Pg.muts,List.nodup_cons] at hn
    exact hn.1 (by simp [e1,e])
   ·have := hvar.lt
    omega
  obtain ⟨G,hGd⟩ : ∃ G : Fs,G = fun z => z < w.heap.size ∧ z ≠ gk ∧ z ≠ gP := ⟨_,rfl⟩
  have nGk : ¬ G gk := by rw [hGd]; exact fun h => h.2.1 rfl
  have nGP : ¬ G gP := by rw [hGd]; exact fun h => h.2.2 rfl
  have hB : Bw G w w3 := by
   have h1 : Bw G w w2 := Bw.of hx (by rw [hGd]; exact fun z hz => hz.1)
   rcases hwhere with ⟨_,hu⟩ | ⟨_,hu⟩
   ·exact h1.trans (Bw.upd hu nGk)
   ·exact h1.trans (Bw.of hu (by rw [hGd]; exact fun z hz => Nat.lt_of_lt_of_le hz.1 hx.le))
  have hvP := hvar.ext hx
  replace hvP : Var w3 gP [tv,.int .i64 pos,.slice pc frs.length cc] 62 := by
   rcases hwhere with ⟨_,hu⟩ | ⟨_,hu⟩
   ·exact hvP.upd hu hne
   ·exact hvP.ext hu
  have hoE : 0 + (frs.length : Int).toNat * 3 = frs.length * 3 := by omega
  have hKl : (encs Fr.cells frs ++ [Value.int .i64 0,Value.string ⟨#[]⟩,Value.slice none 0 0] ++ spk).length = frs.length * 3 + 3 + spk.length := by rw [List.length_append,List.length_append,encs_len Fr.len]; rfl
  refine Qb.tameW (by kernel_rfl) 9 rfl (by kernel_rfl) trivial (tw_of fun wz => t_indexAddrL Tryz.underlying23 ty25 rfl rfl (by omega)) rfl ?_
  refine Qb.tameW (by kernel_rfl) 11 rfl (by kernel_rfl) trivial (tw_of fun wz => t_nilCheck rfl) rfl ?_
  refine Qb.tameW (by kernel_rfl) 12 rfl (by kernel_rfl) trivial (tw_of fun wz => t_fieldAddr fa62_2 rfl) rfl ?_
  refine Qb.alt2 (i := 10) (j := 13) (by kernel_rfl) ?_ ?_
  ·skip
   refine ⟨_,_,rfl,rfl,trivial,w_putAt (cs := [.int .i64 k',.string nob,.slice none 0 0]) hvk rfl rfl rfl ty25 (by rw [hoE,hKl]; simp) (Fr.one (f := ⟨k',.slice none 0 0,[]⟩) rfl),rfl,fun _ _ h => trivial,?_⟩
   rintro _ wE ⟨huE,hvE⟩
   rw [hoE] at hvE
   replace hvE : Var wE gk (encs Fr.cells (frs ++ [⟨k',.slice none 0 0,[]⟩]) ++ spk) 25 := (fr_set (frs := frs) (f := ⟨k',.slice none 0 0,[]⟩) (z := [Value.int .i64 0,Value.string ⟨#[]⟩,Value.slice none 0 0]) (sp := spk) rfl) ▸ hvE
   clear hvk
   have hvk := hvE
   clear hvE
   replace hvP := hvP.upd huE hne
   replace hB := hB.trans (Bw.upd huE nGk)
   refine Qb.alt1 (i := 13) (by kernel_rfl) ?_
   refine ⟨_,_,rfl,rfl,trivial,w_putF hvP ty23 rfl rfl rfl rfl rfl,rfl,fun _ _ h => trivial,?_⟩
   rintro _ wS ⟨huS,hvS⟩
   simp only [List.set] at hvS
   clear hvP
   have hvP := hvS
   clear hvS
   replace hvk := hvk.upd huS (Ne.symm hne)
   replace hB := hB.trans (Bw.upd huS nGP)
   refine Qb.done (by kernel_rfl) ?_
   exact ⟨(),by repeat (first | exact .nil | refine .cons rfl ?_),_,hW.push (f := ⟨k',.slice none 0 0,[]⟩) (sv' := .slice (some ⟨gk,0,none⟩) (frs.length + 1) capk) hB (fun z h1 h2 h3 => by rw [hGd]; exact ⟨h1,fun e => h3 (by rw [e]; rfl),h2⟩) hvP (whole_ownG (Nat.zero_le _) (encs_len Fr.len _ |>.trans (by simp)) hck hmk hlk hvk) (fun b hb => by injection hb with hb; subst hb; exact hfr) ⟨rfl,.inl ⟨rfl,rfl⟩⟩ (fun b hb => by cases hb) (fun t ht => by cases ht)⟩
  ·skip
   refine ⟨_,_,rfl,rfl,trivial,w_putF hvP ty23 rfl rfl rfl rfl rfl,rfl,fun _ _ h => trivial,?_⟩
   rintro _ wS ⟨huS,hvS⟩
   simp only [List.set] at hvS
   clear hvP
   have hvP := hvS
   clear hvS
   replace hvk := hvk.upd huS (Ne.symm hne)
   replace hB := hB.trans (Bw.upd huS nGP)
   refine Qb.alt1 (i := 10) (by kernel_rfl) ?_
   refine ⟨_,_,rfl,rfl,trivial,w_putAt (cs := [.int .i64 k',.string nob,.slice none 0 0]) hvk rfl rfl rfl ty25 (by rw [hoE,hKl]; simp) (Fr.one (f := ⟨k',.slice none 0 0,[]⟩) rfl),rfl,fun _ _ h => trivial,?_⟩
   rintro _ wE ⟨huE,hvE⟩
   rw [hoE] at hvE
   replace hvE : Var wE gk (encs Fr.cells (frs ++ [⟨k',.slice none 0 0,[]⟩]) ++ spk) 25 := (fr_set (frs := frs) (f := ⟨k',.slice none 0 0,[]⟩) (z := [Value.int .i64 0,Value.string ⟨#[]⟩,Value.slice none 0 0]) (sp := spk) rfl) ▸ hvE
   clear hvk
   have hvk := hvE
   clear hvE
   replace hvP := hvP.upd huE hne
   replace hB := hB.trans (Bw.upd huE nGk)
   refine Qb.done (by kernel_rfl) ?_
   exact ⟨(),by repeat (first | exact .nil | refine .cons rfl ?_),_,hW.push (f := ⟨k',.slice none 0 0,[]⟩) (sv' := .slice (some ⟨gk,0,none⟩) (frs.length + 1) capk) hB (fun z h1 h2 h3 => by rw [hGd]; exact ⟨h1,fun e => h3 (by rw [e]; rfl),h2⟩) hvP (whole_ownG (Nat.zero_le _) (encs_len Fr.len _ |>.trans (by simp)) hck hmk hlk hvk) (fun b hb => by injection hb with hb; subst hb; exact hfr) ⟨rfl,.inl ⟨rfl,rfl⟩⟩ (fun b hb => by cases hb) (fun t ht => by cases ht)⟩
 ·rintro L' wF ⟨_,hs,sv',q1,q2⟩
  refine Wp.sub hs (.sr (.mv rfl rfl ?_))
  refine Rg.wd trivial (w_callG rfl hcf rfl (hP _ q2 ⟨_,q1,rfl,hd,hpos,by simp [hm,erL],fun f hf => by (rcases List.mem_append.1 hf with hf | hf); (have := hks f hf; simp only; omega); (obtain rfl : f = ⟨k',.slice none 0 0,[]⟩ := by simpa using hf); simp,by simp; omega⟩)) rfl ?_
  rintro _ w20 ⟨q3,q4⟩
  refine .done (Wp.region (.mv rfl rfl ?_))
  refine Rg.wd trivial (w_call Tryz.call103 rfl (finish_ok q3 (by omega) hb)) rfl ?_
  rintro _ w21 ⟨q5,q6⟩
  refine .done ?_
  exact ⟨[],trivial,q5,q2.trans (q4.trans q6)⟩
end Go.Proofs.YtcelfjbajdffkaaGreatDoor.Par
namespace Go.Proofs.YtcelfjbajdffkaaGreatDoor.Par
set_option maxRecDepth 20000
open Go.Gx Go.RowKit Go.Lib
open Lexi (Asc)
variable {w0 : World} {tv : Value} {toks : List Tok} {F : Fs} {w w' : World} {bP : Nat} {below : List (Int × List Tr)} {k : Int} {s : S}
theorem erL_snoc {l : List Gt} {m : List Tr} {t : Tr} (h : erL l = m ++ [t]) : ∃ kl kt,l = kl ++ [kt] ∧ erL kl = m ∧ kt.er = t := by
 rw [erL_map] at h
 obtain ⟨a,b,h1,h2,h3⟩ := map_snoc h
 exact ⟨a,b,h1,by rw [erL_map]; exact h2,h3⟩
theorem wrap_ok {k' : Int} {r : S} {l : List Tr} {t : Tr} {cf : FuncId} {fst cap : List Value} (hcf : ∀ (args : Array Value) (w : World),(callFunc cf args).run Tryz.prog w = .ok (.enter cf args) w) (h : Ps w0 tv toks F w bP below k s) (hs : s.kids = l ++ [t])
  (hP : Part w0 tv toks F bP cf fst cap w (below ++ [(k,l)]) k' { s with kids := [t],adds := s.adds + 1 } r) (h1 : s.adds + 1 ≤ r.adds) (hb : r.adds ≤ big) :
  Cl Tryz.prog 163 #[.pointer (some ⟨bP,0,none⟩),.int .i64 k',.func (.func cf) fst.toArray cap.toArray] w (fun u w' => Ps w0 tv toks F w' bP below k { r with kids := l ++ [.mk k' nob r.kids] } ∧ Bw F w w') := by
 have hk1 := h.kids_le
 have hU := h.und
 obtain ⟨g,hW,e0,hd,hpos,hm,hks,hfl⟩ := h
 obtain ⟨gP,sv,pos,frs,Q⟩ := g
 simp only at e0 hd hpos hm hks hfl
 subst e0
 rw [hs] at hm
 obtain ⟨pre,f,rfl,em,e2⟩ := map_snoc hm
 obtain ⟨fk,cv,fkids⟩ := f
 injection e2 with e3 e4
 simp only at e3 e4
 obtain ⟨kl,kt,rfl,ekl,ekt⟩ := erL_snoc e4
 have hb' : s.adds + 1 ≤ 1000000000 := by unfold big at hb; omega
 have hvar := hW.var
 simp only at hvar
 rcases own_wholeG hW.stk with ⟨_,h0⟩ | ⟨gs,caps,sps,es,_,gs1,gs2,gs3,hS⟩
 ·simp at h0
 simp only at es gs1 gs3 hS
 subst es
 have hlen : (pre ++ [(⟨fk,cv,kl ++ [kt]⟩ : Fr)]).length = pre.length + 1 := by simp
 rw [hlen] at gs1 gs3 hvar hW hfl
 have hown := hW.kid ⟨fk,cv,kl ++ [kt]⟩ (by simp)
 simp only at hown
 rcases own_wholeG hown with ⟨_,h0⟩ | ⟨gk,capk,spk,ek,_,gk1,gk2,gk3,hK⟩
 ·simp at h0
 have hkl : (kl ++ [kt]).length = kl.length + 1 := by simp
 rw [hkl] at ek gk1 gk3
 subst ek
 have hgt : GOk Q w kt := hW.ok ⟨fk,.slice (some ⟨gk,0,none⟩) (kl.length + 1) capk,kl ++ [kt]⟩ (by simp) kt (by simp)
 have hx := Ext.refl w
 have hc := hvar.cells
 have htop : Cells w gs (0 + ((pre.length + 1 : Nat) - 1 : Int).toNat * 3) (Fr.cells ⟨fk,.slice (some ⟨gk,0,none⟩) (kl.length + 1) capk,kl ++ [kt]⟩) := fun j v hv => by
  have hj : j < 3 := by have := (List.getElem?_eq_some_iff.1 hv).1; exact this
  have := hS.cells _ _ ((top_cell (pre := pre) (f := ⟨fk,.slice (some ⟨gk,0,none⟩) (kl.length + 1) capk,kl ++ [kt]⟩) (sp := sps) j hj).trans hv)
  rw [Nat.zero_add] at this
  rw [show 0 + ((pre.length + 1 : Nat) - 1 : Int).toNat * 3 + j = pre.length * 3 + j by omega]
  exact this
 have hlast : Cells w gk (0 + ((kl.length + 1 : Nat) - 1 : Int).toNat * 3) kt.cells := fun j v hv => by
  have hj : j < 3 := by have := (List.getElem?_eq_some_iff.1 hv).1; rw [Gt.len] at this; exact this
  have hl : (encs Gt.cells kl).length = kl.length * 3 := encs_len Gt.len _
  have e : (encs Gt.cells (kl ++ [kt]) ++ spk)[kl.length * 3 + j]? = some v := by
   rw [encs_app,encs_one,List.append_assoc,List.getElem?_append_right (by omega),hl,Nat.add_sub_cancel_left,List.getElem?_append_left (by rw [Gt.len]; exact hj)]
   exact hv
  have := hK.cells _ _ e
  rw [Nat.zero_add] at this
  rw [show 0 + ((kl.length + 1 : Nat) - 1 : Int).toNat * 3 + j = kl.length * 3 + j by omega]
  exact this
 have hgk : gk < w.heap.size := hK.lt
 have hPs : gP ≠ gs := fun e => by
  have hn := hW.nod
  simp only [Pg.muts,List.nodup_cons] at hn
  exact hn.1 (by simp [Value.ownBlock,e])
 obtain ⟨i25,hi25,hz25,hsi25,hby25⟩ := inf25
 have hone := hgt.one
 obtain ⟨tk,tx,tc,tks⟩ := kt
 have hkn : kl.length + 1 ≤ 1000000000 := by
  have := hks ⟨fk,.slice (some ⟨gk,0,none⟩) (kl.length + 1) capk,kl ++ [.mk tk tx tc tks]⟩ (by simp)
  simp at this
  omega
 obtain ⟨tp,tl,tcap,rfl⟩ : ∃ tp tl tcap,tc = .slice tp tl tcap := by
  cases hgt with
  | mk hs h1 h2 h3 =>
   obtain ⟨_,p,cap,e,_⟩ := hs
   exact ⟨p,_,cap,e⟩
 simp only [Gt.cells] at hone hlast
 refine Cl.enter Tryz.func163 rfl Tryz.ntmps163 rfl rfl ?_
 refine Wp.seq (Wp.draw [0,1,2,3,4,5,6,7,8,9,10,11] [] mixed (by kernel_rfl) (by kernel_rfl) ?_)
 intro w1 hx1 _
 replace hx := hx.ext hx1
 refine .mv rfl rfl (.tq (t_nilCheck rfl) rfl (.tq (t_fieldAddr fa62_2 rfl) rfl (.tq (t_load ty23 rfl (Cells.get (i := 2) (hc.ext hx) rfl)) rfl (.mv rfl rfl (.tq (t_nilCheck rfl) rfl (.tq (t_fieldAddr fa62_2 rfl) rfl (.tq (t_load ty23 rfl (Cells.get (i := 2) (hc.ext hx) rfl)) rfl (.tq (t_lenS Tryz.underlying23 rfl) rfl ?_))))))))
 refine .tq (t_subI rfl rfl (by omega)) rfl ?_
 refine .tq (t_indexAddrL Tryz.underlying23 ty25 rfl rfl (by omega)) rfl ?_
 refine .as rfl rfl (.done (.sr (.mv rfl rfl (.tq (t_nilCheck rfl) rfl (.tq (t_fieldAddr fa25_2 rfl) rfl (.tq (t_load ty23 rfl (Cells.get (i := 2) (htop.ext hx) rfl)) rfl (.tq (t_lenS Tryz.underlying23 rfl) rfl ?_)))))))
 refine .tq (t_subI rfl rfl (by omega)) rfl ?_
 refine .as rfl rfl (.done (.sr (.mv rfl rfl (.tq (t_nilCheck rfl) rfl (.tq (t_fieldAddr fa25_2 rfl) rfl (.tq (t_load ty23 rfl (Cells.get (i := 2) (htop.ext hx) rfl)) rfl (.mv rfl rfl ?_)))))))
 refine .tq (t_indexAddrL Tryz.underlying23 ty25 rfl rfl (by omega)) rfl ?_
 refine .tq (t_loadA rfl (hlast.ext hx) ty25) rfl (Rg.wd trivial (w_new Tryz.zeroValue25 rfl) rfl ?_)
 have hlo := hx.le
 rintro _ w2 ⟨b8,rfl,qb8,hx2,hv8⟩
 replace hx := hx.ext hx2
 refine Rg.wn trivial (w_put hv8 rfl rfl rfl ty25 rfl (by rfl)) ?_
 rintro _ w8 ⟨hu8,hv8'⟩
 clear hv8
 have hv8 := hv8'
 clear hv8'
 have hb8 : w.heap.size ≤ b8 := by omega
 replace hx : Ext w w8 := Ext.upd hx hu8 hb8
 have hW8 := hW.extw hx
 have hS8 := hS.ext hx
 have hK8 := hK.ext hx
 have hvar8 := hvar.ext hx
 have hoS : 0 + (((pre.length + 1 : Nat) : Int) - 1).toNat * 3 + 2 = pre.length * 3 + 2 := by omega
 have hSl : (encs Fr.cells (pre ++ [(⟨fk,.slice (some ⟨gk,0,none⟩) (kl.length + 1) capk,kl ++ [.mk tk tx (.slice tp tl tcap) tks]⟩ : Fr)]) ++ sps).length = (pre.length + 1) * 3 + sps.length := by rw [List.length_append,encs_len Fr.len,hlen]
 refine .done (.sr (.mv rfl rfl (.mv rfl rfl (.tq (t_nilCheck rfl) rfl (.tq (t_fieldAddr fa25_2 rfl) rfl (.tq (t_load ty23 rfl (Cells.get (i := 2) (htop.ext hx) rfl)) rfl (.mv rfl rfl ?_)))))))
 refine .tq (t_sliceL Tryz.underlying23 ty25 rfl rfl rfl (by omega)) rfl ?_
 have e5 : Value.slice (some (if capk = (0 : Int).toNat then (⟨gk,0,none⟩ : Addr) else ⟨gk,0 + (0 : Int).toNat * 3,none⟩)) ((((kl.length + 1 : Nat) : Int) - 1).toNat - (0 : Int).toNat) (capk - (0 : Int).toNat) = .slice (some ⟨gk,0,none⟩) kl.length capk := by
  rw [if_neg (by simp; omega),show ((((kl.length + 1 : Nat) : Int) - 1).toNat - (0 : Int).toNat) = kl.length by omega,show capk - (0 : Int).toNat = capk by omega,show 0 + (0 : Int).toNat * 3 = 0 by omega]
 rw [e5]
 refine .tq (t_nilCheck rfl) rfl (.tq (t_fieldAddr fa25_2 rfl) rfl ?_)
 refine Rg.wn trivial (w_putAt (cs := [.slice (some ⟨gk,0,none⟩) kl.length capk]) hS8 rfl rfl rfl ty23 (by rw [hoS,hSl]; simp only [List.length_singleton]; omega) (by intro u hu; simp at hu; subst hu; rfl)) ?_
 rintro _ w9 ⟨hu9,hS9⟩
 rw [hoS] at hS9
 replace hS9 : Var w9 gs (encs Fr.cells (pre ++ [⟨fk,.slice (some ⟨gk,0,none⟩) kl.length capk,kl⟩]) ++ sps) 25 := by
  have := top_set (pre := pre) (f := ⟨fk,.slice (some ⟨gk,0,none⟩) (kl.length + 1) capk,kl ++ [.mk tk tx (.slice tp tl tcap) tks]⟩) (sp := sps) (.slice (some ⟨gk,0,none⟩) kl.length capk)
  rw [show encs Fr.cells (pre ++ [⟨fk,.slice (some ⟨gk,0,none⟩) kl.length capk,kl⟩]) = encs Fr.cells (pre ++ [⟨fk,.slice (some ⟨gk,0,none⟩) kl.length capk,kl ++ [.mk tk tx (.slice tp tl tcap) tks]⟩]) by simp [encs,Fr.cells],← this]
  exact hS9
 have hnsk : gs ≠ gk := fun e => by
  have hn := hW.nod
  rw [muts_app] at hn
  exact (List.nodup_append.1 hn).2.2 gs (by simp [Value.ownBlock]) gk (by simp [Value.ownBlock]) e
 have hK9 := hK8.upd hu9 (Ne.symm hnsk)
 have hB9 : Bw (fun z => z ≠ gs) w8 w9 := Bw.upd hu9 fun hh => hh rfl
 obtain ⟨hW9,hF9⟩ := hW8.top (cv' := .slice (some ⟨gk,0,none⟩) kl.length capk) (kids' := kl) hB9 (fun z h1 h2 h3 e => h2 (by rw [e]; rfl)) (whole_ownG (Nat.zero_le _) ((encs_len Fr.len _).trans (by simp)) gs1 gs2 gs3 hS9)
  (whole_ownG (sp := Gt.cells (.mk tk tx (.slice tp tl tcap) tks) ++ spk) (Nat.zero_le _) (encs_len Gt.len _) (by omega) gk2 (by rw [List.length_append,Gt.len,gk3]; omega) (by rw [← List.append_assoc]; have := hK9; rw [encs_app,encs_one] at this; exact this)) (fun b hb => .inl hb)
  (fun t ht => (hW8.ok ⟨fk,.slice (some ⟨gk,0,none⟩) (kl.length + 1) capk,kl ++ [.mk tk tx (.slice tp tl tcap) tks]⟩ (by simp) t (by simp [ht])))
 have hv8g := hv8.upd hu9 (by have := hS.lt; omega)
 have hvarg := hvar8.upd hu9 hPs
 have hgtg : GOk Q w9 (.mk tk tx (.slice tp tl tcap) tks) := (hgt.bw (Bw.of hx (hW.undQ)) fun _ hz => hz).bw (Bw.upd hu9 (fun hq => (hW.off gs (by simp [Pg.muts,Value.ownBlock])).2 hq)) fun _ hz => hz
 have hsz : w8.heap.size = w9.heap.size := hu9.size.symm
 have hown9 := hW9.stk
 simp only [List.length_append,List.length_singleton] at hown9
 have hx9 := hx
 clear hx
 have hx := Ext.refl w9
 refine .done ?_
 refine Wp.seq (Wp.cut (fun L w' => ∃ i_ : Unit,Sub ((fun _ => [(0,.pointer (some ⟨gP,0,none⟩)),(1,.int .i64 k'),(2,.func (.func cf) fst.toArray cap.toArray)]) i_) L ∧ (fun _ w' => ∃ sv' cv',PsW w0 tv F w' { bP := gP,sv := sv',pos := pos,frs := (pre ++ [(⟨fk,.slice (some ⟨gk,0,none⟩) kl.length capk,kl⟩ : Fr)]) ++ [⟨k',cv',[.mk tk tx (.slice tp tl tcap) tks]⟩],Q := Q } ∧ Bw F w9 w') i_ w') ?_ ?_)
 ·skip
  refine Wp.drawB (fun w' => Var w' gP [tv,.int .i64 pos,.slice (some ⟨gs,0,none⟩) (pre.length + 1) caps] 62 ∧ Var w' b8 [.int .i64 tk,.string tx,.slice tp tl tcap] 25) 10 mixed ?_
  intro w3 hx3 hh3
  replace hx := hx.ext hx3
  refine ⟨⟨hvarg.ext hx,hv8g.ext hx⟩,?_⟩
  refine Qb.tameW (by kernel_rfl) 0 rfl (by kernel_rfl) trivial (tw_of fun wz => t_move rfl) rfl ?_
  refine Qb.tameW (by kernel_rfl) 1 rfl (by kernel_rfl) trivial (tw_of fun wz => t_nilCheck rfl) rfl ?_
  refine Qb.tameW (by kernel_rfl) 2 rfl (by kernel_rfl) trivial (tw_of fun wz => t_fieldAddr fa62_2 rfl) rfl ?_
  refine Qb.tame (by kernel_rfl) 3 rfl (by kernel_rfl) trivial (ts fun wz hkz => by exact t_load ty23 rfl (Cells.get (i := 2) hkz.1.cells rfl)) rfl ?_
  refine Qb.tameW (by kernel_rfl) 4 rfl (by kernel_rfl) trivial (tw_of fun wz => t_move rfl) rfl ?_
  refine Qb.tame (by kernel_rfl) 5 rfl (by kernel_rfl) trivial (ts fun wz hkz => by exact t_loadA rfl hkz.2.cells ty25) rfl ?_
  refine Qb.tame (by kernel_rfl) 8 rfl (by kernel_rfl) trivial (ts fun wz hkz => by exact t_lenS Tryz.underlying23 rfl) rfl ?_
  refine Qb.alt2 (i := 6) (j := 9) (by kernel_rfl) ?_ ?_
  ·skip
   refine ⟨_,_,rfl,rfl,trivial,w_buildSlice (bs23_1 _ _ _ _ _) rfl,rfl,fun _ _ hr => by obtain ⟨_,_,_,hr,_⟩ := hr; exact ⟨hvarg.ext (hx.ext hr),hv8g.ext (hx.ext hr)⟩,?_⟩
   rintro _ w4 ⟨b48,rfl,q48,hx4,hv48⟩
   have hlo48 := hx.le
   replace hx := hx.ext hx4
   refine Qb.tameW (by kernel_rfl) 7 rfl (by kernel_rfl) trivial (tw_of fun wz => t_build (bd25_0_2 _ _ _ _) rfl) rfl ?_
   refine Qb.alt1 (i := 9) (by kernel_rfl) ?_
   refine ⟨_,_,rfl,rfl,trivial,w_buildSlice (bs23_1 _ _ _ _ _) rfl,rfl,fun _ _ hr => by obtain ⟨_,_,_,hr,_⟩ := hr; exact ⟨hvarg.ext (hx.ext hr),hv8g.ext (hx.ext hr)⟩,?_⟩
   rintro _ w5 ⟨b51,rfl,q51,hx5,hv51⟩
   replace hx := hx.ext hx5
   replace hv48 := hv48.ext hx5
   refine Qb.bar (fun _ => True) 10 16 rfl (by kernel_rfl) rfl trivial (w_appendO Tryz.underlying23 hi25 hz25 hsi25 hby25 rfl rfl rfl (own_ext hown9 hx) (slc_var hv51 rfl) (by decide) (by decide) (by unfold maxLen; omega) (by omega)) rfl (fun _ _ _ => trivial) ?_
   rintro _ w6 ⟨gn,capn,spn,rfl,hcn,hmn,hln,hvn,hwhere⟩
   have hb48 : w9.heap.size ≤ b48 := by omega
   have hfr : gs = gn ∨ w9.heap.size ≤ gn := by
    rcases hwhere with ⟨⟨c,e⟩,_⟩ | ⟨e,_⟩
    ·injection e with e _ _
     injection e with e
     injection e with e _ _
     exact .inl e
    ·exact .inr (Nat.le_trans hx.le e)
   have hne : gP ≠ gn := fun e => by
    rcases hfr with e1 | e1
    ·exact hPs (e.trans e1.symm)
    ·have := hvarg.lt
     omega
   have hn48 : b48 ≠ gn := fun e => by
    rcases hwhere with ⟨⟨c,e1⟩,_⟩ | ⟨e1,_⟩
    ·injection e1 with e1 _ _
     injection e1 with e1
     injection e1 with e1 _ _
     have := hS.lt
     have := hx9.le
     omega
    ·have := hv48.lt
     omega
   obtain ⟨G,hGd⟩ : ∃ G : Fs,G = fun z => z < w9.heap.size ∧ z ≠ gn ∧ z ≠ gP := ⟨_,rfl⟩
   have nGk : ¬ G gn := by rw [hGd]; exact fun h => h.2.1 rfl
   have nGP : ¬ G gP := by rw [hGd]; exact fun h => h.2.2 rfl
   have hB : Bw G w9 w6 := by
    have h1 : Bw G w9 w5 := Bw.of hx (by rw [hGd]; exact fun z hz => hz.1)
    rcases hwhere with ⟨_,hu⟩ | ⟨_,hu⟩
    ·exact h1.trans (Bw.upd hu nGk)
    ·exact h1.trans (Bw.of hu (by rw [hGd]; exact fun z hz => Nat.lt_of_lt_of_le hz.1 hx.le))
   have hvP := hvarg.ext hx
   replace hvP : Var w6 gP [tv,.int .i64 pos,.slice (some ⟨gs,0,none⟩) (pre.length + 1) caps] 62 := by
    rcases hwhere with ⟨_,hu⟩ | ⟨_,hu⟩
    ·exact hvP.upd hu hne
    ·exact hvP.ext hu
   replace hv48 : Var w6 b48 (Gt.cells (.mk tk tx (.slice tp tl tcap) tks)) 25 := by
    rcases hwhere with ⟨_,hu⟩ | ⟨_,hu⟩
    ·exact hv48.upd hu hn48
    ·exact hv48.ext hu
   have hoE : 0 + ((pre.length + 1 : Nat) : Int).toNat * 3 = (pre ++ [(⟨fk,.slice (some ⟨gk,0,none⟩) kl.length capk,kl⟩ : Fr)]).length * 3 := by rw [List.length_append,List.length_singleton]; omega
   have hKl : (encs Fr.cells (pre ++ [(⟨fk,.slice (some ⟨gk,0,none⟩) kl.length capk,kl⟩ : Fr)]) ++ [Value.int .i64 0,Value.string ⟨#[]⟩,Value.slice none 0 0] ++ spn).length = (pre ++ [(⟨fk,.slice (some ⟨gk,0,none⟩) kl.length capk,kl⟩ : Fr)]).length * 3 + 3 + spn.length := by rw [List.length_append,List.length_append,encs_len Fr.len]; rfl
   refine Qb.tameW (by kernel_rfl) 11 rfl (by kernel_rfl) trivial (tw_of fun wz => t_indexAddrL Tryz.underlying23 ty25 rfl rfl (by omega)) rfl ?_
   refine Qb.tameW (by kernel_rfl) 13 rfl (by kernel_rfl) trivial (tw_of fun wz => t_nilCheck rfl) rfl ?_
   refine Qb.tameW (by kernel_rfl) 14 rfl (by kernel_rfl) trivial (tw_of fun wz => t_fieldAddr fa62_2 rfl) rfl ?_
   refine Qb.alt2 (i := 12) (j := 15) (by kernel_rfl) ?_ ?_
   ·skip
    refine ⟨_,_,rfl,rfl,trivial,w_putAt (cs := [.int .i64 k',.string nob,.slice (some ⟨b48,0,none⟩) 1 1]) hvn rfl rfl rfl ty25 (by rw [hoE,hKl]; simp) (Fr.one (f := ⟨k',.slice (some ⟨b48,0,none⟩) 1 1,[.mk tk tx (.slice tp tl tcap) tks]⟩) rfl),rfl,fun _ _ h => trivial,?_⟩
    rintro _ wE ⟨huE,hvE⟩
    rw [hoE] at hvE
    replace hvE : Var wE gn (encs Fr.cells ((pre ++ [(⟨fk,.slice (some ⟨gk,0,none⟩) kl.length capk,kl⟩ : Fr)]) ++ [⟨k',.slice (some ⟨b48,0,none⟩) 1 1,[.mk tk tx (.slice tp tl tcap) tks]⟩]) ++ spn) 25 := (fr_set (frs := (pre ++ [(⟨fk,.slice (some ⟨gk,0,none⟩) kl.length capk,kl⟩ : Fr)])) (f := ⟨k',.slice (some ⟨b48,0,none⟩) 1 1,[.mk tk tx (.slice tp tl tcap) tks]⟩) (z := [Value.int .i64 0,Value.string ⟨#[]⟩,Value.slice none 0 0]) (sp := spn) rfl) ▸ hvE
    clear hvn
    have hvn := hvE
    clear hvE
    replace hvP := hvP.upd huE hne
    replace hv48 := hv48.upd huE hn48
    replace hB := hB.trans (Bw.upd huE nGk)
    refine Qb.alt1 (i := 15) (by kernel_rfl) ?_
    refine ⟨_,_,rfl,rfl,trivial,w_putF hvP ty23 rfl rfl rfl rfl rfl,rfl,fun _ _ h => trivial,?_⟩
    rintro _ wS ⟨huS,hvS⟩
    simp only [List.set] at hvS
    clear hvP
    have hvP := hvS
    clear hvS
    replace hvn := hvn.upd huS (Ne.symm hne)
    replace hv48 := hv48.upd huS (by have := hvarg.lt; omega)
    replace hB := hB.trans (Bw.upd huS nGP)
    refine Qb.done (by kernel_rfl) ?_
    exact ⟨(),by repeat (first | exact .nil | refine .cons rfl ?_),_,_,hW9.push (f := ⟨k',.slice (some ⟨b48,0,none⟩) 1 1,[.mk tk tx (.slice tp tl tcap) tks]⟩) (sv' := .slice (some ⟨gn,0,none⟩) (pre.length + 1 + 1) capn) hB (fun z h1 h2 h3 => by rw [hGd]; exact ⟨h1,fun e => h3 (by rw [e]; rfl),h2⟩) hvP (by rw [List.length_append,List.length_singleton]; exact whole_ownG (Nat.zero_le _) (encs_len Fr.len _ |>.trans (by simp)) hcn hmn hln hvn) (fun b hb => by injection hb with hb; subst hb; exact hfr.imp (fun e => by rw [e]; rfl) id)
     (by simpa using whole_ownG (sp := []) (Nat.zero_le _) (by rfl) (Nat.le_refl 1) (by decide) rfl (by rw [List.append_nil]; exact hv48)) (fun b hb => by injection hb with hb; subst hb; exact ⟨hb48,fun e => by injection e with e; exact hn48 e⟩) (fun t ht => by (obtain rfl : t = Gt.mk tk tx (.slice tp tl tcap) tks := by simpa using ht); exact hgtg)⟩
   ·skip
    refine ⟨_,_,rfl,rfl,trivial,w_putF hvP ty23 rfl rfl rfl rfl rfl,rfl,fun _ _ h => trivial,?_⟩
    rintro _ wS ⟨huS,hvS⟩
    simp only [List.set] at hvS
    clear hvP
    have hvP := hvS
    clear hvS
    replace hvn := hvn.upd huS (Ne.symm hne)
    replace hv48 := hv48.upd huS (by have := hvarg.lt; omega)
    replace hB := hB.trans (Bw.upd huS nGP)
    refine Qb.alt1 (i := 12) (by kernel_rfl) ?_
    refine ⟨_,_,rfl,rfl,trivial,w_putAt (cs := [.int .i64 k',.string nob,.slice (some ⟨b48,0,none⟩) 1 1]) hvn rfl rfl rfl ty25 (by rw [hoE,hKl]; simp) (Fr.one (f := ⟨k',.slice (some ⟨b48,0,none⟩) 1 1,[.mk tk tx (.slice tp tl tcap) tks]⟩) rfl),rfl,fun _ _ h => trivial,?_⟩
    rintro _ wE ⟨huE,hvE⟩
    rw [hoE] at hvE
    replace hvE : Var wE gn (encs Fr.cells ((pre ++ [(⟨fk,.slice (some ⟨gk,0,none⟩) kl.length capk,kl⟩ : Fr)]) ++ [⟨k',.slice (some ⟨b48,0,none⟩) 1 1,[.mk tk tx (.slice tp tl tcap) tks]⟩]) ++ spn) 25 := (fr_set (frs := (pre ++ [(⟨fk,.slice (some ⟨gk,0,none⟩) kl.length capk,kl⟩ : Fr)])) (f := ⟨k',.slice (some ⟨b48,0,none⟩) 1 1,[.mk tk tx (.slice tp tl tcap) tks]⟩) (z := [Value.int .i64 0,Value.string ⟨#[]⟩,Value.slice none 0 0]) (sp := spn) rfl) ▸ hvE
    clear hvn
    have hvn := hvE
    clear hvE
    replace hvP := hvP.upd huE hne
    replace hv48 := hv48.upd huE hn48
    replace hB := hB.trans (Bw.upd huE nGk)
    refine Qb.done (by kernel_rfl) ?_
    exact ⟨(),by repeat (first | exact .nil | refine .cons rfl ?_),_,_,hW9.push (f := ⟨k',.slice (some ⟨b48,0,none⟩) 1 1,[.mk tk tx (.slice tp tl tcap) tks]⟩) (sv' := .slice (some ⟨gn,0,none⟩) (pre.length + 1 + 1) capn) hB (fun z h1 h2 h3 => by rw [hGd]; exact ⟨h1,fun e => h3 (by rw [e]; rfl),h2⟩) hvP (by rw [List.length_append,List.length_singleton]; exact whole_ownG (Nat.zero_le _) (encs_len Fr.len _ |>.trans (by simp)) hcn hmn hln hvn) (fun b hb => by injection hb with hb; subst hb; exact hfr.imp (fun e => by rw [e]; rfl) id)
     (by simpa using whole_ownG (sp := []) (Nat.zero_le _) (by rfl) (Nat.le_refl 1) (by decide) rfl (by rw [List.append_nil]; exact hv48)) (fun b hb => by injection hb with hb; subst hb; exact ⟨hb48,fun e => by injection e with e; exact hn48 e⟩) (fun t ht => by (obtain rfl : t = Gt.mk tk tx (.slice tp tl tcap) tks := by simpa using ht); exact hgtg)⟩
  ·skip
   refine ⟨_,_,rfl,rfl,trivial,w_buildSlice (bs23_1 _ _ _ _ _) rfl,rfl,fun _ _ hr => by obtain ⟨_,_,_,hr,_⟩ := hr; exact ⟨hvarg.ext (hx.ext hr),hv8g.ext (hx.ext hr)⟩,?_⟩
   rintro _ w4 ⟨b51,rfl,q51,hx4,hv51⟩
   replace hx := hx.ext hx4
   refine Qb.alt1 (i := 6) (by kernel_rfl) ?_
   refine ⟨_,_,rfl,rfl,trivial,w_buildSlice (bs23_1 _ _ _ _ _) rfl,rfl,fun _ _ hr => by obtain ⟨_,_,_,hr,_⟩ := hr; exact ⟨hvarg.ext (hx.ext hr),hv8g.ext (hx.ext hr)⟩,?_⟩
   rintro _ w5 ⟨b48,rfl,q48,hx5,hv48⟩
   have hlo48 := hx.le
   replace hx := hx.ext hx5
   replace hv51 := hv51.ext hx5
   refine Qb.tameW (by kernel_rfl) 7 rfl (by kernel_rfl) trivial (tw_of fun wz => t_build (bd25_0_2 _ _ _ _) rfl) rfl ?_
   refine Qb.bar (fun _ => True) 10 16 rfl (by kernel_rfl) rfl trivial (w_appendO Tryz.underlying23 hi25 hz25 hsi25 hby25 rfl rfl rfl (own_ext hown9 hx) (slc_var hv51 rfl) (by decide) (by decide) (by unfold maxLen; omega) (by omega)) rfl (fun _ _ _ => trivial) ?_
   rintro _ w6 ⟨gn,capn,spn,rfl,hcn,hmn,hln,hvn,hwhere⟩
   have hb48 : w9.heap.size ≤ b48 := by omega
   have hfr : gs = gn ∨ w9.heap.size ≤ gn := by
    rcases hwhere with ⟨⟨c,e⟩,_⟩ | ⟨e,_⟩
    ·injection e with e _ _
     injection e with e
     injection e with e _ _
     exact .inl e
    ·exact .inr (Nat.le_trans hx.le e)
   have hne : gP ≠ gn := fun e => by
    rcases hfr with e1 | e1
    ·exact hPs (e.trans e1.symm)
    ·have := hvarg.lt
     omega
   have hn48 : b48 ≠ gn := fun e => by
    rcases hwhere with ⟨⟨c,e1⟩,_⟩ | ⟨e1,_⟩
    ·injection e1 with e1 _ _
     injection e1 with e1
     injection e1 with e1 _ _
     have := hS.lt
     have := hx9.le
     omega
    ·have := hv48.lt
     omega
   obtain ⟨G,hGd⟩ : ∃ G : Fs,G = fun z => z < w9.heap.size ∧ z ≠ gn ∧ z ≠ gP := ⟨_,rfl⟩
   have nGk : ¬ G gn := by rw [hGd]; exact fun h => h.2.1 rfl
   have nGP : ¬ G gP := by rw [hGd]; exact fun h => h.2.2 rfl
   have hB : Bw G w9 w6 := by
    have h1 : Bw G w9 w5 := Bw.of hx (by rw [hGd]; exact fun z hz => hz.1)
    rcases hwhere with ⟨_,hu⟩ | ⟨_,hu⟩
    ·exact h1.trans (Bw.upd hu nGk)
    ·exact h1.trans (Bw.of hu (by rw [hGd]; exact fun z hz => Nat.lt_of_lt_of_le hz.1 hx.le))
   have hvP := hvarg.ext hx
   replace hvP : Var w6 gP [tv,.int .i64 pos,.slice (some ⟨gs,0,none⟩) (pre.length + 1) caps] 62 := by
    rcases hwhere with ⟨_,hu⟩ | ⟨_,hu⟩
    ·exact hvP.upd hu hne
    ·exact hvP.ext hu
   replace hv48 : Var w6 b48 (Gt.cells (.mk tk tx (.slice tp tl tcap) tks)) 25 := by
    rcases hwhere with ⟨_,hu⟩ | ⟨_,hu⟩
    ·exact hv48.upd hu hn48
    ·exact hv48.ext hu
   have hoE : 0 + ((pre.length + 1 : Nat) : Int).toNat * 3 = (pre ++ [(⟨fk,.slice (some ⟨gk,0,none⟩) kl.length capk,kl⟩ : Fr)]).length * 3 := by rw [List.length_append,List.length_singleton]; omega
   have hKl : (encs Fr.cells (pre ++ [(⟨fk,.slice (some ⟨gk,0,none⟩) kl.length capk,kl⟩ : Fr)]) ++ [Value.int .i64 0,Value.string ⟨#[]⟩,Value.slice none 0 0] ++ spn).length = (pre ++ [(⟨fk,.slice (some ⟨gk,0,none⟩) kl.length capk,kl⟩ : Fr)]).length * 3 + 3 + spn.length := by rw [List.length_append,List.length_append,encs_len Fr.len]; rfl
   refine Qb.tameW (by kernel_rfl) 11 rfl (by kernel_rfl) trivial (tw_of fun wz => t_indexAddrL Tryz.underlying23 ty25 rfl rfl (by omega)) rfl ?_
   refine Qb.tameW (by kernel_rfl) 13 rfl (by kernel_rfl) trivial (tw_of fun wz => t_nilCheck rfl) rfl ?_
   refine Qb.tameW (by kernel_rfl) 14 rfl (by kernel_rfl) trivial (tw_of fun wz => t_fieldAddr fa62_2 rfl) rfl ?_
   refine Qb.alt2 (i := 12) (j := 15) (by kernel_rfl) ?_ ?_
   ·skip
    refine ⟨_,_,rfl,rfl,trivial,w_putAt (cs := [.int .i64 k',.string nob,.slice (some ⟨b48,0,none⟩) 1 1]) hvn rfl rfl rfl ty25 (by rw [hoE,hKl]; simp) (Fr.one (f := ⟨k',.slice (some ⟨b48,0,none⟩) 1 1,[.mk tk tx (.slice tp tl tcap) tks]⟩) rfl),rfl,fun _ _ h => trivial,?_⟩
    rintro _ wE ⟨huE,hvE⟩
    rw [hoE] at hvE
    replace hvE : Var wE gn (encs Fr.cells ((pre ++ [(⟨fk,.slice (some ⟨gk,0,none⟩) kl.length capk,kl⟩ : Fr)]) ++ [⟨k',.slice (some ⟨b48,0,none⟩) 1 1,[.mk tk tx (.slice tp tl tcap) tks]⟩]) ++ spn) 25 := (fr_set (frs := (pre ++ [(⟨fk,.slice (some ⟨gk,0,none⟩) kl.length capk,kl⟩ : Fr)])) (f := ⟨k',.slice (some ⟨b48,0,none⟩) 1 1,[.mk tk tx (.slice tp tl tcap) tks]⟩) (z := [Value.int .i64 0,Value.string ⟨#[]⟩,Value.slice none 0 0]) (sp := spn) rfl) ▸ hvE
    clear hvn
    have hvn := hvE
    clear hvE
    replace hvP := hvP.upd huE hne
    replace hv48 := hv48.upd huE hn48
    replace hB := hB.trans (Bw.upd huE nGk)
    refine Qb.alt1 (i := 15) (by kernel_rfl) ?_
    refine ⟨_,_,rfl,rfl,trivial,w_putF hvP ty23 rfl rfl rfl rfl rfl,rfl,fun _ _ h => trivial,?_⟩
    rintro _ wS ⟨huS,hvS⟩
    simp only [List.set] at hvS
    clear hvP
    have hvP := hvS
    clear hvS
    replace hvn := hvn.upd huS (Ne.symm hne)
    replace hv48 := hv48.upd huS (by have := hvarg.lt; omega)
    replace hB := hB.trans (Bw.upd huS nGP)
    refine Qb.done (by kernel_rfl) ?_
    exact ⟨(),by repeat (first | exact .nil | refine .cons rfl ?_),_,_,hW9.push (f := ⟨k',.slice (some ⟨b48,0,none⟩) 1 1,[.mk tk tx (.slice tp tl tcap) tks]⟩) (sv' := .slice (some ⟨gn,0,none⟩) (pre.length + 1 + 1) capn) hB (fun z h1 h2 h3 => by rw [hGd]; exact ⟨h1,fun e => h3 (by rw [e]; rfl),h2⟩) hvP (by rw [List.length_append,List.length_singleton]; exact whole_ownG (Nat.zero_le _) (encs_len Fr.len _ |>.trans (by simp)) hcn hmn hln hvn) (fun b hb => by injection hb with hb; subst hb; exact hfr.imp (fun e => by rw [e]; rfl) id)
     (by simpa using whole_ownG (sp := []) (Nat.zero_le _) (by rfl) (Nat.le_refl 1) (by decide) rfl (by rw [List.append_nil]; exact hv48)) (fun b hb => by injection hb with hb; subst hb; exact ⟨hb48,fun e => by injection e with e; exact hn48 e⟩) (fun t ht => by (obtain rfl : t = Gt.mk tk tx (.slice tp tl tcap) tks := by simpa using ht); exact hgtg)⟩
   ·skip
    refine ⟨_,_,rfl,rfl,trivial,w_putF hvP ty23 rfl rfl rfl rfl rfl,rfl,fun _ _ h => trivial,?_⟩
    rintro _ wS ⟨huS,hvS⟩
    simp only [List.set] at hvS
    clear hvP
    have hvP := hvS
    clear hvS
    replace hvn := hvn.upd huS (Ne.symm hne)
    replace hv48 := hv48.upd huS (by have := hvarg.lt; omega)
    replace hB := hB.trans (Bw.upd huS nGP)
    refine Qb.alt1 (i := 12) (by kernel_rfl) ?_
    refine ⟨_,_,rfl,rfl,trivial,w_putAt (cs := [.int .i64 k',.string nob,.slice (some ⟨b48,0,none⟩) 1 1]) hvn rfl rfl rfl ty25 (by rw [hoE,hKl]; simp) (Fr.one (f := ⟨k',.slice (some ⟨b48,0,none⟩) 1 1,[.mk tk tx (.slice tp tl tcap) tks]⟩) rfl),rfl,fun _ _ h => trivial,?_⟩
    rintro _ wE ⟨huE,hvE⟩
    rw [hoE] at hvE
    replace hvE : Var wE gn (encs Fr.cells ((pre ++ [(⟨fk,.slice (some ⟨gk,0,none⟩) kl.length capk,kl⟩ : Fr)]) ++ [⟨k',.slice (some ⟨b48,0,none⟩) 1 1,[.mk tk tx (.slice tp tl tcap) tks]⟩]) ++ spn) 25 := (fr_set (frs := (pre ++ [(⟨fk,.slice (some ⟨gk,0,none⟩) kl.length capk,kl⟩ : Fr)])) (f := ⟨k',.slice (some ⟨b48,0,none⟩) 1 1,[.mk tk tx (.slice tp tl tcap) tks]⟩) (z := [Value.int .i64 0,Value.string ⟨#[]⟩,Value.slice none 0 0]) (sp := spn) rfl) ▸ hvE
    clear hvn
    have hvn := hvE
    clear hvE
    replace hvP := hvP.upd huE hne
    replace hv48 := hv48.upd huE hn48
    replace hB := hB.trans (Bw.upd huE nGk)
    refine Qb.done (by kernel_rfl) ?_
    exact ⟨(),by repeat (first | exact .nil | refine .cons rfl ?_),_,_,hW9.push (f := ⟨k',.slice (some ⟨b48,0,none⟩) 1 1,[.mk tk tx (.slice tp tl tcap) tks]⟩) (sv' := .slice (some ⟨gn,0,none⟩) (pre.length + 1 + 1) capn) hB (fun z h1 h2 h3 => by rw [hGd]; exact ⟨h1,fun e => h3 (by rw [e]; rfl),h2⟩) hvP (by rw [List.length_append,List.length_singleton]; exact whole_ownG (Nat.zero_le _) (encs_len Fr.len _ |>.trans (by simp)) hcn hmn hln hvn) (fun b hb => by injection hb with hb; subst hb; exact hfr.imp (fun e => by rw [e]; rfl) id)
     (by simpa using whole_ownG (sp := []) (Nat.zero_le _) (by rfl) (Nat.le_refl 1) (by decide) rfl (by rw [List.append_nil]; exact hv48)) (fun b hb => by injection hb with hb; subst hb; exact ⟨hb48,fun e => by injection e with e; exact hn48 e⟩) (fun t ht => by (obtain rfl : t = Gt.mk tk tx (.slice tp tl tcap) tks := by simpa using ht); exact hgtg)⟩
 ·rintro L' wF ⟨_,hs',sv',cv',q1,q2⟩
  refine Wp.sub hs' ?_
  have qF : Bw F w wF := ((Bw.of hx9 hU).trans hF9).trans q2
  refine .sr (.mv rfl rfl ?_)
  refine Rg.wd trivial (w_callG rfl hcf rfl (hP _ qF ⟨_,q1,rfl,hd,hpos,by simp [em,e3,ekl,erL,ekt],fun f hf => by (rcases List.mem_append.1 hf with hf | hf); (rcases List.mem_append.1 hf with hf | hf); (have := hks f (by simp [hf]); simp only; omega); (obtain rfl : f = ⟨fk,.slice (some ⟨gk,0,none⟩) kl.length capk,kl⟩ := by simpa using hf); (have := hks ⟨fk,.slice (some ⟨gk,0,none⟩) (kl.length + 1) capk,kl ++ [.mk tk tx (.slice tp tl tcap) tks]⟩ (by simp); simp at this ⊢; omega); (obtain rfl : f = ⟨k',cv',[.mk tk tx (.slice tp tl tcap) tks]⟩ := by simpa using hf); simp,by simp at hfl ⊢; omega⟩)) rfl ?_
  rintro _ w20 ⟨q3,q4⟩
  refine .done (Wp.region (.mv rfl rfl ?_))
  refine Rg.wd trivial (w_call Tryz.call103 rfl (finish_ok (s := { s with kids := l }) q3 (by have := hk1; rw [hs] at this; simp at this ⊢; omega) hb)) rfl ?_
  rintro _ w21 ⟨q5,q6⟩
  refine .done ?_
  exact ⟨[],trivial,q5,qF.trans (q4.trans q6)⟩
end Go.Proofs.YtcelfjbajdffkaaGreatDoor.Par
namespace Go.Proofs.YtcelfjbajdffkaaGreatDoor.Par
open Go.Gx Go.RowKit Go.Lib
open Lexi (Asc)
theorem run_seq' {n : Nat} {a b : Cmd} {s r : S} (h : run body n (.seq a b) s = some r) : ∃ s1,run body n a s = some s1 ∧ run body n b s1 = some r := by
 cases n <;> simp only [run,runC,Option.bind_eq_some_iff] at h ⊢ <;> exact h
theorem run_bump' {n : Nat} {s r : S} (h : run body n .bump s = some r) : r = s.bump := by
 rw [run_bump] at h
 exact (Option.some.inj h).symm
theorem run_skip' {n : Nat} {s r : S} (h : run body n .skip s = some r) : r = s := by
 cases n <;> simp only [run,runC] at h <;> exact (Option.some.inj h).symm
theorem run_leaf' {n : Nat} {k : Int} {s r : S} (h : run body n (.leaf k) s = some r) : r = s.add (.leaf k) := by
 cases n <;> simp only [run,runC] at h <;> exact (Option.some.inj h).symm
theorem run_flag' {n : Nat} {b : Bool} {s r : S} (h : run body n (.flag b) s = some r) : r = { s with flag := b } := by
 cases n <;> simp only [run,runC] at h <;> exact (Option.some.inj h).symm
theorem run_drop' {n : Nat} {s r : S} (h : run body n .drop s = some r) : r = { s with kids := s.kids.dropLast } := by
 cases n <;> simp only [run,runC] at h <;> exact (Option.some.inj h).symm
theorem run_condT {n : Nat} {t : Test} {a b : Cmd} {s r : S} (h : run body n (.cond t a b) s = some r) (ht : s.test t = true) : run body n a s = some r := by
 cases n <;> simp only [run,runC,ht] at h ⊢ <;> simpa using h
theorem run_condF {n : Nat} {t : Test} {a b : Cmd} {s r : S} (h : run body n (.cond t a b) s = some r) (ht : s.test t = false) : run body n b s = some r := by
 cases n <;> simp only [run,runC,ht] at h ⊢ <;> simpa using h
theorem run_node' {n : Nat} {k : Int} {c : Cmd} {s r : S} (h : run body n (.node k c) s = some r) : ∃ q,run body n c { s with kids := [],adds := s.adds + 1 } = some q ∧ r = { q with kids := s.kids ++ [.mk k nob q.kids] } := by
 cases n <;> simp only [run,runC,Option.map_eq_some_iff] at h ⊢ <;> obtain ⟨q,h1,h2⟩ := h <;> exact ⟨q,h1,h2.symm⟩
theorem run_wrap' {n : Nat} {k : Int} {c : Cmd} {s r : S} (h : run body n (.wrap k c) s = some r) : ∃ l t q,s.kids = l ++ [t] ∧ run body n c { s with kids := [t],adds := s.adds + 1 } = some q ∧ r = { q with kids := l ++ [.mk k nob q.kids] } := by
 have key : ∀ rec,runC body rec (.wrap k c) s = some r → ∃ l t q,s.kids = l ++ [t] ∧ runC body rec c { s with kids := [t],adds := s.adds + 1 } = some q ∧ r = { q with kids := l ++ [.mk k nob q.kids] } := fun rec h => by
  simp only [runC] at h
  split at h
  ·rename_i t ht
   simp only [Option.map_eq_some_iff] at h
   obtain ⟨q,h1,h2⟩ := h
   have hne : s.kids ≠ [] := fun e => by rw [e] at ht; cases ht
   refine ⟨s.kids.dropLast,t,q,?_,h1,h2.symm⟩
   have := List.dropLast_concat_getLast hne
   rw [List.getLast?_eq_some_getLast hne] at ht
   rw [← Option.some.inj ht]
   exact this.symm
  ·cases h
 cases n <;> exact key _ h
theorem run_call' {n : Nat} {x : Nm} {s r : S} (h : run body n (.call x) s = some r) : ∃ m,m < n ∧ run body m (body x) s = some r := by
 cases n with
 | zero => simp only [run,runC] at h; cases h
 | succ n => exact ⟨n,Nat.lt_succ_self _,h⟩
theorem run_sel' {n : Nat} {f : Tok → Tok → Int} {c : Int → Cmd} {s r : S} (h : run body n (.sel f c) s = some r) : run body n (c (f (sig1 s.rem) (sig1 (left s.rem)))) s = some r := by
 cases n <;> exact h
theorem run_prog' {n : Nat} {c a b : Cmd} {s r : S} (h : run body n (.prog c a b) s = some r) : ∃ q,run body n c s = some q ∧ (q.rem.length = s.rem.length → run body n a q = some r) ∧ (q.rem.length ≠ s.rem.length → run body n b q = some r) := by
 have key : ∀ rec,runC body rec (.prog c a b) s = some r → ∃ q,runC body rec c s = some q ∧ (q.rem.length = s.rem.length → runC body rec a q = some r) ∧ (q.rem.length ≠ s.rem.length → runC body rec b q = some r) := fun rec h => by
  simp only [runC,Option.bind_eq_some_iff] at h
  obtain ⟨q,h1,h2⟩ := h
  refine ⟨q,h1,fun e => ?_,fun e => ?_⟩
  ·rwa [if_pos e] at h2
  ·rwa [if_neg e] at h2
 cases n <;> exact key _ h
theorem run_loopF {n : Nat} {t : Test} {c : Cmd} {s r : S} (h : run body n (.loop t c) s = some r) (ht : s.test t = false) : r = s := by
 cases n <;> simp only [run,runC,ht] at h <;> exact (by simpa using h : s = r).symm
theorem run_loopT {n : Nat} {t : Test} {c : Cmd} {s r : S} (h : run body n (.loop t c) s = some r) (ht : s.test t = true) : ∃ m s1,n = m + 1 ∧ run body n c s = some s1 ∧ run body m (.loop t c) s1 = some r := by
 cases n with
 | zero =>
  simp only [run,runC,ht,if_true,Option.bind_eq_some_iff] at h
  obtain ⟨_,_,h⟩ := h
  cases h
 | succ m =>
  simp only [run,runC,ht,if_true,Option.bind_eq_some_iff] at h
  obtain ⟨s1,h1,h2⟩ := h
  exact ⟨m,s1,rfl,h1,h2⟩
theorem runC_adds {rec : Cmd → S → Option S} (h : ∀ c s r,rec c s = some r → s.adds ≤ r.adds) : ∀ c s r,runC body rec c s = some r → s.adds ≤ r.adds := by
 intro c
 induction c with
 | skip | drop | flag b => intro s x hx; simp only [runC] at hx; cases hx; exact Nat.le_refl _
 | bump => intro s x hx; simp only [runC] at hx; cases hx; simp [S.bump]
 | leaf k => intro s x hx; simp only [runC] at hx; cases hx; simp [S.add]
 | before =>
  intro s x hx
  simp only [runC] at hx
  split at hx
  ·cases hx; simp
  ·cases hx
 | seq a b iha ihb =>
  intro s x hx
  simp only [runC,Option.bind_eq_some_iff] at hx
  obtain ⟨r,h1,h2⟩ := hx
  exact Nat.le_trans (iha _ _ h1) (ihb _ _ h2)
 | node k c ih =>
  intro s x hx
  simp only [runC,Option.map_eq_some_iff] at hx
  obtain ⟨r,h1,rfl⟩ := hx
  have := ih _ _ h1
  simp only at this ⊢
  omega
 | wrap k c ih =>
  intro s x hx
  simp only [runC] at hx
  split at hx
  ·simp only [Option.map_eq_some_iff] at hx
   obtain ⟨r,h1,rfl⟩ := hx
   have := ih _ _ h1
   simp only at this ⊢
   omega
  ·cases hx
 | cond t a b iha ihb =>
  intro s x hx
  simp only [runC] at hx
  split at hx
  ·exact iha _ _ hx
  ·exact ihb _ _ hx
 | loop t c ih =>
  intro s x hx
  simp only [runC] at hx
  split at hx
  ·simp only [Option.bind_eq_some_iff] at hx
   obtain ⟨r,h2,h3⟩ := hx
   exact Nat.le_trans (ih _ _ h2) (h _ _ _ h3)
  ·cases hx; exact Nat.le_refl _
 | prog c a b ihc iha ihb =>
  intro s x hx
  simp only [runC,Option.bind_eq_some_iff] at hx
  obtain ⟨r,h1,h2⟩ := hx
  split at h2
  ·exact Nat.le_trans (ihc _ _ h1) (iha _ _ h2)
  ·exact Nat.le_trans (ihc _ _ h1) (ihb _ _ h2)
 | call x => intro s r hx; exact h _ _ _ hx
 | sel f c ih => intro s r hx; exact ih _ _ _ hx
theorem run_adds {c : Cmd} {s r : S} : ∀ {n},run body n c s = some r → s.adds ≤ r.adds
 | 0,h => runC_adds (by intro _ _ _ h; cases h) c s r h
 | n + 1,h => runC_adds (fun c s r h => run_adds (n := n) h) c s r h
theorem adds_le {c : Cmd} {s r : S} {n m : Nat} (h : run body n c s = some r) (hb : r.adds ≤ m) : s.adds ≤ m := Nat.le_trans (run_adds h) hb
def Clo (w0 : World) (tv : Value) (toks : List Tok) (n : Nat) (F : Fs) (bP : Nat) (cf : FuncId) (fst cap : List Value) (w : World) (c : Cmd) : Prop :=
 (∀ (args : Array Value) (w : World),(callFunc cf args).run Tryz.prog w = .ok (.enter cf args) w) ∧
 ∀ w1,Bw F w w1 → ∀ below k s r,Ps w0 tv toks F w1 bP below k s → run body n c s = some r → r.adds ≤ big → Cl Tryz.prog cf (fst ++ ([] : List Value) ++ cap).toArray w1 (fun u w2 => Ps w0 tv toks F w2 bP below k r ∧ Bw F w1 w2)
section
variable {w0 : World} {tv : Value} {toks : List Tok} {F : Fs} {w w' : World} {bP : Nat} {below : List (Int × List Tr)} {k : Int} {s r : S} {n : Nat} {cf : FuncId} {fst cap : List Value} {c : Cmd}
theorem Clo.bw (h : Clo w0 tv toks n F bP cf fst cap w c) (hb : Bw F w w') : Clo w0 tv toks n F bP cf fst cap w' c := ⟨h.1,fun w1 h1 => h.2 w1 (hb.trans h1)⟩
theorem D_node {k' : Int} (hp : Ps w0 tv toks F w bP below k s) (hc : Clo w0 tv toks n F bP cf fst cap w c) (h : run body n (.node k' c) s = some r) (hb : r.adds ≤ big) :
  Cl Tryz.prog 52 #[.pointer (some ⟨bP,0,none⟩),.int .i64 k',.func (.func cf) fst.toArray cap.toArray] w (fun u w' => Ps w0 tv toks F w' bP below k r ∧ Bw F w w') := by
 obtain ⟨q,h1,rfl⟩ := run_node' h
 exact node_ok hc.1 hp (fun w1 h2 h3 => hc.2 w1 h2 _ _ _ _ h3 h1 hb) (run_adds h1) hb
theorem D_wrap {k' : Int} (hp : Ps w0 tv toks F w bP below k s) (hc : Clo w0 tv toks n F bP cf fst cap w c) (h : run body n (.wrap k' c) s = some r) (hb : r.adds ≤ big) :
  Cl Tryz.prog 163 #[.pointer (some ⟨bP,0,none⟩),.int .i64 k',.func (.func cf) fst.toArray cap.toArray] w (fun u w' => Ps w0 tv toks F w' bP below k r ∧ Bw F w w') := by
 obtain ⟨l,t,q,hk,h1,rfl⟩ := run_wrap' h
 exact wrap_ok hc.1 hp hk (fun w1 h2 h3 => hc.2 w1 h2 _ _ _ _ h3 h1 hb) (run_adds h1) hb
theorem D_bump (hC : Cx w0 tv toks) (hp : Ps w0 tv toks F w bP below k s) (h : run body n .bump s = some r) (hb : r.adds ≤ big) :
  Cl Tryz.prog 55 #[.pointer (some ⟨bP,0,none⟩)] w (fun u w' => Ps w0 tv toks F w' bP below k r ∧ Bw F w w') := by
 obtain rfl := run_bump' h
 exact bump_ok hC hp hb
end
end Go.Proofs.YtcelfjbajdffkaaGreatDoor.Par
namespace Go.Proofs.YtcelfjbajdffkaaGreatDoor.Par
set_option maxRecDepth 20000
open Go.Gx Go.RowKit Go.Lib
open Lexi (Asc)
section
variable {w0 : World} {tv : Value} {toks : List Tok} {F : Fs} {w w' : World} {bP : Nat} {below : List (Int × List Tr)} {k : Int} {s r : S} {n : Nat} {cf : FuncId} {fst cap : List Value} {c : Cmd}
theorem D_absent (hp : Ps w0 tv toks F w bP below k s) (h : run body n (.leaf 0) s = some r) (hb : r.adds ≤ big) : Cl Tryz.prog 128 #[.pointer (some ⟨bP,0,none⟩)] w (fun u w' => Ps w0 tv toks F w' bP below k r ∧ Bw F w w') := by
 obtain rfl := run_leaf' h
 refine Cl.enter Tryz.func128 rfl Tryz.ntmps128 rfl rfl (Wp.region (.mv rfl rfl (.tq (t_build (bd25_0 _) rfl) rfl (Rg.wd trivial (w_call Tryz.call114 rfl (addLeaf_ok hp hb)) rfl ?_))))
 rintro _ w1 ⟨h1,h2⟩
 refine .done ?_
 exact ⟨[],trivial,h1,h2⟩
theorem D_missing (hp : Ps w0 tv toks F w bP below k s) (h : run body n (.leaf 108) s = some r) (hb : r.adds ≤ big) : Cl Tryz.prog 135 #[.pointer (some ⟨bP,0,none⟩)] w (fun u w' => Ps w0 tv toks F w' bP below k r ∧ Bw F w w') := by
 obtain rfl := run_leaf' h
 refine Cl.enter Tryz.func135 rfl Tryz.ntmps135 rfl rfl (Wp.region (.mv rfl rfl (.tq (t_build (bd25_0 _) rfl) rfl (Rg.wd trivial (w_call Tryz.call114 rfl (addLeaf_ok hp hb)) rfl ?_))))
 rintro _ w1 ⟨h1,h2⟩
 refine .done ?_
 exact ⟨[],trivial,h1,h2⟩
theorem D_missingN (hp : Ps w0 tv toks F w bP below k s) (h : run body n (.leaf 46) s = some r) (hb : r.adds ≤ big) : Cl Tryz.prog 142 #[.pointer (some ⟨bP,0,none⟩)] w (fun u w' => Ps w0 tv toks F w' bP below k r ∧ Bw F w w') := by
 obtain rfl := run_leaf' h
 refine Cl.enter Tryz.func142 rfl Tryz.ntmps142 rfl rfl (Wp.region (.mv rfl rfl (.tq (t_build (bd25_0 _) rfl) rfl (Rg.wd trivial (w_call Tryz.call114 rfl (addLeaf_ok hp hb)) rfl ?_))))
 rintro _ w1 ⟨h1,h2⟩
 refine .done ?_
 exact ⟨[],trivial,h1,h2⟩
theorem acc_T (hC : Cx w0 tv toks) (hp : Ps w0 tv toks F w bP below k s) {texts : List ByteArray} {bt : Nat} (ht : Var w bt (texts.map .string) 9) (hn : texts.length ≤ 1000) (h : isAt texts (sig1 s.rem) = true) (hb : s.bump.adds ≤ big) :
  Cl Tryz.prog 54 #[.pointer (some ⟨bP,0,none⟩),.slice (some ⟨bt,0,none⟩) texts.length texts.length] w (fun u w' => u = .bool true ∧ Ps w0 tv toks F w' bP below k s.bump ∧ Bw F w w') := by
 refine Cl.enter Tryz.func54 rfl Tryz.ntmps54 rfl rfl (.sr (.as rfl rfl (.done (.seq (.sr (.mv rfl rfl (.mv rfl rfl (Rg.wd trivial (w_call Tryz.call48 rfl (at_ok hC hp ht hn)) rfl ?_))))))))
 rintro _ w1 ⟨rfl,hx1⟩
 rw [h]
 refine .done (.condT rfl (.sr (.mv rfl rfl (Rg.wd trivial (w_call Tryz.call55 rfl (bump_ok hC (hp.extw hx1) hb)) rfl ?_))))
 rintro _ w2 ⟨h1,h2⟩
 refine .done (.sr (.as rfl rfl (.done (Wp.ret ?_))))
 exact ⟨[_],⟨rfl,trivial⟩,rfl,h1,(Bw.of hx1 hp.und).trans h2⟩
theorem acc_F (hC : Cx w0 tv toks) (hp : Ps w0 tv toks F w bP below k s) {texts : List ByteArray} {bt : Nat} (ht : Var w bt (texts.map .string) 9) (hn : texts.length ≤ 1000) (h : isAt texts (sig1 s.rem) = false) :
  Cl Tryz.prog 54 #[.pointer (some ⟨bP,0,none⟩),.slice (some ⟨bt,0,none⟩) texts.length texts.length] w (fun u w' => u = .bool false ∧ Ps w0 tv toks F w' bP below k s ∧ Bw F w w') := by
 refine Cl.enter Tryz.func54 rfl Tryz.ntmps54 rfl rfl (.sr (.as rfl rfl (.done (.seq (.sr (.mv rfl rfl (.mv rfl rfl (Rg.wd trivial (w_call Tryz.call48 rfl (at_ok hC hp ht hn)) rfl ?_))))))))
 rintro _ w1 ⟨rfl,hx1⟩
 rw [h]
 refine .done (.condF rfl (Wp.skip (.sr (.as rfl rfl (.done (Wp.ret ?_))))))
 exact ⟨[_],⟨rfl,trivial⟩,rfl,hp.extw hx1,Bw.of hx1 hp.und⟩
theorem D_exp {x : ByteArray} (hC : Cx w0 tv toks) (hp : Ps w0 tv toks F w bP below k s) (h : run body n (Cmd.exp x) s = some r) (hb : r.adds ≤ big) : Cl Tryz.prog 110 #[.pointer (some ⟨bP,0,none⟩),.string x] w (fun u w' => Ps w0 tv toks F w' bP below k r ∧ Bw F w w') := by
 have hU := hp.und
 cases ht : isAt [x] (sig1 s.rem) with
 | true =>
  have h := run_condT h ht
  obtain rfl := run_bump' h
  refine Cl.enter Tryz.func110 rfl Tryz.ntmps110 rfl rfl (.sr (.mv rfl rfl (.mv rfl rfl (Rg.wd trivial (w_buildSlice (bs124_1 _) rfl) rfl ?_))))
  rintro _ w1 ⟨b6,rfl,q6,hx1,hv6⟩
  refine Rg.wd trivial (w_call Tryz.call54 rfl (acc_T hC (hp.extw hx1) (texts := [x]) hv6 (by simp) ht hb)) rfl ?_
  rintro _ w2 ⟨rfl,h1,h2⟩
  refine .tq (t_notB rfl) rfl (.done (.condF rfl (Wp.skip ?_)))
  exact ⟨[],trivial,h1,(Bw.of hx1 hU).trans h2⟩
 | false =>
  have h := run_condF h ht
  refine Cl.enter Tryz.func110 rfl Tryz.ntmps110 rfl rfl (.sr (.mv rfl rfl (.mv rfl rfl (Rg.wd trivial (w_buildSlice (bs124_1 _) rfl) rfl ?_))))
  rintro _ w1 ⟨b6,rfl,q6,hx1,hv6⟩
  refine Rg.wd trivial (w_call Tryz.call54 rfl (acc_F hC (hp.extw hx1) (texts := [x]) hv6 (by simp) ht)) rfl ?_
  rintro _ w2 ⟨rfl,h1,h2⟩
  refine .tq (t_notB rfl) rfl (.done (.condT rfl (Wp.region (.mv rfl rfl (Rg.wd trivial (w_call Tryz.call135 rfl (D_missing h1 h hb)) rfl ?_)))))
  rintro _ w3 ⟨h3,h4⟩
  refine .done ?_
  exact ⟨[],trivial,h3,((Bw.of hx1 hU).trans h2).trans h4⟩
theorem D_expIdent (hC : Cx w0 tv toks) (hp : Ps w0 tv toks F w bP below k s) (h : run body n Cmd.expIdent s = some r) (hb : r.adds ≤ big) : Cl Tryz.prog 107 #[.pointer (some ⟨bP,0,none⟩)] w (fun u w' => Ps w0 tv toks F w' bP below k r ∧ Bw F w w') := by
 have hU := hp.und
 cases ht : ((sig1 s.rem).1 == 103) with
 | true =>
  have h := run_condT h ht
  refine Cl.enter Tryz.func107 rfl Tryz.ntmps107 rfl rfl (.sr (.mv rfl rfl (Rg.wd trivial (w_call Tryz.call132 rfl (atIdent_ok hC hp)) rfl ?_)))
  rintro _ w1 ⟨rfl,hx1⟩
  rw [ht]
  refine .done (.condT rfl (Wp.region (.mv rfl rfl (Rg.wd trivial (w_call Tryz.call55 rfl (D_bump hC (hp.extw hx1) h hb)) rfl ?_))))
  rintro _ w3 ⟨h3,h4⟩
  refine .done ?_
  exact ⟨[],trivial,h3,(Bw.of hx1 hU).trans h4⟩
 | false =>
  have h := run_condF h ht
  refine Cl.enter Tryz.func107 rfl Tryz.ntmps107 rfl rfl (.sr (.mv rfl rfl (Rg.wd trivial (w_call Tryz.call132 rfl (atIdent_ok hC hp)) rfl ?_)))
  rintro _ w1 ⟨rfl,hx1⟩
  rw [ht]
  refine .done (.condF rfl (Wp.region (.mv rfl rfl (Rg.wd trivial (w_call Tryz.call135 rfl (D_missing (hp.extw hx1) h hb)) rfl ?_))))
  rintro _ w3 ⟨h3,h4⟩
  refine .done ?_
  exact ⟨[],trivial,h3,(Bw.of hx1 hU).trans h4⟩
theorem clo_bump (hC : Cx w0 tv toks) : Clo w0 tv toks n F bP 55 [.pointer (some ⟨bP,0,none⟩)] [] w .bump := ⟨Tryz.call55,fun w1 _ below k s r hp h hb => D_bump hC hp h hb⟩
theorem clo_expIdent (hC : Cx w0 tv toks) : Clo w0 tv toks n F bP 107 [.pointer (some ⟨bP,0,none⟩)] [] w Cmd.expIdent := ⟨Tryz.call107,fun w1 _ below k s r hp h hb => D_expIdent hC hp h hb⟩
theorem D_unexp (hC : Cx w0 tv toks) (hp : Ps w0 tv toks F w bP below k s) (h : run body n Cmd.unexpected s = some r) (hb : r.adds ≤ big) : Cl Tryz.prog 156 #[.pointer (some ⟨bP,0,none⟩)] w (fun u w' => Ps w0 tv toks F w' bP below k r ∧ Bw F w w') := by
 refine Cl.enter Tryz.func156 rfl Tryz.ntmps156 rfl rfl (Wp.region (.mv rfl rfl (.mv rfl rfl (.tq (t_makeFuncB (us := [.pointer (some ⟨bP,0,none⟩)]) (vs := []) rfl rfl) rfl (Rg.wd trivial (w_call Tryz.call52 rfl (D_node hp (clo_bump hC) h hb)) rfl ?_)))))
 rintro _ w1 ⟨h1,h2⟩
 refine .done ?_
 exact ⟨[],trivial,h1,h2⟩
theorem D_opt {x : ByteArray} (hC : Cx w0 tv toks) (hp : Ps w0 tv toks F w bP below k s) (hc : Clo w0 tv toks n F bP cf fst cap w c) (h : run body n (Cmd.opt x c) s = some r) (hb : r.adds ≤ big) : Cl Tryz.prog 127 #[.pointer (some ⟨bP,0,none⟩),.string x,.func (.func cf) fst.toArray cap.toArray] w (fun u w' => Ps w0 tv toks F w' bP below k r ∧ Bw F w w') := by
 have hU := hp.und
 cases ht : isAt [x] (sig1 s.rem) with
 | true =>
  have h := run_condT h ht
  obtain ⟨s1,h1,h⟩ := run_seq' h
  obtain rfl := run_bump' h1
  refine Cl.enter Tryz.func127 rfl Tryz.ntmps127 rfl rfl (.sr (.mv rfl rfl (.mv rfl rfl (Rg.wd trivial (w_buildSlice (bs124_1 _) rfl) rfl ?_))))
  rintro _ w1 ⟨b6,rfl,q6,hx1,hv6⟩
  refine Rg.wd trivial (w_call Tryz.call54 rfl (acc_T hC (hp.extw hx1) (texts := [x]) hv6 (by simp) ht (adds_le h hb))) rfl ?_
  rintro _ w2 ⟨rfl,h1,h2⟩
  refine .done (.condT rfl (Wp.region (.mv rfl rfl (Rg.wd trivial (w_callG rfl hc.1 rfl (hc.2 _ ((Bw.of hx1 hU).trans h2) _ _ _ _ h1 h hb)) rfl ?_))))
  rintro _ w3 ⟨h3,h4⟩
  refine .done ?_
  exact ⟨[],trivial,h3,((Bw.of hx1 hU).trans h2).trans h4⟩
 | false =>
  have h := run_condF h ht
  refine Cl.enter Tryz.func127 rfl Tryz.ntmps127 rfl rfl (.sr (.mv rfl rfl (.mv rfl rfl (Rg.wd trivial (w_buildSlice (bs124_1 _) rfl) rfl ?_))))
  rintro _ w1 ⟨b6,rfl,q6,hx1,hv6⟩
  refine Rg.wd trivial (w_call Tryz.call54 rfl (acc_F hC (hp.extw hx1) (texts := [x]) hv6 (by simp) ht)) rfl ?_
  rintro _ w2 ⟨rfl,h1,h2⟩
  refine .done (.condF rfl (Wp.region (.mv rfl rfl (Rg.wd trivial (w_call Tryz.call128 rfl (D_absent h1 h hb)) rfl ?_))))
  rintro _ w3 ⟨h3,h4⟩
  refine .done ?_
  exact ⟨[],trivial,h3,((Bw.of hx1 hU).trans h2).trans h4⟩
theorem itemKw_ok (hA : Asc w) : Cl Tryz.prog 102 #[] w (fun u w' => (∃ b,u = .slice (some ⟨b,0,none⟩) items.length items.length ∧ Var w' b (items.map .string) 9) ∧ Ext w w') := by
 have el : (Lib.fields itemsText.data.toList).length = items.length := by unfold items; rw [List.length_map]
 refine Cl.enter Tryz.func102 rfl Tryz.ntmps102 rfl rfl (.sr (.as rfl rfl (.done (.sr ?_))))
 refine Rg.wd trivial (w_call Tryz.call100 rfl (Lexi.fields_ok (s := itemsText) (by decide) (by decide +kernel) hA)) rfl ?_
 rintro _ w1 ⟨⟨b,rfl,hv⟩,hx⟩
 rw [el]
 refine .as rfl rfl (.done (Wp.ret ?_))
 exact ⟨[_],⟨rfl,trivial⟩,⟨b,rfl,hv⟩,hx⟩
theorem items_len : items.length = 9 := by kernel_rfl
theorem atItem_ok (hC : Cx w0 tv toks) (hp : Ps w0 tv toks F w bP below k s) : Cl Tryz.prog 155 #[.pointer (some ⟨bP,0,none⟩)] w (fun u w' => u = .bool (atItem (sig1 s.rem)) ∧ Ext w w') := by
 have hx := Ext.refl w
 unfold atItem
 cases ht : isAt items (sig1 s.rem) with
 | true =>
  refine Cl.enter Tryz.func155 rfl Tryz.ntmps155 rfl rfl (.sr (.as rfl rfl (.done (.sr (.mv rfl rfl (Rg.wd trivial (w_call Tryz.call102 rfl (itemKw_ok ((hC.asc.ext hp.ext).ext hx))) rfl ?_))))))
  rintro _ w1 ⟨⟨b4,rfl,hv4⟩,hx1⟩
  replace hx := hx.ext hx1
  refine Rg.wd trivial (w_call Tryz.call48 rfl (at_ok hC (hp.extw hx) hv4 (by rw [items_len]; decide))) rfl ?_
  rintro _ w2 ⟨rfl,hx2⟩
  replace hx := hx.ext hx2
  rw [ht]
  refine .mv rfl rfl (.gd (t_move rfl) rfl (Rg.wd ⟨_,rfl,rfl⟩ (w_buildSlice (bs124_1 _) rfl) rfl ?_))
  rintro _ w3 ⟨b8,rfl,q8,hx3,hv8⟩
  replace hx := hx.ext hx3
  refine Rg.wd ⟨_,rfl,rfl⟩ (w_call Tryz.call48 rfl (at_ok hC (hp.extw hx) (texts := [⟨#[102,110]⟩]) hv8 (by decide))) rfl ?_
  rintro _ w4 ⟨rfl,hx4⟩
  replace hx := hx.ext hx4
  refine .gd (t_notB rfl) rfl (.tq (t_pickT rfl rfl) rfl (.as rfl rfl (.done (Wp.ret ?_))))
  exact ⟨[_],⟨rfl,trivial⟩,rfl,hx⟩
 | false =>
  refine Cl.enter Tryz.func155 rfl Tryz.ntmps155 rfl rfl (.sr (.as rfl rfl (.done (.sr (.mv rfl rfl (Rg.wd trivial (w_call Tryz.call102 rfl (itemKw_ok ((hC.asc.ext hp.ext).ext hx))) rfl ?_))))))
  rintro _ w1 ⟨⟨b4,rfl,hv4⟩,hx1⟩
  replace hx := hx.ext hx1
  refine Rg.wd trivial (w_call Tryz.call48 rfl (at_ok hC (hp.extw hx) hv4 (by rw [items_len]; decide))) rfl ?_
  rintro _ w2 ⟨rfl,hx2⟩
  replace hx := hx.ext hx2
  rw [ht]
  refine .mv rfl rfl (.so rfl rfl (.so rfl rfl (.so rfl rfl (.so rfl rfl (.tq (t_pickF rfl rfl) rfl (.as rfl rfl (.done (Wp.ret ?_))))))))
  exact ⟨[_],⟨rfl,trivial⟩,rfl,hx⟩
end
end Go.Proofs.YtcelfjbajdffkaaGreatDoor.Par
namespace Go.Proofs.YtcelfjbajdffkaaGreatDoor.Par
set_option maxRecDepth 20000
open Go.Gx Go.RowKit Go.Lib
open Lexi (Asc)
section
variable {w0 : World} {tv : Value} {toks : List Tok} {F : Fs} {w w' : World} {bP : Nat} {below : List (Int × List Tr)} {k : Int} {s r : S} {n : Nat} {cf : FuncId} {fst cap : List Value} {c : Cmd}
theorem index_ok {b : Nat} {zs : List ByteArray} {x : ByteArray} (hz : zs.length ≤ 9223372036854775807) (hv : Var w b (zs.map .string) 9) :
  Cl Tryz.prog 99 #[.slice (some ⟨b,0,none⟩) zs.length zs.length,.string x] w (fun u w' => u = .int .i64 (idxOfS zs x) ∧ w = w') :=
 (Cl.of (Tryz.slices_Index_string b 0 zs.length zs.length zs x w (Nat.le_refl _) hz (fun j hj => hv.cells j _ (by simp [hj])))).mono fun _ _ ⟨h1,h2⟩ => ⟨by rw [h1,List.take_length],h2.symm⟩
theorem itemKind_ok {x : ByteArray} (hA : Asc w) : Cl Tryz.prog 50 #[.string x] w (fun u w' => u = .int .i64 (kindNo x) ∧ Ext w w') := by
 have el : (Lib.fields kindsText.data.toList).length = kinds.length := by unfold kinds; rw [List.length_map]
 have hx := Ext.refl w
 have hrange := idxFrom_lt kinds x 0
 rw [kinds_len] at hrange
 obtain ⟨ix,hix⟩ : ∃ ix,idxOfS kinds x = ix := ⟨_,rfl⟩
 have hrange : ix < 8 ∨ ix = -1 := by rw [← hix]; unfold idxOfS; omega
 refine Cl.enter Tryz.func50 rfl Tryz.ntmps50 rfl rfl (.sr (.as rfl rfl (.done (.sr ?_))))
 refine Rg.wd trivial (w_call Tryz.call100 rfl (Lexi.fields_ok (s := kindsText) (by decide) (by decide +kernel) hA)) rfl ?_
 rintro _ w1 ⟨⟨b,rfl,hv⟩,hx1⟩
 replace hx := hx.ext hx1
 rw [el]
 refine .mv rfl rfl ?_
 refine Rg.wd trivial (w_call Tryz.call99 rfl (index_ok (zs := kinds) (by rw [kinds_len]; decide) hv)) rfl ?_
 rintro _ w2 ⟨rfl,rfl⟩
 rw [hix]
 refine .as rfl rfl (.done (.seq (.sr (.mv rfl rfl (.tq (t_lss rfl rfl) rfl (.done ?_))))))
 by_cases hn : ix < 0
 ·rw [show decide (ix < 0) = true from decide_eq_true hn]
  refine .condT rfl (.sr (.as rfl rfl (.done (Wp.ret ?_))))
  exact ⟨[_],⟨rfl,trivial⟩,by unfold kindNo; rw [hix,if_pos hn]; rfl,hx⟩
 ·rw [show decide (ix < 0) = false from decide_eq_false hn]
  refine .condF rfl (Wp.skip (.sr (.mv rfl rfl ?_)))
  refine .tq (t_addI rfl rfl (by omega)) rfl ?_
  refine .as rfl rfl (.done (Wp.ret ?_))
  exact ⟨[_],⟨rfl,trivial⟩,by unfold kindNo; rw [hix,if_neg hn]; rfl,hx⟩
def S.look (s : S) : S := S.bump ⟨s.rem,[],false,0⟩
theorem look_rem (s : S) : s.look.rem = left s.rem := rfl
theorem lookahead_ok (hC : Cx w0 tv toks) (hp : Ps w0 tv toks F w bP below k s) :
  Cl Tryz.prog 49 #[.pointer (some ⟨bP,0,none⟩)] w (fun u w' => ∃ bQ,u = .pointer (some ⟨bQ,0,none⟩) ∧ Ps w0 tv toks (fun z => z < w.heap.size) w' bQ [] 0 s.look ∧ Ext w w') := by
 have hx := Ext.refl w
 obtain ⟨g,h1,e0,h2,h3,hvar⟩ := hp.var
 have hc := hvar.cells
 have hxw := h1.ext
 have hne : taken s.rem = taken s.rem := rfl
 have hlen : s.look.adds ≤ big := by
  have hl : (taken s.rem).length ≤ s.rem.length := by
   have := congrArg List.length (taken_left s.rem)
   rw [List.length_append] at this
   omega
  have h4 := congrArg List.length h2
  rw [List.length_drop] at h4
  have := hC.few
  simp only [S.look,S.bump,big]
  omega
 obtain ⟨tp,tl,tcap,rfl⟩ : ∃ tp tl tcap,tv = .slice tp tl tcap := by
  obtain ⟨_,p,cap,e,_⟩ := hC.tok
  exact ⟨p,_,cap,e⟩
 refine Cl.enter Tryz.func49 rfl Tryz.ntmps49 rfl rfl (.sr (.as rfl rfl (.done ?_)))
 refine Wp.seq (Wp.draw [0,1,2,3,4,5,6,7,8,9,10,11,12] [] mixed (by kernel_rfl) (by kernel_rfl) ?_)
 intro w1 hx1 _
 replace hx := hx.ext hx1
 refine .mv rfl rfl (.tq (t_nilCheck rfl) rfl (.tq (t_fieldAddr fa62_0 rfl) rfl (.tq (t_load ty49 rfl (Cells.get (i := 0) (hc.ext hx) rfl)) rfl (.mv rfl rfl (.tq (t_nilCheck rfl) rfl (.tq (t_fieldAddr fa62_1 rfl) rfl (.tq (t_load ty3 rfl (Cells.get (i := 1) (hc.ext hx) rfl)) rfl (.tq (t_build (bd25) rfl) rfl ?_))))))))
 refine Rg.wdB trivial rfl (w_buildSlice (bs23_1 _ _ _ _ _) rfl) rfl (fun _ _ hr => by obtain ⟨_,_,_,hr,_⟩ := hr; exact hr) ?_
 have hl13 := hx.le
 rintro _ w2 ⟨b13,rfl,q13,hx2,hv13⟩
 replace hx := hx.ext hx2
 refine .tq (t_build (bd62_0_1_2 _ _ _ _ _ _ _) rfl) rfl ?_
 refine Rg.wdB trivial rfl (w_boxed rfl rfl) rfl (fun _ _ hr => by obtain ⟨_,_,_,hr,_⟩ := hr; exact hr) ?_
 have hl15 := hx.le
 have hl13b := hv13.lt
 rintro _ w3 ⟨b15,rfl,q15,hx3,hv15⟩
 replace hx := hx.ext hx3
 replace hv13 := hv13.ext hx3
 refine .as rfl rfl (.done ?_)
 have hpq : Ps w0 (.slice tp tl tcap) toks (fun z => z < w.heap.size) w3 b15 [] 0 ⟨s.rem,[],false,0⟩ := by
  refine ⟨⟨b15,.slice (some ⟨b13,0,none⟩) 1 1,g.pos,[⟨0,.slice none 0 0,[]⟩],fun _ => False⟩,⟨hxw.ext hx,fun z hz => Nat.lt_of_lt_of_le hz hxw.le,fun z hz => Nat.lt_of_lt_of_le hz hx.le,fun z hz => hz.elim,hv15,whole_ownG (sp := []) (Nat.zero_le _) rfl (Nat.le_refl _) (by decide) rfl hv13,fun f hf => ?_,fun f hf t ht => ?_,?_,fun b hb => ⟨fun hF => ?_,fun h => h⟩,fun z _ h => h⟩,rfl,h2,h3,rfl,fun f hf => ?_,Nat.le_refl _⟩
  ·obtain rfl : f = ⟨0,.slice none 0 0,[]⟩ := by simpa using hf
   exact ⟨rfl,.inl ⟨rfl,rfl⟩⟩
  ·obtain rfl : f = ⟨0,.slice none 0 0,[]⟩ := by simpa using hf
   cases ht
  ·simp [Pg.muts,Value.ownBlock]
   omega
  ·simp [Pg.muts,Value.ownBlock] at hb
   omega
  ·obtain rfl : f = ⟨0,.slice none 0 0,[]⟩ := by simpa using hf
   exact Nat.le_refl _
 refine .sr (.mv rfl rfl (Rg.wd trivial (w_call Tryz.call55 rfl (bump_ok hC hpq hlen)) rfl ?_))
 rintro _ w17 ⟨h17,hb17⟩
 refine .done (.sr (.mv rfl rfl (.as rfl rfl (.done (Wp.ret ?_)))))
 exact ⟨[_],⟨rfl,trivial⟩,⟨b15,rfl,h17,Bw.ext hx hb17 fun z hz => hz⟩⟩
end
end Go.Proofs.YtcelfjbajdffkaaGreatDoor.Par
namespace Go.Proofs.YtcelfjbajdffkaaGreatDoor.Par
set_option maxRecDepth 20000
open Go.Gx Go.RowKit Go.Lib
open Lexi (Asc)
section
variable {w0 : World} {tv : Value} {toks : List Tok} {F : Fs} {w w' : World} {bP : Nat} {below : List (Int × List Tr)} {k : Int} {s r : S} {n : Nat} {cf : FuncId} {fst cap : List Value} {c : Cmd}
theorem D_list {cl : ByteArray} (hC : Cx w0 tv toks) (hp : Ps w0 tv toks F w bP below k s) (hc : Clo w0 tv toks n F bP cf fst cap w c) (hr : run body n (Cmd.list cl c) s = some r) (hb : r.adds ≤ big) :
  Cl Tryz.prog 130 #[.pointer (some ⟨bP,0,none⟩),.string cl,.func (.func cf) fst.toArray cap.toArray] w (fun u w' => Ps w0 tv toks F w' bP below k r ∧ Bw F w w') := by
 obtain ⟨sL,hL,hE⟩ := run_seq' hr
 have hbL := adds_le hE hb
 refine Cl.enter Tryz.func130 rfl Tryz.ntmps130 rfl rfl (.seq (Wp.block ?_))
 refine Wp.loop (ι := S × Nat) (fun _ => [(0,.pointer (some ⟨bP,0,none⟩)),(1,.string cl),(2,.func (.func cf) fst.toArray cap.toArray)])
  (fun i w' => Ps w0 tv toks F w' bP below k i.1 ∧ Bw F w w' ∧ run body i.2 _ i.1 = some sL ∧ i.2 ≤ n) (fun i => i.2) (s,n) (by repeat (first | exact .nil | refine .cons rfl ?_)) ⟨hp,Bw.refl _ _,hL,Nat.le_refl _⟩ ?_
 clear hp hL
 rintro ⟨s',m⟩ wl ⟨hp,hbw,hrun,hmn⟩
 simp only at hp hrun hmn
 have hx := Ext.refl wl
 have hU := hp.und
 cases h1 : isAt [cl] (sig1 s'.rem) with
 | true =>
  have ht : s'.test (fun t _ _ _ => !isAt [cl] t && t.1 != 100 && !atItem t) = false := by simp [S.test,h1]
  obtain rfl := run_loopF hrun ht
  refine .seq (.sr (.mv rfl rfl (.mv rfl rfl (Rg.wd trivial (w_buildSlice (bs124_1 _) rfl) rfl ?_))))
  rintro _ w1 ⟨b9,rfl,q9,hx1,hv9⟩
  replace hx := hx.ext hx1
  refine Rg.wd trivial (w_call Tryz.call48 rfl (at_ok hC (hp.extw hx) (texts := [cl]) hv9 (by simp))) rfl ?_
  rintro _ w2 ⟨rfl,hx2⟩
  replace hx := hx.ext hx2
  rw [h1]
  refine .tq (t_notB rfl) rfl (.mv rfl rfl (.so rfl rfl (.so rfl rfl (.so rfl rfl (.tq (t_pickF rfl rfl) rfl (.mv rfl rfl (.so rfl rfl (.so rfl rfl (.so rfl rfl (.tq (t_pickF rfl rfl) rfl (.done (.condF rfl ?_))))))))))))
  refine Wp.exit (Wp.region (.mv rfl rfl (.mv rfl rfl (Rg.wd trivial (w_call Tryz.call110 rfl (D_exp hC (hp.extw hx) hE hb)) rfl ?_))))
  rintro _ wE ⟨hE1,hE2⟩
  refine .done ?_
  exact ⟨[],trivial,hE1,(hbw.trans (Bw.of hx hU)).trans hE2⟩
 | false =>
  cases h2 : ((sig1 s'.rem).1 == 100) with
  | true =>
   have ht : s'.test (fun t _ _ _ => !isAt [cl] t && t.1 != 100 && !atItem t) = false := by simp only [S.test,bne,h1,h2]; rfl
   obtain rfl := run_loopF hrun ht
   refine .seq (.sr (.mv rfl rfl (.mv rfl rfl (Rg.wd trivial (w_buildSlice (bs124_1 _) rfl) rfl ?_))))
   rintro _ w1 ⟨b9,rfl,q9,hx1,hv9⟩
   replace hx := hx.ext hx1
   refine Rg.wd trivial (w_call Tryz.call48 rfl (at_ok hC (hp.extw hx) (texts := [cl]) hv9 (by simp))) rfl ?_
   rintro _ w2 ⟨rfl,hx2⟩
   replace hx := hx.ext hx2
   rw [h1]
   refine .tq (t_notB rfl) rfl (.mv rfl rfl (.gd (t_move rfl) rfl (Rg.wd ⟨_,rfl,rfl⟩ (w_call Tryz.call25 rfl (atEOF_ok hC (hp.extw hx))) rfl ?_)))
   rintro _ w3 ⟨rfl,hx3⟩
   replace hx := hx.ext hx3
   rw [h2]
   refine .gd (t_notB rfl) rfl (.tq (t_pickT rfl rfl) rfl (.mv rfl rfl (.so rfl rfl (.so rfl rfl (.so rfl rfl (.tq (t_pickF rfl rfl) rfl (.done (.condF rfl (Wp.exit (Wp.region (.mv rfl rfl (.mv rfl rfl ?_))))))))))))
   refine Rg.wd trivial (w_call Tryz.call110 rfl (D_exp hC (hp.extw hx) hE hb)) rfl ?_
   rintro _ wE ⟨hE1,hE2⟩
   refine .done ?_
   exact ⟨[],trivial,hE1,(hbw.trans (Bw.of hx hU)).trans hE2⟩
  | false =>
   cases h3 : atItem (sig1 s'.rem) with
   | true =>
    have ht : s'.test (fun t _ _ _ => !isAt [cl] t && t.1 != 100 && !atItem t) = false := by simp only [S.test,bne,h1,h2,h3]; rfl
    obtain rfl := run_loopF hrun ht
    refine .seq (.sr (.mv rfl rfl (.mv rfl rfl (Rg.wd trivial (w_buildSlice (bs124_1 _) rfl) rfl ?_))))
    rintro _ w1 ⟨b9,rfl,q9,hx1,hv9⟩
    replace hx := hx.ext hx1
    refine Rg.wd trivial (w_call Tryz.call48 rfl (at_ok hC (hp.extw hx) (texts := [cl]) hv9 (by simp))) rfl ?_
    rintro _ w2 ⟨rfl,hx2⟩
    replace hx := hx.ext hx2
    rw [h1]
    refine .tq (t_notB rfl) rfl (.mv rfl rfl (.gd (t_move rfl) rfl (Rg.wd ⟨_,rfl,rfl⟩ (w_call Tryz.call25 rfl (atEOF_ok hC (hp.extw hx))) rfl ?_)))
    rintro _ w3 ⟨rfl,hx3⟩
    replace hx := hx.ext hx3
    rw [h2]
    refine .gd (t_notB rfl) rfl (.tq (t_pickT rfl rfl) rfl (.mv rfl rfl (.gd (t_move rfl) rfl (Rg.wd ⟨_,rfl,rfl⟩ (w_call Tryz.call155 rfl (atItem_ok hC (hp.extw hx))) rfl ?_))))
    rintro _ w4 ⟨rfl,hx4⟩
    replace hx := hx.ext hx4
    rw [h3]
    refine .gd (t_notB rfl) rfl (.tq (t_pickT rfl rfl) rfl (.done (.condF rfl (Wp.exit (Wp.region (.mv rfl rfl (.mv rfl rfl (Rg.wd trivial (w_call Tryz.call110 rfl (D_exp hC (hp.extw hx) hE hb)) rfl ?_))))))))
    rintro _ wE ⟨hE1,hE2⟩
    refine .done ?_
    exact ⟨[],trivial,hE1,(hbw.trans (Bw.of hx hU)).trans hE2⟩
   | false =>
    have ht : s'.test (fun t _ _ _ => !isAt [cl] t && t.1 != 100 && !atItem t) = true := by simp only [S.test,bne,h1,h2,h3]; rfl
    obtain ⟨m1,s2,rfl,hbody,hrest⟩ := run_loopT hrun ht
    obtain ⟨q,hq,hsame,hmore⟩ := run_prog' hbody
    have hb2 := adds_le hrest hbL
    have hqb : q.adds ≤ big := by
     by_cases e : q.rem.length = s'.rem.length
     ·exact adds_le (hsame e) hb2
     ·exact adds_le (hmore e) hb2
    refine .seq (.sr (.mv rfl rfl (.mv rfl rfl (Rg.wd trivial (w_buildSlice (bs124_1 _) rfl) rfl ?_))))
    rintro _ w1 ⟨b9,rfl,q9,hx1,hv9⟩
    replace hx := hx.ext hx1
    refine Rg.wd trivial (w_call Tryz.call48 rfl (at_ok hC (hp.extw hx) (texts := [cl]) hv9 (by simp))) rfl ?_
    rintro _ w2 ⟨rfl,hx2⟩
    replace hx := hx.ext hx2
    rw [h1]
    refine .tq (t_notB rfl) rfl (.mv rfl rfl (.gd (t_move rfl) rfl (Rg.wd ⟨_,rfl,rfl⟩ (w_call Tryz.call25 rfl (atEOF_ok hC (hp.extw hx))) rfl ?_)))
    rintro _ w3 ⟨rfl,hx3⟩
    replace hx := hx.ext hx3
    rw [h2]
    refine .gd (t_notB rfl) rfl (.tq (t_pickT rfl rfl) rfl (.mv rfl rfl (.gd (t_move rfl) rfl (Rg.wd ⟨_,rfl,rfl⟩ (w_call Tryz.call155 rfl (atItem_ok hC (hp.extw hx))) rfl ?_))))
    rintro _ w4 ⟨rfl,hx4⟩
    replace hx := hx.ext hx4
    rw [h3]
    refine .gd (t_notB rfl) rfl (.tq (t_pickT rfl rfl) rfl (.done (.condT rfl (Wp.skip (Wp.block ?_)))))
    have hp1 := hp.extw hx
    obtain ⟨g,g1,g0,g2,g3,hvar⟩ := hp1.var
    have hc1 := hvar.cells
    have hbx := Bw.of hx hU
    refine .sr (.mv rfl rfl (.tq (t_nilCheck rfl) rfl (.tq (t_fieldAddr fa62_1 rfl) rfl (.tq (t_load ty3 rfl (Cells.get (i := 1) hc1 rfl)) rfl (.as rfl rfl (.done (.sr (.mv rfl rfl (Rg.wd trivial (w_callG rfl hc.1 rfl (hc.2 _ (hbw.trans hbx) _ _ _ _ hp1 (run_le hmn hq) hqb)) rfl ?_)))))))))
    rintro _ wq ⟨hp2,hb3⟩
    obtain ⟨g',g1',g0',g2',g3',hvar'⟩ := hp2.var
    have hc2 := hvar'.cells
    have hl1 := congrArg List.length g2
    have hl2 := congrArg List.length g2'
    rw [List.length_drop] at hl1 hl2
    refine .done (Wp.block ?_)
    by_cases hsm : q.rem.length = s'.rem.length
    ·skip
     refine .sr (.mv rfl rfl (.tq (t_nilCheck rfl) rfl (.tq (t_fieldAddr fa62_1 rfl) rfl (.tq (t_load ty3 rfl (Cells.get (i := 1) hc2 rfl)) rfl (.mv rfl rfl ?_)))))
     refine .tq (t_eqlT rfl rfl (by omega)) rfl ?_
     refine .as rfl rfl (.done (.condT rfl (Wp.region (.mv rfl rfl (Rg.wd trivial (w_call Tryz.call156 rfl (D_unexp hC hp2 (hsame hsm) hb2)) rfl ?_)))))
     rintro _ wU ⟨hU1,hU2⟩
     refine .done ?_
     exact ⟨(s2,m1),by repeat (first | exact .nil | refine .cons rfl ?_),⟨hU1,((hbw.trans hbx).trans hb3).trans hU2,hrest,by simp only; omega⟩,by simp only; omega⟩
    ·skip
     refine .sr (.mv rfl rfl (.tq (t_nilCheck rfl) rfl (.tq (t_fieldAddr fa62_1 rfl) rfl (.tq (t_load ty3 rfl (Cells.get (i := 1) hc2 rfl)) rfl (.mv rfl rfl ?_)))))
     refine .tq (t_eqlF rfl rfl (by omega)) rfl ?_
     refine .as rfl rfl (.done ?_)
     have hmm := hmore hsm
     cases h4 : isAt [cl] (sig1 q.rem) with
     | true =>
      refine .condF rfl (.sr (.mv rfl rfl (.mv rfl rfl (Rg.wd trivial (w_buildSlice (bs124_1 _) rfl) rfl ?_))))
      rintro _ w40 ⟨b40,rfl,q40,hx40,hv40⟩
      refine Rg.wd trivial (w_call Tryz.call48 rfl (at_ok hC (hp2.extw hx40) (texts := [cl]) hv40 (by simp))) rfl ?_
      rintro _ w41 ⟨rfl,hx41⟩
      rw [h4]
      have hx42 := hx40.ext hx41
      refine .tq (t_notB rfl) rfl (.as rfl rfl (.done (.condF rfl (Wp.skip ?_))))
      obtain rfl := run_skip' (run_condT hmm h4)
      exact ⟨(s2,m1),by repeat (first | exact .nil | refine .cons rfl ?_),⟨hp2.extw hx42,((hbw.trans hbx).trans hb3).trans (Bw.of hx42 hp2.und),hrest,by simp only; omega⟩,by simp only; omega⟩
     | false =>
      refine .condF rfl (.sr (.mv rfl rfl (.mv rfl rfl (Rg.wd trivial (w_buildSlice (bs124_1 _) rfl) rfl ?_))))
      rintro _ w40 ⟨b40,rfl,q40,hx40,hv40⟩
      refine Rg.wd trivial (w_call Tryz.call48 rfl (at_ok hC (hp2.extw hx40) (texts := [cl]) hv40 (by simp))) rfl ?_
      rintro _ w41 ⟨rfl,hx41⟩
      rw [h4]
      have hx42 := hx40.ext hx41
      refine .tq (t_notB rfl) rfl (.as rfl rfl (.done (.condT rfl (Wp.region (.mv rfl rfl (Rg.wd trivial (w_call Tryz.call110 rfl (D_exp hC (hp2.extw hx42) (run_condF hmm h4) hb2)) rfl ?_))))))
      rintro _ w44 ⟨h441,h442⟩
      refine .done ?_
      exact ⟨(s2,m1),by repeat (first | exact .nil | refine .cons rfl ?_),⟨h441,(((hbw.trans hbx).trans hb3).trans (Bw.of hx42 hp2.und)).trans h442,hrest,by simp only; omega⟩,by simp only; omega⟩
end
end Go.Proofs.YtcelfjbajdffkaaGreatDoor.Par
namespace Go.Proofs.YtcelfjbajdffkaaGreatDoor.Par
set_option maxRecDepth 20000
open Go.Gx Go.RowKit Go.Lib
open Lexi (Asc)
def fnOf : Nm → FuncId × List Value
 | .block => (129,[]) | .statement => (154,[]) | .letS => (169,[]) | .returnS => (171,[]) | .binary n => (143,[.int .i64 n]) | .unary => (161,[]) | .arguments => (181,[]) | .postE => (178,[]) | .primary => (172,[]) | .ifExpr => (183,[]) | .matchE => (184,[])
 | .structLit => (185,[]) | .lambda => (186,[]) | .pattern => (179,[]) | .item => (26,[]) | .skipTo => (51,[]) | .itemBody k => (56,[.int .i64 k]) | .use => (104,[]) | .typeParams => (126,[]) | .typeParam => (152,[]) | .params cl => (113,[.string cl])
 | .function b => (105,[.bool b]) | .dataType k => (106,[.int .i64 k]) | .members => (108,[]) | .impl => (109,[]) | .path b => (141,[.bool b]) | .typeExpr => (111,[])
def DN (w0 : World) (tv : Value) (toks : List Tok) (m : Nat) : Prop := ∀ (x : Nm) (F : Fs) (w : World) (bP : Nat) (below : List (Int × List Tr)) (k : Int) (s r : S),Ps w0 tv toks F w bP below k s → run body m (body x) s = some r → r.adds ≤ big →
 Cl Tryz.prog (fnOf x).1 (.pointer (some ⟨bP,0,none⟩) :: (fnOf x).2).toArray w (fun u w' => (x = .statement → u = .bool r.flag) ∧ Ps w0 tv toks F w' bP below k r ∧ Bw F w w')
section
variable {w0 : World} {tv : Value} {toks : List Tok} {F : Fs} {w w' : World} {bP : Nat} {below : List (Int × List Tr)} {k : Int} {s r : S} {n : Nat} {cf : FuncId} {fst cap : List Value} {c : Cmd}
theorem D_call {x : Nm} (hD : ∀ m,m < n → DN w0 tv toks m) (hp : Ps w0 tv toks F w bP below k s) (h : run body n (.call x) s = some r) (hb : r.adds ≤ big) :
  Cl Tryz.prog (fnOf x).1 (.pointer (some ⟨bP,0,none⟩) :: (fnOf x).2).toArray w (fun u w' => (x = .statement → u = .bool r.flag) ∧ Ps w0 tv toks F w' bP below k r ∧ Bw F w w') := by
 obtain ⟨m,h1,h2⟩ := run_call' h
 exact hD m h1 x F w bP below k s r hp h2 hb
theorem clo_call {f : FuncId} (hcf : ∀ (args : Array Value) (w : World),(callFunc f args).run Tryz.prog w = .ok (.enter f args) w) (hD : ∀ m,m < n → DN w0 tv toks m) (x : Nm) (hf : (fnOf x).1 = f := by rfl) (hx : (fnOf x).2 = [] := by rfl) : Clo w0 tv toks n F bP f [.pointer (some ⟨bP,0,none⟩)] [] w (.call x) := by
 refine ⟨hcf,fun w1 _ below k s r hp h hb => ?_⟩
 have := D_call hD hp h hb
 rw [hf,hx] at this
 exact this.mono fun u w' h => h.2
theorem D_expr (hC : Cx w0 tv toks) (hD : ∀ m,m < n → DN w0 tv toks m) (hp : Ps w0 tv toks F w bP below k s) (hr : run body n Cmd.expr s = some r) (hb : r.adds ≤ big) : Cl Tryz.prog 112 #[.pointer (some ⟨bP,0,none⟩)] w (fun u w' => Ps w0 tv toks F w' bP below k r ∧ Bw F w w') := by
 have hbw := Bw.refl F w
 have hsub : ∀ z,F z → F z := fun z h => h
 have hbase := hp.base
 refine Cl.enter Tryz.func112 rfl Tryz.ntmps112 rfl rfl (Wp.region (.mv rfl rfl (Rg.wd trivial (w_call Tryz.call143 rfl (D_call hD hp hr hb)) rfl ?_)))
 rintro _ w1 ⟨hst,hp1,hb1⟩
 replace hbw := hbw.trans (hb1.sub hsub)
 clear hp
 have hp := hp1
 clear hp1
 refine .done ?_
 exact ⟨[],trivial,hp.sub hsub hbase,hbw⟩
theorem clo_expr (hC : Cx w0 tv toks) (hD : ∀ m,m < n → DN w0 tv toks m) : Clo w0 tv toks n F bP 112 [.pointer (some ⟨bP,0,none⟩)] [] w Cmd.expr := ⟨Tryz.call112,fun w1 _ below k s r hp h hb => D_expr hC hD hp h hb⟩
theorem atPattern_ok (hC : Cx w0 tv toks) (hp : Ps w0 tv toks F w bP below k s) : Cl Tryz.prog 195 #[.pointer (some ⟨bP,0,none⟩)] w (fun u w' => u = .bool (atPattern (sig1 s.rem)) ∧ Ext w w') := by
 have hx := Ext.refl w
 unfold atPattern
 cases h1 : ((sig1 s.rem).1 == 103) with
 | true =>
  refine Cl.enter Tryz.func195 rfl Tryz.ntmps195 rfl rfl (.sr (.as rfl rfl (.done (.sr (.mv rfl rfl (Rg.wd trivial (w_call Tryz.call132 rfl (atIdent_ok hC (hp.extw hx))) rfl ?_))))))
  rintro _ w1 ⟨rfl,hx1⟩
  replace hx := hx.ext hx1
  rw [h1]
  refine .mv rfl rfl (.so rfl rfl (.so rfl rfl (.so rfl rfl (.so rfl rfl (.tq (t_pickT rfl rfl) rfl (.mv rfl rfl (.so rfl rfl (.so rfl rfl (.so rfl rfl (.tq (t_pickT rfl rfl) rfl (.as rfl rfl (.done ?_))))))))))))
  refine Wp.ret ?_
  exact ⟨[_],⟨rfl,trivial⟩,rfl,hx⟩
 | false =>
  cases h2 : ((sig1 s.rem).1 == 105) with
  | true =>
   refine Cl.enter Tryz.func195 rfl Tryz.ntmps195 rfl rfl (.sr (.as rfl rfl (.done (.sr (.mv rfl rfl (Rg.wd trivial (w_call Tryz.call132 rfl (atIdent_ok hC (hp.extw hx))) rfl ?_))))))
   rintro _ w1 ⟨rfl,hx1⟩
   replace hx := hx.ext hx1
   rw [h1]
   refine .mv rfl rfl (.gd (t_move rfl) rfl (Rg.wd ⟨_,rfl,rfl⟩ (w_call Tryz.call47 rfl ((hp.extw hx).peek hC)) rfl ?_))
   rintro _ w2 ⟨rfl,hx2⟩
   replace hx := hx.ext hx2
   refine .gd (t_field rfl (fun w => rfl)) rfl (.gd (t_eqlT rfl rfl (beq_iff_eq.1 h2)) rfl (.tq (t_pickF rfl rfl) rfl (.mv rfl rfl (.so rfl rfl (.so rfl rfl (.so rfl rfl (.tq (t_pickT rfl rfl) rfl (.as rfl rfl (.done (Wp.ret ?_))))))))))
   exact ⟨[_],⟨rfl,trivial⟩,rfl,hx⟩
  | false =>
   refine Cl.enter Tryz.func195 rfl Tryz.ntmps195 rfl rfl (.sr (.as rfl rfl (.done (.sr (.mv rfl rfl (Rg.wd trivial (w_call Tryz.call132 rfl (atIdent_ok hC (hp.extw hx))) rfl ?_))))))
   rintro _ w1 ⟨rfl,hx1⟩
   replace hx := hx.ext hx1
   rw [h1]
   refine .mv rfl rfl (.gd (t_move rfl) rfl (Rg.wd ⟨_,rfl,rfl⟩ (w_call Tryz.call47 rfl ((hp.extw hx).peek hC)) rfl ?_))
   rintro _ w2 ⟨rfl,hx2⟩
   replace hx := hx.ext hx2
   refine .gd (t_field rfl (fun w => rfl)) rfl ?_
   refine .gd (t_eqlF rfl rfl (fun e => by rw [beq_iff_eq.2 e] at h2; cases h2)) rfl ?_
   refine .tq (t_pickF rfl rfl) rfl (.mv rfl rfl (.gd (t_move rfl) rfl (Rg.wd ⟨_,rfl,rfl⟩ (w_buildSlice (bs124_3 _ _ _) rfl) rfl ?_)))
   rintro _ w3 ⟨b13,rfl,q13,hx3,hv13⟩
   replace hx := hx.ext hx3
   refine Rg.wd ⟨_,rfl,rfl⟩ (w_call Tryz.call48 rfl (at_ok hC (hp.extw hx) (texts := [⟨#[116,114,117,101]⟩,⟨#[102,97,108,115,101]⟩,⟨#[109,117,116]⟩]) hv13 (by decide))) rfl ?_
   rintro _ w4 ⟨rfl,hx4⟩
   replace hx := hx.ext hx4
   refine .tq (t_pickF rfl rfl) rfl (.as rfl rfl (.done (Wp.ret ?_)))
   exact ⟨[_],⟨rfl,trivial⟩,rfl,hx⟩
theorem N_letS (hC : Cx w0 tv toks) (hD : ∀ m,m < n → DN w0 tv toks m) (hp : Ps w0 tv toks F w bP below k s) (hr : run body n (body .letS) s = some r) (hb : r.adds ≤ big) :
  Cl Tryz.prog 169 #[.pointer (some ⟨bP,0,none⟩)] w (fun u w' => (Nm.letS = Nm.statement → u = .bool r.flag) ∧ Ps w0 tv toks F w' bP below k r ∧ Bw F w w') := by
 have hbw := Bw.refl F w
 have hsub : ∀ z,F z → F z := fun z h => h
 have hbase := hp.base
 have hr : run body n (.seq .bump (.seq (.call .pattern) (.seq (Cmd.opt ⟨#[58]⟩ (.call .typeExpr)) (.seq (Cmd.exp ⟨#[61]⟩) (.seq Cmd.expr (Cmd.exp ⟨#[59]⟩)))))) s = some r := hr
 refine Cl.enter Tryz.func169 rfl Tryz.ntmps169 rfl rfl (.sr (.mv rfl rfl ?_))
 obtain ⟨s1,h1a,h1b⟩ := run_seq' hr
 refine Rg.wd trivial (w_call Tryz.call55 rfl (D_bump hC hp h1a (adds_le h1b hb))) rfl ?_
 rintro _ w1 ⟨hp1,hb1⟩
 replace hbw := hbw.trans (hb1.sub hsub)
 clear hp
 have hp := hp1
 clear hp1
 refine .done (.sr (.mv rfl rfl ?_))
 obtain ⟨s2,h2a,h2b⟩ := run_seq' h1b
 refine Rg.wd trivial (w_call Tryz.call179 rfl (D_call hD hp h2a (adds_le h2b hb))) rfl ?_
 rintro _ w2 ⟨hst,hp1,hb2⟩
 replace hbw := hbw.trans (hb2.sub hsub)
 clear hp
 have hp := hp1
 clear hp1
 refine .done (.sr (.mv rfl rfl (.mv rfl rfl (.tq (t_makeFuncB (us := [.pointer (some ⟨bP,0,none⟩)]) (vs := []) rfl rfl) rfl ?_))))
 obtain ⟨s3,h3a,h3b⟩ := run_seq' h2b
 refine Rg.wd trivial (w_call Tryz.call127 rfl (D_opt hC hp (clo_call Tryz.call111 hD (.typeExpr)) h3a (adds_le h3b hb))) rfl ?_
 rintro _ w3 ⟨hp1,hb3⟩
 replace hbw := hbw.trans (hb3.sub hsub)
 clear hp
 have hp := hp1
 clear hp1
 refine .done (.sr (.mv rfl rfl ?_))
 obtain ⟨s4,h4a,h4b⟩ := run_seq' h3b
 refine Rg.wd trivial (w_call Tryz.call110 rfl (D_exp hC hp h4a (adds_le h4b hb))) rfl ?_
 rintro _ w4 ⟨hp1,hb4⟩
 replace hbw := hbw.trans (hb4.sub hsub)
 clear hp
 have hp := hp1
 clear hp1
 refine .done (.sr (.mv rfl rfl ?_))
 obtain ⟨s5,h5a,h5b⟩ := run_seq' h4b
 refine Rg.wd trivial (w_call Tryz.call112 rfl (D_expr hC hD hp h5a (adds_le h5b hb))) rfl ?_
 rintro _ w5 ⟨hp1,hb5⟩
 replace hbw := hbw.trans (hb5.sub hsub)
 clear hp
 have hp := hp1
 clear hp1
 refine .done (Wp.region (.mv rfl rfl (Rg.wd trivial (w_call Tryz.call110 rfl (D_exp hC hp h5b hb)) rfl ?_)))
 rintro _ w6 ⟨hp1,hb6⟩
 replace hbw := hbw.trans (hb6.sub hsub)
 clear hp
 have hp := hp1
 clear hp1
 refine .done ?_
 exact ⟨[],trivial,(fun h => by cases h),hp.sub hsub hbase,hbw⟩
theorem N_returnS (hC : Cx w0 tv toks) (hD : ∀ m,m < n → DN w0 tv toks m) (hp : Ps w0 tv toks F w bP below k s) (hr : run body n (body .returnS) s = some r) (hb : r.adds ≤ big) :
  Cl Tryz.prog 171 #[.pointer (some ⟨bP,0,none⟩)] w (fun u w' => (Nm.returnS = Nm.statement → u = .bool r.flag) ∧ Ps w0 tv toks F w' bP below k r ∧ Bw F w w') := by
 have hbw := Bw.refl F w
 have hsub : ∀ z,F z → F z := fun z h => h
 have hbase := hp.base
 have hr : run body n (.seq .bump (.seq (.cond (at1 [⟨#[59]⟩]) (.leaf 0) Cmd.expr) (Cmd.exp ⟨#[59]⟩))) s = some r := hr
 refine Cl.enter Tryz.func171 rfl Tryz.ntmps171 rfl rfl (.sr (.mv rfl rfl ?_))
 obtain ⟨s1,h1a,h1b⟩ := run_seq' hr
 refine Rg.wd trivial (w_call Tryz.call55 rfl (D_bump hC hp h1a (adds_le h1b hb))) rfl ?_
 rintro _ w1 ⟨hp1,hb1⟩
 replace hbw := hbw.trans (hb1.sub hsub)
 clear hp
 have hp := hp1
 clear hp1
 refine .done ?_
 obtain ⟨s2,h2a,h2b⟩ := run_seq' h1b
 refine .seq ?_
 cases haq1 : (isAt [⟨#[59]⟩] (sig1 s1.rem)) with
 | true =>
  have hq2 := run_condT h2a haq1
  refine .sr (.mv rfl rfl (Rg.wd trivial (w_buildSlice (bs124_1 _) rfl) rfl ?_))
  rintro _ w2 ⟨bt5,rfl,qt5,hx2,hvt5⟩
  replace hbw := hbw.trans (Bw.of hx2 fun z hz => hp.und z (hsub z hz))
  replace hp := hp.extw hx2
  refine Rg.wd trivial (w_call Tryz.call48 rfl (at_ok hC hp (texts := [⟨#[59]⟩]) hvt5 (by decide))) rfl ?_
  rintro _ w3 ⟨rfl,hx3⟩
  replace hbw := hbw.trans (Bw.of hx3 fun z hz => hp.und z (hsub z hz))
  replace hp := hp.extw hx3
  try replace hvt5 := hvt5.ext hx3
  rw [show (isAt [⟨#[59]⟩] (sig1 s1.rem)) = true from haq1]
  refine .done (.condT rfl (Wp.region (.mv rfl rfl (Rg.wd trivial (w_call Tryz.call128 rfl (D_absent hp hq2 (adds_le h2b hb))) rfl ?_))))
  rintro _ w4 ⟨hp1,hb4⟩
  replace hbw := hbw.trans (hb4.sub hsub)
  clear hp
  have hp := hp1
  clear hp1
  refine .done (Wp.region (.mv rfl rfl (Rg.wd trivial (w_call Tryz.call110 rfl (D_exp hC hp h2b hb)) rfl ?_)))
  rintro _ w5 ⟨hp1,hb5⟩
  replace hbw := hbw.trans (hb5.sub hsub)
  clear hp
  have hp := hp1
  clear hp1
  refine .done ?_
  exact ⟨[],trivial,(fun h => by cases h),hp.sub hsub hbase,hbw⟩
 | false =>
  have hq2 := run_condF h2a haq1
  refine .sr (.mv rfl rfl (Rg.wd trivial (w_buildSlice (bs124_1 _) rfl) rfl ?_))
  rintro _ w2 ⟨bt5,rfl,qt5,hx2,hvt5⟩
  replace hbw := hbw.trans (Bw.of hx2 fun z hz => hp.und z (hsub z hz))
  replace hp := hp.extw hx2
  refine Rg.wd trivial (w_call Tryz.call48 rfl (at_ok hC hp (texts := [⟨#[59]⟩]) hvt5 (by decide))) rfl ?_
  rintro _ w3 ⟨rfl,hx3⟩
  replace hbw := hbw.trans (Bw.of hx3 fun z hz => hp.und z (hsub z hz))
  replace hp := hp.extw hx3
  try replace hvt5 := hvt5.ext hx3
  rw [show (isAt [⟨#[59]⟩] (sig1 s1.rem)) = false from haq1]
  refine .done (.condF rfl (Wp.region (.mv rfl rfl (Rg.wd trivial (w_call Tryz.call112 rfl (D_expr hC hD hp hq2 (adds_le h2b hb))) rfl ?_))))
  rintro _ w4 ⟨hp1,hb4⟩
  replace hbw := hbw.trans (hb4.sub hsub)
  clear hp
  have hp := hp1
  clear hp1
  refine .done (Wp.region (.mv rfl rfl (Rg.wd trivial (w_call Tryz.call110 rfl (D_exp hC hp h2b hb)) rfl ?_)))
  rintro _ w5 ⟨hp1,hb5⟩
  replace hbw := hbw.trans (hb5.sub hsub)
  clear hp
  have hp := hp1
  clear hp1
  refine .done ?_
  exact ⟨[],trivial,(fun h => by cases h),hp.sub hsub hbase,hbw⟩
theorem N_arguments (hC : Cx w0 tv toks) (hD : ∀ m,m < n → DN w0 tv toks m) (hp : Ps w0 tv toks F w bP below k s) (hr : run body n (body .arguments) s = some r) (hb : r.adds ≤ big) :
  Cl Tryz.prog 181 #[.pointer (some ⟨bP,0,none⟩)] w (fun u w' => (Nm.arguments = Nm.statement → u = .bool r.flag) ∧ Ps w0 tv toks F w' bP below k r ∧ Bw F w w') := by
 have hbw := Bw.refl F w
 have hsub : ∀ z,F z → F z := fun z h => h
 have hbase := hp.base
 have hr : run body n (.seq .bump (Cmd.list ⟨#[41]⟩ Cmd.expr)) s = some r := hr
 refine Cl.enter Tryz.func181 rfl Tryz.ntmps181 rfl rfl (.sr (.mv rfl rfl ?_))
 obtain ⟨s1,h1a,h1b⟩ := run_seq' hr
 refine Rg.wd trivial (w_call Tryz.call55 rfl (D_bump hC hp h1a (adds_le h1b hb))) rfl ?_
 rintro _ w1 ⟨hp1,hb1⟩
 replace hbw := hbw.trans (hb1.sub hsub)
 clear hp
 have hp := hp1
 clear hp1
 refine .done (Wp.region (.mv rfl rfl (.mv rfl rfl (.tq (t_makeFuncB (us := [.pointer (some ⟨bP,0,none⟩)]) (vs := []) rfl rfl) rfl (Rg.wd trivial (w_call Tryz.call130 rfl (D_list hC hp (clo_expr hC hD) h1b hb)) rfl ?_)))))
 rintro _ w2 ⟨hp1,hb2⟩
 replace hbw := hbw.trans (hb2.sub hsub)
 clear hp
 have hp := hp1
 clear hp1
 refine .done ?_
 exact ⟨[],trivial,(fun h => by cases h),hp.sub hsub hbase,hbw⟩
theorem clo_170 (hC : Cx w0 tv toks) (hD : ∀ m,m < n → DN w0 tv toks m) {b0 : Nat} (hv_b0 : Var w b0 [.pointer (some ⟨bP,0,none⟩)] 60) (hF_b0 : F b0) : Clo w0 tv toks n F bP 170 [] [.pointer (some ⟨b0,0,none⟩)] w (.seq .bump (.seq Cmd.expr (.call .block))) := by
 refine ⟨Tryz.call170,fun w1 hw1 below k s r hp hr hb => ?_⟩
 replace hv_b0 := var_bw hv_b0 hw1 hF_b0
 show Cl Tryz.prog 170 #[.pointer (some ⟨b0,0,none⟩)] w1 _
 have hbw := Bw.refl F w1
 have hsub : ∀ z,F z → F z := fun z h => h
 have hbase := hp.base
 refine Cl.enter Tryz.func170 rfl Tryz.ntmps170 rfl rfl (.sr (.tq (t_load ty60 rfl (Cells.get (i := 0) hv_b0.cells rfl)) rfl ?_))
 obtain ⟨s1,h1a,h1b⟩ := run_seq' hr
 refine Rg.wd trivial (w_call Tryz.call55 rfl (D_bump hC hp h1a (adds_le h1b hb))) rfl ?_
 rintro _ w1 ⟨hp1,hb1⟩
 replace hv_b0 := var_bw hv_b0 hb1 hF_b0
 replace hbw := hbw.trans (hb1.sub hsub)
 clear hp
 have hp := hp1
 clear hp1
 refine .done (.sr (.tq (t_load ty60 rfl (Cells.get (i := 0) hv_b0.cells rfl)) rfl ?_))
 obtain ⟨s2,h2a,h2b⟩ := run_seq' h1b
 refine Rg.wd trivial (w_call Tryz.call112 rfl (D_expr hC hD hp h2a (adds_le h2b hb))) rfl ?_
 rintro _ w2 ⟨hp1,hb2⟩
 replace hv_b0 := var_bw hv_b0 hb2 hF_b0
 replace hbw := hbw.trans (hb2.sub hsub)
 clear hp
 have hp := hp1
 clear hp1
 refine .done (Wp.region (.tq (t_load ty60 rfl (Cells.get (i := 0) hv_b0.cells rfl)) rfl (Rg.wd trivial (w_call Tryz.call129 rfl (D_call hD hp h2b hb)) rfl ?_)))
 rintro _ w3 ⟨hst,hp1,hb3⟩
 replace hv_b0 := var_bw hv_b0 hb3 hF_b0
 replace hbw := hbw.trans (hb3.sub hsub)
 clear hp
 have hp := hp1
 clear hp1
 refine .done ?_
 exact ⟨[],trivial,hp.sub hsub hbase,hbw⟩
theorem clo_173 (hC : Cx w0 tv toks) (hD : ∀ m,m < n → DN w0 tv toks m) {b0 : Nat} (hv_b0 : Var w b0 [.pointer (some ⟨bP,0,none⟩)] 60) (hF_b0 : F b0) : Clo w0 tv toks n F bP 173 [] [.pointer (some ⟨b0,0,none⟩)] w (.seq .bump (.seq Cmd.expr (Cmd.exp ⟨#[59]⟩))) := by
 refine ⟨Tryz.call173,fun w1 hw1 below k s r hp hr hb => ?_⟩
 replace hv_b0 := var_bw hv_b0 hw1 hF_b0
 show Cl Tryz.prog 173 #[.pointer (some ⟨b0,0,none⟩)] w1 _
 have hbw := Bw.refl F w1
 have hsub : ∀ z,F z → F z := fun z h => h
 have hbase := hp.base
 refine Cl.enter Tryz.func173 rfl Tryz.ntmps173 rfl rfl (.sr (.tq (t_load ty60 rfl (Cells.get (i := 0) hv_b0.cells rfl)) rfl ?_))
 obtain ⟨s1,h1a,h1b⟩ := run_seq' hr
 refine Rg.wd trivial (w_call Tryz.call55 rfl (D_bump hC hp h1a (adds_le h1b hb))) rfl ?_
 rintro _ w1 ⟨hp1,hb1⟩
 replace hv_b0 := var_bw hv_b0 hb1 hF_b0
 replace hbw := hbw.trans (hb1.sub hsub)
 clear hp
 have hp := hp1
 clear hp1
 refine .done (.sr (.tq (t_load ty60 rfl (Cells.get (i := 0) hv_b0.cells rfl)) rfl ?_))
 obtain ⟨s2,h2a,h2b⟩ := run_seq' h1b
 refine Rg.wd trivial (w_call Tryz.call112 rfl (D_expr hC hD hp h2a (adds_le h2b hb))) rfl ?_
 rintro _ w2 ⟨hp1,hb2⟩
 replace hv_b0 := var_bw hv_b0 hb2 hF_b0
 replace hbw := hbw.trans (hb2.sub hsub)
 clear hp
 have hp := hp1
 clear hp1
 refine .done (Wp.region (.tq (t_load ty60 rfl (Cells.get (i := 0) hv_b0.cells rfl)) rfl (Rg.wd trivial (w_call Tryz.call110 rfl (D_exp hC hp h2b hb)) rfl ?_)))
 rintro _ w3 ⟨hp1,hb3⟩
 replace hv_b0 := var_bw hv_b0 hb3 hF_b0
 replace hbw := hbw.trans (hb3.sub hsub)
 clear hp
 have hp := hp1
 clear hp1
 refine .done ?_
 exact ⟨[],trivial,hp.sub hsub hbase,hbw⟩
end
end Go.Proofs.YtcelfjbajdffkaaGreatDoor.Par
