/- Text edits as plain data: what Validate answers and what Apply gives. -/
import Derived.Test.YtcelfjbajdffkaaGreatDoorXc
import Derived.Test.YtcelfjbajdffkaaGreatDoorXa
import Derived.Shelf.Slices.Empties
import Derived.Shelf.Slices.SearchI
import Derived.Ground.Names2Prog
import Derived.Test.YtcelfjbajdffkaaGreatDoorXd
import Derived.Lib.Builder
set_option linter.unusedVariables false
set_option linter.unusedSimpArgs false
namespace Go.Proofs.YtcelfjbajdffkaaGreatDoor.Lexi
open Go.Gx
structure TE where
 a : Int
 b : Int
 s : ByteArray
def TE.cells (e : TE) : List Value := [.int .i64 e.a,.int .i64 e.b,.string e.s]
def tes : List TE → List Value
 | [] => []
 | e :: es => e.cells ++ tes es
theorem tes_length : ∀ es : List TE,(tes es).length = es.length * 3
 | [] => rfl
 | e :: es => by simp [tes,tes_length es,TE.cells]; omega
theorem tes_at : ∀ (es : List TE) (k : Nat) (h : k < es.length),((tes es).drop (k * 3)).take 3 = es[k].cells
 | e :: es,0,_ => by simp [tes,TE.cells]
 | e :: es,k + 1,h => by
  have : (tes (e :: es)).drop ((k + 1) * 3) = (tes es).drop (k * 3) := by
   rw [show (k + 1) * 3 = 3 + k * 3 from by omega,← List.drop_drop]; rfl
  rw [this,tes_at es k (by simpa using h)]; rfl
def lastE : Int → List TE → Int
 | p,[] => p
 | _,e :: es => lastE e.b es
def okE (n : Int) : Int → List TE → Prop
 | _,[] => True
 | p,e :: es => p < e.a ∧ e.a ≤ e.b ∧ e.b ≤ n ∧ okE n e.b es
def growE : List TE → Int
 | [] => 0
 | e :: es => (e.s.size : Int) - (e.b - e.a) + growE es
def appE (s : ByteArray) : Int → List TE → ByteArray
 | _,[] => ⟨#[]⟩
 | off,e :: es => s.extract off.toNat e.a.toNat ++ e.s ++ appE s e.b es
theorem lastE_snoc : ∀ (es : List TE) (p : Int) (e : TE),lastE p (es ++ [e]) = e.b
 | [],_,_ => rfl
 | d :: es,_,e => lastE_snoc es d.b e
theorem okE_snoc (n : Int) : ∀ (es : List TE) (p : Int) (e : TE),okE n p (es ++ [e]) ↔ okE n p es ∧ lastE p es < e.a ∧ e.a ≤ e.b ∧ e.b ≤ n
 | [],p,e => by simp [okE,lastE]
 | d :: es,p,e => by simp only [List.cons_append,okE,lastE,okE_snoc n es d.b e,and_assoc]
theorem growE_snoc : ∀ (es : List TE) (e : TE),growE (es ++ [e]) = growE es + ((e.s.size : Int) - (e.b - e.a))
 | [],e => by simp [growE]
 | d :: es,e => by simp only [List.cons_append,growE,growE_snoc es e]; omega
theorem appE_snoc (s : ByteArray) : ∀ (es : List TE) (off : Int) (e : TE),appE s off (es ++ [e]) = appE s off es ++ (s.extract (lastE off es).toNat e.a.toNat ++ e.s)
 | [],off,e => by
  show s.extract off.toNat e.a.toNat ++ e.s ++ ByteArray.empty = ByteArray.empty ++ (s.extract off.toNat e.a.toNat ++ e.s)
  rw [ByteArray.append_empty,ByteArray.empty_append]
 | d :: es,off,e => by
  simp only [List.cons_append,appE,lastE,appE_snoc s es d.b e,ByteArray.append_assoc]
theorem okE_take {n : Int} : ∀ (es : List TE) {p : Int} (k : Nat),okE n p es → okE n p (es.take k)
 | [],_,_,_ => by simp [okE]
 | e :: es,_,0,_ => by simp [okE]
 | e :: es,_,k + 1,h => ⟨h.1,h.2.1,h.2.2.1,okE_take es k h.2.2.2⟩
theorem okE_at {n : Int} {es : List TE} {p : Int} {k : Nat} (hk : k < es.length) (h : okE n p es) : lastE p (es.take k) < es[k].a ∧ es[k].a ≤ es[k].b ∧ es[k].b ≤ n := by
 have h1 := okE_take es (k + 1) h
 rw [List.take_succ_eq_append_getElem hk,okE_snoc] at h1
 exact h1.2
theorem okE_le {n : Int} : ∀ (es : List TE) {p q : Int},q ≤ p → okE n p es → okE n q es
 | [],_,_,_,h => h
 | e :: es,_,_,hq,h => ⟨by have := h.1; omega,h.2⟩
theorem lastE_le {n : Int} : ∀ (es : List TE) {p : Int},p ≤ n → okE n p es → p ≤ lastE p es ∧ lastE p es ≤ n
 | [],_,hp,h => ⟨Int.le_refl _,hp⟩
 | e :: es,p,hp,h => by
  obtain ⟨h1,h2,h3,h4⟩ := h
  have := lastE_le es h3 h4
  simp only [lastE]; omega
theorem growE_le {n B : Int} (hB : 0 ≤ B) (hn : 0 ≤ n) : ∀ (es : List TE) {p : Int},-1 ≤ p → (∀ e ∈ es,(e.s.size : Int) ≤ B) → okE n p es → -(n * es.length) ≤ growE es ∧ growE es ≤ B * es.length
 | [],_,_,_,_ => by simp [growE]
 | e :: es,p,hp,hs,h => by
  obtain ⟨h1,h2,h3,h4⟩ := h
  have := growE_le hB hn es (p := e.b) (by omega) (fun e he => hs e (List.mem_cons_of_mem _ he)) h4
  have h5 := hs e List.mem_cons_self
  simp only [growE,List.length_cons]
  have e1 : n * ((es.length + 1 : Nat) : Int) = n * es.length + n := by rw [Int.natCast_add,Int.mul_add]; simp
  have e2 : B * ((es.length + 1 : Nat) : Int) = B * es.length + B := by rw [Int.natCast_add,Int.mul_add]; simp
  rw [e1,e2]
  omega
theorem appE_size {s : ByteArray} : ∀ (es : List TE) {off : Int},0 ≤ off → off ≤ s.size → okE s.size (off - 1) es → ((appE s off es).size : Int) = lastE off es - off + growE es
 | [],off,h0,h1,h => by simp [appE,lastE,growE,ByteArray.size]
 | e :: es,off,h0,h1,h => by
  obtain ⟨h2,h3,h4,h5⟩ := h
  have := appE_size es (off := e.b) (by omega) h4 (okE_le es (by omega) h5)
  simp only [appE,lastE,growE,ByteArray.size_append,ByteArray.size_extract]
  omega
theorem appE_take (s : ByteArray) : ∀ (es : List TE) (off : Int) (k : Nat),(appE s off (es.take k)).size ≤ (appE s off es).size
 | [],_,_ => by simp
 | e :: es,_,0 => by
  simp only [List.take_zero,appE]
  exact Nat.zero_le _
 | e :: es,_,k + 1 => by
  have := appE_take s es e.b k
  simp only [List.take_succ_cons,appE,ByteArray.size_append]
  omega
open Classical in
noncomputable def codeE (n : Nat) (es : List TE) : Int := if n > 2000 ∨ es.length > 50 then 2 else if ¬ okE n (-1) es then 3 else if n + growE es > 2000 then 2 else 0
theorem codeE_zero {n : Nat} {es : List TE} (h : codeE n es = 0) : n ≤ 2000 ∧ es.length ≤ 50 ∧ okE n (-1) es ∧ n + growE es ≤ 2000 := by
 unfold codeE at h
 split at h
 ·omega
 ·split at h
  ·omega
  ·split at h
   ·omega
   ·rename_i h1 h2 h3
    exact ⟨by omega,by omega,Classical.not_not.1 h2,by omega⟩
def outE (s : ByteArray) (es : List TE) : ByteArray := appE s 0 es ++ s.extract (lastE 0 es).toNat s.size
theorem last0 {n : Int} {es : List TE} (hn : 0 ≤ n) (h : okE n (-1) es) (k : Nat) : 0 ≤ lastE 0 (es.take k) ∧ lastE 0 (es.take k) ≤ n := by
 have h1 := okE_take es k h
 cases h2 : es.take k with
 | nil => exact ⟨Int.le_refl _,hn⟩
 | cons e l =>
  rw [h2] at h1
  obtain ⟨h3,h4,h5,h6⟩ := h1
  have := lastE_le l h5 h6
  simp only [lastE]; omega
theorem outE_size {s : ByteArray} {es : List TE} (h : okE s.size (-1) es) : ((outE s es).size : Int) = s.size + growE es := by
 have h1 := appE_size es (off := 0) (Int.le_refl _) (by omega) h
 have h2 := last0 (by omega) h es.length
 rw [List.take_length] at h2
 simp only [outE,ByteArray.size_append,ByteArray.size_extract]
 omega
theorem appE_le {s : ByteArray} {es : List TE} (h : codeE s.size es = 0) (k : Nat) : (appE s 0 (es.take k)).size ≤ 2000 ∧ (outE s es).size ≤ 2000 := by
 obtain ⟨h1,h2,h3,h4⟩ := codeE_zero h
 have h5 := outE_size h3
 have h6 := appE_take s es 0 k
 have h7 : (appE s 0 es).size ≤ (outE s es).size := by simp [outE]
 omega
theorem at0 {n : Nat} {es : List TE} {k : Nat} (hk : k < es.length) (h : codeE n es = 0) : 0 ≤ lastE 0 (es.take k) ∧ lastE 0 (es.take k) ≤ es[k].a ∧ es[k].a ≤ es[k].b ∧ es[k].b ≤ n := by
 obtain ⟨h1,h2,h3,h4⟩ := codeE_zero h
 have h5 := okE_at hk h3
 have h6 := last0 (Int.natCast_nonneg n) h3 k
 cases h7 : es.take k with
 | nil =>
  rw [h7] at h5
  simp only [lastE] at h5 ⊢
  omega
 | cons e l =>
  rw [h7] at h5 h6
  simp only [lastE] at h5 h6 ⊢
  omega
end Go.Proofs.YtcelfjbajdffkaaGreatDoor.Lexi
namespace Go.Proofs
open Go.Shelf
def Tryz.laysNm225_ren : Go.Shelf.Ren := ⟨fun | 25 => 117 | 31 => 147 | 32 => 148 | 37 => 165 | n => n,fun | 22 => 51 | 3 => 3 | 4 => 4 | 40 => 147 | 0 => 0 | n => n,fun | n => n⟩
theorem Tryz.laysNm225 : Go.Proofs.Lays2.n25 Tryz.prog Tryz.laysNm225_ren := {
 mixed := by kernel_rfl
 f25 := Tryz.func117.trans (congrArg some (by kernel_rfl))
 f31 := Tryz.func147.trans (congrArg some (by kernel_rfl))
 f32 := Tryz.func148.trans (congrArg some (by kernel_rfl))
 f37 := Tryz.func165.trans (congrArg some (by kernel_rfl))
 t0 := Tryz.underlying0
 a0 := Tryz.isAgg0
 z0 := Tryz.sizeOf0
 v0 := Tryz.zeroValue0
 t3 := Tryz.underlying3
 a3 := Tryz.isAgg3
 z3 := Tryz.sizeOf3
 v3 := Tryz.zeroValue3
 t4 := Tryz.underlying4
 a4 := Tryz.isAgg4
 z4 := Tryz.sizeOf4
 v4 := Tryz.zeroValue4
 t22 := Tryz.underlying51
 a22 := Tryz.isAgg51
 z22 := Tryz.sizeOf51
 v22 := Tryz.zeroValue51
 t40 := Tryz.underlying147
 a40 := Tryz.isAgg147
 z40 := Tryz.sizeOf147
 v40 := Tryz.zeroValue147 }
open Go.RowKit Go.Lib in
theorem Tryz.slices_BinarySearch_int (b off n c : Nat) (zs : List Int) (x : Int) (w : World) (hz : n ≤ zs.length) (hbig : n < 4611686018427387904) (hc : ∀ j,j < zs.length → w.cell? ⟨b,off + j,none⟩ = some (.int .i64 (zs.getD j 0))) (hs : (zs.take n).Pairwise (· ≤ ·)) :
  Calls Tryz.prog 117 #[.slice (some ⟨b,off,none⟩) n c,.int .i64 x] w fun e w' => e = .returned (.tuple #[.int .i64 ((zs.take n).countP (· < x) : Nat),.bool ((zs.take n).contains x)]) ∧ ∃ q,w' = w.drewN q := Any.slices_BinarySearch_int Tryz.laysNm225 b off n c zs x w hz hbig hc hs
open Go.RowKit Go.Lib in
theorem Tryz.slices_BinarySearch_int_empty (a : Option Addr) (c : Nat) (x : Int) (w : World) :
  Calls Tryz.prog 117 #[.slice a 0 c,.int .i64 x] w fun e w' => e = .returned (.tuple #[.int .i64 0,.bool false]) ∧ w' = w := Any.slices_BinarySearch_int_empty Tryz.laysNm225 a c x w
end Go.Proofs
namespace Go.Proofs.YtcelfjbajdffkaaGreatDoor.Lexi
set_option maxRecDepth 20000
open Go.Gx Go.RowKit Go.Lib
theorem below_own2 {B : Nat} {w w' : World} {v : Value} {row : List Value} {e size n : Nat} (h : w.ownsRow B e size v n row) (hg : w.grownBy w' v.ownBlock) (hB : B ≤ w.heap.size) : Below B w w' :=
 (Below.refl B w).grown hg hB (fun k hk => (h.lt k hk).1)
theorem strCells_add (a b : ByteArray) : strCells (a ++ b) = strCells a ++ strCells b := by simp [strCells]
theorem lies53 : liesAt Tryz.prog Tryz.prog.depth 86 (2 / Tryz.prog.cellsOf 86) 0 86 1 = true := by kernel_rfl
theorem isB_ext {B b : Nat} {bs : List Value} {w w' : World} (h : IsBuilder 86 5 B b bs w) (k : Ext w w') : IsBuilder 86 5 B b bs w' :=
 h.imp (fun ⟨hB,v,hb,hown,hne⟩ => ⟨hB,v,Var.ext (cs := [_,v]) hb k,own_ext hown k,hne⟩) (fun ⟨hB,v,hb,hown,hne⟩ => ⟨hB,v,Var.ext (cs := [_,v]) hb k,own_ext hown k,hne⟩)
def KeepV (b : Nat) (w w' : World) : Prop := ∀ c cs t,c ≠ b → t ≠ 5 → Var w c cs t → Var w' c cs t
theorem KeepV.refl (b : Nat) (w : World) : KeepV b w w := fun _ _ _ _ _ h => h
theorem KeepV.trans {b : Nat} {w w' w'' : World} (h : KeepV b w w') (k : KeepV b w' w'') : KeepV b w w'' := fun c cs t h1 h2 h3 => k c cs t h1 h2 (h c cs t h1 h2 h3)
theorem KeepV.setCell (b o : Nat) (w : World) (v : Value) : KeepV b w (w.setCell ⟨b,o,none⟩ v) := fun c cs t h1 h2 h3 => by
 unfold Var at *
 rw [Below.heap_setCell _ _ _ _ (fun e => h1 e)]
 exact h3
theorem KeepV.grown {B b n : Nat} {w w' : World} {v : Value} {xs : List Value} (h : w.ownsRow B 5 1 v n xs) (hg : w.grownBy w' v.ownBlock) : KeepV b w w' := fun c cs t h1 h2 h3 => by
 have hlt := h3.lt
 unfold Var at *
 rw [hg.block c hlt (fun e => ?_)]
 ·exact h3
 ·obtain ⟨_,h | ⟨g,cap,cur,rfl,_,hh,_⟩⟩ := h
  ·rw [h.1] at e; cases e
  ·obtain rfl : c = g := by simpa [Value.ownBlock] using e
   rw [h3] at hh
   simp only [Option.some.injEq,Obj.cells.injEq] at hh
   exact h2 hh.2.1
theorem copyCheck_k {B b : Nat} {bs : List Value} {w : World} (h : IsBuilder 86 5 B b bs w) :
  Cl Tryz.prog 86 #[.pointer (some ⟨b,0,none⟩)] w (fun u w' => u = .tuple #[] ∧ BuilderAt 86 5 B b (.pointer (some ⟨b,0,none⟩)) bs w' ∧ Below B w w' ∧ KeepV b w w') := by
 obtain ⟨j,hj,_,hjs,_⟩ := inf86
 rcases h with h | h
 ·have hc : Cells w b 0 [.pointer none] := fun i v hv => by
   match i,hv with
   | 0,hv => simp at hv; subst hv; exact h.cell0
  refine Cl.enter Tryz.func86 rfl Tryz.ntmps86 rfl rfl (.sr (.mv rfl rfl (.tq (t_nilCheck rfl) rfl (.tq (t_fieldAddr fa86_0 rfl) rfl ?_))))
  refine .tq (t_load ty83 rfl (by apply Cells.get (i := 0); (case h => assumption); rfl)) rfl ?_
  first | refine .tq (t_peqT pt83 rfl rfl) rfl ?_ | refine .tq (t_peqF pt83 rfl rfl) rfl ?_
  refine .done (.condT rfl (Wp.region (.mv rfl rfl (.mv rfl rfl ?_))))
  refine Rg.wd trivial (w_toUnsafe Tryz.underlying83 Tryz.underlying139 hj (by rw [hjs]; decide) h.shape (Nat.zero_lt_succ 1) rfl) rfl ?_
  rintro _ _ ⟨rfl,rfl⟩
  refine Rg.wd trivial (w_extern Tryz.func119 (by kernel_rfl) (by kernel_rfl) (by kernel_rfl) (e := Extern.AbiNoEscape.same) (by kernel_rfl) (R := fun u w' => u = .pointer (some ⟨b,0,none⟩) ∧ w = w') rfl ⟨_,_,Lib.run_noEscape _ _,rfl,rfl⟩) rfl ?_
  rintro _ _ ⟨rfl,rfl⟩
  refine Rg.wd trivial (w_fromUnsafe Tryz.underlying139 Tryz.underlying83 hj h.shape lies53 rfl) rfl ?_
  rintro _ _ ⟨rfl,rfl⟩
  refine .tq (t_nilCheck rfl) rfl (.tq (t_fieldAddr fa86_0 rfl) rfl (Rg.wn trivial (w_set ty83 rfl rfl h.cell0 h.frozen0 rfl rfl) ?_))
  rintro _ w2 rfl
  refine .done ?_
  exact ⟨[],trivial,rfl,h.used _,(Below.refl _ _).setCell h.1 _,KeepV.setCell _ _ _ _⟩
 ·have hc : Cells w b 0 [.pointer (some ⟨b,0,none⟩)] := fun i v hv => by
   match i,hv with
   | 0,hv => simp at hv; subst hv; exact h.cell0
  refine Cl.enter Tryz.func86 rfl Tryz.ntmps86 rfl rfl (.sr (.mv rfl rfl (.tq (t_nilCheck rfl) rfl (.tq (t_fieldAddr fa86_0 rfl) rfl ?_))))
  refine .tq (t_load ty83 rfl (by apply Cells.get (i := 0); (case h => assumption); rfl)) rfl ?_
  first | refine .tq (t_peqT pt83 rfl rfl) rfl ?_ | refine .tq (t_peqF pt83 rfl rfl) rfl ?_
  refine .done (.condF rfl (.sr (.mv rfl rfl (.tq (t_nilCheck rfl) rfl (.tq (t_fieldAddr fa86_0 rfl) rfl ?_)))))
  refine .tq (t_load ty83 rfl (by apply Cells.get (i := 0); (case h => assumption); rfl)) rfl ?_
  refine .mv rfl rfl (.tq (t_pneSame Tryz.underlying83 hj rfl rfl) rfl (.done (.condF rfl (Wp.skip ?_))))
  exact ⟨[],trivial,rfl,h,Below.refl _ _,KeepV.refl _ _⟩
theorem writeString_k {B b : Nat} {bs : List Value} {s : ByteArray} {w : World} (h : IsBuilder 86 5 B b bs w) (hlen : bs.length + s.size ≤ 140737488355328) (hBw : B ≤ w.heap.size) :
  Cl Tryz.prog 44 #[.pointer (some ⟨b,0,none⟩),.string s] w (fun u w' => u = .tuple #[.int .i64 s.size,.nilIface] ∧ BuilderAt 86 5 B b (.pointer (some ⟨b,0,none⟩)) (bs ++ strCells s) w' ∧ Below B w w' ∧ KeepV b w w') := by
 obtain ⟨i,hi,hz,hs,hby⟩ := inf5
 refine Cl.enter Tryz.func44 rfl Tryz.ntmps44 rfl rfl (.sr (.as rfl rfl (.as rfl rfl (.done (.sr (.mv rfl rfl (Rg.wd trivial (w_call Tryz.call86 rfl (copyCheck_k h)) rfl ?_)))))))
 rintro _ w1 ⟨rfl,h1,hb1,hk1⟩
 obtain ⟨hB,v,hbk,hown,hne⟩ := h1
 have hc : Cells w1 b 0 [.pointer (some ⟨b,0,none⟩),v] := Var.cells (t := 86) hbk
 have hle := hb1.size
 refine .done (.sr (.mv rfl rfl (.mv rfl rfl (.tq (t_nilCheck rfl) rfl (.tq (t_fieldAddr fa86_1 rfl) rfl ?_)))))
 refine .tq (t_load ty84 rfl (by apply Cells.get (i := 1); (case h => assumption); rfl)) rfl ?_
 refine .mv rfl rfl ?_
 refine Rg.wd trivial (w_appendStr B Tryz.underlying84 Tryz.underlying9 hi hz hs hby rfl rfl hown hlen (by omega)) rfl ?_
 rintro v2 w2 ⟨hown2,hg,p2,l2,c2,rfl⟩
 have hlt : b < w1.heap.size := hc.lt
 have hbk2 : w2.heap[b]? = some (.cells #[.pointer (some ⟨b,0,none⟩),v] 86 (0,0)) := by rw [hg.block b hlt (fun e => hne e.symm)]; exact hbk
 have hle2 := hg.size
 refine .tq (t_nilCheck rfl) rfl (.tq (t_fieldAddr fa86_1 rfl) rfl (Rg.wn trivial (w_set ty84 rfl rfl (cell_of_heap hbk2 1) (frozen_of_heap hbk2 1) rfl rfl) ?_))
 rintro _ w3 rfl
 refine .done (.sr (.mv rfl rfl (.tq (t_len Tryz.underlying9 rfl) rfl (.as rfl rfl (.as rfl rfl (.done (Wp.ret ?_)))))))
 refine ⟨[_,_],⟨rfl,rfl,trivial⟩,rfl,?_,?_,?_⟩
 ·exact BuilderAt.put (T := 86) (e := 5) hB hbk2 (bs' := bs ++ strCells s) (by simpa [strCells_length] using hown2) (by decide)
 ·exact (hb1.trans (below_own2 hown hg (by omega))).setCell (p := ⟨b,1,none⟩) hB _
 ·exact (hk1.trans (KeepV.grown hown hg)).trans (KeepV.setCell _ _ _ _)
theorem validate_ok {s : ByteArray} {es : List TE} {w : World} {v : Value} (hs0 : SlC w v 3 es.length (tes es)) (hsz : s.size < 4611686018427387904) (hlen : es.length < 4611686018427387904) (hb : ∀ e ∈ es,(e.s.size : Int) ≤ 140737488355328) :
  Cl Tryz.prog 34 #[.string s,v] w (fun u w' => u = .int .i64 (codeE s.size es) ∧ Ext w w') := by
 have hx := Ext.refl w
 by_cases hbig : s.size > 2000 ∨ es.length > 50
 ·have e0 : codeE s.size es = 2 := by unfold codeE; rw [if_pos hbig]
  rw [e0]
  by_cases hbig1 : s.size > 2000
  all_goals
   refine Cl.enter Tryz.func34 rfl Tryz.ntmps34 rfl rfl (.sr (.as rfl rfl (.done (.seq (.sr (.mv rfl rfl (.tq (t_len Tryz.underlying9 rfl) rfl ?_)))))))
   first | refine .tq (t_gtrT rfl rfl (by omega)) rfl ?_ | refine .tq (t_gtrF rfl rfl (by omega)) rfl ?_ | refine .tq (t_gtr rfl rfl) rfl ?_
   refine .mv rfl rfl ?_
   first | refine .gd (t_move rfl) rfl ?_ | refine Rg.sk (.inl ⟨_,_,rfl,rfl,rfl⟩) rfl ?_ | refine Rg.sk (.inr ⟨_,rfl,rfl⟩) rfl ?_
   first | refine .gd (t_lenC hs0 Tryz.underlying45 rfl) rfl ?_ | refine Rg.sk (.inl ⟨_,_,rfl,rfl,rfl⟩) rfl ?_ | refine Rg.sk (.inr ⟨_,rfl,rfl⟩) rfl ?_
   first | refine .gd (t_gtrT rfl rfl (by omega)) rfl ?_ | refine .gd (t_gtrF rfl rfl (by omega)) rfl ?_ | refine .gd (t_gtr rfl rfl) rfl ?_ | refine Rg.sk (.inl ⟨_,_,rfl,rfl,rfl⟩) rfl ?_ | refine Rg.sk (.inr ⟨_,rfl,rfl⟩) rfl ?_
   first | refine .tq (t_pickT rfl rfl) rfl ?_ | refine .tq (t_pickF rfl rfl) rfl ?_
   refine .done (.condT rfl (.sr (.as rfl rfl (.done (Wp.ret ?_)))))
   exact ⟨[_],⟨rfl,trivial⟩,rfl,hx⟩
 have n1 : s.size ≤ 2000 := by omega
 have n2 : es.length ≤ 50 := by omega
 refine Cl.enter Tryz.func34 rfl Tryz.ntmps34 rfl rfl (.sr (.as rfl rfl (.done (.seq (.sr (.mv rfl rfl (.tq (t_len Tryz.underlying9 rfl) rfl ?_)))))))
 first | refine .tq (t_gtrT rfl rfl (by omega)) rfl ?_ | refine .tq (t_gtrF rfl rfl (by omega)) rfl ?_ | refine .tq (t_gtr rfl rfl) rfl ?_
 refine .mv rfl rfl ?_
 first | refine .gd (t_move rfl) rfl ?_ | refine Rg.sk (.inl ⟨_,_,rfl,rfl,rfl⟩) rfl ?_ | refine Rg.sk (.inr ⟨_,rfl,rfl⟩) rfl ?_
 first | refine .gd (t_lenC hs0 Tryz.underlying45 rfl) rfl ?_ | refine Rg.sk (.inl ⟨_,_,rfl,rfl,rfl⟩) rfl ?_ | refine Rg.sk (.inr ⟨_,rfl,rfl⟩) rfl ?_
 first | refine .gd (t_gtrT rfl rfl (by omega)) rfl ?_ | refine .gd (t_gtrF rfl rfl (by omega)) rfl ?_ | refine .gd (t_gtr rfl rfl) rfl ?_ | refine Rg.sk (.inl ⟨_,_,rfl,rfl,rfl⟩) rfl ?_ | refine Rg.sk (.inr ⟨_,rfl,rfl⟩) rfl ?_
 first | refine .tq (t_pickT rfl rfl) rfl ?_ | refine .tq (t_pickF rfl rfl) rfl ?_
 refine .done (.condF rfl (Wp.skip (.sr (.mv rfl rfl (.tq (t_len Tryz.underlying9 rfl) rfl (.as rfl rfl (.as rfl rfl (.done (.seq (.sr (.mv rfl rfl (.tq (t_lenC hs0 Tryz.underlying45 rfl) rfl ?_))))))))))))
 refine .mv rfl rfl (.done (Wp.block ?_))
 refine Wp.loop (ι := Nat) (fun k => [(0,.string s),(1,v),(5,.int .i64 (lastE (-1) (es.take k))),(6,.int .i64 (s.size + growE (es.take k))),(19,v),(20,.int .i64 es.length),(21,.int .i64 k)])
  (fun k w' => k ≤ es.length ∧ okE s.size (-1) (es.take k) ∧ Ext w w')
  (fun k => es.length - k) 0 (by repeat (first | exact .nil | refine .cons (by first | rfl | simp [growE,lastE]) ?_)) ⟨Nat.zero_le _,trivial,hx⟩ ?_
 clear hx
 rintro k w3 ⟨hk,hok,hx⟩
 have gl := growE_le (n := s.size) (B := 140737488355328) (by omega) (by omega) (es.take k) (p := -1) (by omega) (fun e he => hb e (List.mem_of_mem_take he)) hok
 rw [List.length_take_of_le hk] at gl
 have gl2 : -102400 ≤ growE (es.take k) ∧ growE (es.take k) ≤ 7036874417766400 := by
  have q1 : (s.size : Int) * (k : Int) ≤ 2000 * 50 := Int.mul_le_mul (by omega) (by omega) (by omega) (by omega)
  have q2 : (140737488355328 : Int) * k ≤ 140737488355328 * 50 := by omega
  omega
 have ll := lastE_le (n := s.size) (es.take k) (p := -1) (by omega) hok
 by_cases hlt : k < es.length
 ·have kle := hx.le
  refine .sr ?_
  first | refine .tq (t_lssT rfl rfl (by omega)) rfl ?_ | refine .tq (t_lssF rfl rfl (by omega)) rfl ?_ | refine .tq (t_lss rfl rfl) rfl ?_
  refine .done (.seq (.condT rfl (Wp.skip (.seq (Wp.block (.sr ?_))))))
  refine Rg.ix hs0 trivial rfl rfl Tryz.underlying45 ty41 (by omega) rfl ?_
  intro bt23 ot23 ht23
  replace ht23 := ht23.ext hx
  rw [Int.toNat_natCast,tes_at es k hlt] at ht23
  have hbk := hb _ (List.getElem_mem hlt)
  obtain ⟨e,he⟩ : ∃ e,es[k] = e := ⟨_,rfl⟩
  rw [he] at ht23 hbk
  unfold TE.cells at ht23
  refine .tq (t_loadA rfl ht23 ty41) rfl (Rg.wd trivial (w_new Tryz.zeroValue41 rfl) rfl ?_)
  rintro _ w1 ⟨b8,rfl,qb8,hx1,hv8⟩
  replace hx := hx.ext hx1
  replace ht23 := ht23.ext hx1
  refine Rg.wn trivial (w_put hv8 rfl rfl rfl ty41 rfl rfl) ?_
  rintro _ w70 ⟨hu,hv8'⟩
  replace hx := hx.upd hu (by omega)
  clear hv8 hu ht23
  have hc8 := hv8'.cells
  clear hv8'
  refine .done (.seq ?_)
  by_cases hok2 : lastE (-1) (es.take k) < e.a ∧ e.a ≤ e.b ∧ e.b ≤ s.size
  ·obtain ⟨o1,o2,o3⟩ := hok2
   refine .sr (.tq (t_fieldAddr fa41_0 rfl) rfl ?_)
   refine .tq (t_load ty3 rfl (by apply Cells.get (i := 0); (case h => assumption); rfl)) rfl ?_
   refine .mv rfl rfl ?_
   first | refine .tq (t_leqT rfl rfl (by omega)) rfl ?_ | refine .tq (t_leqF rfl rfl (by omega)) rfl ?_ | refine .tq (t_leq rfl rfl) rfl ?_
   refine .mv rfl rfl ?_
   first | refine .gd (t_fieldAddr fa41_1 rfl) rfl ?_ | refine Rg.sk (.inl ⟨_,_,rfl,rfl,rfl⟩) rfl ?_ | refine Rg.sk (.inr ⟨_,rfl,rfl⟩) rfl ?_
   first | refine .gd (t_load ty3 rfl (by apply Cells.get (i := 1); (case h => assumption); rfl)) rfl ?_ | refine Rg.sk (.inl ⟨_,_,rfl,rfl,rfl⟩) rfl ?_ | refine Rg.sk (.inr ⟨_,rfl,rfl⟩) rfl ?_
   first | refine .gd (t_fieldAddr fa41_0 rfl) rfl ?_ | refine Rg.sk (.inl ⟨_,_,rfl,rfl,rfl⟩) rfl ?_ | refine Rg.sk (.inr ⟨_,rfl,rfl⟩) rfl ?_
   first | refine .gd (t_load ty3 rfl (by apply Cells.get (i := 0); (case h => assumption); rfl)) rfl ?_ | refine Rg.sk (.inl ⟨_,_,rfl,rfl,rfl⟩) rfl ?_ | refine Rg.sk (.inr ⟨_,rfl,rfl⟩) rfl ?_
   first | refine .gd (t_lssT rfl rfl (by omega)) rfl ?_ | refine .gd (t_lssF rfl rfl (by omega)) rfl ?_ | refine .gd (t_lss rfl rfl) rfl ?_ | refine Rg.sk (.inl ⟨_,_,rfl,rfl,rfl⟩) rfl ?_ | refine Rg.sk (.inr ⟨_,rfl,rfl⟩) rfl ?_
   first | refine .tq (t_pickT rfl rfl) rfl ?_ | refine .tq (t_pickF rfl rfl) rfl ?_
   refine .mv rfl rfl ?_
   first | refine .gd (t_fieldAddr fa41_1 rfl) rfl ?_ | refine Rg.sk (.inl ⟨_,_,rfl,rfl,rfl⟩) rfl ?_ | refine Rg.sk (.inr ⟨_,rfl,rfl⟩) rfl ?_
   first | refine .gd (t_load ty3 rfl (by apply Cells.get (i := 1); (case h => assumption); rfl)) rfl ?_ | refine Rg.sk (.inl ⟨_,_,rfl,rfl,rfl⟩) rfl ?_ | refine Rg.sk (.inr ⟨_,rfl,rfl⟩) rfl ?_
   first | refine .gd (t_move rfl) rfl ?_ | refine Rg.sk (.inl ⟨_,_,rfl,rfl,rfl⟩) rfl ?_ | refine Rg.sk (.inr ⟨_,rfl,rfl⟩) rfl ?_
   first | refine .gd (t_len Tryz.underlying9 rfl) rfl ?_ | refine Rg.sk (.inl ⟨_,_,rfl,rfl,rfl⟩) rfl ?_ | refine Rg.sk (.inr ⟨_,rfl,rfl⟩) rfl ?_
   first | refine .gd (t_gtrT rfl rfl (by omega)) rfl ?_ | refine .gd (t_gtrF rfl rfl (by omega)) rfl ?_ | refine .gd (t_gtr rfl rfl) rfl ?_ | refine Rg.sk (.inl ⟨_,_,rfl,rfl,rfl⟩) rfl ?_ | refine Rg.sk (.inr ⟨_,rfl,rfl⟩) rfl ?_
   first | refine .tq (t_pickT rfl rfl) rfl ?_ | refine .tq (t_pickF rfl rfl) rfl ?_
   refine .done (.condF rfl (Wp.skip (.sr (.tq (t_fieldAddr fa41_1 rfl) rfl ?_))))
   refine .tq (t_load ty3 rfl (by apply Cells.get (i := 1); (case h => assumption); rfl)) rfl ?_
   refine .as rfl rfl (.done (Wp.region (.mv rfl rfl (.tq (t_fieldAddr fa41_2 rfl) rfl ?_))))
   refine .tq (t_load ty9 rfl (by apply Cells.get (i := 2); (case h => assumption); rfl)) rfl ?_
   refine .tq (t_len Tryz.underlying9 rfl) rfl (.tq (t_fieldAddr fa41_1 rfl) rfl ?_)
   refine .tq (t_load ty3 rfl (by apply Cells.get (i := 1); (case h => assumption); rfl)) rfl ?_
   refine .tq (t_fieldAddr fa41_0 rfl) rfl ?_
   refine .tq (t_load ty3 rfl (by apply Cells.get (i := 0); (case h => assumption); rfl)) rfl ?_
   first | refine .tq (t_subI rfl rfl (by omega)) rfl ?_ | refine .tq (t_sub rfl rfl) rfl ?_
   first | refine .tq (t_subI rfl rfl (by omega)) rfl ?_ | refine .tq (t_sub rfl rfl) rfl ?_
   first | refine .tq (t_addI rfl rfl (by omega)) rfl ?_ | refine .tq (t_add rfl rfl) rfl ?_
   refine .as rfl rfl (.done (Wp.region ?_))
   first | refine .tq (t_addI rfl rfl (by omega)) rfl ?_ | refine .tq (t_add rfl rfl) rfl ?_
   refine .mv rfl rfl (.done ?_)
   refine ⟨k + 1,?_,⟨hlt,?_,hx⟩,by omega⟩
   ·rw [List.take_succ_eq_append_getElem hlt,lastE_snoc,growE_snoc,he,← Int.add_assoc]
    repeat (first | exact .nil | refine .cons rfl ?_)
   ·rw [List.take_succ_eq_append_getElem hlt,okE_snoc,he]
    exact ⟨hok,o1,o2,o3⟩
  ·have e0 : codeE s.size es = 3 := by
    unfold codeE
    rw [if_neg (by omega),if_pos]
    intro hall
    have := okE_at hlt hall
    rw [he] at this
    exact hok2 this
   rw [e0]
   by_cases hA : e.a ≤ lastE (-1) (es.take k)
   ·skip
    refine .sr (.tq (t_fieldAddr fa41_0 rfl) rfl ?_)
    refine .tq (t_load ty3 rfl (by apply Cells.get (i := 0); (case h => assumption); rfl)) rfl ?_
    refine .mv rfl rfl ?_
    first | refine .tq (t_leqT rfl rfl (by omega)) rfl ?_ | refine .tq (t_leqF rfl rfl (by omega)) rfl ?_ | refine .tq (t_leq rfl rfl) rfl ?_
    refine .mv rfl rfl ?_
    first | refine .gd (t_fieldAddr fa41_1 rfl) rfl ?_ | refine Rg.sk (.inl ⟨_,_,rfl,rfl,rfl⟩) rfl ?_ | refine Rg.sk (.inr ⟨_,rfl,rfl⟩) rfl ?_
    first | refine .gd (t_load ty3 rfl (by apply Cells.get (i := 1); (case h => assumption); rfl)) rfl ?_ | refine Rg.sk (.inl ⟨_,_,rfl,rfl,rfl⟩) rfl ?_ | refine Rg.sk (.inr ⟨_,rfl,rfl⟩) rfl ?_
    first | refine .gd (t_fieldAddr fa41_0 rfl) rfl ?_ | refine Rg.sk (.inl ⟨_,_,rfl,rfl,rfl⟩) rfl ?_ | refine Rg.sk (.inr ⟨_,rfl,rfl⟩) rfl ?_
    first | refine .gd (t_load ty3 rfl (by apply Cells.get (i := 0); (case h => assumption); rfl)) rfl ?_ | refine Rg.sk (.inl ⟨_,_,rfl,rfl,rfl⟩) rfl ?_ | refine Rg.sk (.inr ⟨_,rfl,rfl⟩) rfl ?_
    first | refine .gd (t_lssT rfl rfl (by omega)) rfl ?_ | refine .gd (t_lssF rfl rfl (by omega)) rfl ?_ | refine .gd (t_lss rfl rfl) rfl ?_ | refine Rg.sk (.inl ⟨_,_,rfl,rfl,rfl⟩) rfl ?_ | refine Rg.sk (.inr ⟨_,rfl,rfl⟩) rfl ?_
    first | refine .tq (t_pickT rfl rfl) rfl ?_ | refine .tq (t_pickF rfl rfl) rfl ?_
    refine .mv rfl rfl ?_
    first | refine .gd (t_fieldAddr fa41_1 rfl) rfl ?_ | refine Rg.sk (.inl ⟨_,_,rfl,rfl,rfl⟩) rfl ?_ | refine Rg.sk (.inr ⟨_,rfl,rfl⟩) rfl ?_
    first | refine .gd (t_load ty3 rfl (by apply Cells.get (i := 1); (case h => assumption); rfl)) rfl ?_ | refine Rg.sk (.inl ⟨_,_,rfl,rfl,rfl⟩) rfl ?_ | refine Rg.sk (.inr ⟨_,rfl,rfl⟩) rfl ?_
    first | refine .gd (t_move rfl) rfl ?_ | refine Rg.sk (.inl ⟨_,_,rfl,rfl,rfl⟩) rfl ?_ | refine Rg.sk (.inr ⟨_,rfl,rfl⟩) rfl ?_
    first | refine .gd (t_len Tryz.underlying9 rfl) rfl ?_ | refine Rg.sk (.inl ⟨_,_,rfl,rfl,rfl⟩) rfl ?_ | refine Rg.sk (.inr ⟨_,rfl,rfl⟩) rfl ?_
    first | refine .gd (t_gtrT rfl rfl (by omega)) rfl ?_ | refine .gd (t_gtrF rfl rfl (by omega)) rfl ?_ | refine .gd (t_gtr rfl rfl) rfl ?_ | refine Rg.sk (.inl ⟨_,_,rfl,rfl,rfl⟩) rfl ?_ | refine Rg.sk (.inr ⟨_,rfl,rfl⟩) rfl ?_
    first | refine .tq (t_pickT rfl rfl) rfl ?_ | refine .tq (t_pickF rfl rfl) rfl ?_
    refine .done (.condT rfl (.sr (.as rfl rfl (.done (Wp.ret ?_)))))
    exact ⟨[_],⟨rfl,trivial⟩,rfl,hx⟩
   ·by_cases hB : e.b < e.a
    ·skip
     refine .sr (.tq (t_fieldAddr fa41_0 rfl) rfl ?_)
     refine .tq (t_load ty3 rfl (by apply Cells.get (i := 0); (case h => assumption); rfl)) rfl ?_
     refine .mv rfl rfl ?_
     first | refine .tq (t_leqT rfl rfl (by omega)) rfl ?_ | refine .tq (t_leqF rfl rfl (by omega)) rfl ?_ | refine .tq (t_leq rfl rfl) rfl ?_
     refine .mv rfl rfl ?_
     first | refine .gd (t_fieldAddr fa41_1 rfl) rfl ?_ | refine Rg.sk (.inl ⟨_,_,rfl,rfl,rfl⟩) rfl ?_ | refine Rg.sk (.inr ⟨_,rfl,rfl⟩) rfl ?_
     first | refine .gd (t_load ty3 rfl (by apply Cells.get (i := 1); (case h => assumption); rfl)) rfl ?_ | refine Rg.sk (.inl ⟨_,_,rfl,rfl,rfl⟩) rfl ?_ | refine Rg.sk (.inr ⟨_,rfl,rfl⟩) rfl ?_
     first | refine .gd (t_fieldAddr fa41_0 rfl) rfl ?_ | refine Rg.sk (.inl ⟨_,_,rfl,rfl,rfl⟩) rfl ?_ | refine Rg.sk (.inr ⟨_,rfl,rfl⟩) rfl ?_
     first | refine .gd (t_load ty3 rfl (by apply Cells.get (i := 0); (case h => assumption); rfl)) rfl ?_ | refine Rg.sk (.inl ⟨_,_,rfl,rfl,rfl⟩) rfl ?_ | refine Rg.sk (.inr ⟨_,rfl,rfl⟩) rfl ?_
     first | refine .gd (t_lssT rfl rfl (by omega)) rfl ?_ | refine .gd (t_lssF rfl rfl (by omega)) rfl ?_ | refine .gd (t_lss rfl rfl) rfl ?_ | refine Rg.sk (.inl ⟨_,_,rfl,rfl,rfl⟩) rfl ?_ | refine Rg.sk (.inr ⟨_,rfl,rfl⟩) rfl ?_
     first | refine .tq (t_pickT rfl rfl) rfl ?_ | refine .tq (t_pickF rfl rfl) rfl ?_
     refine .mv rfl rfl ?_
     first | refine .gd (t_fieldAddr fa41_1 rfl) rfl ?_ | refine Rg.sk (.inl ⟨_,_,rfl,rfl,rfl⟩) rfl ?_ | refine Rg.sk (.inr ⟨_,rfl,rfl⟩) rfl ?_
     first | refine .gd (t_load ty3 rfl (by apply Cells.get (i := 1); (case h => assumption); rfl)) rfl ?_ | refine Rg.sk (.inl ⟨_,_,rfl,rfl,rfl⟩) rfl ?_ | refine Rg.sk (.inr ⟨_,rfl,rfl⟩) rfl ?_
     first | refine .gd (t_move rfl) rfl ?_ | refine Rg.sk (.inl ⟨_,_,rfl,rfl,rfl⟩) rfl ?_ | refine Rg.sk (.inr ⟨_,rfl,rfl⟩) rfl ?_
     first | refine .gd (t_len Tryz.underlying9 rfl) rfl ?_ | refine Rg.sk (.inl ⟨_,_,rfl,rfl,rfl⟩) rfl ?_ | refine Rg.sk (.inr ⟨_,rfl,rfl⟩) rfl ?_
     first | refine .gd (t_gtrT rfl rfl (by omega)) rfl ?_ | refine .gd (t_gtrF rfl rfl (by omega)) rfl ?_ | refine .gd (t_gtr rfl rfl) rfl ?_ | refine Rg.sk (.inl ⟨_,_,rfl,rfl,rfl⟩) rfl ?_ | refine Rg.sk (.inr ⟨_,rfl,rfl⟩) rfl ?_
     first | refine .tq (t_pickT rfl rfl) rfl ?_ | refine .tq (t_pickF rfl rfl) rfl ?_
     refine .done (.condT rfl (.sr (.as rfl rfl (.done (Wp.ret ?_)))))
     exact ⟨[_],⟨rfl,trivial⟩,rfl,hx⟩
    ·have hC : e.b > s.size := by omega
     refine .sr (.tq (t_fieldAddr fa41_0 rfl) rfl ?_)
     refine .tq (t_load ty3 rfl (by apply Cells.get (i := 0); (case h => assumption); rfl)) rfl ?_
     refine .mv rfl rfl ?_
     first | refine .tq (t_leqT rfl rfl (by omega)) rfl ?_ | refine .tq (t_leqF rfl rfl (by omega)) rfl ?_ | refine .tq (t_leq rfl rfl) rfl ?_
     refine .mv rfl rfl ?_
     first | refine .gd (t_fieldAddr fa41_1 rfl) rfl ?_ | refine Rg.sk (.inl ⟨_,_,rfl,rfl,rfl⟩) rfl ?_ | refine Rg.sk (.inr ⟨_,rfl,rfl⟩) rfl ?_
     first | refine .gd (t_load ty3 rfl (by apply Cells.get (i := 1); (case h => assumption); rfl)) rfl ?_ | refine Rg.sk (.inl ⟨_,_,rfl,rfl,rfl⟩) rfl ?_ | refine Rg.sk (.inr ⟨_,rfl,rfl⟩) rfl ?_
     first | refine .gd (t_fieldAddr fa41_0 rfl) rfl ?_ | refine Rg.sk (.inl ⟨_,_,rfl,rfl,rfl⟩) rfl ?_ | refine Rg.sk (.inr ⟨_,rfl,rfl⟩) rfl ?_
     first | refine .gd (t_load ty3 rfl (by apply Cells.get (i := 0); (case h => assumption); rfl)) rfl ?_ | refine Rg.sk (.inl ⟨_,_,rfl,rfl,rfl⟩) rfl ?_ | refine Rg.sk (.inr ⟨_,rfl,rfl⟩) rfl ?_
     first | refine .gd (t_lssT rfl rfl (by omega)) rfl ?_ | refine .gd (t_lssF rfl rfl (by omega)) rfl ?_ | refine .gd (t_lss rfl rfl) rfl ?_ | refine Rg.sk (.inl ⟨_,_,rfl,rfl,rfl⟩) rfl ?_ | refine Rg.sk (.inr ⟨_,rfl,rfl⟩) rfl ?_
     first | refine .tq (t_pickT rfl rfl) rfl ?_ | refine .tq (t_pickF rfl rfl) rfl ?_
     refine .mv rfl rfl ?_
     first | refine .gd (t_fieldAddr fa41_1 rfl) rfl ?_ | refine Rg.sk (.inl ⟨_,_,rfl,rfl,rfl⟩) rfl ?_ | refine Rg.sk (.inr ⟨_,rfl,rfl⟩) rfl ?_
     first | refine .gd (t_load ty3 rfl (by apply Cells.get (i := 1); (case h => assumption); rfl)) rfl ?_ | refine Rg.sk (.inl ⟨_,_,rfl,rfl,rfl⟩) rfl ?_ | refine Rg.sk (.inr ⟨_,rfl,rfl⟩) rfl ?_
     first | refine .gd (t_move rfl) rfl ?_ | refine Rg.sk (.inl ⟨_,_,rfl,rfl,rfl⟩) rfl ?_ | refine Rg.sk (.inr ⟨_,rfl,rfl⟩) rfl ?_
     first | refine .gd (t_len Tryz.underlying9 rfl) rfl ?_ | refine Rg.sk (.inl ⟨_,_,rfl,rfl,rfl⟩) rfl ?_ | refine Rg.sk (.inr ⟨_,rfl,rfl⟩) rfl ?_
     first | refine .gd (t_gtrT rfl rfl (by omega)) rfl ?_ | refine .gd (t_gtrF rfl rfl (by omega)) rfl ?_ | refine .gd (t_gtr rfl rfl) rfl ?_ | refine Rg.sk (.inl ⟨_,_,rfl,rfl,rfl⟩) rfl ?_ | refine Rg.sk (.inr ⟨_,rfl,rfl⟩) rfl ?_
     first | refine .tq (t_pickT rfl rfl) rfl ?_ | refine .tq (t_pickF rfl rfl) rfl ?_
     refine .done (.condT rfl (.sr (.as rfl rfl (.done (Wp.ret ?_)))))
     exact ⟨[_],⟨rfl,trivial⟩,rfl,hx⟩
 ·have e0 : k = es.length := by omega
  subst e0
  simp only [List.take_length] at *
  by_cases hover : (s.size : Int) + growE es > 2000
  ·have e1 : codeE s.size es = 2 := by
    unfold codeE
    rw [if_neg (by omega),if_neg (fun h => h hok),if_pos hover]
   rw [e1]
   refine .sr ?_
   first | refine .tq (t_lssT rfl rfl (by omega)) rfl ?_ | refine .tq (t_lssF rfl rfl (by omega)) rfl ?_ | refine .tq (t_lss rfl rfl) rfl ?_
   refine .done (.seq (.condF rfl (Wp.exit (.seq (.sr (.mv rfl rfl ?_))))))
   first | refine .tq (t_gtrT rfl rfl (by omega)) rfl ?_ | refine .tq (t_gtrF rfl rfl (by omega)) rfl ?_ | refine .tq (t_gtr rfl rfl) rfl ?_
   refine .done (.condT rfl (.sr (.as rfl rfl (.done (Wp.ret ?_)))))
   exact ⟨[_],⟨rfl,trivial⟩,rfl,hx⟩
  ·have e1 : codeE s.size es = 0 := by
    unfold codeE
    rw [if_neg (by omega),if_neg (fun h => h hok),if_neg hover]
   rw [e1]
   refine .sr ?_
   first | refine .tq (t_lssT rfl rfl (by omega)) rfl ?_ | refine .tq (t_lssF rfl rfl (by omega)) rfl ?_ | refine .tq (t_lss rfl rfl) rfl ?_
   refine .done (.seq (.condF rfl (Wp.exit (.seq (.sr (.mv rfl rfl ?_))))))
   first | refine .tq (t_gtrT rfl rfl (by omega)) rfl ?_ | refine .tq (t_gtrF rfl rfl (by omega)) rfl ?_ | refine .tq (t_gtr rfl rfl) rfl ?_
   refine .done (.condF rfl (Wp.skip (.sr (.as rfl rfl (.done (Wp.ret ?_))))))
   exact ⟨[_],⟨rfl,trivial⟩,rfl,hx⟩
theorem textApply_ok {s : ByteArray} {es : List TE} {w : World} {v : Value} (hs0 : SlC w v 3 es.length (tes es)) (hlen : es.length < 4611686018427387904) (hb : ∀ e ∈ es,(e.s.size : Int) ≤ 140737488355328) (h0 : codeE s.size es = 0) :
  Cl Tryz.prog 70 #[.string s,v] w (fun u w' => u = .tuple #[.string (outE s es),.int .i64 0] ∧ Ext w w') := by
 have hx := Ext.refl w
 obtain ⟨z1,z2,z3,z4⟩ := codeE_zero h0
 refine Cl.enter Tryz.func70 rfl Tryz.ntmps70 rfl rfl (.sr (.as rfl rfl (.as rfl rfl (.done (.seq (.sr (.mv rfl rfl (.mv rfl rfl ?_))))))))
 refine Rg.wd trivial (w_call Tryz.call34 rfl (validate_ok hs0 (by omega) hlen hb)) rfl ?_
 rintro _ w1 ⟨rfl,hx1⟩
 replace hx := hx.ext hx1
 rw [h0]
 refine .as rfl rfl (.done (.sr (.mv rfl rfl ?_)))
 first | refine .tq (t_neqT rfl rfl (by omega)) rfl ?_ | refine .tq (t_neqF rfl rfl (by omega)) rfl ?_ | refine .tq (t_neq rfl rfl) rfl ?_
 refine .done (.condF rfl (Wp.skip (.sr (Rg.wd trivial (w_new Tryz.zeroValue86 rfl) rfl ?_))))
 rintro _ w2 ⟨b7,rfl,qb7,hx2,hv7⟩
 replace hx := hx.ext hx2
 have hB : IsBuilder 86 5 w.heap.size b7 [] w2 := .inl ⟨by have := hx1.le; omega,_,hv7,⟨rfl,.inl ⟨rfl,rfl⟩⟩,by simp [Value.ownBlock]⟩
 have lt7 := hv7.lt
 refine .done (.sr (.as rfl rfl (.done (.seq (.sr (.mv rfl rfl (.tq (t_lenC hs0 Tryz.underlying45 rfl) rfl (.mv rfl rfl (.done (Wp.block ?_))))))))))
 refine Wp.loop (ι := Nat) (fun k => [(0,.string s),(1,v),(7,.pointer (some ⟨b7,0,none⟩)),(8,.int .i64 (lastE 0 (es.take k))),(17,v),(18,.int .i64 es.length),(19,.int .i64 k)])
  (fun k w' => k ≤ es.length ∧ IsBuilder 86 5 w.heap.size b7 (strCells (appE s 0 (es.take k))) w' ∧ b7 < w'.heap.size ∧ Ext w w')
  (fun k => es.length - k) 0 (by repeat (first | exact .nil | refine .cons rfl ?_)) ⟨Nat.zero_le _,hB,lt7,hx⟩ ?_
 clear hx hB lt7 hv7 hx1 hx2
 rintro k w3 ⟨hk,hB,lt7,hx⟩
 by_cases hlt : k < es.length
 ·skip
  refine .sr ?_
  first | refine .tq (t_lssT rfl rfl (by omega)) rfl ?_ | refine .tq (t_lssF rfl rfl (by omega)) rfl ?_ | refine .tq (t_lss rfl rfl) rfl ?_
  refine .done (.seq (.condT rfl (Wp.skip (.seq (Wp.block (.sr ?_))))))
  refine Rg.ix hs0 trivial rfl rfl Tryz.underlying45 ty41 (by omega) rfl ?_
  intro bt21 ot21 ht21
  replace ht21 := ht21.ext hx
  rw [Int.toNat_natCast,tes_at es k hlt] at ht21
  obtain ⟨p1,p2,p3,p4⟩ := at0 hlt h0
  have p5 := appE_le h0 (k + 1)
  have p6 := List.take_succ_eq_append_getElem hlt
  rw [p6,appE_snoc,ByteArray.size_append,ByteArray.size_append] at p5
  obtain ⟨e,he⟩ : ∃ e,es[k] = e := ⟨_,rfl⟩
  rw [he] at ht21 p2 p3 p4 p5 p6
  unfold TE.cells at ht21
  refine .tq (t_loadA rfl ht21 ty41) rfl (Rg.wd trivial (w_new Tryz.zeroValue41 rfl) rfl ?_)
  rintro _ wa ⟨b10,rfl,qb10,hxa,hva⟩
  refine Rg.wn trivial (w_put hva rfl rfl rfl ty41 rfl rfl) ?_
  rintro _ w3 ⟨hu,hvb10⟩
  have hx3 := hxa.upd hu (Nat.le_of_eq qb10.symm)
  replace hx := hx.ext hx3
  replace hB := isB_ext hB hx3
  have hcb10 := hvb10.cells
  clear hva hu
  refine .done ?_
  refine Wp.seq (Wp.draw [0,1,2,3,4,5,6,7,8] [0] mixed (by kernel_rfl) (by kernel_rfl) ?_)
  intro w4 hx4 _
  replace hx := hx.ext hx4
  replace hcb10 := hcb10.ext hx4
  replace hB := isB_ext hB hx4
  replace hvb10 := hvb10.ext hx4
  refine .mv rfl rfl (.mv rfl rfl (.tq (t_fieldAddr fa41_0 rfl) rfl ?_))
  refine .tq (t_load ty3 rfl (by apply Cells.get (i := 0); (case h => assumption); rfl)) rfl ?_
  refine .tq (t_sliceS Tryz.underlying9 rfl rfl rfl (by omega)) rfl ?_
  refine .tq (t_fieldAddr fa41_2 rfl) rfl ?_
  refine .tq (t_load ty9 rfl (by apply Cells.get (i := 2); (case h => assumption); rfl)) rfl ?_
  refine .tq (t_sadd rfl rfl (by omega)) rfl ?_
  have lb := hvb10.lt
  refine rg_wdC trivial rfl (w_call Tryz.call44 rfl (writeString_k hB (by rw [strCells_length,ByteArray.size_append]; omega) hx.le)) rfl (by rfl) ?_
  rintro _ w80 ⟨rfl,hB2,hb1,hkv⟩
  have hv := hkv _ _ _ (by omega) (by decide) hvb10
  replace hx : Ext w w80 := Below.trans hx hb1
  replace hB : IsBuilder 86 5 w.heap.size b7 _ w80 := .inr hB2
  replace lt7 := hB2.lt
  clear hcb10 hvb10 hkv hB2 hb1
  have hcb10 := hv.cells
  refine .done (Wp.region (.tq (t_fieldAddr fa41_1 rfl) rfl ?_))
  refine .tq (t_load ty3 rfl (by apply Cells.get (i := 1); (case h => assumption); rfl)) rfl ?_
  refine .as rfl rfl (.done (Wp.region ?_))
  first | refine .tq (t_addI rfl rfl (by omega)) rfl ?_ | refine .tq (t_add rfl rfl) rfl ?_
  refine .mv rfl rfl (.done ?_)
  rw [← strCells_add] at hB
  refine ⟨k + 1,?_,⟨hlt,?_,lt7,hx⟩,by omega⟩
  ·rw [p6,lastE_snoc]
   repeat (first | exact .nil | refine .cons rfl ?_)
  ·rw [p6,appE_snoc]
   exact hB
 ·have e0 : k = es.length := by omega
  subst e0
  simp only [List.take_length] at *
  have p1 := last0 (by omega) z3 es.length
  rw [List.take_length] at p1
  have p2 := (appE_le h0 es.length).2
  have p3 : (outE s es).size = (appE s 0 es).size + (s.extract (lastE 0 es).toNat s.size).size := by simp only [outE,ByteArray.size_append]
  refine .sr ?_
  first | refine .tq (t_lssT rfl rfl (by omega)) rfl ?_ | refine .tq (t_lssF rfl rfl (by omega)) rfl ?_ | refine .tq (t_lss rfl rfl) rfl ?_
  refine .done (.seq (.condF rfl (Wp.exit (.sr (.mv rfl rfl (.mv rfl rfl ?_))))))
  refine .tq (t_sliceS Tryz.underlying9 rfl rfl rfl (by omega)) rfl ?_
  refine Rg.wd trivial (w_call Tryz.call44 rfl (writeString_k hB (by rw [strCells_length]; simp only [Int.toNat_natCast]; omega) hx.le)) rfl ?_
  rintro _ w80 ⟨rfl,hB2,hb1,hkv⟩
  replace hx : Ext w w80 := Below.trans hx hb1
  replace hB : IsBuilder 86 5 w.heap.size b7 _ w80 := .inr hB2
  rw [← strCells_add,strCells_eq] at hB
  change IsBuilder 86 5 w.heap.size b7 (Lib.byteCells (outE s es).data.toList) w80 at hB
  refine .done (.sr (Rg.wd trivial (w_call Tryz.call45 rfl (Cl.of (Tryz.Builder_String_any w.heap.size b7 _ w80 hB hx.le))) rfl ?_))
  rintro _ w81 ⟨rfl,hb4⟩
  refine .as rfl rfl (.as rfl rfl (.done (Wp.ret ?_)))
  exact ⟨[_,_],⟨rfl,rfl,trivial⟩,by simp [tup],Below.trans hx hb4⟩
end Go.Proofs.YtcelfjbajdffkaaGreatDoor.Lexi
